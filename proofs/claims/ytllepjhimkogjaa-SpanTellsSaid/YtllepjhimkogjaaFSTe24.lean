/- The law's proof, part 24: the text Oa of this session, or words printed for this seat; what the theorem doesn't use is left out. No conditions. -/
import Derived.Test.YtllepjhimkogjaaFSTe30
import Derived.Test.YtllepjhimkogjaaFSTe22
import Derived.Test.YtllepjhimkogjaaFSTe23
namespace Go.Proofs.Ytllepjhimkogjaa.Ob
end Go.Proofs.Ytllepjhimkogjaa.Ob
namespace Go.Proofs.Ytllepjhimkogjaa.Two
end Go.Proofs.Ytllepjhimkogjaa.Two
namespace Go.Proofs.YtllepjhimkogjaaW.PrintLast
end Go.Proofs.YtllepjhimkogjaaW.PrintLast
namespace Go.Proofs.YtllepjhimkogjaaW.PrintMore
end Go.Proofs.YtllepjhimkogjaaW.PrintMore
namespace Go.Proofs.YtllepjhimkogjaaW.PrintWords
end Go.Proofs.YtllepjhimkogjaaW.PrintWords
namespace Go.Proofs.Ytllepjhimkogjaa.Oa
open Go.RowKit Go.Proofs.YtllepjhimkogjaaW.PrintWords Go.Proofs.YtllepjhimkogjaaW.PrintLast Go.Proofs.YtllepjhimkogjaaW.PrintMore
open Go.Proofs.Ytllepjhimkogjaa.Ob Go.Proofs.Ytllepjhimkogjaa.Two
set_option linter.unusedSimpArgs false
set_option linter.unusedVariables false
theorem one_w (w : World) : Calls Try.prog 57 #[] w fun e w' => ∃ A c, e = .returned (.agg #[.int .u64 7, .int .u64 1, .int .u64 0, .string ⟨#[119, 101, 98]⟩, .string ⟨#[103, 101, 116]⟩, .int .i64 1, .int .i64 0, .int .u64 5, .int .u64 9, .slice A 0 c]) ∧ Below w.heap.size w w' := by
  refine (XSf.tallyroomlaw06_One.calls _ _ _ _ _ _ _ _ _ _ w rfl).mono ?_
  rintro e w' ⟨v, rfl, hR, hb⟩
  obtain ⟨A, c, rfl⟩ := Kd.R_slice hR
  exact ⟨A, c, rfl, hb⟩
theorem of_none (a0 a1 a2 : Int) (a3 a4 : ByteArray) (a5 a6 a7 a8 : Int) (A : Option Addr) (c : Nat) (w : World) : Calls Try.prog 21 #[.agg #[.int .u64 a0, .int .u64 a1, .int .u64 a2, .string a3, .string a4, .int .i64 a5, .int .i64 a6, .int .u64 a7, .int .u64 a8, .slice A 0 c]] w fun e w' => ∃ A c, e = .returned (.agg #[.int .u64 a0, .int .u64 a1, .int .u64 a2, .string a3, .string a4, .int .i64 a5, .int .i64 a6, .int .u64 a7, .int .u64 a8, .slice A 0 c]) ∧ Below w.heap.size w w' := by
  refine (XSf.tallyroomlaw06_Of.calls 20 a0 a1 a2 a3 a4 a5 a6 a7 a8 A c [] a0 a1 a2 a3 a4 a5 a6 a7 a8 [] w ⟨rfl, by simp, fun h => absurd h (by simp)⟩ (by simp) (by unfold XSf.tallyroomlaw06_Of.f; rw [show (20 : Nat) = 19 + 1 from rfl, XSf.tallyroomlaw06_Of.l0, if_neg (by simp)])).mono ?_
  rintro e w' ⟨v, rfl, hR, hb⟩
  obtain ⟨A, c, rfl⟩ := Kd.R_slice hR
  exact ⟨A, c, rfl, hb⟩
set_option maxHeartbeats 4000000 in
set_option maxRecDepth 1000000 in
theorem named_web (w : World) : Calls Try.prog 63 #[.string ⟨#[119, 101, 98]⟩] w fun e w' => e = .returned (.bool true) ∧ w = w' := by
  go_enter Try.func63, Try.ntmps63
  go_wp2
  go_ret
  exact ⟨rfl, rfl⟩
set_option maxHeartbeats 4000000 in
set_option maxRecDepth 1000000 in
theorem named_get (w : World) : Calls Try.prog 63 #[.string ⟨#[103, 101, 116]⟩] w fun e w' => e = .returned (.bool true) ∧ w = w' := by
  go_enter Try.func63, Try.ntmps63
  go_wp2
  go_ret
  exact ⟨rfl, rfl⟩
set_option maxHeartbeats 4000000 in
set_option maxRecDepth 1000000 in
theorem check_good (w : World) (A : Option Addr) (c : Nat) : Calls Try.prog 30 #[.agg #[.int .u64 7, .int .u64 1, .int .u64 0, .string ⟨#[119, 101, 98]⟩, .string ⟨#[103, 101, 116]⟩, .int .i64 1, .int .i64 0, .int .u64 5, .int .u64 9, .slice A 0 c]] w fun e w' => e = .returned (.int .i64 0) ∧ Below w.heap.size w w' := by
  have hB := Aside0.mk ((Below.refl w.heap.size w).alloc (Nat.le_refl _) (.cells #[.int .u64 7, .int .u64 1, .int .u64 0, .string ⟨#[119, 101, 98]⟩, .string ⟨#[103, 101, 116]⟩, .int .i64 1, .int .i64 0, .int .u64 5, .int .u64 9, .slice A 0 c] 40))
  go_enter Try.func30, Try.ntmps30
  go_wp2_with (first
    | (go_at_call 63; refine (named_web _).mono ?_; rintro e w1 ⟨rfl, rfl⟩)
    | (go_at_call 63; refine (named_get _).mono ?_; rintro e w1 ⟨rfl, rfl⟩)
    | (go_at_call 64; refine (An.attrs_none _ A c).mono ?_; rintro e w1 ⟨rfl, rfl⟩))
  go_ret
  exact ⟨rfl, hB.out⟩
set_option maxHeartbeats 4000000 in
set_option maxRecDepth 1000000 in
theorem check_bad (w : World) (A : Option Addr) (c : Nat) : Calls Try.prog 30 #[.agg #[.int .u64 7, .int .u64 1, .int .u64 0, .string ⟨#[119, 101, 98]⟩, .string ⟨#[103, 101, 116]⟩, .int .i64 1, .int .i64 0, .int .u64 5, .int .u64 4, .slice A 0 c]] w fun e w' => e = .returned (.int .i64 51) ∧ Below w.heap.size w w' := by
  have hB := Aside0.mk ((Below.refl w.heap.size w).alloc (Nat.le_refl _) (.cells #[.int .u64 7, .int .u64 1, .int .u64 0, .string ⟨#[119, 101, 98]⟩, .string ⟨#[103, 101, 116]⟩, .int .i64 1, .int .i64 0, .int .u64 5, .int .u64 4, .slice A 0 c] 40))
  go_enter Try.func30, Try.ntmps30
  go_wp2
  go_ret
  exact ⟨rfl, hB.out⟩
set_option maxHeartbeats 4000000 in
set_option maxRecDepth 1000000 in
theorem took_one (w : World) (A : Option Addr) (c : Nat) : Calls Try.prog 28 #[.agg #[.int .u64 7, .int .u64 1, .int .u64 0, .string ⟨#[119, 101, 98]⟩, .string ⟨#[103, 101, 116]⟩, .int .i64 1, .int .i64 0, .int .u64 5, .int .u64 9, .slice A 0 c]] w fun e w' => e = .returned (.int .u64 4) ∧ Below w.heap.size w w' := by
  have hB := Aside0.mk ((Below.refl w.heap.size w).alloc (Nat.le_refl _) (.cells #[.int .u64 7, .int .u64 1, .int .u64 0, .string ⟨#[119, 101, 98]⟩, .string ⟨#[103, 101, 116]⟩, .int .i64 1, .int .i64 0, .int .u64 5, .int .u64 9, .slice A 0 c] 40))
  go_enter Try.func28, Try.ntmps28
  go_wp2
  go_ret
  exact ⟨rfl, hB.out⟩
theorem lab_web : XSl.span_label.f 20 ⟨#[119, 101, 98]⟩ 2 = some ⟨#[119, 101]⟩ := by decide +kernel
theorem lab_get : XSl.span_label.f 20 ⟨#[103, 101, 116]⟩ 2 = some ⟨#[103, 101]⟩ := by decide +kernel
end Go.Proofs.Ytllepjhimkogjaa.Oa
