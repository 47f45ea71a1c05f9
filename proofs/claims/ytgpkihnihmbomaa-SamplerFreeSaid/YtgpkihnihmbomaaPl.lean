/- A policy that keeps all, and one that may not be: in plain words. No conditions. -/
import Derived.Test.YtgpkihnihmbomaaBx
import Derived.Test.YtgpkihnihmbomaaXSsx0
namespace Go.Proofs.Ytgpkihnihmbomaa.Pl
open Go.RowKit Go.Proofs.YtgpkihnihmbomaaW.PrintWords Go.Proofs.YtgpkihnihmbomaaW.PrintLast
open Go.Proofs.Ytgpkihnihmbomaa.Ob Go.Proofs.Ytgpkihnihmbomaa.Two Go.Proofs.Ytgpkihnihmbomaa.Bx
set_option linter.unusedSimpArgs false
set_option linter.unusedVariables false
theorem eqA50 (d : Nat) (w : World) (x0 y0 : Int) (x1 y1 : Int) (x2 y2 : ByteArray) :
    (Op.equalIn (d + 2) 50 (.agg #[.int .i64 x0, .int .i64 x1, .string x2]) (.agg #[.int .i64 y0, .int .i64 y1, .string y2])).run Try.prog w = .ok (x0 == y0 && (x1 == y1 && (x2.toList == y2.toList))) w := by
  refine eqA_of Try.underlying50 (by kernel_rfl) ?_
  refine eqf_cons (by rfl) (by go_simp; rfl) (by go_simp; rfl) (by go_simp) ?_
  refine eqf_cons (by rfl) (by go_simp; rfl) (by go_simp; rfl) (by go_simp) ?_
  exact eqf_last (by rfl) (by go_simp; rfl) (by go_simp; rfl) (by go_simp)
set_option maxHeartbeats 4000000 in
set_option maxRecDepth 1000000 in
theorem index_nil (c : Nat) (f : Value) (w : World) : Calls Try.prog 81 #[.slice none 0 c, f] w fun e w' => e = .returned (.int .i64 (-1)) ∧ w' = w := by
  go_enter Try.func81, Try.ntmps81
  go_wp2
  go_loopg [8] 2 (fun kq v8 wr => v8 = .int .i64 0 ∧ wr = w ∧ 0 < kq)
  case atStart => exact ⟨rfl, rfl, by omega⟩
  case round =>
    obtain ⟨rfl, rfl, _⟩ := hrel
    go_wp2
    go_ret
    exact ⟨rfl, rfl⟩
set_option maxHeartbeats 4000000 in
set_option maxRecDepth 1000000 in
theorem contains_nil (c : Nat) (f : Value) (w : World) : Calls Try.prog 71 #[.slice none 0 c, f] w fun e w' => e = .returned (.bool false) ∧ w' = w := by
  go_enter Try.func71, Try.ntmps71
  go_wp2_with (go_at_call 81; refine (index_nil c f _).mono ?_; rintro e w1 ⟨rfl, rfl⟩)
  go_ret
  exact ⟨rfl, rfl⟩
/-- A policy of this Op that has nothing else. -/
abbrev bare (op : ByteArray) : List Value := [.string op, .string ⟨#[]⟩, .int .i64 0, .int .i64 0, .string ⟨#[]⟩, .int .u64 0, .slice none 0 0]
set_option maxHeartbeats 4000000 in
set_option maxRecDepth 1000000 in
theorem size_bare (op : ByteArray) (w : World) : Calls Try.prog 57 #[.agg #[.string op, .string ⟨#[]⟩, .int .i64 0, .int .i64 0, .string ⟨#[]⟩, .int .u64 0, .slice none 0 0], .int .i64 1] w fun e w' => e = .returned (.tuple #[.int .i64 1, .bool true]) ∧ Below w.heap.size w w' := by
  have hT := Aside0.mk ((Bx.start w).new (bare op) 53)
  obtain ⟨y6, z6⟩ := hT.out.row (List.mem_cons_self ..) 6 _ rfl
  go_enter Try.func57, Try.ntmps57
  go_wp2
  go_loopg [6, 16] 2 (fun kq v6 v16 wr => v6 = .int .i64 1 ∧ v16 = .int .i64 0 ∧ 0 < kq ∧ Aside0 (Below w.heap.size w wr))
  case atStart => exact ⟨rfl, rfl, by omega, ⟨hT.out.b⟩⟩
  case round =>
    obtain ⟨rfl, rfl, _, hb⟩ := hrel
    clear y6 z6 hT
    go_wp2
    go_ret2
    exact ⟨rfl, hb.out⟩
set_option maxHeartbeats 4000000 in
set_option maxRecDepth 1000000 in
theorem form_all (w : World) : Calls Try.prog 58 #[.agg #[.string ⟨#[97, 108, 108]⟩, .string ⟨#[]⟩, .int .i64 0, .int .i64 0, .string ⟨#[]⟩, .int .u64 0, .slice none 0 0]] w fun e w' => e = .returned (.bool true) ∧ Below w.heap.size w w' := by
  have hT := Aside0.mk ((Bx.start w).new (bare ⟨#[97, 108, 108]⟩) 53)
  have heq := eqA50 14 w
  go_enter Try.func58, Try.ntmps58
  go_wp2_with (go_at_call 71; refine (contains_nil 0 _ _).mono ?_; rintro e w1 ⟨rfl, rfl⟩)
  go_ret
  exact ⟨rfl, hT.out.b.alloc hT.out.b.size _⟩
set_option maxHeartbeats 4000000 in
set_option maxRecDepth 1000000 in
theorem form_none (w : World) : Calls Try.prog 58 #[.agg #[.string ⟨#[]⟩, .string ⟨#[]⟩, .int .i64 0, .int .i64 0, .string ⟨#[]⟩, .int .u64 0, .slice none 0 0]] w fun e w' => e = .returned (.bool false) ∧ Below w.heap.size w w' := by
  have hT := Aside0.mk ((Bx.start w).new (bare ⟨#[]⟩) 53)
  go_enter Try.func58, Try.ntmps58
  go_wp2
  go_ret
  exact ⟨rfl, hT.out.b.alloc hT.out.b.size _⟩
set_option maxHeartbeats 4000000 in
set_option maxRecDepth 1000000 in
theorem check_all (w : World) : Calls Try.prog 46 #[.agg #[.string ⟨#[97, 108, 108]⟩, .string ⟨#[]⟩, .int .i64 0, .int .i64 0, .string ⟨#[]⟩, .int .u64 0, .slice none 0 0]] w fun e w' => e = .returned (.int .i64 0) ∧ Below w.heap.size w w' := by
  have hT := Aside0.mk ((Bx.start w).new (bare ⟨#[97, 108, 108]⟩) 53)
  go_enter Try.func46, Try.ntmps46
  go_wp2_with (first
    | (go_at_call 57; refine (size_bare _ _).mono ?_; rintro e w1 ⟨rfl, hb1⟩; replace hT := Aside0.mk (hT.out.keep hb1); clear hb1)
    | (go_at_call 58; refine (form_all _).mono ?_; rintro e w2 ⟨rfl, hb2⟩; replace hT := Aside0.mk (hT.out.keep hb2); clear hb2)
    | (refine wpList_load_at (by rfl) 53 _ rfl w.heap.size 0 rfl (bare ⟨#[97, 108, 108]⟩) _ (row_at0 (hT.out.row (by simp))) Try.underlying53 rfl (by kernel_rfl) ?_))
  go_ret
  exact ⟨rfl, hT.out.b⟩
set_option maxHeartbeats 4000000 in
set_option maxRecDepth 1000000 in
theorem check_none (w : World) : Calls Try.prog 46 #[.agg #[.string ⟨#[]⟩, .string ⟨#[]⟩, .int .i64 0, .int .i64 0, .string ⟨#[]⟩, .int .u64 0, .slice none 0 0]] w fun e w' => e = .returned (.int .i64 1) ∧ Below w.heap.size w w' := by
  have hT := Aside0.mk ((Bx.start w).new (bare ⟨#[]⟩) 53)
  go_enter Try.func46, Try.ntmps46
  go_wp2_with (first
    | (go_at_call 57; refine (size_bare _ _).mono ?_; rintro e w1 ⟨rfl, hb1⟩; replace hT := Aside0.mk (hT.out.keep hb1); clear hb1)
    | (go_at_call 58; refine (form_none _).mono ?_; rintro e w2 ⟨rfl, hb2⟩; replace hT := Aside0.mk (hT.out.keep hb2); clear hb2)
    | (refine wpList_load_at (by rfl) 53 _ rfl w.heap.size 0 rfl (bare ⟨#[]⟩) _ (row_at0 (hT.out.row (by simp))) Try.underlying53 rfl (by kernel_rfl) ?_))
  go_ret
  exact ⟨rfl, hT.out.b⟩
set_option maxHeartbeats 4000000 in
set_option maxRecDepth 1000000 in
theorem holds_all (A : Option Addr) (n c : Nat) (w : World) : Calls Try.prog 53 #[.agg #[.string ⟨#[97, 108, 108]⟩, .string ⟨#[]⟩, .int .i64 0, .int .i64 0, .string ⟨#[]⟩, .int .u64 0, .slice none 0 0], .slice A n c] w fun e w' => e = .returned (.bool true) ∧ Below w.heap.size w w' := by
  have hT := Aside0.mk (((Bx.start w).new (bare ⟨#[97, 108, 108]⟩) 53).new [.slice A n c] 59)
  go_enter Try.func53, Try.ntmps53
  go_wp2
  go_ret
  exact ⟨rfl, hT.out.b⟩
set_option maxHeartbeats 4000000 in
set_option maxRecDepth 1000000 in
theorem Holds_all (A : Option Addr) (n c : Nat) (w : World) : Calls Try.prog 32 #[.agg #[.string ⟨#[97, 108, 108]⟩, .string ⟨#[]⟩, .int .i64 0, .int .i64 0, .string ⟨#[]⟩, .int .u64 0, .slice none 0 0], .slice A n c] w fun e w' => e = .returned (.bool true) ∧ Below w.heap.size w w' := by
  have hT := Aside0.mk ((Bx.start w).new (bare ⟨#[97, 108, 108]⟩) 53)
  go_enter Try.func32, Try.ntmps32
  go_wp2_with (first
    | (go_at_call 46; refine (check_all _).mono ?_; rintro e w1 ⟨rfl, hb1⟩; replace hT := Aside0.mk (hT.out.keep hb1); clear hb1)
    | (go_at_call 53; refine (holds_all A n c _).mono ?_; rintro e w2 ⟨rfl, hb2⟩; replace hT := Aside0.mk (hT.out.keep hb2); clear hb2)
    | (refine wpList_load_at (by rfl) 53 _ rfl w.heap.size 0 rfl (bare ⟨#[97, 108, 108]⟩) _ (row_at0 (hT.out.row (by simp))) Try.underlying53 rfl (by kernel_rfl) ?_))
  go_ret
  exact ⟨rfl, hT.out.b⟩
end Go.Proofs.Ytgpkihnihmbomaa.Pl
