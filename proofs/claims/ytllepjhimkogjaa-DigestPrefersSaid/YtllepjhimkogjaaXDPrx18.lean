-- Made by a program of this session (xprint.py), over the translation; Lean checks it.
import Derived.Test.YtllepjhimkogjaaXDPrx0
namespace Go.Proofs.Ytllepjhimkogjaa.XDPr
open Go.RowKit Go.Proofs.YtllepjhimkogjaaW.PrintWords Go.Proofs.YtllepjhimkogjaaW.PrintLast Go.Proofs.YtllepjhimkogjaaW.PrintMore
attribute [local go_sem] max2_int min2_int max_two min_two max_three min_three max_four min_four   -- for this text's walks alone
set_option linter.unusedVariables false
set_option linter.unusedSimpArgs false

/-! ### span_Compare: function 34 -/
def span_Compare.v (x : S51) : Go.Proofs.Ytllepjhimkogjaa.Ty.S51 := ⟨x.f0, ⟨x.f1.f0, x.f1.f1, x.f1.f2⟩⟩
theorem span_Compare.vk (w : World) (x : S51) (cs : List Value) (h : k51.K w x cs) : Go.Proofs.Ytllepjhimkogjaa.Ty.k51.K w (span_Compare.v x) cs := by
  obtain rfl := k51_open h
  exact Go.Proofs.Ytllepjhimkogjaa.Ty.k51_mk w (span_Compare.v x)
open Go.Proofs.Ytllepjhimkogjaa.Sk in
def span_Compare.f (a0 a1 a2 : Int) (a3 a4 : ByteArray) (a5 a6 a7 a8 : Int) (l : List S51) (b0 b1 b2 : Int) (b3 b4 : ByteArray) (b5 b6 b7 b8 : Int) (m : List S51) : Option Int :=
  if l.length ≤ 1000 ∧ m.length ≤ 1000 then some (fnz [ord a0 b0, ord a1 b1, ord a2 b2, cb a3 b3, cb a4 b4, ord a5 b5, ord a6 b6, ord a7 b7, ord a8 b8, cmpL (l.map span_Compare.v) (m.map span_Compare.v)]) else none
theorem span_Compare.calls (a0_0 : Int) (a0_1 : Int) (a0_2 : Int) (a0_3 : ByteArray) (a0_4 : ByteArray) (a0_5 : Int) (a0_6 : Int) (a0_7 : Int) (a0_8 : Int) (A0_9 : Option Addr) (c0_9 : Nat) (l0_9 : List (S51)) (a1_0 : Int) (a1_1 : Int) (a1_2 : Int) (a1_3 : ByteArray) (a1_4 : ByteArray) (a1_5 : Int) (a1_6 : Int) (a1_7 : Int) (a1_8 : Int) (A1_9 : Option Addr) (c1_9 : Nat) (l1_9 : List (S51)) (r : Int) (w : World) (hr0_9 : Kd.C k51 w A0_9 l0_9.length l0_9) (_hc0_9 : l0_9.length ≤ c0_9) (hr1_9 : Kd.C k51 w A1_9 l1_9.length l1_9) (_hc1_9 : l1_9.length ≤ c1_9) (h : span_Compare.f a0_0 a0_1 a0_2 a0_3 a0_4 a0_5 a0_6 a0_7 a0_8 l0_9 a1_0 a1_1 a1_2 a1_3 a1_4 a1_5 a1_6 a1_7 a1_8 l1_9 = some r) :
    Calls Try.prog 34 #[.agg #[.int .u64 a0_0, .int .u64 a0_1, .int .u64 a0_2, .string a0_3, .string a0_4, .int .i64 a0_5, .int .i64 a0_6, .int .u64 a0_7, .int .u64 a0_8, .slice A0_9 l0_9.length c0_9], .agg #[.int .u64 a1_0, .int .u64 a1_1, .int .u64 a1_2, .string a1_3, .string a1_4, .int .i64 a1_5, .int .i64 a1_6, .int .u64 a1_7, .int .u64 a1_8, .slice A1_9 l1_9.length c1_9]] w fun e w' => e = .returned (.int .i64 r) ∧ Below w.heap.size w w' := by
  unfold span_Compare.f at h
  by_cases hb : l0_9.length ≤ 1000 ∧ l1_9.length ≤ 1000
  · rw [if_pos hb] at h
    obtain rfl := Option.some.inj h
    have e0 : (l0_9.map span_Compare.v).length = l0_9.length := List.length_map _
    have e1 : (l1_9.map span_Compare.v).length = l1_9.length := List.length_map _
    have h0 := Go.Proofs.Ytllepjhimkogjaa.Sm.C_map span_Compare.v rfl span_Compare.vk hr0_9
    have h1 := Go.Proofs.Ytllepjhimkogjaa.Sm.C_map span_Compare.v rfl span_Compare.vk hr1_9
    have := Go.Proofs.Ytllepjhimkogjaa.Sk.compare_calls w a0_0 a0_1 a0_2 a0_3 a0_4 a0_5 a0_6 a0_7 a0_8 a1_0 a1_1 a1_2 a1_3 a1_4 a1_5 a1_6 a1_7 a1_8 A0_9 A1_9 c0_9 c1_9 (l0_9.map span_Compare.v) (l1_9.map span_Compare.v) (by rw [e0]; exact h0) (by rw [e1]; exact h1) (by rw [e0]; exact hb.1) (by rw [e1]; exact hb.2) _ rfl
    rw [e0, e1] at this
    exact this
  · rw [if_neg hb] at h; cases h

end Go.Proofs.Ytllepjhimkogjaa.XDPr
