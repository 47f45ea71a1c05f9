-- Made by a program of this session (xprint.py), over the translation; Lean checks it.
import Derived.Test.YtllepjhimkogjaaXSOrx0
namespace Go.Proofs.Ytllepjhimkogjaa.XSOr
open Go.RowKit Go.Proofs.YtllepjhimkogjaaW.PrintWords Go.Proofs.YtllepjhimkogjaaW.PrintLast Go.Proofs.YtllepjhimkogjaaW.PrintMore
attribute [local go_sem] max2_int min2_int max_two min_two max_three min_three max_four min_four   -- for this text's walks alone
set_option linter.unusedVariables false
set_option linter.unusedSimpArgs false

/-! ### tallyroomlaw06_SpanOrder: function 8 -/
def tallyroomlaw06_SpanOrder.u (x : S63) : Go.Proofs.Ytllepjhimkogjaa.XSf.S63 := ⟨x.f0, ⟨x.f1.f0, x.f1.f1, x.f1.f2⟩⟩
theorem tallyroomlaw06_SpanOrder.uk (w : World) (x : S63) (cs : List Value) (h : k63.K w x cs) : Go.Proofs.Ytllepjhimkogjaa.XSf.k63.K w (tallyroomlaw06_SpanOrder.u x) cs := by
  obtain rfl := k63_open h
  exact Go.Proofs.Ytllepjhimkogjaa.XSf.k63_mk w (tallyroomlaw06_SpanOrder.u x)
def tallyroomlaw06_SpanOrder.f (_a0_0 : Int) (_a0_1 : Int) (_a0_2 : Int) (_a0_3 : ByteArray) (_a0_4 : ByteArray) (_a0_5 : Int) (_a0_6 : Int) (_a0_7 : Int) (_a0_8 : Int) (_l0_9 : List S63) (_a1_0 : Int) (_a1_1 : Int) (_a1_2 : Int) (_a1_3 : ByteArray) (_a1_4 : ByteArray) (_a1_5 : Int) (_a1_6 : Int) (_a1_7 : Int) (_a1_8 : Int) (_l1_9 : List S63) (_a2_0 : Int) (_a2_1 : Int) (_a2_2 : Int) (_a2_3 : ByteArray) (_a2_4 : ByteArray) (_a2_5 : Int) (_a2_6 : Int) (_a2_7 : Int) (_a2_8 : Int) (_l2_9 : List S63) : Option Bool := some true
theorem tallyroomlaw06_SpanOrder.calls (a0_0 : Int) (a0_1 : Int) (a0_2 : Int) (a0_3 : ByteArray) (a0_4 : ByteArray) (a0_5 : Int) (a0_6 : Int) (a0_7 : Int) (a0_8 : Int) (A0_9 : Option Addr) (c0_9 : Nat) (l0_9 : List (S63)) (a1_0 : Int) (a1_1 : Int) (a1_2 : Int) (a1_3 : ByteArray) (a1_4 : ByteArray) (a1_5 : Int) (a1_6 : Int) (a1_7 : Int) (a1_8 : Int) (A1_9 : Option Addr) (c1_9 : Nat) (l1_9 : List (S63)) (a2_0 : Int) (a2_1 : Int) (a2_2 : Int) (a2_3 : ByteArray) (a2_4 : ByteArray) (a2_5 : Int) (a2_6 : Int) (a2_7 : Int) (a2_8 : Int) (A2_9 : Option Addr) (c2_9 : Nat) (l2_9 : List (S63)) (r : Bool) (w : World) (hr0_9 : Kd.C k63 w A0_9 l0_9.length l0_9) (hc0_9 : l0_9.length ≤ c0_9) (hr1_9 : Kd.C k63 w A1_9 l1_9.length l1_9) (hc1_9 : l1_9.length ≤ c1_9) (hr2_9 : Kd.C k63 w A2_9 l2_9.length l2_9) (hc2_9 : l2_9.length ≤ c2_9) (h : tallyroomlaw06_SpanOrder.f a0_0 a0_1 a0_2 a0_3 a0_4 a0_5 a0_6 a0_7 a0_8 l0_9 a1_0 a1_1 a1_2 a1_3 a1_4 a1_5 a1_6 a1_7 a1_8 l1_9 a2_0 a2_1 a2_2 a2_3 a2_4 a2_5 a2_6 a2_7 a2_8 l2_9 = some r) :
    Calls Try.prog 8 #[.agg #[.int .u64 a0_0, .int .u64 a0_1, .int .u64 a0_2, .string a0_3, .string a0_4, .int .i64 a0_5, .int .i64 a0_6, .int .u64 a0_7, .int .u64 a0_8, .slice A0_9 l0_9.length c0_9], .agg #[.int .u64 a1_0, .int .u64 a1_1, .int .u64 a1_2, .string a1_3, .string a1_4, .int .i64 a1_5, .int .i64 a1_6, .int .u64 a1_7, .int .u64 a1_8, .slice A1_9 l1_9.length c1_9], .agg #[.int .u64 a2_0, .int .u64 a2_1, .int .u64 a2_2, .string a2_3, .string a2_4, .int .i64 a2_5, .int .i64 a2_6, .int .u64 a2_7, .int .u64 a2_8, .slice A2_9 l2_9.length c2_9]] w fun e w' => e = .returned (.bool r) ∧ Below w.heap.size w w' := by
  obtain rfl := Option.some.inj h
  have e0 : (l0_9.map tallyroomlaw06_SpanOrder.u).length = l0_9.length := List.length_map _
  have h0 := Go.Proofs.Ytllepjhimkogjaa.Sm.C_map (d' := Go.Proofs.Ytllepjhimkogjaa.XSf.k63) tallyroomlaw06_SpanOrder.u rfl tallyroomlaw06_SpanOrder.uk hr0_9
  have e1 : (l1_9.map tallyroomlaw06_SpanOrder.u).length = l1_9.length := List.length_map _
  have h1 := Go.Proofs.Ytllepjhimkogjaa.Sm.C_map (d' := Go.Proofs.Ytllepjhimkogjaa.XSf.k63) tallyroomlaw06_SpanOrder.u rfl tallyroomlaw06_SpanOrder.uk hr1_9
  have e2 : (l2_9.map tallyroomlaw06_SpanOrder.u).length = l2_9.length := List.length_map _
  have h2 := Go.Proofs.Ytllepjhimkogjaa.Sm.C_map (d' := Go.Proofs.Ytllepjhimkogjaa.XSf.k63) tallyroomlaw06_SpanOrder.u rfl tallyroomlaw06_SpanOrder.uk hr2_9
  have := Go.Proofs.Ytllepjhimkogjaa.Oz.order_law w a0_0 a0_1 a0_2 a0_3 a0_4 a0_5 a0_6 a0_7 a0_8 A0_9 c0_9 (l0_9.map tallyroomlaw06_SpanOrder.u) a1_0 a1_1 a1_2 a1_3 a1_4 a1_5 a1_6 a1_7 a1_8 A1_9 c1_9 (l1_9.map tallyroomlaw06_SpanOrder.u) a2_0 a2_1 a2_2 a2_3 a2_4 a2_5 a2_6 a2_7 a2_8 A2_9 c2_9 (l2_9.map tallyroomlaw06_SpanOrder.u) (by rw [e0]; exact h0) (by rw [e0]; exact hc0_9) (by rw [e1]; exact h1) (by rw [e1]; exact hc1_9) (by rw [e2]; exact h2) (by rw [e2]; exact hc2_9)
  rw [e0, e1, e2] at this
  exact this

end Go.Proofs.Ytllepjhimkogjaa.XSOr
