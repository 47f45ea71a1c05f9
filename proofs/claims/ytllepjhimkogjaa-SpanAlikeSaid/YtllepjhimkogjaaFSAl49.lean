/- The law's proof, part 49: the text XSAlx45 of this session, or words printed for this seat; what the theorem doesn't use is left out. No conditions. -/
import Derived.Test.YtllepjhimkogjaaFSAl7
import Derived.Test.YtllepjhimkogjaaFSAl48
namespace Go.Proofs.YtllepjhimkogjaaW.PrintLast
end Go.Proofs.YtllepjhimkogjaaW.PrintLast
namespace Go.Proofs.YtllepjhimkogjaaW.PrintMore
end Go.Proofs.YtllepjhimkogjaaW.PrintMore
namespace Go.Proofs.YtllepjhimkogjaaW.PrintWords
end Go.Proofs.YtllepjhimkogjaaW.PrintWords
namespace Go.Proofs.Ytllepjhimkogjaa.XSAl
open Go.RowKit Go.Proofs.YtllepjhimkogjaaW.PrintWords Go.Proofs.YtllepjhimkogjaaW.PrintLast Go.Proofs.YtllepjhimkogjaaW.PrintMore
set_option linter.unusedVariables false
set_option linter.unusedSimpArgs false
def tallyroomlaw06_SpanAlike.u (x : S63) : Go.Proofs.Ytllepjhimkogjaa.XSf.S63 := ⟨x.f0, ⟨x.f1.f0, x.f1.f1, x.f1.f2⟩⟩
theorem tallyroomlaw06_SpanAlike.uk (w : World) (x : S63) (cs : List Value) (h : k63.K w x cs) : Go.Proofs.Ytllepjhimkogjaa.XSf.k63.K w (tallyroomlaw06_SpanAlike.u x) cs := by
  obtain rfl := k63_open h
  exact Go.Proofs.Ytllepjhimkogjaa.XSf.k63_mk w (tallyroomlaw06_SpanAlike.u x)
def tallyroomlaw06_SpanAlike.f (_a0_0 : Int) (_a0_1 : Int) (_a0_2 : Int) (_a0_3 : ByteArray) (_a0_4 : ByteArray) (_a0_5 : Int) (_a0_6 : Int) (_a0_7 : Int) (_a0_8 : Int) (_l0_9 : List S63) (p : Int) : Option Bool := if 0 ≤ p ∧ p ≤ 255 then some true else none
theorem tallyroomlaw06_SpanAlike.calls (a0_0 : Int) (a0_1 : Int) (a0_2 : Int) (a0_3 : ByteArray) (a0_4 : ByteArray) (a0_5 : Int) (a0_6 : Int) (a0_7 : Int) (a0_8 : Int) (A0_9 : Option Addr) (c0_9 : Nat) (l0_9 : List (S63)) (p : Int) (r : Bool) (w : World) (hr0_9 : Kd.C k63 w A0_9 l0_9.length l0_9) (hc0_9 : l0_9.length ≤ c0_9) (h : tallyroomlaw06_SpanAlike.f a0_0 a0_1 a0_2 a0_3 a0_4 a0_5 a0_6 a0_7 a0_8 l0_9 p = some r) :
    Calls Try.prog 9 #[.agg #[.int .u64 a0_0, .int .u64 a0_1, .int .u64 a0_2, .string a0_3, .string a0_4, .int .i64 a0_5, .int .i64 a0_6, .int .u64 a0_7, .int .u64 a0_8, .slice A0_9 l0_9.length c0_9], .int .u8 p] w fun e w' => e = .returned (.bool r) ∧ Below w.heap.size w w' := by
  unfold tallyroomlaw06_SpanAlike.f at h
  by_cases hb : 0 ≤ p ∧ p ≤ 255
  · rw [if_pos hb] at h
    obtain rfl := Option.some.inj h
    have e0 : (l0_9.map tallyroomlaw06_SpanAlike.u).length = l0_9.length := List.length_map _
    have h0 := Go.Proofs.Ytllepjhimkogjaa.Sm.C_map (d' := Go.Proofs.Ytllepjhimkogjaa.XSf.k63) tallyroomlaw06_SpanAlike.u rfl tallyroomlaw06_SpanAlike.uk hr0_9
    have := Go.Proofs.Ytllepjhimkogjaa.Ck.alike_law w a0_0 a0_1 a0_2 a0_3 a0_4 a0_5 a0_6 a0_7 a0_8 A0_9 c0_9 (l0_9.map tallyroomlaw06_SpanAlike.u) p hb (by rw [e0]; exact h0) (by rw [e0]; exact hc0_9)
    rw [e0] at this
    exact this
  · rw [if_neg hb] at h; cases h
end Go.Proofs.Ytllepjhimkogjaa.XSAl
