-- Made by a program of this session (xprint.py), over the translation; Lean checks it.
import Derived.Test.YtfgpcoocbblkiaaXSSamex0
namespace Go.Proofs.Ytfgpcoocbblkiaa.XSSame
open Go.RowKit Go.Proofs.YtfgpcoocbblkiaaW.PrintWords Go.Proofs.YtfgpcoocbblkiaaW.PrintLast Go.Proofs.YtfgpcoocbblkiaaW.PrintMore
attribute [local go_sem] max2_int min2_int max_two min_two max_three min_three max_four min_four   -- for this text's walks alone
set_option linter.unusedVariables false
set_option linter.unusedSimpArgs false

/-! ### tallyroomlaw05_StrtabSame: function 4 -/
def tallyroomlaw05_StrtabSame.f (l0 : List ByteArray) : Option Bool := some true
theorem tallyroomlaw05_StrtabSame.calls (A0 : Option Addr) (c0 : Nat) (l0 : List ByteArray) (r : Bool) (w : World) (hr0 : Kd.C Kd.string w A0 l0.length l0) (_hc0 : l0.length ≤ c0) (h : tallyroomlaw05_StrtabSame.f l0 = some r) :
    Calls Try.prog 4 #[.slice A0 l0.length c0] w fun y w' => y = .returned (.bool r) ∧ Below w.heap.size w w' := by
  obtain rfl := Option.some.inj h
  refine Go.Proofs.Ytfgpcoocbblkiaa.St.same_law A0 c0 l0.length (fun i => l0.getD i ByteArray.empty) w (fun W hb i hi => ?_)
  obtain ⟨ad, e, hx⟩ := Go.Proofs.Ytfgpcoocbblkiaa.St.str_at (Kd.C_below hr0 hb) i hi
  have e2 : l0.getD i ByteArray.empty = l0[i] := by rw [List.getD_eq_getElem?_getD, List.getElem?_eq_getElem hi]; rfl
  refine ⟨ad, e, ?_⟩
  show W.cell? (ad.add i) = some (.string (l0.getD i ByteArray.empty))
  rw [e2]
  exact hx

end Go.Proofs.Ytfgpcoocbblkiaa.XSSame
