-- Made by a program of this session (xprint.py), over the translation; Lean checks it.
import Derived.Test.YtfgpcoocbblkiaaXSReadsx0
namespace Go.Proofs.Ytfgpcoocbblkiaa.XSReads
open Go.RowKit Go.Proofs.YtfgpcoocbblkiaaW.PrintWords Go.Proofs.YtfgpcoocbblkiaaW.PrintLast Go.Proofs.YtfgpcoocbblkiaaW.PrintMore
attribute [local go_sem] max2_int min2_int max_two min_two max_three min_three max_four min_four   -- for this text's walks alone
set_option linter.unusedVariables false
set_option linter.unusedSimpArgs false

/-! ### tallyroomlaw05_StrtabReads: function 5 -/
def tallyroomlaw05_StrtabReads.f (l0 : List Int) : Option Bool := if ∀ x ∈ l0, 0 ≤ x ∧ x ≤ 255 then some true else none
theorem tallyroomlaw05_StrtabReads.calls (A0 : Option Addr) (c0 : Nat) (l0 : List Int) (r : Bool) (w : World) (hr0 : Kd.C (Kd.int .u8) w A0 l0.length l0) (_hc0 : l0.length ≤ c0) (h : tallyroomlaw05_StrtabReads.f l0 = some r) :
    Calls Try.prog 5 #[.slice A0 l0.length c0] w fun y w' => y = .returned (.bool r) ∧ Below w.heap.size w w' := by
  unfold tallyroomlaw05_StrtabReads.f at h
  by_cases hb : ∀ x ∈ l0, 0 ≤ x ∧ x ≤ 255
  · rw [if_pos hb] at h
    obtain rfl := Option.some.inj h
    obtain ⟨ns, rfl, hns⟩ := Go.Proofs.Ytfgpcoocbblkiaa.Var.ofN_of l0 255 hb
    exact Go.Proofs.Ytfgpcoocbblkiaa.St.reads_law A0 c0 ns w hr0 _hc0 hns
  · rw [if_neg hb] at h; cases h

end Go.Proofs.Ytfgpcoocbblkiaa.XSReads
