-- Made by a program of this session (xprint.py), over the translation; Lean checks it.
import Derived.Test.YtgpkihnihmbomaaXWx0
namespace Go.Proofs.Ytgpkihnihmbomaa.XW
open Go.RowKit Go.Proofs.YtgpkihnihmbomaaW.PrintWords Go.Proofs.YtgpkihnihmbomaaW.PrintLast Go.Proofs.YtgpkihnihmbomaaW.PrintMore
attribute [local go_sem] max2_int min2_int max_two min_two max_three min_three max_four min_four   -- for this text's walks alone
set_option linter.unusedVariables false
set_option linter.unusedSimpArgs false

/-! ### tallyroomlaw13_WmarkNil: function 12 -/
def tallyroomlaw13_WmarkNil.f (i e : Int) : Option Bool := if 0 ≤ e then some true else none
theorem tallyroomlaw13_WmarkNil.calls (i e : Int) (r : Bool) (w : World) (h : tallyroomlaw13_WmarkNil.f i e = some r) : Calls Try.prog 12 #[.int .i64 i, .int .u64 e] w fun x w' => x = .returned (.bool r) ∧ Below w.heap.size w w' := by
  unfold tallyroomlaw13_WmarkNil.f at h
  by_cases he : 0 ≤ e
  · rw [if_pos he] at h
    obtain rfl := Option.some.inj h
    exact Go.Proofs.Ytgpkihnihmbomaa.Wm.nil_law i e w he
  · rw [if_neg he] at h; cases h

end Go.Proofs.Ytgpkihnihmbomaa.XW
