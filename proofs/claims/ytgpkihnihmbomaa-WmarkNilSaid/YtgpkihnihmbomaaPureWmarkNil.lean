/- WmarkNil: what no clock answers. No conditions. -/
import Derived.Test.YtgpkihnihmbomaaArgWmarkNil
namespace Go.Proofs.Ytgpkihnihmbomaa.Pure
open Go.RowKit Go.Proofs.Ytgpkihnihmbomaa.XW

theorem WmarkNil : tallyroomlaw13_WmarkNil.Pure2 := by
  intro i e _ he
  have he : 0 ≤ e ∧ e ≤ 18446744073709551615 := by simpa [Lit.wf, IntKind.min, IntKind.max, IntKind.signed, IntKind.bits] using he
  unfold tallyroomlaw13_WmarkNil.f
  rw [if_pos he.1]
end Go.Proofs.Ytgpkihnihmbomaa.Pure
