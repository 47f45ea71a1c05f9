/- RateAnew: a forgotten window begins anew, just as many pass as may, and others keep theirs. No conditions. -/
import Derived.Test.YtgpkihnihmbomaaArgRateAnew
namespace Go.Proofs.Ytgpkihnihmbomaa.Pure
open Go.RowKit Go.Proofs.Ytgpkihnihmbomaa.XRn

theorem RateAnew : tallyroomlaw23_RateAnew.Pure2 := by
  intro m a x y hm ha hx hy
  have hm : 0 ≤ m ∧ m ≤ 255 := by simpa [Lit.wf, IntKind.min, IntKind.max, IntKind.signed, IntKind.bits] using hm
  have ha : 0 ≤ a ∧ a ≤ 255 := by simpa [Lit.wf, IntKind.min, IntKind.max, IntKind.signed, IntKind.bits] using ha
  have hx : 0 ≤ x ∧ x ≤ 18446744073709551615 := by simpa [Lit.wf, IntKind.min, IntKind.max, IntKind.signed, IntKind.bits] using hx
  have hy : 0 ≤ y ∧ y ≤ 18446744073709551615 := by simpa [Lit.wf, IntKind.min, IntKind.max, IntKind.signed, IntKind.bits] using hy
  unfold tallyroomlaw23_RateAnew.f
  rw [if_pos ⟨hm, ha, hx, hy⟩]
end Go.Proofs.Ytgpkihnihmbomaa.Pure
