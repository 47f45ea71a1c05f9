/- RateApart: windows don't hang on each other, never more pass than may, and what no gate answers. No conditions. -/
import Derived.Test.YtgpkihnihmbomaaArgRateApart
namespace Go.Proofs.Ytgpkihnihmbomaa.Pure
open Go.RowKit Go.Proofs.Ytgpkihnihmbomaa.XRp

theorem RateApart : tallyroomlaw23_RateApart.Pure2 := by
  intro m l b hm hl hb
  have hm : 0 ≤ m ∧ m ≤ 255 := by simpa [Lit.wf, IntKind.min, IntKind.max, IntKind.signed, IntKind.bits] using hm
  have hb : 0 ≤ b ∧ b ≤ 255 := by simpa [Lit.wf, IntKind.min, IntKind.max, IntKind.signed, IntKind.bits] using hb
  have hp : ∀ p ∈ l, 0 ≤ p ∧ p ≤ 255 := fun p hp => by
    have h : (Lit.int .u8 p).wf = true := hl.2 p hp
    simpa [Lit.wf, IntKind.min, IntKind.max, IntKind.signed, IntKind.bits] using h
  unfold tallyroomlaw23_RateApart.f
  rw [if_pos ⟨hm, hb, hp⟩]
end Go.Proofs.Ytgpkihnihmbomaa.Pure
