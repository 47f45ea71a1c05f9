/- RatePlays: who passes any gate, and how many did. No conditions. -/
import Derived.Test.YtgpkihnihmbomaaArgRatePlays
namespace Go.Proofs.Ytgpkihnihmbomaa.Pure
open Go.RowKit Go.Proofs.Ytgpkihnihmbomaa.XRl

theorem RatePlays : tallyroomlaw23_RatePlays.Pure2 := by
  intro x l hx hl
  have hp : ∀ p ∈ l, 0 ≤ p.f1 ∧ p.f1 < 18446744073709551616 := fun p hp => by
    have h : (Lit.int .u64 p.f1).wf = true := (hl.2 p hp).2
    have h : 0 ≤ p.f1 ∧ p.f1 ≤ 18446744073709551615 := by simpa [Lit.wf, IntKind.min, IntKind.max, IntKind.signed, IntKind.bits] using h
    omega
  unfold tallyroomlaw23_RatePlays.f
  rw [if_pos hp]
end Go.Proofs.Ytgpkihnihmbomaa.Pure
