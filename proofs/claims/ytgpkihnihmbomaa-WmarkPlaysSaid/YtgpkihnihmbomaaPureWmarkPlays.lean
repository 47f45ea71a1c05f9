/- WmarkPlays: what any clock tells behind each of any acts. No conditions. -/
import Derived.Test.YtgpkihnihmbomaaArgWmarkPlays
namespace Go.Proofs.Ytgpkihnihmbomaa.Pure
open Go.RowKit Go.Proofs.Ytgpkihnihmbomaa.XWl

theorem WmarkPlays : tallyroomlaw13_WmarkPlays.Pure2 := by
  intro x lt d l hx hlt hd hl
  have hlt : 0 ≤ lt ∧ lt ≤ 18446744073709551615 := by simpa [Lit.wf, IntKind.min, IntKind.max, IntKind.signed, IntKind.bits] using hlt
  have hd : 0 ≤ d ∧ d ≤ 18446744073709551615 := by simpa [Lit.wf, IntKind.min, IntKind.max, IntKind.signed, IntKind.bits] using hd
  have hp : ∀ p ∈ l, 0 ≤ p.f1 ∧ p.f1 < 18446744073709551616 := fun p hp => by
    have h : (Lit.int .u64 p.f1).wf = true := (hl.2 p hp).2
    have h : 0 ≤ p.f1 ∧ p.f1 ≤ 18446744073709551615 := by simpa [Lit.wf, IntKind.min, IntKind.max, IntKind.signed, IntKind.bits] using h
    omega
  unfold tallyroomlaw13_WmarkPlays.f
  rw [if_pos ⟨hlt.1, hd.1, hp⟩]
end Go.Proofs.Ytgpkihnihmbomaa.Pure
