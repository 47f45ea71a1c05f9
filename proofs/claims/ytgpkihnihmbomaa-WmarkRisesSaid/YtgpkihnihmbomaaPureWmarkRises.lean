/- WmarkRises: the mark never falls, and what is less than a source said changes nothing where nobody is ever idle. No conditions. -/
import Derived.Test.YtgpkihnihmbomaaArgWmarkRises
namespace Go.Proofs.Ytgpkihnihmbomaa.Pure
open Go.RowKit Go.Proofs.Ytgpkihnihmbomaa.XWr

theorem WmarkRises : tallyroomlaw13_WmarkRises.Pure2 := by
  intro x lt d l hx hlt hd hl
  have hx : 0 ≤ x ∧ x ≤ 255 := by simpa [Lit.wf, IntKind.min, IntKind.max, IntKind.signed, IntKind.bits] using hx
  have hlt : 0 ≤ lt ∧ lt ≤ 65535 := by simpa [Lit.wf, IntKind.min, IntKind.max, IntKind.signed, IntKind.bits] using hlt
  have hd : 0 ≤ d ∧ d ≤ 255 := by simpa [Lit.wf, IntKind.min, IntKind.max, IntKind.signed, IntKind.bits] using hd
  have hp : ∀ p ∈ l, 0 ≤ p.f1 := fun p hp => by
    have h : (Lit.int .u64 p.f1).wf = true := (hl.2 p hp).2
    have h : 0 ≤ p.f1 ∧ p.f1 ≤ 18446744073709551615 := by simpa [Lit.wf, IntKind.min, IntKind.max, IntKind.signed, IntKind.bits] using h
    exact h.1
  unfold tallyroomlaw13_WmarkRises.f
  rw [if_pos ⟨hx, hlt, hd, hp⟩]
end Go.Proofs.Ytgpkihnihmbomaa.Pure
