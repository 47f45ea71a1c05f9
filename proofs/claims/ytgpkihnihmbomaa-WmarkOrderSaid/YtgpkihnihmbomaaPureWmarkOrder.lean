/- WmarkOrder: the order in which sources say what they say plays no part for the mark behind all of it, and a greater lateness makes it no greater. No conditions. -/
import Derived.Test.YtgpkihnihmbomaaArgWmarkOrder
namespace Go.Proofs.Ytgpkihnihmbomaa.Pure
open Go.RowKit Go.Proofs.Ytgpkihnihmbomaa.XWo

theorem WmarkOrder : tallyroomlaw13_WmarkOrder.Pure2 := by
  intro x lt d l b hx hlt hd hl hb
  have hx : 0 ≤ x ∧ x ≤ 255 := by simpa [Lit.wf, IntKind.min, IntKind.max, IntKind.signed, IntKind.bits] using hx
  have hlt : 0 ≤ lt ∧ lt ≤ 65535 := by simpa [Lit.wf, IntKind.min, IntKind.max, IntKind.signed, IntKind.bits] using hlt
  have hd : 0 ≤ d ∧ d ≤ 255 := by simpa [Lit.wf, IntKind.min, IntKind.max, IntKind.signed, IntKind.bits] using hd
  have hb : 0 ≤ b ∧ b ≤ 255 := by simpa [Lit.wf, IntKind.min, IntKind.max, IntKind.signed, IntKind.bits] using hb
  have hp : ∀ p ∈ l, 0 ≤ p.f1 := fun p hp => by
    have h : (Lit.int .u64 p.f1).wf = true := (hl.2 p hp).2
    have h : 0 ≤ p.f1 ∧ p.f1 ≤ 18446744073709551615 := by simpa [Lit.wf, IntKind.min, IntKind.max, IntKind.signed, IntKind.bits] using h
    exact h.1
  unfold tallyroomlaw13_WmarkOrder.f
  rw [if_pos ⟨hx, hlt, hd, hb, hp⟩]
end Go.Proofs.Ytgpkihnihmbomaa.Pure
