/- AlertCalm: windows without spans change nothing, and what is always below the limit never rings. No conditions. -/
import Derived.Test.YtfgpcoocbblkiaaArgAlertCalm
namespace Go.Proofs.Ytfgpcoocbblkiaa.Pure
open Go.RowKit Go.Proofs.Ytfgpcoocbblkiaa.XACalm

theorem AlertCalm : tallyroomlaw35_AlertCalm.Pure2 := by
  intro s l hs hl
  have hp : ∀ p ∈ l, 0 ≤ p.f1 ∧ 0 ≤ p.f2 := fun p hp => by
    have h := hl.2 p hp
    have h1 : (Lit.int .u64 p.f1).wf = true := h.2.1
    have h2 : (Lit.int .u64 p.f2).wf = true := h.2.2
    have h1 : 0 ≤ p.f1 ∧ p.f1 ≤ 18446744073709551615 := by simpa [Lit.wf, IntKind.min, IntKind.max, IntKind.signed, IntKind.bits] using h1
    have h2 : 0 ≤ p.f2 ∧ p.f2 ≤ 18446744073709551615 := by simpa [Lit.wf, IntKind.min, IntKind.max, IntKind.signed, IntKind.bits] using h2
    exact ⟨h1.1, h2.1⟩
  unfold tallyroomlaw35_AlertCalm.f
  rw [if_pos hp]
end Go.Proofs.Ytfgpcoocbblkiaa.Pure
