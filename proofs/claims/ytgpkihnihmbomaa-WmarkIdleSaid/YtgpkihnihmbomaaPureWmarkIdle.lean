/- WmarkIdle: who says nothing for as many ticks is idle, and no more when it says something. No conditions. -/
import Derived.Test.YtgpkihnihmbomaaArgWmarkIdle
namespace Go.Proofs.Ytgpkihnihmbomaa.Pure
open Go.RowKit Go.Proofs.Ytgpkihnihmbomaa.XWi

theorem WmarkIdle : tallyroomlaw13_WmarkIdle.Pure2 := by
  intro x e l hx he hl
  have hx : 0 ≤ x ∧ x ≤ 255 := by simpa [Lit.wf, IntKind.min, IntKind.max, IntKind.signed, IntKind.bits] using hx
  have he : 0 ≤ e ∧ e ≤ 4294967295 := by simpa [Lit.wf, IntKind.min, IntKind.max, IntKind.signed, IntKind.bits] using he
  have hl : 0 ≤ l ∧ l ≤ 65535 := by simpa [Lit.wf, IntKind.min, IntKind.max, IntKind.signed, IntKind.bits] using hl
  unfold tallyroomlaw13_WmarkIdle.f
  rw [if_pos ⟨hx, he, hl⟩]
end Go.Proofs.Ytgpkihnihmbomaa.Pure
