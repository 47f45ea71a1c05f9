/- SamplerWindows: a trace's window is that of its last end, and of each window as many are kept as may. No conditions. -/
import Derived.Test.YtgpkihnihmbomaaArgSamplerWindows
namespace Go.Proofs.Ytgpkihnihmbomaa.Pure
open Go.RowKit Go.Proofs.Ytgpkihnihmbomaa.XSw
theorem SamplerWindows : tallyroomlaw24_SamplerWindows.Pure2 := by
  intro l wd most hl hwd hm
  have hwd : 0 ≤ wd ∧ wd ≤ 65535 := by simpa [Lit.wf, IntKind.min, IntKind.max, IntKind.signed, IntKind.bits] using hwd
  have hm : 0 ≤ most ∧ most ≤ 255 := by simpa [Lit.wf, IntKind.min, IntKind.max, IntKind.signed, IntKind.bits] using hm
  have hp : ∀ x ∈ l, ∀ s ∈ x, 0 ≤ s.f8 ∧ s.f8 < 18446744073709551616 := fun x hx s hs => by
    have h : (Lit.int .u64 s.f8).wf = true := ((hl.2 x hx).2 s hs).2.2.2.2.2.2.2.2.1
    have h : 0 ≤ s.f8 ∧ s.f8 ≤ 18446744073709551615 := by simpa [Lit.wf, IntKind.min, IntKind.max, IntKind.signed, IntKind.bits] using h
    omega
  unfold tallyroomlaw24_SamplerWindows.f
  rw [if_pos ⟨hwd, hm, hp⟩]
end Go.Proofs.Ytgpkihnihmbomaa.Pure
