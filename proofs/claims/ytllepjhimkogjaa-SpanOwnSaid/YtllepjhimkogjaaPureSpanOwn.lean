/- SpanOwn: what is made alike is its own; a longer label begins with a shorter one. No conditions. -/
import Derived.Test.YtllepjhimkogjaaArgSpanOwn
namespace Go.Proofs.Ytllepjhimkogjaa.Pure
open Go.RowKit Go.Proofs.Ytllepjhimkogjaa.XSOw
theorem u8_wf {x : Int} (h : (Lit.int .u8 x).wf = true) : 0 ≤ x ∧ x ≤ 255 := by simpa [Lit.wf, IntKind.min, IntKind.max, IntKind.signed, IntKind.bits] using h
theorem SpanOwn : tallyroomlaw06_SpanOwn.Pure2 := fun _ _ _ _ h1 h2 => if_pos ⟨u8_wf h1, u8_wf h2⟩
end Go.Proofs.Ytllepjhimkogjaa.Pure
