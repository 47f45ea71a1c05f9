/- The law's proof, part 52: the text PureSpanAlike of this session, or words printed for this seat; what the theorem doesn't use is left out. No conditions. -/
import Derived.Test.YtllepjhimkogjaaFSAl51
namespace Go.Proofs.Ytllepjhimkogjaa.XSAl
end Go.Proofs.Ytllepjhimkogjaa.XSAl
namespace Go.Proofs.Ytllepjhimkogjaa.Pure
open Go.RowKit Go.Proofs.Ytllepjhimkogjaa.XSAl
theorem u8_wfA {x : Int} (h : (Lit.int .u8 x).wf = true) : 0 ≤ x ∧ x ≤ 255 := by simpa [Lit.wf, IntKind.min, IntKind.max, IntKind.signed, IntKind.bits] using h
theorem SpanAlike : tallyroomlaw06_SpanAlike.Pure2 := fun _ _ _ h1 => if_pos (u8_wfA h1)
end Go.Proofs.Ytllepjhimkogjaa.Pure
