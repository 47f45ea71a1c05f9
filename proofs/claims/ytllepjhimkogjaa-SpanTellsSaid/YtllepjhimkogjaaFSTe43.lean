/- The law's proof, part 43: the text PureSpanTells of this session, or words printed for this seat; what the theorem doesn't use is left out. No conditions. -/
import Derived.Test.YtllepjhimkogjaaFSTe42
namespace Go.Proofs.Ytllepjhimkogjaa.XSTe
end Go.Proofs.Ytllepjhimkogjaa.XSTe
namespace Go.Proofs.Ytllepjhimkogjaa.Pure
open Go.RowKit Go.Proofs.Ytllepjhimkogjaa.XSTe
theorem SpanTells : tallyroomlaw06_SpanTells.Pure2 := fun _ _ _ _ _ _ => rfl
end Go.Proofs.Ytllepjhimkogjaa.Pure
