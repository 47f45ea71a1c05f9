/- SpanOrder: the order of any three spans. No conditions. -/
import Derived.Test.YtllepjhimkogjaaArgSpanOrder
namespace Go.Proofs.Ytllepjhimkogjaa.Pure
open Go.Proofs.Ytllepjhimkogjaa.XSOr

theorem SpanOrder : tallyroomlaw06_SpanOrder.Pure2 := fun _ _ _ _ _ _ => rfl
end Go.Proofs.Ytllepjhimkogjaa.Pure
