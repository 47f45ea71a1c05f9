/- StrtabPuts: how any texts are numbered, and the table's bytes. No conditions. -/
import Derived.Test.YtfgpcoocbblkiaaArgStrtabPuts
namespace Go.Proofs.Ytfgpcoocbblkiaa.Pure
open Go.RowKit Go.Proofs.Ytfgpcoocbblkiaa.XSPuts

theorem StrtabPuts : tallyroomlaw05_StrtabPuts.Pure2 := fun _ _ => rfl
end Go.Proofs.Ytfgpcoocbblkiaa.Pure
