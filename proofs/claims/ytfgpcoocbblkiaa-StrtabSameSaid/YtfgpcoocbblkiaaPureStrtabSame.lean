/- StrtabSame: numbers stay, no two texts have one, and a table of its own texts again is the same. No conditions. -/
import Derived.Test.YtfgpcoocbblkiaaArgStrtabSame
namespace Go.Proofs.Ytfgpcoocbblkiaa.Pure
open Go.RowKit Go.Proofs.Ytfgpcoocbblkiaa.XSSame

theorem StrtabSame : tallyroomlaw05_StrtabSame.Pure2 := fun _ _ => rfl
end Go.Proofs.Ytfgpcoocbblkiaa.Pure
