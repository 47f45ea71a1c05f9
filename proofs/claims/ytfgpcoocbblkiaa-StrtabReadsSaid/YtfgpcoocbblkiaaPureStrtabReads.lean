/- StrtabReads: the table of any bytes. No conditions. -/
import Derived.Test.YtfgpcoocbblkiaaArgStrtabReads
namespace Go.Proofs.Ytfgpcoocbblkiaa.Pure
open Go.RowKit Go.Proofs.Ytfgpcoocbblkiaa.XSReads

theorem StrtabReads : tallyroomlaw05_StrtabReads.Pure2 := fun l h => if_pos fun x hx => Go.Proofs.Ytfgpcoocbblkiaa.Var.u8_wf (h.2 x hx)
end Go.Proofs.Ytfgpcoocbblkiaa.Pure
