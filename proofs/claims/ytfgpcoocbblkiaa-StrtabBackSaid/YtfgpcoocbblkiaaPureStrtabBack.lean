/- StrtabBack: there and back. No conditions. -/
import Derived.Test.YtfgpcoocbblkiaaArgStrtabBack
namespace Go.Proofs.Ytfgpcoocbblkiaa.Pure
open Go.RowKit Go.Proofs.Ytfgpcoocbblkiaa.XSBack

theorem StrtabBack : tallyroomlaw05_StrtabBack.Pure2 := fun _ l1 x _ h1 h2 => if_pos ⟨fun y hy => Go.Proofs.Ytfgpcoocbblkiaa.Var.u8_wf (h1.2 y hy), Go.Proofs.Ytfgpcoocbblkiaa.Var.u16_wf h2⟩
end Go.Proofs.Ytfgpcoocbblkiaa.Pure
