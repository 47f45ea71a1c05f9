/- LedgerRejects: reasons one by one. No conditions. -/
import Derived.Test.YtfgpcoocbblkiaaArgLedgerRejects
namespace Go.Proofs.Ytfgpcoocbblkiaa.Pure
open Go.RowKit Go.Proofs.Ytfgpcoocbblkiaa.XLRej Go.Proofs.Ytfgpcoocbblkiaa.Le

theorem LedgerRejects : tallyroomlaw27_LedgerRejects.Pure2 := fun _ _ h0 h1 => if_pos ⟨fun x hx => u8_wf (h0.2 x hx), u16_wf h1⟩
end Go.Proofs.Ytfgpcoocbblkiaa.Pure
