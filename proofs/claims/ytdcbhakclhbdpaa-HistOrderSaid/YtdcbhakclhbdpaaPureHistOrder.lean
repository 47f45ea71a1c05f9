/- HistOrder: whatever order. No conditions. -/
import Derived.Test.YtdcbhakclhbdpaaArgHistOrder
namespace Go.Proofs.Ytdcbhakclhbdpaa.Pure
open Go.RowKit Go.Proofs.Ytdcbhakclhbdpaa.XHOrder Go.Proofs.Ytdcbhakclhbdpaa.Hi

theorem HistOrder : tallyroomlaw11_HistOrder.Pure2 := fun _ _ _ h0 h1 h2 => if_pos ⟨⟨fun x hx => u64_wf (h0.2 x hx), fun x hx => u64_wf (h1.2 x hx)⟩, u8_wf h2⟩
end Go.Proofs.Ytdcbhakclhbdpaa.Pure
