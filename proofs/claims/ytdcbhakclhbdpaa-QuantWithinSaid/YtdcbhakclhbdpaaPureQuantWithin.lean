/- QuantWithin: within the bounds. No conditions. -/
import Derived.Test.YtdcbhakclhbdpaaArgQuantWithin
namespace Go.Proofs.Ytdcbhakclhbdpaa.Pure
open Go.RowKit Go.Proofs.Ytdcbhakclhbdpaa.XQWin Go.Proofs.Ytdcbhakclhbdpaa.Hi

theorem QuantWithin : tallyroomlaw32_QuantWithin.Pure2 := fun _ _ _ _ h0 h1 h2 h3 => if_pos ⟨⟨fun x hx => u64_wf (h0.2 x hx), fun x hx => u64_wf (h1.2 x hx)⟩, u16_wf h2, u16_wf h3⟩
end Go.Proofs.Ytdcbhakclhbdpaa.Pure
