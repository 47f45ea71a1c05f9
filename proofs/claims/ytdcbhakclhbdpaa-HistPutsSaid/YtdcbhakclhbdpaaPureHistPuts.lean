/- HistPuts: any numbers in any bounds. No conditions. -/
import Derived.Test.YtdcbhakclhbdpaaArgHistPuts
namespace Go.Proofs.Ytdcbhakclhbdpaa.Pure
open Go.RowKit Go.Proofs.Ytdcbhakclhbdpaa.XHPuts Go.Proofs.Ytdcbhakclhbdpaa.Hi

theorem HistPuts : tallyroomlaw11_HistPuts.Pure2 := fun _ _ _ _ h0 h1 h2 h3 => if_pos ⟨⟨fun x hx => u64_wf (h0.2 x hx), fun x hx => u64_wf (h1.2 x hx), fun x hx => u64_wf (h3.2 x hx)⟩, u8_wf h2⟩
end Go.Proofs.Ytdcbhakclhbdpaa.Pure
