/- HistBuckets: the bucket of any number. No conditions. -/
import Derived.Test.YtdcbhakclhbdpaaArgHistBuckets
namespace Go.Proofs.Ytdcbhakclhbdpaa.Pure
open Go.RowKit Go.Proofs.Ytdcbhakclhbdpaa.XHBuckets Go.Proofs.Ytdcbhakclhbdpaa.Hi

theorem HistBuckets : tallyroomlaw11_HistBuckets.Pure2 := fun _ _ h0 h1 => if_pos ⟨fun x hx => u64_wf (h0.2 x hx), u64_wf h1⟩
end Go.Proofs.Ytdcbhakclhbdpaa.Pure
