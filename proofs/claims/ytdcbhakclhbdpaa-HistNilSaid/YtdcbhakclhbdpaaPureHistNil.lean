/- HistNil: no histogram. No conditions. -/
import Derived.Test.YtdcbhakclhbdpaaArgHistNil
namespace Go.Proofs.Ytdcbhakclhbdpaa.Pure
open Go.RowKit Go.Proofs.Ytdcbhakclhbdpaa.XHNil

theorem HistNil : tallyroomlaw11_HistNil.Pure2 := fun _ _ => rfl
end Go.Proofs.Ytdcbhakclhbdpaa.Pure
