/- What the law HistNil is handed, as data, and its pure statement: by a program of this session (xprint.py). -/
import Derived.Test.YtdcbhakclhbdpaaXHNilx0
import Derived.Test.YtdcbhakclhbdpaaXHNilx22
import Derived.Test.YtdcbhakclhbdpaaOpens
namespace Go.Proofs.Ytdcbhakclhbdpaa.XHNil
open Go.RowKit Go.Proofs.YtdcbhakclhbdpaaW.PrintWords Go.Proofs.YtdcbhakclhbdpaaW.PrintLast Go.Proofs.Ytdcbhakclhbdpaa.Opens
set_option linter.unusedVariables false
def tallyroomlaw11_HistNil.Pure2 : Prop := ∀ (a0 : Int), (fun n : Int => (Lit.int .u64 n).wf = true) a0 → tallyroomlaw11_HistNil.f a0 = some true
end Go.Proofs.Ytdcbhakclhbdpaa.XHNil
