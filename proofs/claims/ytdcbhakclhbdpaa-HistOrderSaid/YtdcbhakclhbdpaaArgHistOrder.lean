/- What the law HistOrder is handed, as data, and its pure statement: by a program of this session (xprint.py). -/
import Derived.Test.YtdcbhakclhbdpaaXHOrderx0
import Derived.Test.YtdcbhakclhbdpaaXHOrderx16
import Derived.Test.YtdcbhakclhbdpaaOpens
namespace Go.Proofs.Ytdcbhakclhbdpaa.XHOrder
open Go.RowKit Go.Proofs.YtdcbhakclhbdpaaW.PrintWords Go.Proofs.YtdcbhakclhbdpaaW.PrintLast Go.Proofs.Ytdcbhakclhbdpaa.Opens
set_option linter.unusedVariables false
def tallyroomlaw11_HistOrder.Pure2 : Prop := ∀ (l0 : List Int) (l1 : List Int) (a2 : Int), (fun l : List Int => l.length ≤ maxLen ∧ ∀ x ∈ l, (fun n : Int => (Lit.int .u64 n).wf = true) x) l0 → (fun l : List Int => l.length ≤ maxLen ∧ ∀ x ∈ l, (fun n : Int => (Lit.int .u64 n).wf = true) x) l1 → (fun n : Int => (Lit.int .u8 n).wf = true) a2 → tallyroomlaw11_HistOrder.f l0 l1 a2 = some true
end Go.Proofs.Ytdcbhakclhbdpaa.XHOrder
