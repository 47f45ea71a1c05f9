/- What the law QuantWithin is handed, as data, and its pure statement: by a program of this session (xprint.py). -/
import Derived.Test.YtdcbhakclhbdpaaXQWinx0
import Derived.Test.YtdcbhakclhbdpaaXQWinx19
import Derived.Test.YtdcbhakclhbdpaaOpens
namespace Go.Proofs.Ytdcbhakclhbdpaa.XQWin
open Go.RowKit Go.Proofs.YtdcbhakclhbdpaaW.PrintWords Go.Proofs.YtdcbhakclhbdpaaW.PrintLast Go.Proofs.Ytdcbhakclhbdpaa.Opens
set_option linter.unusedVariables false
def tallyroomlaw32_QuantWithin.Pure2 : Prop := ∀ (l0 : List Int) (l1 : List Int) (a2 : Int) (a3 : Int), (fun l : List Int => l.length ≤ maxLen ∧ ∀ x ∈ l, (fun n : Int => (Lit.int .u64 n).wf = true) x) l0 → (fun l : List Int => l.length ≤ maxLen ∧ ∀ x ∈ l, (fun n : Int => (Lit.int .u64 n).wf = true) x) l1 → (fun n : Int => (Lit.int .u16 n).wf = true) a2 → (fun n : Int => (Lit.int .u16 n).wf = true) a3 → tallyroomlaw32_QuantWithin.f l0 l1 a2 a3 = some true
end Go.Proofs.Ytdcbhakclhbdpaa.XQWin
