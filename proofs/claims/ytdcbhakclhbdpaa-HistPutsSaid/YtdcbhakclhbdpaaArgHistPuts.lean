/- What the law HistPuts is handed, as data, and its pure statement: by a program of this session (xprint.py). -/
import Derived.Test.YtdcbhakclhbdpaaXHPutsx0
import Derived.Test.YtdcbhakclhbdpaaXHPutsx28
import Derived.Test.YtdcbhakclhbdpaaOpens
namespace Go.Proofs.Ytdcbhakclhbdpaa.XHPuts
open Go.RowKit Go.Proofs.YtdcbhakclhbdpaaW.PrintWords Go.Proofs.YtdcbhakclhbdpaaW.PrintLast Go.Proofs.Ytdcbhakclhbdpaa.Opens
set_option linter.unusedVariables false
def tallyroomlaw11_HistPuts.Pure2 : Prop := ∀ (l0 : List Int) (l1 : List Int) (a2 : Int) (l3 : List Int), (fun l : List Int => l.length ≤ maxLen ∧ ∀ x ∈ l, (fun n : Int => (Lit.int .u64 n).wf = true) x) l0 → (fun l : List Int => l.length ≤ maxLen ∧ ∀ x ∈ l, (fun n : Int => (Lit.int .u64 n).wf = true) x) l1 → (fun n : Int => (Lit.int .u8 n).wf = true) a2 → (fun l : List Int => l.length ≤ maxLen ∧ ∀ x ∈ l, (fun n : Int => (Lit.int .u64 n).wf = true) x) l3 → tallyroomlaw11_HistPuts.f l0 l1 a2 l3 = some true
end Go.Proofs.Ytdcbhakclhbdpaa.XHPuts
