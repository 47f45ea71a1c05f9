/- What the law HistBuckets is handed, as data, and its pure statement: by a program of this session (xprint.py). -/
import Derived.Test.YtdcbhakclhbdpaaXHBucketsx0
import Derived.Test.YtdcbhakclhbdpaaXHBucketsx24
import Derived.Test.YtdcbhakclhbdpaaOpens
namespace Go.Proofs.Ytdcbhakclhbdpaa.XHBuckets
open Go.RowKit Go.Proofs.YtdcbhakclhbdpaaW.PrintWords Go.Proofs.YtdcbhakclhbdpaaW.PrintLast Go.Proofs.Ytdcbhakclhbdpaa.Opens
set_option linter.unusedVariables false
def tallyroomlaw11_HistBuckets.Pure2 : Prop := ∀ (l0 : List Int) (a1 : Int), (fun l : List Int => l.length ≤ maxLen ∧ ∀ x ∈ l, (fun n : Int => (Lit.int .u64 n).wf = true) x) l0 → (fun n : Int => (Lit.int .u64 n).wf = true) a1 → tallyroomlaw11_HistBuckets.f l0 a1 = some true
end Go.Proofs.Ytdcbhakclhbdpaa.XHBuckets
