/- What the law CrcParts is handed, as data, and its pure statement: by a program of this session (xprint.py). -/
import Derived.Test.YtbfmmjdbnbfnmaaXDx0
import Derived.Test.YtbfmmjdbnbfnmaaXDx30
import Derived.Test.YtbfmmjdbnbfnmaaOpens
namespace Go.Proofs.Ytbfmmjdbnbfnmaa.XD
open Go.RowKit Go.Proofs.YtbfmmjdbnbfnmaaW.PrintWords Go.Proofs.YtbfmmjdbnbfnmaaW.PrintLast Go.Proofs.Ytbfmmjdbnbfnmaa.Opens
set_option linter.unusedVariables false
def tallyroomlaw02_CrcParts.Pure2 : Prop := ∀ (l0 : List (List Int)), (fun l : List (List Int) => l.length ≤ maxLen ∧ ∀ x ∈ l, (fun l : List Int => l.length ≤ maxLen ∧ ∀ x ∈ l, (fun n : Int => (Lit.int .u8 n).wf = true) x) x) l0 → ∃ k, tallyroomlaw02_CrcParts.f k l0 = some true
end Go.Proofs.Ytbfmmjdbnbfnmaa.XD
