/- What the law FrameJoins is handed, as data, and its pure statement: by a program of this session (xprint.py). -/
import Derived.Test.YtbfmmjdbnbfnmaaXDx0
import Derived.Test.YtbfmmjdbnbfnmaaXDx40
import Derived.Test.YtbfmmjdbnbfnmaaOpens
namespace Go.Proofs.Ytbfmmjdbnbfnmaa.XD
open Go.RowKit Go.Proofs.YtbfmmjdbnbfnmaaW.PrintWords Go.Proofs.YtbfmmjdbnbfnmaaW.PrintLast Go.Proofs.Ytbfmmjdbnbfnmaa.Opens
set_option linter.unusedVariables false
def tallyroomlaw08_FrameJoins.Pure2 : Prop := ∀ (l0 : List (List Int)) (l1 : List Int), (fun l : List (List Int) => l.length ≤ maxLen ∧ ∀ x ∈ l, (fun l : List Int => l.length ≤ maxLen ∧ ∀ x ∈ l, (fun n : Int => (Lit.int .u8 n).wf = true) x) x) l0 → (fun l : List Int => l.length ≤ maxLen ∧ ∀ x ∈ l, (fun n : Int => (Lit.int .u8 n).wf = true) x) l1 → ∃ k, tallyroomlaw08_FrameJoins.f k l0 l1 = some true
end Go.Proofs.Ytbfmmjdbnbfnmaa.XD
