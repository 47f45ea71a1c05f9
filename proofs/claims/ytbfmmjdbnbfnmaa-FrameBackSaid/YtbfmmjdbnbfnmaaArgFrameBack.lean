/- What the law FrameBack is handed, as data, and its pure statement: by a program of this session (xprint.py). -/
import Derived.Test.YtbfmmjdbnbfnmaaXDx0
import Derived.Test.YtbfmmjdbnbfnmaaXDx39
import Derived.Test.YtbfmmjdbnbfnmaaOpens
namespace Go.Proofs.Ytbfmmjdbnbfnmaa.XD
open Go.RowKit Go.Proofs.YtbfmmjdbnbfnmaaW.PrintWords Go.Proofs.YtbfmmjdbnbfnmaaW.PrintLast Go.Proofs.Ytbfmmjdbnbfnmaa.Opens
set_option linter.unusedVariables false
def tallyroomlaw08_FrameBack.Pure2 : Prop := ∀ (l0 : List (List Int)) (a1 : Int) (a2 : Int), (fun l : List (List Int) => l.length ≤ maxLen ∧ ∀ x ∈ l, (fun l : List Int => l.length ≤ maxLen ∧ ∀ x ∈ l, (fun n : Int => (Lit.int .u8 n).wf = true) x) x) l0 → (fun n : Int => (Lit.int .u16 n).wf = true) a1 → (fun n : Int => (Lit.int .u16 n).wf = true) a2 → ∃ k, tallyroomlaw08_FrameBack.f k l0 a1 a2 = some true
end Go.Proofs.Ytbfmmjdbnbfnmaa.XD
