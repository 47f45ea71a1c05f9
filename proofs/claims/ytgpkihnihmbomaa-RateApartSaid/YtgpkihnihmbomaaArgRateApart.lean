/- What the law RateApart is handed, as data, and its pure statement: by a program of this session (xprint.py). -/
import Derived.Test.YtgpkihnihmbomaaXRpx0
import Derived.Test.YtgpkihnihmbomaaXRpx7
import Derived.Test.YtgpkihnihmbomaaOpens
namespace Go.Proofs.Ytgpkihnihmbomaa.XRp
open Go.RowKit Go.Proofs.YtgpkihnihmbomaaW.PrintWords Go.Proofs.YtgpkihnihmbomaaW.PrintLast Go.Proofs.Ytgpkihnihmbomaa.Opens
set_option linter.unusedVariables false
def tallyroomlaw23_RateApart.Pure2 : Prop := ∀ (a0 : Int) (l1 : List Int) (a2 : Int), (fun n : Int => (Lit.int .u8 n).wf = true) a0 → (fun l : List Int => l.length ≤ maxLen ∧ ∀ x ∈ l, (fun n : Int => (Lit.int .u8 n).wf = true) x) l1 → (fun n : Int => (Lit.int .u8 n).wf = true) a2 → tallyroomlaw23_RateApart.f a0 l1 a2 = some true
end Go.Proofs.Ytgpkihnihmbomaa.XRp
