/- What the law WmarkNil is handed, as data, and its pure statement: by a program of this session (xprint.py). -/
import Derived.Test.YtgpkihnihmbomaaXWx0
import Derived.Test.YtgpkihnihmbomaaXWx11
import Derived.Test.YtgpkihnihmbomaaOpens
namespace Go.Proofs.Ytgpkihnihmbomaa.XW
open Go.RowKit Go.Proofs.YtgpkihnihmbomaaW.PrintWords Go.Proofs.YtgpkihnihmbomaaW.PrintLast Go.Proofs.Ytgpkihnihmbomaa.Opens
set_option linter.unusedVariables false
def tallyroomlaw13_WmarkNil.Pure2 : Prop := ∀ (a0 : Int) (a1 : Int), (fun n : Int => (Lit.int .i64 n).wf = true) a0 → (fun n : Int => (Lit.int .u64 n).wf = true) a1 → tallyroomlaw13_WmarkNil.f a0 a1 = some true
end Go.Proofs.Ytgpkihnihmbomaa.XW
