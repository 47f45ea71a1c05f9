/- What the law WmarkIdle is handed, as data, and its pure statement: by a program of this session (xprint.py). -/
import Derived.Test.YtgpkihnihmbomaaXWix0
import Derived.Test.YtgpkihnihmbomaaXWix11
import Derived.Test.YtgpkihnihmbomaaOpens
namespace Go.Proofs.Ytgpkihnihmbomaa.XWi
open Go.RowKit Go.Proofs.YtgpkihnihmbomaaW.PrintWords Go.Proofs.YtgpkihnihmbomaaW.PrintLast Go.Proofs.Ytgpkihnihmbomaa.Opens
set_option linter.unusedVariables false
def tallyroomlaw13_WmarkIdle.Pure2 : Prop := ∀ (a0 : Int) (a1 : Int) (a2 : Int), (fun n : Int => (Lit.int .u8 n).wf = true) a0 → (fun n : Int => (Lit.int .u32 n).wf = true) a1 → (fun n : Int => (Lit.int .u16 n).wf = true) a2 → tallyroomlaw13_WmarkIdle.f a0 a1 a2 = some true
end Go.Proofs.Ytgpkihnihmbomaa.XWi
