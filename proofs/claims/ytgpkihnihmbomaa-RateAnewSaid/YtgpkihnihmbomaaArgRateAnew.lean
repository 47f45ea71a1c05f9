/- What the law RateAnew is handed, as data, and its pure statement: by a program of this session (xprint.py). -/
import Derived.Test.YtgpkihnihmbomaaXRnx0
import Derived.Test.YtgpkihnihmbomaaXRnx6
import Derived.Test.YtgpkihnihmbomaaOpens
namespace Go.Proofs.Ytgpkihnihmbomaa.XRn
open Go.RowKit Go.Proofs.YtgpkihnihmbomaaW.PrintWords Go.Proofs.YtgpkihnihmbomaaW.PrintLast Go.Proofs.Ytgpkihnihmbomaa.Opens
set_option linter.unusedVariables false
def tallyroomlaw23_RateAnew.Pure2 : Prop := ∀ (a0 : Int) (a1 : Int) (a2 : Int) (a3 : Int), (fun n : Int => (Lit.int .u8 n).wf = true) a0 → (fun n : Int => (Lit.int .u8 n).wf = true) a1 → (fun n : Int => (Lit.int .u64 n).wf = true) a2 → (fun n : Int => (Lit.int .u64 n).wf = true) a3 → tallyroomlaw23_RateAnew.f a0 a1 a2 a3 = some true
end Go.Proofs.Ytgpkihnihmbomaa.XRn
