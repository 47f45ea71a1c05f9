/- What the law LedgerRejects is handed, as data, and its pure statement: by a program of this session (xprint.py). -/
import Derived.Test.YtfgpcoocbblkiaaXLRejx0
import Derived.Test.YtfgpcoocbblkiaaXLRejx11
import Derived.Test.YtfgpcoocbblkiaaOpens
namespace Go.Proofs.Ytfgpcoocbblkiaa.XLRej
open Go.RowKit Go.Proofs.YtfgpcoocbblkiaaW.PrintWords Go.Proofs.YtfgpcoocbblkiaaW.PrintLast Go.Proofs.Ytfgpcoocbblkiaa.Opens
set_option linter.unusedVariables false
def tallyroomlaw27_LedgerRejects.Pure2 : Prop := ∀ (l0 : List Int) (a1 : Int), (fun l : List Int => l.length ≤ maxLen ∧ ∀ x ∈ l, (fun n : Int => (Lit.int .u8 n).wf = true) x) l0 → (fun n : Int => (Lit.int .u16 n).wf = true) a1 → tallyroomlaw27_LedgerRejects.f l0 a1 = some true
end Go.Proofs.Ytfgpcoocbblkiaa.XLRej
