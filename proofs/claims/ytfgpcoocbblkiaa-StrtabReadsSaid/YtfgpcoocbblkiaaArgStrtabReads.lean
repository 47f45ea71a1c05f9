/- What the law StrtabReads is handed, as data, and its pure statement: by a program of this session (xprint.py). -/
import Derived.Test.YtfgpcoocbblkiaaXSReadsx0
import Derived.Test.YtfgpcoocbblkiaaXSReadsx18
import Derived.Test.YtfgpcoocbblkiaaOpens
namespace Go.Proofs.Ytfgpcoocbblkiaa.XSReads
open Go.RowKit Go.Proofs.YtfgpcoocbblkiaaW.PrintWords Go.Proofs.YtfgpcoocbblkiaaW.PrintLast Go.Proofs.Ytfgpcoocbblkiaa.Opens
set_option linter.unusedVariables false
def tallyroomlaw05_StrtabReads.Pure2 : Prop := ∀ (l0 : List Int), (fun l : List Int => l.length ≤ maxLen ∧ ∀ x ∈ l, (fun n : Int => (Lit.int .u8 n).wf = true) x) l0 → tallyroomlaw05_StrtabReads.f l0 = some true
end Go.Proofs.Ytfgpcoocbblkiaa.XSReads
