/- What the law StrtabSame is handed, as data, and its pure statement: by a program of this session (xprint.py). -/
import Derived.Test.YtfgpcoocbblkiaaXSSamex0
import Derived.Test.YtfgpcoocbblkiaaXSSamex10
import Derived.Test.YtfgpcoocbblkiaaOpens
namespace Go.Proofs.Ytfgpcoocbblkiaa.XSSame
open Go.RowKit Go.Proofs.YtfgpcoocbblkiaaW.PrintWords Go.Proofs.YtfgpcoocbblkiaaW.PrintLast Go.Proofs.Ytfgpcoocbblkiaa.Opens
set_option linter.unusedVariables false
def tallyroomlaw05_StrtabSame.Pure2 : Prop := ∀ (l0 : List ByteArray), (fun l : List ByteArray => l.length ≤ maxLen ∧ ∀ x ∈ l, (fun s : ByteArray => s.size ≤ maxLen) x) l0 → tallyroomlaw05_StrtabSame.f l0 = some true
end Go.Proofs.Ytfgpcoocbblkiaa.XSSame
