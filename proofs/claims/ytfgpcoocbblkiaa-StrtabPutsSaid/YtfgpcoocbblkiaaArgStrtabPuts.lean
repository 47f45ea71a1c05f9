/- What the law StrtabPuts is handed, as data, and its pure statement: by a program of this session (xprint.py). -/
import Derived.Test.YtfgpcoocbblkiaaXSPutsx0
import Derived.Test.YtfgpcoocbblkiaaXSPutsx14
import Derived.Test.YtfgpcoocbblkiaaOpens
namespace Go.Proofs.Ytfgpcoocbblkiaa.XSPuts
open Go.RowKit Go.Proofs.YtfgpcoocbblkiaaW.PrintWords Go.Proofs.YtfgpcoocbblkiaaW.PrintLast Go.Proofs.Ytfgpcoocbblkiaa.Opens
set_option linter.unusedVariables false
def tallyroomlaw05_StrtabPuts.Pure2 : Prop := ∀ (l0 : List ByteArray), (fun l : List ByteArray => l.length ≤ maxLen ∧ ∀ x ∈ l, (fun s : ByteArray => s.size ≤ maxLen) x) l0 → tallyroomlaw05_StrtabPuts.f l0 = some true
end Go.Proofs.Ytfgpcoocbblkiaa.XSPuts
