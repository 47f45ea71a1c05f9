/- What the law StrtabBack is handed, as data, and its pure statement: by a program of this session (xprint.py). -/
import Derived.Test.YtfgpcoocbblkiaaXSBackx0
import Derived.Test.YtfgpcoocbblkiaaXSBackx14
import Derived.Test.YtfgpcoocbblkiaaOpens
namespace Go.Proofs.Ytfgpcoocbblkiaa.XSBack
open Go.RowKit Go.Proofs.YtfgpcoocbblkiaaW.PrintWords Go.Proofs.YtfgpcoocbblkiaaW.PrintLast Go.Proofs.Ytfgpcoocbblkiaa.Opens
set_option linter.unusedVariables false
def tallyroomlaw05_StrtabBack.Pure2 : Prop := ∀ (l0 : List ByteArray) (l1 : List Int) (a2 : Int), (fun l : List ByteArray => l.length ≤ maxLen ∧ ∀ x ∈ l, (fun s : ByteArray => s.size ≤ maxLen) x) l0 → (fun l : List Int => l.length ≤ maxLen ∧ ∀ x ∈ l, (fun n : Int => (Lit.int .u8 n).wf = true) x) l1 → (fun n : Int => (Lit.int .u16 n).wf = true) a2 → tallyroomlaw05_StrtabBack.f l0 l1 a2 = some true
end Go.Proofs.Ytfgpcoocbblkiaa.XSBack
