/- What the law DigestTexts is handed, as data, and its pure statement: by a program of this session (xprint.py). -/
import Derived.Test.YtllepjhimkogjaaXTx0
import Derived.Test.YtllepjhimkogjaaXTx1
import Derived.Test.YtllepjhimkogjaaOpens
namespace Go.Proofs.Ytllepjhimkogjaa.XT
open Go.RowKit Go.Proofs.YtllepjhimkogjaaW.PrintWords Go.Proofs.YtllepjhimkogjaaW.PrintLast Go.Proofs.Ytllepjhimkogjaa.Opens
set_option linter.unusedVariables false
def tallyroomlaw09_DigestTexts.Pure2 : Prop := ∀ (l0 : List ByteArray) (a1 : Int) (a2 : Int), (fun l : List ByteArray => l.length ≤ maxLen ∧ ∀ x ∈ l, (fun s : ByteArray => s.size ≤ maxLen) x) l0 → (fun n : Int => (Lit.int .u64 n).wf = true) a1 → (fun n : Int => (Lit.int .u8 n).wf = true) a2 → ∃ k, tallyroomlaw09_DigestTexts.f k l0 a1 a2 = some true
end Go.Proofs.Ytllepjhimkogjaa.XT
