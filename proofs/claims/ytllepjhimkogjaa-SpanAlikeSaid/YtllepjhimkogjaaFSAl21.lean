/- The law's proof, part 21: the text XSlx9 of this session, or words printed for this seat; what the theorem doesn't use is left out. No conditions. -/
import Derived.Test.YtllepjhimkogjaaFSAl19
namespace Go.Proofs.YtllepjhimkogjaaW.PrintLast
end Go.Proofs.YtllepjhimkogjaaW.PrintLast
namespace Go.Proofs.YtllepjhimkogjaaW.PrintMore
end Go.Proofs.YtllepjhimkogjaaW.PrintMore
namespace Go.Proofs.YtllepjhimkogjaaW.PrintWords
end Go.Proofs.YtllepjhimkogjaaW.PrintWords
namespace Go.Proofs.Ytllepjhimkogjaa.XSl
open Go.RowKit Go.Proofs.YtllepjhimkogjaaW.PrintWords Go.Proofs.YtllepjhimkogjaaW.PrintLast Go.Proofs.YtllepjhimkogjaaW.PrintMore
set_option linter.unusedVariables false
set_option linter.unusedSimpArgs false
def text_Clean.f (s : ByteArray) : Option ByteArray := if s.size ≤ 35184372088832 then some ((⟨(Go.Proofs.Ytllepjhimkogjaa.Txt.clean s.data.toList).toArray⟩ : ByteArray)) else none
theorem text_Clean.calls (s : ByteArray) (r : ByteArray) (w : World) (h : text_Clean.f s = some r) : Calls Try.prog 45 #[.string s] w fun e w' => e = .returned (.string r) ∧ Below w.heap.size w w' := by
  unfold text_Clean.f at h
  by_cases hs : s.size ≤ 35184372088832
  · rw [if_pos hs] at h
    obtain rfl := Option.some.inj h
    exact Go.Proofs.Ytllepjhimkogjaa.Tw.clean_walk s w hs
  · rw [if_neg hs] at h; cases h
end Go.Proofs.Ytllepjhimkogjaa.XSl
