-- Made by a program of this session (xprint.py), over the translation; Lean checks it.
import Derived.Test.YtllepjhimkogjaaXSlx0
namespace Go.Proofs.Ytllepjhimkogjaa.XSl
open Go.RowKit Go.Proofs.YtllepjhimkogjaaW.PrintWords Go.Proofs.YtllepjhimkogjaaW.PrintLast Go.Proofs.YtllepjhimkogjaaW.PrintMore
attribute [local go_sem] max2_int min2_int max_two min_two max_three min_three max_four min_four   -- for this text's walks alone
set_option linter.unusedVariables false
set_option linter.unusedSimpArgs false

/-! ### text_Clean: function 45 -/
def text_Clean.f (s : ByteArray) : Option ByteArray := if s.size ≤ 35184372088832 then some ((⟨(Go.Proofs.Ytllepjhimkogjaa.Txt.clean s.data.toList).toArray⟩ : ByteArray)) else none
theorem text_Clean.calls (s : ByteArray) (r : ByteArray) (w : World) (h : text_Clean.f s = some r) : Calls Try.prog 45 #[.string s] w fun e w' => e = .returned (.string r) ∧ Below w.heap.size w w' := by
  unfold text_Clean.f at h
  by_cases hs : s.size ≤ 35184372088832
  · rw [if_pos hs] at h
    obtain rfl := Option.some.inj h
    exact Go.Proofs.Ytllepjhimkogjaa.Tw.clean_walk s w hs
  · rw [if_neg hs] at h; cases h

end Go.Proofs.Ytllepjhimkogjaa.XSl
