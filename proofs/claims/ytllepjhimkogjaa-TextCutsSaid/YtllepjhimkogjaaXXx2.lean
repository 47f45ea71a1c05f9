-- Made by a program of this session (xprint.py), over the translation; Lean checks it.
import Derived.Test.YtllepjhimkogjaaXXx0
namespace Go.Proofs.Ytllepjhimkogjaa.XX
open Go.RowKit Go.Proofs.YtllepjhimkogjaaW.PrintWords Go.Proofs.YtllepjhimkogjaaW.PrintLast Go.Proofs.YtllepjhimkogjaaW.PrintMore
attribute [local go_sem] max2_int min2_int max_two min_two max_three min_three max_four min_four   -- for this text's walks alone
set_option linter.unusedVariables false
set_option linter.unusedSimpArgs false

/-! ### text_Right: function 41 -/
def text_Right.f (s : ByteArray) : Option Bool := if s.size ≤ 35184372088832 then some (Go.Proofs.Ytllepjhimkogjaa.Txt.right s.data.toList) else none
theorem text_Right.calls (s : ByteArray) (r : Bool) (w : World) (h : text_Right.f s = some r) : Calls Try.prog 41 #[.string s] w fun e w' => e = .returned (.bool r) ∧ Below w.heap.size w w' := by
  unfold text_Right.f at h
  by_cases hs : s.size ≤ 35184372088832
  · rw [if_pos hs] at h
    obtain rfl := Option.some.inj h
    exact Go.Proofs.Ytllepjhimkogjaa.Tw.right_walk s w hs
  · rw [if_neg hs] at h; cases h

end Go.Proofs.Ytllepjhimkogjaa.XX
