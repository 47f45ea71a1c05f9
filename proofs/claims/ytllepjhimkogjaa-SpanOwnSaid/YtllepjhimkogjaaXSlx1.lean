-- Made by a program of this session (xprint.py), over the translation; Lean checks it.
import Derived.Test.YtllepjhimkogjaaXSlx0
namespace Go.Proofs.Ytllepjhimkogjaa.XSl
open Go.RowKit Go.Proofs.YtllepjhimkogjaaW.PrintWords Go.Proofs.YtllepjhimkogjaaW.PrintLast Go.Proofs.YtllepjhimkogjaaW.PrintMore
attribute [local go_sem] max2_int min2_int max_two min_two max_three min_three max_four min_four   -- for this text's walks alone
set_option linter.unusedVariables false
set_option linter.unusedSimpArgs false

/-! ### text_Cut: function 37 -/
def text_Cut.f (s : ByteArray) (n : Int) : Option ByteArray := if s.size ≤ 35184372088832 then some (Go.Proofs.Ytllepjhimkogjaa.Tw.cutB s n) else none
theorem text_Cut.calls (s : ByteArray) (n : Int) (r : ByteArray) (w : World) (h : text_Cut.f s n = some r) : Calls Try.prog 37 #[.string s, .int .i64 n] w fun e w' => e = .returned (.string r) ∧ Below w.heap.size w w' := by
  unfold text_Cut.f at h
  by_cases hs : s.size ≤ 35184372088832
  · rw [if_pos hs] at h
    obtain rfl := Option.some.inj h
    exact Go.Proofs.Ytllepjhimkogjaa.Tw.cut_walk s n w hs
  · rw [if_neg hs] at h; cases h

end Go.Proofs.Ytllepjhimkogjaa.XSl
