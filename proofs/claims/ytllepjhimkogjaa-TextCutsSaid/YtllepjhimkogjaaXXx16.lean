-- Made by a program of this session (xprint.py), over the translation; Lean checks it.
import Derived.Test.YtllepjhimkogjaaXXx0
namespace Go.Proofs.Ytllepjhimkogjaa.XX
open Go.RowKit Go.Proofs.YtllepjhimkogjaaW.PrintWords Go.Proofs.YtllepjhimkogjaaW.PrintLast Go.Proofs.YtllepjhimkogjaaW.PrintMore
attribute [local go_sem] max2_int min2_int max_two min_two max_three min_three max_four min_four   -- for this text's walks alone
set_option linter.unusedVariables false
set_option linter.unusedSimpArgs false

/-! ### text_Count: function 43 -/
def text_Count.f (s : ByteArray) : Option Int := if s.size ≤ 35184372088832 then some (((Go.Proofs.Ytllepjhimkogjaa.Txt.count s.data.toList : Nat) : Int)) else none
theorem text_Count.calls (s : ByteArray) (r : Int) (w : World) (h : text_Count.f s = some r) : Calls Try.prog 43 #[.string s] w fun e w' => e = .returned (.int .i64 r) ∧ Below w.heap.size w w' := by
  unfold text_Count.f at h
  by_cases hs : s.size ≤ 35184372088832
  · rw [if_pos hs] at h
    obtain rfl := Option.some.inj h
    exact Go.Proofs.Ytllepjhimkogjaa.Tw.count_walk s w hs
  · rw [if_neg hs] at h; cases h

end Go.Proofs.Ytllepjhimkogjaa.XX
