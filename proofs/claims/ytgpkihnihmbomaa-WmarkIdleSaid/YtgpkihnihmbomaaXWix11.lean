-- Made by a program of this session (xprint.py), over the translation; Lean checks it.
import Derived.Test.YtgpkihnihmbomaaXWix0
namespace Go.Proofs.Ytgpkihnihmbomaa.XWi
open Go.RowKit Go.Proofs.YtgpkihnihmbomaaW.PrintWords Go.Proofs.YtgpkihnihmbomaaW.PrintLast Go.Proofs.YtgpkihnihmbomaaW.PrintMore
attribute [local go_sem] max2_int min2_int max_two min_two max_three min_three max_four min_four   -- for this text's walks alone
set_option linter.unusedVariables false
set_option linter.unusedSimpArgs false

/-! ### tallyroomlaw13_WmarkIdle: function 13 -/
def tallyroomlaw13_WmarkIdle.f (x e l : Int) : Option Bool := if (0 ≤ x ∧ x ≤ 255) ∧ (0 ≤ e ∧ e ≤ 4294967295) ∧ (0 ≤ l ∧ l ≤ 65535) then some true else none
theorem tallyroomlaw13_WmarkIdle.calls (x e l : Int) (r : Bool) (w : World) (h : tallyroomlaw13_WmarkIdle.f x e l = some r) : Calls Try.prog 13 #[.int .u8 x, .int .u32 e, .int .u16 l] w fun y w' => y = .returned (.bool r) ∧ Below w.heap.size w w' := by
  unfold tallyroomlaw13_WmarkIdle.f at h
  by_cases hb : (0 ≤ x ∧ x ≤ 255) ∧ (0 ≤ e ∧ e ≤ 4294967295) ∧ (0 ≤ l ∧ l ≤ 65535)
  · rw [if_pos hb] at h
    obtain rfl := Option.some.inj h
    obtain ⟨x, rfl⟩ : ∃ n : Nat, x = (n : Int) := ⟨x.toNat, by omega⟩
    obtain ⟨e, rfl⟩ : ∃ n : Nat, e = (n : Int) := ⟨e.toNat, by omega⟩
    obtain ⟨l, rfl⟩ : ∃ n : Nat, l = (n : Int) := ⟨l.toNat, by omega⟩
    exact Go.Proofs.Ytgpkihnihmbomaa.Wm.idle_law x e l w (by omega) (by omega) (by omega)
  · rw [if_neg hb] at h; cases h

end Go.Proofs.Ytgpkihnihmbomaa.XWi
