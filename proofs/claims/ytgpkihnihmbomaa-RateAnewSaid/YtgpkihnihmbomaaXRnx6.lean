-- Made by a program of this session (xprint.py), over the translation; Lean checks it.
import Derived.Test.YtgpkihnihmbomaaXRnx0
namespace Go.Proofs.Ytgpkihnihmbomaa.XRn
open Go.RowKit Go.Proofs.YtgpkihnihmbomaaW.PrintWords Go.Proofs.YtgpkihnihmbomaaW.PrintLast Go.Proofs.YtgpkihnihmbomaaW.PrintMore
attribute [local go_sem] max2_int min2_int max_two min_two max_three min_three max_four min_four   -- for this text's walks alone
set_option linter.unusedVariables false
set_option linter.unusedSimpArgs false

/-! ### tallyroomlaw23_RateAnew: function 3 -/
def tallyroomlaw23_RateAnew.f (m a x y : Int) : Option Bool := if (0 ≤ m ∧ m ≤ 255) ∧ (0 ≤ a ∧ a ≤ 255) ∧ (0 ≤ x ∧ x ≤ 18446744073709551615) ∧ (0 ≤ y ∧ y ≤ 18446744073709551615) then some true else none
theorem tallyroomlaw23_RateAnew.calls (m a x y : Int) (r : Bool) (w : World) (h : tallyroomlaw23_RateAnew.f m a x y = some r) : Calls Try.prog 3 #[.int .u8 m, .int .u8 a, .int .u64 x, .int .u64 y] w fun z w' => z = .returned (.bool r) ∧ Below w.heap.size w w' := by
  unfold tallyroomlaw23_RateAnew.f at h
  by_cases hb : (0 ≤ m ∧ m ≤ 255) ∧ (0 ≤ a ∧ a ≤ 255) ∧ (0 ≤ x ∧ x ≤ 18446744073709551615) ∧ (0 ≤ y ∧ y ≤ 18446744073709551615)
  · rw [if_pos hb] at h
    obtain rfl := Option.some.inj h
    obtain ⟨m, rfl⟩ : ∃ n : Nat, m = (n : Int) := ⟨m.toNat, by omega⟩
    obtain ⟨a, rfl⟩ : ∃ n : Nat, a = (n : Int) := ⟨a.toNat, by omega⟩
    obtain ⟨x, rfl⟩ : ∃ n : Nat, x = (n : Int) := ⟨x.toNat, by omega⟩
    obtain ⟨y, rfl⟩ : ∃ n : Nat, y = (n : Int) := ⟨y.toNat, by omega⟩
    exact Go.Proofs.Ytgpkihnihmbomaa.Ra.anew_law m a x y w (by omega) (by omega) (by omega) (by omega)
  · rw [if_neg hb] at h; cases h

end Go.Proofs.Ytgpkihnihmbomaa.XRn
