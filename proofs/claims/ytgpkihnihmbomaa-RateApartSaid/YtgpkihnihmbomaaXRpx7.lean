-- Made by a program of this session (xprint.py), over the translation; Lean checks it.
import Derived.Test.YtgpkihnihmbomaaXRpx0
namespace Go.Proofs.Ytgpkihnihmbomaa.XRp
open Go.RowKit Go.Proofs.YtgpkihnihmbomaaW.PrintWords Go.Proofs.YtgpkihnihmbomaaW.PrintLast Go.Proofs.YtgpkihnihmbomaaW.PrintMore
attribute [local go_sem] max2_int min2_int max_two min_two max_three min_three max_four min_four   -- for this text's walks alone
set_option linter.unusedVariables false
set_option linter.unusedSimpArgs false

/-! ### tallyroomlaw23_RateApart: function 5 -/
theorem tallyroomlaw23_RateApart.bytes {w : World} {A0 : Option Addr} {l0 : List Int} (hr0 : Kd.C (Kd.int .u8) w A0 l0.length l0) : Go.Proofs.Ytgpkihnihmbomaa.Ra.Bytes w A0 l0.length (fun i => rd l0 (i : Int)) := by
  intro W hb i hi
  have := Kd.at_int (Kd.C_below hr0 hb) (i : Int) (by omega) (by omega)
  rwa [Int.toNat_natCast] at this
def tallyroomlaw23_RateApart.f (m : Int) (l0 : List Int) (b : Int) : Option Bool := if (0 ≤ m ∧ m ≤ 255) ∧ (0 ≤ b ∧ b ≤ 255) ∧ (∀ p ∈ l0, 0 ≤ p ∧ p ≤ 255) then some true else none
theorem tallyroomlaw23_RateApart.calls (m : Int) (A0 : Option Addr) (c0 : Nat) (l0 : List Int) (b : Int) (r : Bool) (w : World) (hr0 : Kd.C (Kd.int .u8) w A0 l0.length l0) (_hc0 : l0.length ≤ c0) (h : tallyroomlaw23_RateApart.f m l0 b = some r) :
    Calls Try.prog 5 #[.int .u8 m, .slice A0 l0.length c0, .int .u8 b] w fun y w' => y = .returned (.bool r) ∧ Below w.heap.size w w' := by
  unfold tallyroomlaw23_RateApart.f at h
  by_cases hb : (0 ≤ m ∧ m ≤ 255) ∧ (0 ≤ b ∧ b ≤ 255) ∧ (∀ p ∈ l0, 0 ≤ p ∧ p ≤ 255)
  · rw [if_pos hb] at h
    obtain rfl := Option.some.inj h
    obtain ⟨m, rfl⟩ : ∃ n : Nat, m = (n : Int) := ⟨m.toNat, by omega⟩
    obtain ⟨b, rfl⟩ : ∃ n : Nat, b = (n : Int) := ⟨b.toNat, by omega⟩
    refine Go.Proofs.Ytgpkihnihmbomaa.Ra.apart_law m b A0 c0 l0.length _ w (by omega) (by omega) (tallyroomlaw23_RateApart.bytes hr0) (fun i hi => hb.2.2 _ ?_)
    unfold rd
    rw [Int.toNat_natCast, List.getD_eq_getElem?_getD, List.getElem?_eq_getElem hi]
    exact List.getElem_mem hi
  · rw [if_neg hb] at h; cases h

end Go.Proofs.Ytgpkihnihmbomaa.XRp
