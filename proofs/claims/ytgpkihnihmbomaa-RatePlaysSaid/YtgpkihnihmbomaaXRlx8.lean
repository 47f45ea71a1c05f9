-- Made by a program of this session (xprint.py), over the translation; Lean checks it.
import Derived.Test.YtgpkihnihmbomaaXRlx0
namespace Go.Proofs.Ytgpkihnihmbomaa.XRl
open Go.RowKit Go.Proofs.YtgpkihnihmbomaaW.PrintWords Go.Proofs.YtgpkihnihmbomaaW.PrintLast Go.Proofs.YtgpkihnihmbomaaW.PrintMore
attribute [local go_sem] max2_int min2_int max_two min_two max_three min_three max_four min_four   -- for this text's walks alone
set_option linter.unusedVariables false
set_option linter.unusedSimpArgs false

/-! ### tallyroomlaw23_RatePlays: function 4 -/
theorem tallyroomlaw23_RatePlays.acts {w : World} {A0 : Option Addr} {l0 : List S33} (hr0 : Kd.C k33 w A0 l0.length l0) : Go.Proofs.Ytgpkihnihmbomaa.Wm.Acts w A0 l0.length (fun i => (rd_T33 l0 (i : Int)).f0) (fun i => (rd_T33 l0 (i : Int)).f1) := by
  intro W hb i hi
  have := at_T33 (Kd.C_below hr0 hb) (i : Int) (by omega) (by omega)
  rwa [Int.toNat_natCast] at this
def tallyroomlaw23_RatePlays.f (x : Int) (l0 : List S33) : Option Bool := if (∀ p ∈ l0, 0 ≤ p.f1 ∧ p.f1 < 18446744073709551616) then some true else none
theorem tallyroomlaw23_RatePlays.calls (x : Int) (A0 : Option Addr) (c0 : Nat) (l0 : List S33) (r : Bool) (w : World) (hr0 : Kd.C k33 w A0 l0.length l0) (_hc0 : l0.length ≤ c0) (h : tallyroomlaw23_RatePlays.f x l0 = some r) :
    Calls Try.prog 4 #[.int .i64 x, .slice A0 l0.length c0] w fun y w' => y = .returned (.bool r) ∧ Below w.heap.size w w' := by
  unfold tallyroomlaw23_RatePlays.f at h
  by_cases hb : (∀ p ∈ l0, 0 ≤ p.f1 ∧ p.f1 < 18446744073709551616)
  · rw [if_pos hb] at h
    obtain rfl := Option.some.inj h
    by_cases h100 : 100 < l0.length
    · exact Go.Proofs.Ytgpkihnihmbomaa.Ra.plays_far x A0 c0 l0.length w h100
    · by_cases hbad : x < 0 ∨ 65536 < x
      · exact Go.Proofs.Ytgpkihnihmbomaa.Ra.plays_bad x A0 c0 l0.length _ _ w hbad (by omega) (tallyroomlaw23_RatePlays.acts hr0)
      · obtain ⟨x, rfl⟩ : ∃ n : Nat, x = (n : Int) := ⟨x.toNat, by omega⟩
        refine Go.Proofs.Ytgpkihnihmbomaa.Ra.plays_law x A0 c0 l0.length _ _ w (by omega) (by omega) (tallyroomlaw23_RatePlays.acts hr0) (fun i hi => hb _ ?_)
        unfold rd_T33
        rw [Int.toNat_natCast, List.getD_eq_getElem?_getD, List.getElem?_eq_getElem hi]
        exact List.getElem_mem hi
  · rw [if_neg hb] at h; cases h

end Go.Proofs.Ytgpkihnihmbomaa.XRl
