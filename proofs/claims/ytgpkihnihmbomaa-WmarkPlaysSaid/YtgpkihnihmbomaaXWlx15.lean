-- Made by a program of this session (xprint.py), over the translation; Lean checks it.
import Derived.Test.YtgpkihnihmbomaaXWlx0
namespace Go.Proofs.Ytgpkihnihmbomaa.XWl
open Go.RowKit Go.Proofs.YtgpkihnihmbomaaW.PrintWords Go.Proofs.YtgpkihnihmbomaaW.PrintLast Go.Proofs.YtgpkihnihmbomaaW.PrintMore
attribute [local go_sem] max2_int min2_int max_two min_two max_three min_three max_four min_four   -- for this text's walks alone
set_option linter.unusedVariables false
set_option linter.unusedSimpArgs false

/-! ### tallyroomlaw13_WmarkPlays: function 11 -/
theorem tallyroomlaw13_WmarkPlays.acts {w : World} {A0 : Option Addr} {l0 : List S80} (hr0 : Kd.C k80 w A0 l0.length l0) : Go.Proofs.Ytgpkihnihmbomaa.Wm.Acts w A0 l0.length (fun i => (rd_T80 l0 (i : Int)).f0) (fun i => (rd_T80 l0 (i : Int)).f1) := by
  intro W hb i hi
  have := at_T80 (Kd.C_below hr0 hb) (i : Int) (by omega) (by omega)
  rwa [Int.toNat_natCast] at this
def tallyroomlaw13_WmarkPlays.f (x lt d : Int) (l0 : List S80) : Option Bool := if 0 ≤ lt ∧ 0 ≤ d ∧ (∀ p ∈ l0, 0 ≤ p.f1 ∧ p.f1 < 18446744073709551616) then some true else none
theorem tallyroomlaw13_WmarkPlays.calls (x lt d : Int) (A0 : Option Addr) (c0 : Nat) (l0 : List S80) (r : Bool) (w : World) (hr0 : Kd.C k80 w A0 l0.length l0) (_hc0 : l0.length ≤ c0) (h : tallyroomlaw13_WmarkPlays.f x lt d l0 = some r) :
    Calls Try.prog 11 #[.int .i64 x, .int .u64 lt, .int .u64 d, .slice A0 l0.length c0] w fun y w' => y = .returned (.bool r) ∧ Below w.heap.size w w' := by
  unfold tallyroomlaw13_WmarkPlays.f at h
  by_cases hb : 0 ≤ lt ∧ 0 ≤ d ∧ (∀ p ∈ l0, 0 ≤ p.f1 ∧ p.f1 < 18446744073709551616)
  · rw [if_pos hb] at h
    obtain rfl := Option.some.inj h
    by_cases h40 : 40 < l0.length
    · exact Go.Proofs.Ytgpkihnihmbomaa.Wm.plays_far x lt d A0 c0 l0.length w h40
    · by_cases hbad : x < 1 ∨ 16 < x ∨ 4611686018427387904 < lt ∨ 4611686018427387904 < d
      · exact Go.Proofs.Ytgpkihnihmbomaa.Wm.plays_bad x lt d A0 c0 l0.length w (by omega) hbad
      · obtain ⟨x, rfl⟩ : ∃ n : Nat, x = (n : Int) := ⟨x.toNat, by omega⟩
        obtain ⟨lt, rfl⟩ : ∃ n : Nat, lt = (n : Int) := ⟨lt.toNat, by omega⟩
        obtain ⟨d, rfl⟩ : ∃ n : Nat, d = (n : Int) := ⟨d.toNat, by omega⟩
        refine Go.Proofs.Ytgpkihnihmbomaa.Wm.plays_law x lt d A0 c0 l0.length _ _ w (by omega) (by omega) (by omega) (by omega) (tallyroomlaw13_WmarkPlays.acts hr0) (fun i hi => hb.2.2 _ ?_)
        unfold rd_T80
        rw [Int.toNat_natCast, List.getD_eq_getElem?_getD, List.getElem?_eq_getElem hi]
        exact List.getElem_mem hi
  · rw [if_neg hb] at h; cases h

end Go.Proofs.Ytgpkihnihmbomaa.XWl
