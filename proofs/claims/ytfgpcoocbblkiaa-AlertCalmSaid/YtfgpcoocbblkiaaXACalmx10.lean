-- Made by a program of this session (xprint.py), over the translation; Lean checks it.
import Derived.Test.YtfgpcoocbblkiaaXACalmx0
namespace Go.Proofs.Ytfgpcoocbblkiaa.XACalm
open Go.RowKit Go.Proofs.YtfgpcoocbblkiaaW.PrintWords Go.Proofs.YtfgpcoocbblkiaaW.PrintLast Go.Proofs.YtfgpcoocbblkiaaW.PrintMore
attribute [local go_sem] max2_int min2_int max_two min_two max_three min_three max_four min_four   -- for this text's walks alone
set_option linter.unusedVariables false
set_option linter.unusedSimpArgs false

/-! ### tallyroomlaw35_AlertCalm: function 9 -/
theorem tallyroomlaw35_AlertCalm.thins {w : World} {A0 : Option Addr} {l0 : List S69} (hr0 : Kd.C k69 w A0 l0.length l0) : Go.Proofs.Ytfgpcoocbblkiaa.At.Thins w A0 l0.length (fun i => (rd_T69 l0 (i : Int)).f0) (fun i => (rd_T69 l0 (i : Int)).f1) (fun i => (rd_T69 l0 (i : Int)).f2) := by
  intro W hb i hi
  have := at_T69 (Kd.C_below hr0 hb) (i : Int) (by omega) (by omega)
  rwa [Int.toNat_natCast] at this
def tallyroomlaw35_AlertCalm.f (nm : ByteArray) (lim fo ca : Int) (l0 : List S69) : Option Bool := if (∀ p ∈ l0, 0 ≤ p.f1 ∧ 0 ≤ p.f2) then some true else none
theorem tallyroomlaw35_AlertCalm.calls (nm : ByteArray) (lim fo ca : Int) (A0 : Option Addr) (c0 : Nat) (l0 : List S69) (r : Bool) (w : World) (hr0 : Kd.C k69 w A0 l0.length l0) (_hc0 : l0.length ≤ c0) (h : tallyroomlaw35_AlertCalm.f nm lim fo ca l0 = some r) :
    Calls Try.prog 9 #[.agg #[.string nm, .int .i64 lim, .int .i64 fo, .int .i64 ca], .slice A0 l0.length c0] w fun y w' => y = .returned (.bool r) ∧ Below w.heap.size w w' := by
  unfold tallyroomlaw35_AlertCalm.f at h
  by_cases hb : (∀ p ∈ l0, 0 ≤ p.f1 ∧ 0 ≤ p.f2)
  · rw [if_pos hb] at h
    obtain rfl := Option.some.inj h
    by_cases h60 : 60 < l0.length
    · exact Go.Proofs.Ytfgpcoocbblkiaa.At.calm_far nm lim fo ca A0 c0 l0.length w h60
    · by_cases hR : (0 ≤ lim ∧ lim ≤ 1000) ∧ (1 ≤ fo ∧ fo ≤ 1000) ∧ (1 ≤ ca ∧ ca ≤ 1000)
      · obtain ⟨lim, rfl⟩ : ∃ n : Nat, lim = (n : Int) := ⟨lim.toNat, by omega⟩
        obtain ⟨fo, rfl⟩ : ∃ n : Nat, fo = (n : Int) := ⟨fo.toNat, by omega⟩
        obtain ⟨ca, rfl⟩ : ∃ n : Nat, ca = (n : Int) := ⟨ca.toNat, by omega⟩
        have hq : ∀ i, i < l0.length → 0 ≤ (rd_T69 l0 (i : Int)).f1 ∧ 0 ≤ (rd_T69 l0 (i : Int)).f2 := fun i hi => by
          refine hb _ ?_
          unfold rd_T69
          rw [Int.toNat_natCast, List.getD_eq_getElem?_getD, List.getElem?_eq_getElem hi]
          exact List.getElem_mem hi
        exact Go.Proofs.Ytfgpcoocbblkiaa.At.calm_law nm lim fo ca A0 c0 l0.length _ _ _ w (by omega) (by omega) (by omega) (by omega) (tallyroomlaw35_AlertCalm.thins hr0) hq
      · exact Go.Proofs.Ytfgpcoocbblkiaa.At.calm_wrong nm lim fo ca A0 c0 l0.length w (by omega) hR
  · rw [if_neg hb] at h; cases h

end Go.Proofs.Ytfgpcoocbblkiaa.XACalm
