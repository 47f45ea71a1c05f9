/- SatRight: which counts are right, and that joined they stay so. No conditions. -/
import Derived.Test.YtdcbhakclhbdpaaXRx3
import Derived.IntWalk
namespace Go.Proofs.Ytdcbhakclhbdpaa.Pure
open Go.RowKit Go.Proofs.Ytdcbhakclhbdpaa.XR Go.Proofs.YtdcbhakclhbdpaaW.PrintWords Go.Proofs.YtdcbhakclhbdpaaW.PrintLast

namespace SatRightP
theorem u64_wf {x : Int} (h : (Lit.int .u64 x).wf = true) : 0 ≤ x ∧ x ≤ 18446744073709551615 := by
  simpa [Lit.wf, IntKind.min, IntKind.max, IntKind.signed, IntKind.bits] using h
theorem alive_ok {k : Nat} (hk : 3 ≤ k) : tallyroomlaw10_alive.f k = some true := by
  refine at_rounds (g := fun k => tallyroomlaw10_alive.f k) (fun k => tallyroomlaw10_alive.mono k) hk ?_
  decide +kernel
theorem right_no (n : Int) (a : Bool) (h : n > 9223372036854775807 ∨ (a = true ∧ n ≠ 9223372036854775807)) : sat_Count_Right.f n a = some false := by
  unfold sat_Count_Right.f
  rcases h with h | ⟨rfl, h⟩
  · rw [if_neg (by omega)]
  · by_cases h2 : n ≤ 9223372036854775807
    · rw [if_pos h2, if_pos rfl]; simp [h]
    · rw [if_neg h2]
theorem right_low (n : Int) (h : n ≤ 9223372036854775807) : sat_Count_Right.f n false = some true := by
  unfold sat_Count_Right.f
  rw [if_pos h, if_neg (by simp)]
theorem right_most : sat_Count_Right.f 9223372036854775807 true = some true := by decide +kernel
theorem join_b (n : Int) (a : Bool) (m : Int) : sat_Count_Join.f n a m true = some (9223372036854775807, true) := rfl
theorem join_a (n m : Int) (b : Bool) : sat_Count_Join.f n true m b = some (9223372036854775807, true) := by cases b <;> rfl
theorem join_low (n m : Int) (hn : 0 ≤ n) (hm : 0 ≤ m) (h : n + m ≤ 9223372036854775807) : sat_Count_Join.f n false m false = some (n + m, false) := by
  unfold sat_Count_Join.f sat_Count_Add.f
  rw [if_neg (by simp), if_neg (by simp), if_neg (by omega), IntWalk.u64_in (9223372036854775807 - m) (by omega), if_neg (by omega), IntWalk.u64_in (n + m) (by omega)]
  rfl
theorem join_high (n m : Int) (_ : 0 ≤ n) (hm : 0 ≤ m) (hm2 : m ≤ 9223372036854775807) (h : ¬ n + m ≤ 9223372036854775807) : sat_Count_Join.f n false m false = some (9223372036854775807, true) := by
  unfold sat_Count_Join.f sat_Count_Add.f
  rw [if_neg (by simp), if_neg (by simp), if_neg (by omega), IntWalk.u64_in (9223372036854775807 - m) (by omega), if_pos (by omega)]
  rfl
theorem j0_no (k : Nat) (n m x y : Int) (a b c d : Bool) (hr : sat_Count_Right.f n a = some false) : tallyroomlaw10_SatRight.j0 (k + 2) x y c d false n a m b = some true := by
  rw [tallyroomlaw10_SatRight.j0, if_neg (by simp), hr, Option.bind_some, if_neg (by simp), tallyroomlaw10_SatRight.j1, if_pos rfl]
theorem j0_d (k : Nat) (n m x y : Int) (a b c d : Bool) (hr : sat_Count_Right.f n a = some true) (hd : sat_Count_Right.f m b = some false) : tallyroomlaw10_SatRight.j0 (k + 2) x y c d false n a m b = some true := by
  rw [tallyroomlaw10_SatRight.j0, if_neg (by simp), hr, Option.bind_some, if_pos rfl, hd, Option.bind_some, tallyroomlaw10_SatRight.j1, if_pos (by rfl)]
theorem j0_both (k : Nat) (n m x : Int) (a b f : Bool) (hr : sat_Count_Right.f n a = some true) (hd : sat_Count_Right.f m b = some true)
    (hj : sat_Count_Join.f n a m b = some (x, f)) (hk : sat_Count_Join.f m b n a = some (x, f)) (hq : sat_Count_Right.f x f = some true)
    (hf : f = true ∧ x = 9223372036854775807 ∨ f = false ∧ a = false ∧ b = false ∧ x = IntKind.u64.wrap (n + m)) : tallyroomlaw10_SatRight.j0 (k + 2) n m a b false n a m b = some true := by
  rw [tallyroomlaw10_SatRight.j0, if_neg (by simp), hr, Option.bind_some, if_pos rfl, hd, Option.bind_some, tallyroomlaw10_SatRight.j1, if_neg (by simp), hj, Option.bind_some, hk, Option.bind_some]
  simp only
  rw [if_pos (by simp), hq, Option.bind_some, if_pos rfl]
  rcases hf with ⟨rfl, rfl⟩ | ⟨rfl, rfl, rfl, hx⟩
  · rw [if_pos rfl]; rfl
  · rw [if_neg (by simp), if_neg (by simp), if_neg (by simp), if_pos hx]
end SatRightP

open SatRightP in
theorem SatRight : tallyroomlaw10_SatRight.Pure := by
  intro n m a b hn hm
  have hn := u64_wf hn
  have hm := u64_wf hm
  refine ⟨10, ?_⟩
  unfold tallyroomlaw10_SatRight.f
  rw [alive_ok (by omega), Option.bind_some, if_pos rfl]
  by_cases h1 : n > 9223372036854775807
  · have r := right_no n a (.inl h1)
    rw [r, Option.bind_some, if_neg (by omega)]
    exact j0_no 8 n m n m a b a b r
  · by_cases h0 : a = true ∧ n ≠ 9223372036854775807
    · have r := right_no n a (.inr h0)
      obtain ⟨rfl, h0⟩ := h0
      rw [r, Option.bind_some, if_pos (by omega), if_pos rfl, show ((false : Bool) != (n == 9223372036854775807)) = false by simp [h0]]
      exact j0_no 8 n m n m true b true b r
    · have r : sat_Count_Right.f n a = some true := by
        cases a
        · exact right_low n (by omega)
        · have : n = 9223372036854775807 := by
            by_cases h : n = 9223372036854775807
            · exact h
            · exact absurd ⟨rfl, h⟩ h0
          subst this; exact right_most
      have key : tallyroomlaw10_SatRight.j0 (8 + 2) n m a b false n a m b = some true := by
        by_cases h2 : m > 9223372036854775807 ∨ (b = true ∧ m ≠ 9223372036854775807)
        · exact j0_d 8 n m n m a b a b r (right_no m b h2)
        · have hmm : m ≤ 9223372036854775807 := by
            by_cases h : m > 9223372036854775807
            · exact absurd (.inl h) h2
            · omega
          cases b
          · have s := right_low m hmm
            cases a
            · by_cases h5 : n + m ≤ 9223372036854775807
              · exact j0_both 8 n m (n + m) false false false r s (join_low n m hn.1 hm.1 h5) (by have := join_low m n hm.1 hn.1 (by omega); rwa [Int.add_comm m n] at this) (right_low _ h5) (.inr ⟨rfl, rfl, rfl, (IntWalk.u64_in _ (by omega)).symm⟩)
              · exact j0_both 8 n m 9223372036854775807 false false true r s (join_high n m hn.1 hm.1 hmm h5) (join_high m n hm.1 hn.1 (by omega) (by omega)) right_most (.inl ⟨rfl, rfl⟩)
            · exact j0_both 8 n m 9223372036854775807 true false true r s (join_a n m false) (join_b m false n) right_most (.inl ⟨rfl, rfl⟩)
          · have : m = 9223372036854775807 := by
              by_cases h : m = 9223372036854775807
              · exact h
              · exact absurd (.inr ⟨rfl, h⟩) h2
            subst this
            exact j0_both 8 n 9223372036854775807 9223372036854775807 a true true r right_most (join_b n a _) (join_a _ n a) right_most (.inl ⟨rfl, rfl⟩)
      rw [r, Option.bind_some, if_pos (by omega)]
      by_cases ha : a = true
      · subst ha
        have hnn : n = 9223372036854775807 := by
          by_cases h : n = 9223372036854775807
          · exact h
          · exact absurd ⟨rfl, h⟩ h0
        rw [if_pos rfl, show ((true : Bool) != (n == 9223372036854775807)) = false by simp [hnn]]
        exact key
      · rw [if_neg ha]
        exact key
end Go.Proofs.Ytdcbhakclhbdpaa.Pure
