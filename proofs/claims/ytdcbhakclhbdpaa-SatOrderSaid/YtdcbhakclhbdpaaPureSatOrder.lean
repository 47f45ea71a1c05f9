/- SatOrder: whatever the order in which numbers are added, the count is the same, never falls, and is right. No conditions. -/
import Derived.Test.YtdcbhakclhbdpaaPSatOrderx3
import Derived.Test.YtdcbhakclhbdpaaPlain
import Derived.IntWalk
namespace Go.Proofs.Ytdcbhakclhbdpaa.Pure
open Go.RowKit Go.Proofs.Ytdcbhakclhbdpaa.PSatOrder Go.Proofs.YtdcbhakclhbdpaaW.PrintWords Go.Proofs.YtdcbhakclhbdpaaW.PrintLast
open Go.Proofs.Ytdcbhakclhbdpaa.Plain

namespace SatOrderP
/-- The count of a sum. -/
def stN (s : Int) : Int := if s > 9223372036854775807 then 9223372036854775807 else s
def stF (s : Int) : Bool := decide (s > 9223372036854775807)
theorem u64_wf {x : Int} (h : (Lit.int .u64 x).wf = true) : 0 ≤ x ∧ x ≤ 18446744073709551615 := by
  simpa [Lit.wf, IntKind.min, IntKind.max, IntKind.signed, IntKind.bits] using h
theorem u8_wf {x : Int} (h : (Lit.int .u8 x).wf = true) : 0 ≤ x ∧ x ≤ 255 := by
  simpa [Lit.wf, IntKind.min, IntKind.max, IntKind.signed, IntKind.bits] using h

theorem add_st (s m : Int) (h0 : 0 ≤ s) (h1 : 0 ≤ m) (h2 : m ≤ 18446744073709551615) :
    sat_Count_Add.f (stN s) (stF s) m = some (stN (s + m), stF (s + m)) := by
  unfold sat_Count_Add.f sat_full.f stN stF
  simp only [Option.bind_some]
  by_cases hs : s > 9223372036854775807
  · simp [hs, show s + m > 9223372036854775807 by omega]
  · simp only [hs, decide_false, if_false]
    by_cases hm : m > 9223372036854775807
    · simp [hm, show s + m > 9223372036854775807 by omega]
    · rw [IntWalk.u64_in (9223372036854775807 - m) (by omega), IntWalk.u64_in (s + m) (by omega)]
      by_cases ht : s > 9223372036854775807 - m
      · simp [hm, ht, show s + m > 9223372036854775807 by omega]
      · simp [hm, ht, show ¬ s + m > 9223372036854775807 by omega]

theorem right_st (s : Int) : sat_Count_Right.f (stN s) (stF s) = some true := by
  unfold sat_Count_Right.f stN stF
  by_cases hs : s > 9223372036854775807
  · simp [hs]
  · simp [hs]

theorem alive_ok {k : Nat} (hk : 3 ≤ k) : tallyroomlaw10_alive.f k = some true := by
  refine at_rounds (g := fun k => tallyroomlaw10_alive.f k) (fun k => tallyroomlaw10_alive.mono k) hk ?_
  decide +kernel

/-- The sum of the first i, and of the first i in the turned order. -/
def S (l : List Int) (i : Nat) : Int := isum (l.take i)
def T (l : List Int) (b i : Nat) : Int := isum ((List.range i).map fun j => l.getD (turn l.length b j) 0)

theorem S_succ (l : List Int) {i : Nat} (h : i < l.length) : S l (i + 1) = S l i + l.getD i 0 := by
  unfold S; rw [take_succ_getD l h, isum_append]; simp [isum_cons, isum_nil]
theorem T_succ (l : List Int) (b i : Nat) : T l b (i + 1) = T l b i + l.getD (turn l.length b i) 0 := by
  unfold T; rw [List.range_succ, List.map_append, isum_append]; simp [isum_cons, isum_nil]
theorem S_all (l : List Int) : S l l.length = isum l := by unfold S; rw [List.take_length]
theorem T_all (l : List Int) (b : Nat) : T l b l.length = isum l := by
  unfold T
  have h := (turn_perm l.length b).map (fun i => l.getD i 0)
  rw [List.map_map] at h
  rw [show (fun j => l.getD (turn l.length b j) 0) = (fun i => l.getD i 0) ∘ turn l.length b from rfl, isum_perm h, map_getD_range]
theorem S_nonneg (l : List Int) (hw : ∀ x ∈ l, 0 ≤ x) (i : Nat) : 0 ≤ S l i := isum_nonneg fun x hx => hw x (List.mem_of_mem_take hx)
theorem T_nonneg (l : List Int) (hw : ∀ x ∈ l, 0 ≤ x) (b i : Nat) (hi : i ≤ l.length) : 0 ≤ T l b i := by
  refine isum_nonneg fun x hx => ?_
  obtain ⟨j, hj, rfl⟩ := List.mem_map.1 hx
  exact hw _ (getD_mem (turn_lt (by have := List.mem_range.1 hj; omega)))

theorem idx (n b i : Nat) (hi : i < n) (hn : n ≤ 200) (hb : b ≤ 255) :
    Int.tmod (wrap64 (wrap64 (wrap64 ((n : Int) - 1) - (i : Int)) + wrap64 (b : Int))) (n : Int) = (turn n b i : Int) := by
  rw [IntWalk.wrap64_in ((n : Int) - 1) (by omega), IntWalk.wrap64_in ((n : Int) - 1 - i) (by omega), IntWalk.wrap64_in (b : Int) (by omega), IntWalk.wrap64_in ((n : Int) - 1 - i + b) (by omega)]
  rw [show (n : Int) - 1 - i + b = ((n - 1 - i + b : Nat) : Int) by omega, Int.tmod_eq_emod_of_nonneg (by omega)]
  unfold turn
  omega

theorem loop (l : List Int) (b : Nat) (hl : l.length ≤ 200) (hb : b ≤ 255) (hw : ∀ x ∈ l, 0 ≤ x ∧ x ≤ 18446744073709551615) (d : Nat) :
    ∀ (i k : Nat), i + d = l.length → d < k →
    tallyroomlaw10_SatOrder.l0 k l (b : Int) (i : Int) (stN (S l i)) (stF (S l i)) (stN (T l b i)) (stF (T l b i)) = some true := by
  induction d with
  | zero =>
    intro i k hi hk
    obtain ⟨k, rfl⟩ : ∃ m, k = m + 1 := ⟨k - 1, by omega⟩
    simp only [tallyroomlaw10_SatOrder.l0]
    rw [if_neg (by omega)]
    have hi' : i = l.length := by omega
    subst hi'
    rw [S_all, T_all]
    simp
  | succ d ih =>
    intro i k hi hk
    obtain ⟨k, rfl⟩ : ∃ m, k = m + 1 := ⟨k - 1, by omega⟩
    have hlt : i < l.length := by omega
    have h1 := hw _ (getD_mem hlt)
    have h2 := hw _ (getD_mem (turn_lt (b := b) hlt))
    have hS0 := S_nonneg l (fun x hx => (hw x hx).1) i
    have hT0 := T_nonneg l (fun x hx => (hw x hx).1) b i (by omega)
    have e1 : rd l (i : Int) = l.getD i 0 := by simp [rd]
    have e2 : rd l (turn l.length b i : Int) = l.getD (turn l.length b i) 0 := by simp [rd]
    have htl := turn_lt (b := b) hlt
    simp only [tallyroomlaw10_SatOrder.l0]
    rw [if_pos (by omega), if_pos (by omega), e1, add_st _ _ hS0 h1.1 h1.2]
    simp only [Option.bind_some]
    rw [idx _ b i hlt hl hb, if_neg (by omega), if_pos (by omega), if_pos (by omega), e2, add_st _ _ hT0 h2.1 h2.2]
    simp only [Option.bind_some]
    rw [← S_succ l hlt, ← T_succ l b i]
    have hr := right_st (S l (i + 1))
    have hle : S l i ≤ S l (i + 1) := by rw [S_succ l hlt]; omega
    have hn : ¬ stN (S l (i + 1)) < stN (S l i) := by unfold stN; repeat' split <;> omega
    have hf : stF (S l i) = true → stF (S l (i + 1)) = true := by unfold stF; simp only [decide_eq_true_eq]; omega
    have hgo := ih (i + 1) k (by omega) (by omega)
    have hwr : wrap64 ((i : Int) + 1) = ((i + 1 : Nat) : Int) := by rw [IntWalk.wrap64_in _ (by omega)]; omega
    rw [if_neg hn, hr, hwr]
    simp only [Option.bind_some, if_true]
    rw [hgo]
    by_cases hF : stF (S l i) = true
    · rw [if_pos hF, if_pos (hf hF)]
    · rw [if_neg hF]
end SatOrderP

open SatOrderP in
theorem SatOrder : tallyroomlaw10_SatOrder.Pure := by
  intro l a _ _ hl ha
  have ha := u8_wf ha
  refine ⟨l.length + 3, ?_⟩
  unfold tallyroomlaw10_SatOrder.f
  rw [alive_ok (by omega)]
  simp only [Option.bind_some, if_true]
  by_cases h : (l.length : Int) > 200
  · rw [if_pos h]
  · rw [if_neg h]
    obtain ⟨b, rfl⟩ := Int.eq_ofNat_of_zero_le ha.1
    have := loop l b (by omega) (by omega) (fun x hx => u64_wf (hl x hx)) l.length 0 (l.length + 3) (by omega) (by omega)
    simpa [S, T, stN, stF, isum] using this

end Go.Proofs.Ytdcbhakclhbdpaa.Pure
