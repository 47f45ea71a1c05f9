/- SatSums: the sum of any numbers, one by one and joined. No conditions. -/
import Derived.Test.YtdcbhakclhbdpaaXSx3
import Derived.Test.YtdcbhakclhbdpaaPlain
import Derived.IntWalk
namespace Go.Proofs.Ytdcbhakclhbdpaa.Pure
open Go.RowKit Go.Proofs.Ytdcbhakclhbdpaa.XS Go.Proofs.YtdcbhakclhbdpaaW.PrintWords Go.Proofs.YtdcbhakclhbdpaaW.PrintLast
open Go.Proofs.Ytdcbhakclhbdpaa.Plain

namespace SatSumsP
theorem u64_wf {x : Int} (h : (Lit.int .u64 x).wf = true) : 0 ≤ x ∧ x ≤ 18446744073709551615 := by
  simpa [Lit.wf, IntKind.min, IntKind.max, IntKind.signed, IntKind.bits] using h
theorem u8_wf {x : Int} (h : (Lit.int .u8 x).wf = true) : 0 ≤ x ∧ x ≤ 255 := by
  simpa [Lit.wf, IntKind.min, IntKind.max, IntKind.signed, IntKind.bits] using h
theorem alive_ok {k : Nat} (hk : 3 ≤ k) : tallyroomlaw10_alive.f k = some true := by
  refine at_rounds (g := fun k => tallyroomlaw10_alive.f k) (fun k => tallyroomlaw10_alive.mono k) hk ?_
  decide +kernel
/-- A true sum as a count. -/
def val (s : Int) : Int × Bool := if s ≤ 9223372036854775807 then (s, false) else (9223372036854775807, true)
theorem val_low {s : Int} (h : s ≤ 9223372036854775807) : val s = (s, false) := if_pos h
theorem val_high {s : Int} (h : ¬ s ≤ 9223372036854775807) : val s = (9223372036854775807, true) := if_neg h
theorem add_val (s m : Int) (h0 : 0 ≤ s) (h1 : 0 ≤ m) (hm : m ≤ 18446744073709551615) : sat_Count_Add.f (val s).1 (val s).2 m = some (val (s + m)) := by
  unfold sat_Count_Add.f sat_full.f
  by_cases h : s ≤ 9223372036854775807
  · rw [val_low h]
    by_cases h2 : m > 9223372036854775807
    · rw [if_neg (by simp), if_pos h2, val_high (show ¬ s + m ≤ 9223372036854775807 by omega)]; rfl
    · rw [if_neg (by simp), if_neg h2, IntWalk.u64_in (9223372036854775807 - m) (by omega)]
      by_cases h3 : s > 9223372036854775807 - m
      · rw [if_pos h3, val_high (show ¬ s + m ≤ 9223372036854775807 by omega)]; rfl
      · rw [if_neg h3, val_low (show s + m ≤ 9223372036854775807 by omega), IntWalk.u64_in _ (by show 0 ≤ s + m ∧ s + m ≤ _; omega)]
  · rw [val_high h, val_high (show ¬ s + m ≤ 9223372036854775807 by omega), if_pos rfl]; rfl
theorem rd_nat (l : List Int) (i : Nat) : rd l (i : Int) = l.getD i 0 := by simp [rd]
theorem drop_one (l : List Int) {i : Nat} (h : i < l.length) : l.drop i = l.getD i 0 :: l.drop (i + 1) := by
  rw [List.drop_eq_getElem_cons h, List.getD_eq_getElem?_getD, List.getElem?_eq_getElem h]; rfl
theorem sum_loop (l : List Int) (hl : l.length ≤ 200) (hw : ∀ x ∈ l, 0 ≤ x ∧ x ≤ 18446744073709551615) (d : Nat) : ∀ (i k : Nat) (s : Int), i + d = l.length → d < k → 0 ≤ s →
    sat_Sum.l0 k l (l.length : Int) (i : Int) (val s).1 (val s).2 = some (val (s + isum (l.drop i))) := by
  induction d with
  | zero =>
    intro i k s hi hk h0
    obtain ⟨k, rfl⟩ : ∃ m, k = m + 1 := ⟨k - 1, by omega⟩
    rw [sat_Sum.l0, if_neg (by omega), List.drop_of_length_le (by omega), isum_nil, Int.add_zero]
  | succ d ih =>
    intro i k s hi hk h0
    obtain ⟨k, rfl⟩ : ∃ m, k = m + 1 := ⟨k - 1, by omega⟩
    have hlt : i < l.length := by omega
    have h2 := hw _ (getD_mem hlt)
    rw [sat_Sum.l0, if_pos (by omega), if_pos (by omega), if_pos (by omega), rd_nat, add_val s _ h0 h2.1 h2.2, Option.bind_some, IntWalk.wrap64_in _ (by omega), show (i : Int) + 1 = ((i + 1 : Nat) : Int) by omega, ih (i + 1) k _ (by omega) (by omega) (by omega), drop_one l hlt, isum_cons, Int.add_assoc]
theorem sum_eq (l : List Int) (hl : l.length ≤ 200) (hw : ∀ x ∈ l, 0 ≤ x ∧ x ≤ 18446744073709551615) (k : Nat) (hk : l.length < k) : sat_Sum.f k l = some (val (isum l)) := by
  have := sum_loop l hl hw l.length 0 k 0 (by omega) hk (by omega)
  rw [val_low (by omega), List.drop_zero, Int.zero_add] at this
  exact this
theorem ref_loop (l : List Int) (hl : l.length ≤ 200) (hw : ∀ x ∈ l, 0 ≤ x ∧ x ≤ 18446744073709551615) (d : Nat) : ∀ (i k : Nat) (hi lo : Int), i + d = l.length → d < k → 0 ≤ hi → hi ≤ i → 0 ≤ lo → lo ≤ 18446744073709551615 →
    tallyroomref10_Sum.l0 k l hi lo (i : Int) = some (val (hi * 18446744073709551616 + lo + isum (l.drop i))) := by
  induction d with
  | zero =>
    intro i k hi lo e hk h0 h1 h2 h3
    obtain ⟨k, rfl⟩ : ∃ m, k = m + 1 := ⟨k - 1, by omega⟩
    rw [tallyroomref10_Sum.l0, if_neg (by omega), List.drop_of_length_le (by omega), isum_nil, Int.add_zero]
    by_cases c : hi > 0
    · rw [if_pos c, val_high (by omega)]
    · rw [if_neg c]
      by_cases c2 : lo > 9223372036854775807
      · rw [if_pos c2, val_high (by omega)]
      · rw [if_neg c2, val_low (by omega), show hi * 18446744073709551616 + lo = lo by omega]
  | succ d ih =>
    intro i k hi lo e hk h0 h1 h2 h3
    obtain ⟨k, rfl⟩ : ∃ m, k = m + 1 := ⟨k - 1, by omega⟩
    have hlt : i < l.length := by omega
    have h4 := hw _ (getD_mem hlt)
    rw [tallyroomref10_Sum.l0, if_pos (by omega), if_pos (by omega), if_pos h2, rd_nat, if_pos h4.1, drop_one l hlt, isum_cons, IntWalk.wrap64_in _ (by omega), show (i : Int) + 1 = ((i + 1 : Nat) : Int) by omega]
    generalize l.getD i 0 = x at h4 ⊢
    rw [IntWalk.u64_in (hi + (lo + x) / 18446744073709551616) (by omega), ih (i + 1) k _ _ (by omega) (by omega) (by omega) (by omega) (by omega) (by omega)]
    congr 2
    omega
theorem ref_eq (l : List Int) (hl : l.length ≤ 200) (hw : ∀ x ∈ l, 0 ≤ x ∧ x ≤ 18446744073709551615) (k : Nat) (hk : l.length < k) : tallyroomref10_Sum.f k l = some (val (isum l)) := by
  have := ref_loop l hl hw l.length 0 k 0 0 (by omega) hk (by omega) (by omega) (by omega) (by omega)
  rw [List.drop_zero, show (0 : Int) * 18446744073709551616 + 0 + isum l = isum l by omega] at this
  exact this
theorem join_val (s t : Int) (h0 : 0 ≤ s) (h1 : 0 ≤ t) : sat_Count_Join.f (val s).1 (val s).2 (val t).1 (val t).2 = some (val (s + t)) := by
  unfold sat_Count_Join.f
  by_cases h : t ≤ 9223372036854775807
  · rw [val_low h, if_neg (by simp)]
    simp only
    rw [add_val s t h0 h1 (by omega), Option.bind_some]
  · rw [val_high h, val_high (show ¬ s + t ≤ 9223372036854775807 by omega), if_pos rfl]; rfl
theorem right_val (s : Int) : sat_Count_Right.f (val s).1 (val s).2 = some true := by
  unfold sat_Count_Right.f
  by_cases h : s ≤ 9223372036854775807
  · rw [val_low h, if_pos h, if_neg (by simp)]
  · rw [val_high h]; decide +kernel
end SatSumsP

open SatSumsP in
theorem SatSums : tallyroomlaw10_SatSums.Pure := by
  intro l b _ _ hl hb
  have hb := u8_wf hb
  obtain ⟨b, rfl⟩ := Int.eq_ofNat_of_zero_le hb.1
  have hw : ∀ x ∈ l, 0 ≤ x ∧ x ≤ 18446744073709551615 := fun x hx => u64_wf (hl x hx)
  refine ⟨l.length + 10, ?_⟩
  unfold tallyroomlaw10_SatSums.f
  rw [alive_ok (by omega), Option.bind_some, if_pos rfl]
  by_cases h : (l.length : Int) > 200
  · rw [if_pos h]
  · rw [if_neg h, ref_eq l (by omega) hw _ (by omega), Option.bind_some, sum_eq l (by omega) hw _ (by omega), Option.bind_some]
    have e1 : Int.tmod (wrap64 (b : Int)) (wrap64 ((l.length : Int) + 1)) = ((b % (l.length + 1) : Nat) : Int) := by
      rw [IntWalk.wrap64_in (b : Int) (by omega), IntWalk.wrap64_in ((l.length : Int) + 1) (by omega), Int.tmod_eq_emod_of_nonneg (by omega)]; exact (Int.natCast_emod b (l.length + 1)).symm
    have hj := Nat.mod_lt b (Nat.succ_pos l.length)
    rw [show l.length.succ = l.length + 1 from rfl] at hj
    rw [e1, IntWalk.wrap64_in ((l.length : Int) + 1) (by omega)]
    clear e1
    generalize b % (l.length + 1) = j at hj ⊢
    rw [if_neg (by omega), if_pos (by omega), if_pos (by omega), Int.toNat_natCast]
    have hs := isum_append (l.take j) (l.drop j)
    rw [List.take_append_drop] at hs
    have n1 : 0 ≤ isum (l.take j) := isum_nonneg fun x hx => (hw x (List.mem_of_mem_take hx)).1
    have n2 : 0 ≤ isum (l.drop j) := isum_nonneg fun x hx => (hw x (List.mem_of_mem_drop hx)).1
    rw [sum_eq (l.take j) (by rw [List.length_take]; omega) (fun x hx => hw x (List.mem_of_mem_take hx)) _ (by rw [List.length_take]; omega), Option.bind_some]
    rw [sum_eq (l.drop j) (by rw [List.length_drop]; omega) (fun x hx => hw x (List.mem_of_mem_drop hx)) _ (by rw [List.length_drop]; omega), Option.bind_some]
    rw [join_val _ _ n1 n2, Option.bind_some, ← hs, if_pos rfl, if_pos (by simp), if_pos (by simp), right_val]
    rfl
end Go.Proofs.Ytdcbhakclhbdpaa.Pure
