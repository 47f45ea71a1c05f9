/- The document's histogram (tallyroomref11, tallyroomref10.Sum): plain. No conditions but bounds on lengths. -/
import Derived.Test.YtdcbhakclhbdpaaHp
import Derived.Test.YtdcbhakclhbdpaaXHx21
import Derived.Test.YtdcbhakclhbdpaaXHx22
import Derived.Test.YtdcbhakclhbdpaaXHx23
namespace Go.Proofs.Ytdcbhakclhbdpaa.Hi
open Go.RowKit Go.Shelf Go.Proofs.YtdcbhakclhbdpaaW.PrintWords Go.Proofs.YtdcbhakclhbdpaaW.PrintLast
open Go.Proofs.Ytdcbhakclhbdpaa.Ob Go.Proofs.Ytdcbhakclhbdpaa.XH
set_option linter.unusedSimpArgs false
set_option linter.unusedVariables false

theorem satS_cast (t : Nat) : (((satS t).1 : Int), (satS t).2) = if (t : Int) > 9223372036854775807 then (9223372036854775807, true) else ((t : Int), false) := by
  unfold satS
  have hm : most = 9223372036854775807 := rfl
  by_cases h : most < t
  · rw [if_pos h, if_pos (by rw [hm] at h; omega)]; rfl
  · rw [if_neg h, if_neg (by rw [hm] at h; omega)]
theorem drop_at (l : List Nat) (i : Nat) (h : i < l.length) : l.drop i = l.getD i 0 :: l.drop (i + 1) := by
  rw [List.drop_eq_getElem_cons h, getD_at l i h]
theorem sum_loop (l : List Nat) (hl : l.length ≤ 1000) (hw : ∀ x ∈ l, x < 18446744073709551616) : ∀ (d i k hi lo : Nat), i + d = l.length → d < k → hi ≤ i → lo < 18446744073709551616 →
    tallyroomref10_Sum.l0 k (ofN l) (hi : Int) (lo : Int) (i : Int) = some (((satS (hi * 18446744073709551616 + lo + (l.drop i).sum)).1 : Int), (satS (hi * 18446744073709551616 + lo + (l.drop i).sum)).2) := by
  intro d
  induction d with
  | zero =>
    intro i k hi lo e hk h1 h2
    obtain ⟨k, rfl⟩ : ∃ m, k = m + 1 := ⟨k - 1, by omega⟩
    rw [tallyroomref10_Sum.l0, if_neg (by rw [ofN_length]; omega), List.drop_eq_nil_of_le (by omega), List.sum_nil, Nat.add_zero, satS_cast]
    by_cases c : (hi : Int) > 0
    · rw [if_pos c, if_pos (by omega)]
    · rw [if_neg c]
      by_cases c2 : (lo : Int) > 9223372036854775807
      · rw [if_pos c2, if_pos (by omega)]
      · rw [if_neg c2, if_neg (by omega)]
        congr 2
        omega
  | succ d ih =>
    intro i k hi lo e hk h1 h2
    obtain ⟨k, rfl⟩ : ∃ m, k = m + 1 := ⟨k - 1, by omega⟩
    have hlt : i < l.length := by omega
    have h4 : l.getD i 0 < 18446744073709551616 := by rw [getD_at l i hlt]; exact hw _ (List.getElem_mem hlt)
    rw [tallyroomref10_Sum.l0, if_pos (by rw [ofN_length]; omega), if_pos (by omega), if_pos (by omega), rd_ofN, if_pos (by omega), drop_at l i hlt, List.sum_cons, IntWalk.wrap64_in _ (by omega), show (i : Int) + 1 = ((i + 1 : Nat) : Int) by omega]
    generalize l.getD i 0 = x at h4 ⊢
    rw [show ((lo : Int) + (x : Int)) / 18446744073709551616 = (((lo + x) / 18446744073709551616 : Nat) : Int) by omega, show ((lo : Int) + (x : Int)) % 18446744073709551616 = (((lo + x) % 18446744073709551616 : Nat) : Int) by omega, u64_in _ (by omega) (by omega), show ((hi : Int) + (((lo + x) / 18446744073709551616 : Nat) : Int)) = ((hi + (lo + x) / 18446744073709551616 : Nat) : Int) by omega, ih (i + 1) k _ _ (by omega) (by omega) (by omega) (by omega)]
    generalize (l.drop (i + 1)).sum = R
    rw [show (hi + (lo + x) / 18446744073709551616) * 18446744073709551616 + (lo + x) % 18446744073709551616 + R = hi * 18446744073709551616 + lo + (x + R) by omega]
theorem sum_f (l : List Nat) (hl : l.length ≤ 1000) (hw : ∀ x ∈ l, x < 18446744073709551616) (k : Nat) (hk : l.length < k) : tallyroomref10_Sum.f k (ofN l) = some (((satS l.sum).1 : Int), (satS l.sum).2) := by
  have := sum_loop l hl hw l.length 0 k 0 0 (by omega) hk (by omega) (by omega)
  rw [List.drop_zero, show 0 * 18446744073709551616 + 0 + l.sum = l.sum by omega] at this
  exact this
theorem rbk_loop (bs : List Nat) (x : Nat) (hl : bs.length ≤ 1000) : ∀ (d i k : Nat), i + d = bs.length → d < k → tallyroomref11_Bucket.l0 k (ofN bs) (x : Int) ((bkI bs x i : Nat) : Int) (i : Int) = some ((bk bs x : Nat) : Int) := by
  intro d
  induction d with
  | zero =>
    intro i k hi hk
    obtain ⟨k, rfl⟩ : ∃ m, k = m + 1 := ⟨k - 1, by omega⟩
    rw [tallyroomref11_Bucket.l0, if_neg (by rw [ofN_length]; omega), show i = bs.length by omega, bkI_all]
  | succ d ih =>
    intro i k hi hk
    obtain ⟨k, rfl⟩ : ∃ m, k = m + 1 := ⟨k - 1, by omega⟩
    have hlt : i < bs.length := by omega
    have hle := bkI_le bs x i
    have hnx := bkI_next bs x i hlt
    have hj := ih (i + 1) k (by omega) (by omega)
    rw [tallyroomref11_Bucket.l0, if_pos (by rw [ofN_length]; omega), if_pos (by omega), rd_ofN, show wrap64 ((i : Int) + 1) = ((i + 1 : Nat) : Int) by rw [IntWalk.wrap64_in _ (by omega)]; omega]
    by_cases h : bs.getD i 0 < x
    · rw [if_pos (by omega), show wrap64 (((bkI bs x i : Nat) : Int) + 1) = ((bkI bs x i + 1 : Nat) : Int) by rw [IntWalk.wrap64_in _ (by omega)]; omega]
      rw [if_pos h] at hnx
      rw [← hnx]; exact hj
    · rw [if_neg (by omega)]
      have hnx2 : bkI bs x (i + 1) = bkI bs x i := by rw [hnx, if_neg h]; rfl
      rw [← hnx2]; exact hj
theorem rbk_f (bs : List Nat) (x : Nat) (hl : bs.length ≤ 1000) (k : Nat) (hk : bs.length < k) : tallyroomref11_Bucket.f k (ofN bs) (x : Int) = some ((bk bs x : Nat) : Int) := by
  have := rbk_loop bs x hl bs.length 0 k (by omega) hk
  have e : bkI bs x 0 = 0 := by simp [bkI]
  rw [e] at this
  exact this
/-- How many are in each bucket, as numbers. -/
def cnts (bs l : List Nat) : List Nat := (List.range (bs.length + 1)).map fun i => l.countP fun x => decide (bk bs x = i)
theorem cnts_length (bs l : List Nat) : (cnts bs l).length = bs.length + 1 := by simp [cnts]
theorem cnts_get (bs l : List Nat) (i : Nat) (h : i < bs.length + 1) : (cnts bs l)[i]? = some (l.countP fun x => decide (bk bs x = i)) := by
  unfold cnts
  rw [List.getElem?_map, List.getElem?_range h]; rfl
theorem cnts_getD (bs l : List Nat) (i : Nat) (h : i < bs.length + 1) : (cnts bs l).getD i 0 = l.countP fun x => decide (bk bs x = i) := by
  rw [List.getD_eq_getElem?_getD, cnts_get bs l i h]; rfl
theorem cnts_put (bs l : List Nat) (x : Nat) : (cnts bs l).set (bk bs x) ((cnts bs l).getD (bk bs x) 0 + 1) = cnts bs (l ++ [x]) := by
  have hx := bk_le bs x
  rw [cnts_getD bs l _ (by omega)]
  apply List.ext_getElem?
  intro i
  by_cases hi : i < bs.length + 1
  · rw [List.getElem?_set, cnts_get bs l i hi, cnts_get bs (l ++ [x]) i hi, List.countP_append]
    by_cases e : bk bs x = i
    · subst e
      rw [if_pos rfl, if_pos (by rw [cnts_length]; exact hi)]
      simp
    · rw [if_neg e]; simp [e]
  · rw [List.getElem?_eq_none (by rw [List.length_set, cnts_length]; omega), List.getElem?_eq_none (by rw [cnts_length]; omega)]
theorem ofN_set (l : List Nat) (i n : Nat) : (ofN l).set i (n : Int) = ofN (l.set i n) := by unfold ofN; rw [List.map_set]
theorem rhist_loop (bs l : List Nat) (hl : l.length ≤ 1000) (hb : bs.length ≤ 900) (hw : ∀ x ∈ l, x < 18446744073709551616) : ∀ (d i k : Nat), i + d = l.length → d + 1002 < k →
    tallyroomref11_Hist.l0 k (ofN bs) (ofN l) (ofN (cnts bs (l.take i))) (i : Int) = some (ofN (cnts bs l), ((satS l.sum).1 : Int), (satS l.sum).2) := by
  intro d
  induction d with
  | zero =>
    intro i k hi hk
    obtain ⟨k, rfl⟩ : ∃ m, k = m + 1 := ⟨k - 1, by omega⟩
    rw [tallyroomref11_Hist.l0, if_neg (by rw [ofN_length]; omega), sum_f l hl hw k (by omega), show i = l.length by omega, List.take_length]
    rfl
  | succ d ih =>
    intro i k hi hk
    obtain ⟨k, rfl⟩ : ∃ m, k = m + 1 := ⟨k - 1, by omega⟩
    have hlt : i < l.length := by omega
    have hx := bk_le bs (l.getD i 0)
    have hj := ih (i + 1) k (by omega) (by omega)
    have e1 : (cnts bs (l.take i)).getD (bk bs (l.getD i 0)) 0 ≤ 1000 := by
      rw [cnts_getD bs _ _ (by omega)]
      exact Nat.le_trans List.countP_le_length (by rw [List.length_take]; omega)
    rw [tallyroomref11_Hist.l0, if_pos (by rw [ofN_length]; omega), if_pos (by omega), rd_ofN, rbk_f bs _ (by omega) k (by omega), Option.bind_some, if_pos (by omega), if_pos (by rw [ofN_length, cnts_length]; omega), rd_ofN, u64_in _ (by omega) (by omega), Int.toNat_natCast, show wrap64 ((i : Int) + 1) = ((i + 1 : Nat) : Int) by rw [IntWalk.wrap64_in _ (by omega)]; omega]
    rw [show (((cnts bs (l.take i)).getD (bk bs (l.getD i 0)) 0 : Nat) : Int) + 1 = (((cnts bs (l.take i)).getD (bk bs (l.getD i 0)) 0 + 1 : Nat) : Int) by omega, ofN_set, cnts_put, show l.take i ++ [l.getD i 0] = l.take (i + 1) by rw [List.take_succ_eq_append_getElem hlt, getD_at l i hlt]]
    exact hj
theorem rhist_f (bs l : List Nat) (hl : l.length ≤ 1000) (hb : bs.length ≤ 900) (hw : ∀ x ∈ l, x < 18446744073709551616) : tallyroomref11_Hist.f 3000 (ofN bs) (ofN l) = some (ofN (cnts bs l), ((satS l.sum).1 : Int), (satS l.sum).2) := by
  unfold tallyroomref11_Hist.f
  rw [ofN_length, show wrap64 ((bs.length : Int) + 1) = ((bs.length + 1 : Nat) : Int) by rw [IntWalk.wrap64_in _ (by omega)]; omega, if_pos (by omega), Int.toNat_natCast, if_pos (by omega)]
  have e : List.replicate (bs.length + 1) (0 : Int) = ofN (cnts bs (l.take 0)) := by
    rw [List.take_zero]
    unfold ofN cnts
    apply List.ext_getElem?
    intro i
    by_cases hi : i < bs.length + 1
    · rw [List.getElem?_replicate, if_pos hi, List.getElem?_map, List.getElem?_map, List.getElem?_range hi]; rfl
    · rw [List.getElem?_eq_none (by simp; omega), List.getElem?_eq_none (by simp; omega)]
  rw [e]
  exact rhist_loop bs l hl hb hw l.length 0 3000 (by omega) (by omega)
theorem right_loop (bs : List Nat) (hl : bs.length ≤ 1000) : ∀ (d i k : Nat), 1 ≤ i → (i + d = bs.length ∨ (i = 1 ∧ d = 0 ∧ bs.length = 0)) → d < k → (∀ j, j + 1 < i → bs.getD j 0 < bs.getD (j + 1) 0) →
    tallyroomref11_Right.l0 k (ofN bs) (i : Int) = some (decide (okB bs)) := by
  intro d
  induction d with
  | zero =>
    intro i k h1 hi hk ha
    obtain ⟨k, rfl⟩ : ∃ m, k = m + 1 := ⟨k - 1, by omega⟩
    rw [tallyroomref11_Right.l0, if_neg (by rw [ofN_length]; omega), ofN_length]
    congr 1
    rw [decide_eq_decide]
    constructor
    · intro h
      exact ⟨by omega, fun j hj => ha j (by omega)⟩
    · intro h
      have := h.1; omega
  | succ d ih =>
    intro i k h1 hi hk ha
    obtain ⟨k, rfl⟩ : ∃ m, k = m + 1 := ⟨k - 1, by omega⟩
    have hlt : i < bs.length := by omega
    obtain ⟨j, rfl⟩ : ∃ j, i = j + 1 := ⟨i - 1, by omega⟩
    rw [tallyroomref11_Right.l0, if_pos (by rw [ofN_length]; omega), if_pos (by omega), show wrap64 (((j + 1 : Nat) : Int) - 1) = (j : Int) by rw [IntWalk.wrap64_in _ (by omega)]; omega, if_pos (by omega), if_pos (by rw [ofN_length]; omega), rd_ofN, rd_ofN, show wrap64 (((j + 1 : Nat) : Int) + 1) = ((j + 1 + 1 : Nat) : Int) by rw [IntWalk.wrap64_in _ (by omega)]; omega]
    by_cases h : bs.getD (j + 1) 0 ≤ bs.getD j 0
    · rw [if_pos (by omega)]
      congr 1
      symm
      rw [decide_eq_false_iff_not]
      intro hh
      have := hh.2 j hlt
      omega
    · rw [if_neg (by omega)]
      refine ih (j + 1 + 1) k (by omega) (by omega) (by omega) (fun q hq => ?_)
      by_cases e : q = j
      · subst e; omega
      · exact ha q (by omega)
theorem right_f (bs : List Nat) (hl : bs.length ≤ 1000) (k : Nat) (hk : bs.length < k) : tallyroomref11_Right.f k (ofN bs) = some (decide (okB bs)) := by
  unfold tallyroomref11_Right.f
  by_cases h : bs.length = 0
  · exact right_loop bs hl 0 1 k (by omega) (.inr ⟨rfl, rfl, h⟩) (by omega) (fun j hj => by omega)
  · exact right_loop bs hl (bs.length - 1) 1 k (by omega) (.inl (by omega)) (by omega) (fun j hj => by omega)
end Go.Proofs.Ytdcbhakclhbdpaa.Hi
