/- Within the bounds: plain. No conditions but bounds. -/
import Derived.Test.YtdcbhakclhbdpaaQw
namespace Go.Proofs.Ytdcbhakclhbdpaa.Qw
open Go.RowKit Go.Proofs.YtdcbhakclhbdpaaW.PrintWords Go.Proofs.YtdcbhakclhbdpaaW.PrintLast Go.Proofs.YtdcbhakclhbdpaaW.PrintMore
open Go.Proofs.Ytdcbhakclhbdpaa.Ob Go.Proofs.Ytdcbhakclhbdpaa.XH
open Go.Proofs.Ytdcbhakclhbdpaa.Hi (ofN ofN_length rd_ofN okB bnds getD_at below_of toS bounds_walk R_sl bucks bucks_length cnts cnts_length cnts_getD bk bk_le)
set_option linter.unusedSimpArgs false
set_option linter.unusedVariables false

theorem fd_spec (l : List Nat) : ∀ (r i : Nat), 1 ≤ r → r ≤ l.sum → ∃ x, fdN r i l = (i + x, 0) ∧ x < l.length ∧ (l.take x).sum < r ∧ r ≤ (l.take (x + 1)).sum := by
  induction l with
  | nil => intro r i h1 h2; simp at h2; omega
  | cons c l ih =>
    intro r i h1 h2
    rw [List.sum_cons] at h2
    by_cases h : r ≤ c
    · exact ⟨0, by rw [fdN, if_pos h]; rfl, by simp, by simp; omega, by simp; omega⟩
    · obtain ⟨x, e, h3, h4, h5⟩ := ih (r - c) (i + 1) (by omega) (by omega)
      refine ⟨x + 1, by rw [fdN, if_neg h, e, show i + 1 + x = i + (x + 1) by omega], by simp; omega, ?_, ?_⟩
      · rw [List.take_succ_cons, List.sum_cons]; omega
      · rw [List.take_succ_cons, List.sum_cons]; omega
theorem take_mono (l : List Nat) : ∀ (i j : Nat), i ≤ j → (l.take i).sum ≤ (l.take j).sum := by
  induction l with
  | nil => intro i j _; simp
  | cons c l ih =>
    intro i j h
    cases i with
    | zero => simp
    | succ i =>
      obtain ⟨j, rfl⟩ : ∃ q, j = q + 1 := ⟨j - 1, by omega⟩
      rw [List.take_succ_cons, List.take_succ_cons, List.sum_cons, List.sum_cons]
      have := ih i j (by omega)
      omega
/-- The first buckets hold those that fall there. -/
theorem prefix_eq (bs l : List Nat) : ∀ j, j ≤ bs.length + 1 → ((cnts bs l).take j).sum = l.countP (fun v => decide (bk bs v < j)) := by
  intro j
  induction j with
  | zero =>
    intro _
    rw [List.take_zero, List.sum_nil]
    symm
    rw [List.countP_eq_zero]
    intro v _
    simp
  | succ j ih =>
    intro hj
    have hi : j < (cnts bs l).length := by rw [cnts_length]; omega
    rw [take_one _ hi, List.sum_append, ih (by omega), cnts_getD bs l j (by omega)]
    simp only [List.sum_cons, List.sum_nil, Nat.add_zero]
    clear ih hi
    induction l with
    | nil => rfl
    | cons v l ihl =>
      simp only [List.countP_cons, decide_eq_true_eq]
      have : (if bk bs v < j + 1 then 1 else 0) = (if bk bs v < j then 1 else 0) + (if bk bs v = j then 1 else 0) := by
        by_cases h1 : bk bs v < j
        · rw [if_pos h1, if_pos (by omega), if_neg (by omega)]
        · by_cases h2 : bk bs v = j
          · rw [if_neg h1, if_pos (by omega), if_pos h2]
          · rw [if_neg h1, if_neg (by omega), if_neg h2]
      omega
theorem asc_lt {bs : List Nat} (h : ∀ i, i + 1 < bs.length → bs.getD i 0 < bs.getD (i + 1) 0) : ∀ (d i : Nat), i + d < bs.length → bs.getD i 0 ≤ bs.getD (i + d) 0 := by
  intro d
  induction d with
  | zero => intro i _; exact Nat.le_refl _
  | succ d ih => intro i hi; exact Nat.le_trans (ih i (by omega)) (Nat.le_of_lt (h (i + d) (by omega)))
theorem bk_iff (bs : List Nat) (h : ∀ i, i + 1 < bs.length → bs.getD i 0 < bs.getD (i + 1) 0) (v j : Nat) (hj : j < bs.length) : bk bs v < j + 1 ↔ v ≤ bs.getD j 0 := by
  have hsplit : ∀ m, bk bs v = (bs.take m).countP (fun b => decide (b < v)) + (bs.drop m).countP (fun b => decide (b < v)) := fun m => by
    unfold bk
    rw [← List.countP_append, List.take_append_drop]
  constructor
  · intro hb
    by_cases hv : v ≤ bs.getD j 0
    · exact hv
    · exfalso
      have h1 := hsplit (j + 1)
      have h2 : (bs.take (j + 1)).countP (fun b => decide (b < v)) = (bs.take (j + 1)).length := by
        rw [List.countP_eq_length]
        intro b hb2
        obtain ⟨i, hi, rfl⟩ := List.getElem_of_mem hb2
        rw [List.length_take] at hi
        rw [List.getElem_take]
        have := asc_lt h (j - i) i (by omega)
        rw [show i + (j - i) = j by omega, getD_at bs i (by omega)] at this
        simp; omega
      rw [h2, List.length_take] at h1
      omega
  · intro hv
    have h1 := hsplit j
    have h2 : (bs.drop j).countP (fun b => decide (b < v)) = 0 := by
      rw [List.countP_eq_zero]
      intro b hb2
      obtain ⟨i, hi, rfl⟩ := List.getElem_of_mem hb2
      rw [List.length_drop] at hi
      rw [List.getElem_drop]
      have := asc_lt h i j (by omega)
      rw [getD_at bs (j + i) (by omega)] at this
      simp; omega
    have h3 : (bs.take j).countP (fun b => decide (b < v)) ≤ (bs.take j).length := List.countP_le_length
    rw [List.length_take] at h3
    omega
theorem zsum {α : Type} (l : List α) : (l.map fun _ => 0).sum = 0 := by
  induction l with
  | nil => rfl
  | cons x l ih => rw [List.map_cons, List.sum_cons, ih]
theorem all_in (bs l : List Nat) : (cnts bs l).sum = l.length := by
  have h := prefix_eq bs l (bs.length + 1) (Nat.le_refl _)
  rw [List.take_of_length_le (by rw [cnts_length]; omega)] at h
  rw [h, List.countP_eq_length]
  intro v _
  have := bk_le bs v
  simp; omega
theorem rank_le (n p : Nat) (hn : 1 ≤ n) (hp : p ≤ 1000) : 1 ≤ rank n p ∧ rank n p ≤ n := by
  have h : n * p ≤ n * 1000 := Nat.mul_le_mul_left n hp
  unfold rank
  generalize n * p = q at h
  omega
theorem rank_mono (n p q : Nat) (h : p ≤ q) : rank n p ≤ rank n q := by
  have h : n * p ≤ n * q := Nat.mul_le_mul_left n h
  unfold rank
  generalize n * p = x at h
  generalize n * q = y at h
  omega
/-- The bucket of a part: where it is. -/
theorem where_is (bs l : List Nat) (hb : bs.length ≤ 32) (hl : 1 ≤ l.length) (hl2 : l.length ≤ 1000) (p : Nat) (hp : p ≤ 1000) :
    ∃ x, bkt (cnts bs l) (p : Int) = (x, 0) ∧ x ≤ bs.length ∧ ((cnts bs l).take x).sum < rank l.length p ∧ rank l.length p ≤ ((cnts bs l).take (x + 1)).sum := by
  have hr := rank_le l.length p hl hp
  have hs := all_in bs l
  obtain ⟨x, e, h1, h2, h3⟩ := fd_spec (cnts bs l) (rank l.length p) 0 hr.1 (by omega)
  refine ⟨x, ?_, by rw [cnts_length] at h1; omega, h2, h3⟩
  unfold bkt
  rw [if_neg (by rw [cnts_length]; omega), if_neg, if_neg (by omega), Int.toNat_natCast, hs, e, Nat.zero_add]
  rw [Bool.not_eq_true, List.any_eq_false]
  intro v hv
  obtain ⟨i, _, rfl⟩ := List.mem_map.1 hv
  have : l.countP (fun x => decide (bk bs x = i)) ≤ l.length := List.countP_le_length
  simp; omega
theorem where_mono (bs l : List Nat) (p q x y : Nat) (hpq : p ≤ q) (hx : ((cnts bs l).take x).sum < rank l.length p) (hy : rank l.length q ≤ ((cnts bs l).take (y + 1)).sum) : x ≤ y := by
  by_cases h : x ≤ y
  · exact h
  · have := take_mono (cnts bs l) (y + 1) x (by omega)
    have := rank_mono l.length p q hpq
    omega
/-- The bounds of the bucket, as natural numbers. -/
def lowN (bs : List Nat) (x : Nat) : Nat := if x = 0 then 0 else bs.getD (x - 1) 0
def highN (bs : List Nat) (x : Nat) : Nat := if x = bs.length then 18446744073709551615 else bs.getD x 0
theorem bnds_nat (bs : List Nat) (hok : okB bs) (x : Nat) (hx : x ≤ bs.length) : bnds bs (x : Int) = ((lowN bs x : Int), (highN bs x : Int), true) := by
  unfold bnds lowN highN
  rw [if_pos ⟨hok, by omega, by omega⟩, Int.toNat_natCast]
  by_cases h1 : x = 0
  · rw [if_pos (by omega), if_pos h1]
    by_cases h2 : x = bs.length
    · rw [if_pos (by omega), if_pos h2]; rfl
    · rw [if_neg (by omega), if_neg h2]; rfl
  · rw [if_neg (by omega), if_neg h1]
    by_cases h2 : x = bs.length
    · rw [if_pos (by omega), if_pos h2]; rfl
    · rw [if_neg (by omega), if_neg h2]
theorem up_enough (bs l : List Nat) (hok : okB bs) (hw : ∀ v ∈ l, v ≤ 18446744073709551615) (x : Nat) (hx : x ≤ bs.length) : ((cnts bs l).take (x + 1)).sum ≤ l.countP (fun v => decide (v ≤ highN bs x)) := by
  rw [prefix_eq bs l (x + 1) (by omega)]
  refine List.countP_mono_left fun v hv h => ?_
  simp only [decide_eq_true_eq] at h ⊢
  unfold highN
  by_cases e : x = bs.length
  · rw [if_pos e]; exact hw v hv
  · rw [if_neg e]; exact (bk_iff bs hok.2 v x (by omega)).1 h
theorem below_few (bs l : List Nat) (hok : okB bs) (x : Nat) (hx : x ≤ bs.length) : l.countP (fun v => decide (v ≤ lowN bs x ∧ 0 < x)) ≤ ((cnts bs l).take x).sum := by
  rw [prefix_eq bs l x (by omega)]
  refine List.countP_mono_left fun v hv h => ?_
  simp only [decide_eq_true_eq] at h ⊢
  obtain ⟨h1, h2⟩ := h
  unfold lowN at h1
  rw [if_neg (by omega)] at h1
  have := (bk_iff bs hok.2 v (x - 1) (by omega)).2 h1
  omega
end Go.Proofs.Ytdcbhakclhbdpaa.Qw
