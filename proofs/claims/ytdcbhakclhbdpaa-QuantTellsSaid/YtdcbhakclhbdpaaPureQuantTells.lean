/- QuantTells: the bucket of any part, and the bounds of any bucket. No conditions. -/
import Derived.Test.YtdcbhakclhbdpaaXQTx12
import Derived.Test.YtdcbhakclhbdpaaHqb
import Derived.IntWalk
namespace Go.Proofs.Ytdcbhakclhbdpaa.Pure
open Go.RowKit Go.Proofs.Ytdcbhakclhbdpaa.XQT Go.Proofs.YtdcbhakclhbdpaaW.PrintWords Go.Proofs.YtdcbhakclhbdpaaW.PrintLast Go.Proofs.YtdcbhakclhbdpaaW.PrintMore
open Go.Proofs.Ytdcbhakclhbdpaa.Hi (ofN ofN_length rd_ofN okB bnds toNat_ofN getD_at ofN_of)

namespace QuantTellsP
/-- Where the count r falls. -/
def fdN : Nat → Nat → List Nat → Nat × Nat
  | _, _, [] => (0, 30)
  | r, i, c :: l => if r ≤ c then (i, 0) else fdN (r - c) (i + 1) l
def rank (n p : Nat) : Nat := max ((n * p + 999) / 1000) 1
/-- The bucket of the p-th of 1000, and the error. -/
def bkt (l : List Nat) (p : Int) : Nat × Nat :=
  if p < 0 ∨ 1000 < p ∨ 33 < l.length then (0, 1) else if l.any (fun x => decide (1099511627776 < x)) then (0, 1) else if l.sum = 0 then (0, 30) else fdN (rank l.sum p.toNat) 0 l
def cast2 (x : Nat × Nat) : Int × Int := ((x.1 : Int), (x.2 : Int))
theorem take_one (l : List Nat) {i : Nat} (h : i < l.length) : l.take (i + 1) = l.take i ++ [l.getD i 0] := by
  rw [List.take_succ_eq_append_getElem h, List.getD_eq_getElem?_getD, List.getElem?_eq_getElem h]; rfl
theorem drop_one (l : List Nat) {i : Nat} (h : i < l.length) : l.drop i = l.getD i 0 :: l.drop (i + 1) := by
  rw [List.drop_eq_getElem_cons h, List.getD_eq_getElem?_getD, List.getElem?_eq_getElem h]; rfl
def rows (l : List Nat) : List S26 := l.map fun n : Nat => (⟨(n : Int), false⟩ : S26)
theorem rows_length (l : List Nat) : (rows l).length = l.length := by simp [rows]
theorem rd_rows (l : List Nat) (i : Nat) : (rd_T26 (rows l) (i : Int)).f0 = ((l.getD i 0 : Nat) : Int) := by
  unfold rd_T26 rows
  simp only [Int.toNat_natCast, List.getD_eq_getElem?_getD, List.getElem?_map]
  cases l[i]? <;> simp [z26]
theorem l1_eq (l : List Nat) (hl : l.length ≤ 33) (d : Nat) : ∀ (i k r : Nat), i + d = l.length → d < k → r ≤ 1000000000000000000 → quant_Bucket.l1 k (r : Int) (rows l) (l.length : Int) (i : Int) = some (cast2 (fdN r i (l.drop i))) := by
  induction d with
  | zero =>
    intro i k r hi hk hr
    obtain ⟨k, rfl⟩ : ∃ m, k = m + 1 := ⟨k - 1, by omega⟩
    rw [quant_Bucket.l1, if_neg (by omega), List.drop_of_length_le (by omega), fdN]; rfl
  | succ d ih =>
    intro i k r hi hk hr
    obtain ⟨k, rfl⟩ : ∃ m, k = m + 1 := ⟨k - 1, by omega⟩
    rw [quant_Bucket.l1, if_pos (by omega), if_pos (by omega), if_pos (by rw [rows_length]; omega), rd_rows, drop_one l (by omega), fdN]
    generalize l.getD i 0 = c
    by_cases h : r ≤ c
    · rw [if_pos (by omega), if_pos h]; rfl
    · rw [if_neg (by omega), if_neg h, IntWalk.u64_in _ (by omega), IntWalk.wrap64_in _ (by omega), show (r : Int) - (c : Int) = ((r - c : Nat) : Int) by omega, show (i : Int) + 1 = ((i + 1 : Nat) : Int) by omega]
      exact ih (i + 1) k (r - c) (by omega) (by omega) (by omega)
theorem np_le (n p : Nat) (hn : n ≤ 36283883716608) (hp : p ≤ 1000) : n * p ≤ 36283883716608000 := Nat.le_trans (Nat.mul_le_mul hn hp) (by omega)
theorem rank_eq (n p : Nat) (hn : n ≤ 36283883716608) (hp : p ≤ 1000) : mx (IntKind.u64.wrap (Int.tdiv (IntKind.u64.wrap ((IntKind.u64.wrap ((IntKind.u64.wrap ((n : Int) * (IntKind.u64.wrap (p : Int)))) + 1000)) - 1)) 1000)) 1 = ((rank n p : Nat) : Int) := by
  have h := np_le n p hn hp
  unfold rank
  rw [IntWalk.u64_in (p : Int) (by omega), ← Int.natCast_mul]
  generalize n * p = q at h ⊢
  rw [IntWalk.u64_in (q : Int) (by omega), IntWalk.u64_in ((q : Int) + 1000) (by omega), IntWalk.u64_in ((q : Int) + 1000 - 1) (by omega), Int.tdiv_eq_ediv_of_nonneg (by omega), IntWalk.u64_in _ (by omega)]
  unfold mx
  split <;> omega
theorem l0_eq (l : List Nat) (hl : l.length ≤ 33) (p : Nat) (hp : p ≤ 1000) (d : Nat) : ∀ (i k : Nat), i + d = l.length → d + 40 < k → (l.take i).sum ≤ 1099511627776 * i → quant_Bucket.l0 k (rows l) (p : Int) (((l.take i).sum : Nat) : Int) (rows l) (l.length : Int) (i : Int) = some (cast2 (if (l.drop i).any (fun x => decide (1099511627776 < x)) then (0, 1) else if l.sum = 0 then (0, 30) else fdN (rank l.sum p) 0 l)) := by
  induction d with
  | zero =>
    intro i k hi hk hs
    obtain ⟨k, rfl⟩ : ∃ m, k = m + 1 := ⟨k - 1, by omega⟩
    rw [List.take_of_length_le (by omega)] at hs ⊢
    rw [quant_Bucket.l0, if_neg (by omega), List.drop_of_length_le (by omega)]
    simp only [List.any_nil, Bool.false_eq_true, if_false]
    by_cases h : l.sum = 0
    · rw [if_pos (by omega), if_pos h]; rfl
    · have hr : rank l.sum p ≤ 1000000000000000000 := by
        unfold rank
        have h := np_le l.sum p (by omega) hp
        omega
      rw [if_neg (by omega), if_neg h, rank_eq _ _ (by omega) hp, rows_length]
      exact l1_eq l hl l.length 0 k _ (by omega) (by omega) hr
  | succ d ih =>
    intro i k hi hk hs
    obtain ⟨k, rfl⟩ : ∃ m, k = m + 1 := ⟨k - 1, by omega⟩
    have e : (l.take (i + 1)).sum = (l.take i).sum + l.getD i 0 := by
      rw [take_one l (by omega)]; simp
    have hrec := fun h => ih (i + 1) k (by omega) (by omega) h
    rw [e] at hrec
    rw [quant_Bucket.l0, if_pos (by omega), if_pos (by omega), if_pos (by rw [rows_length]; omega), rd_rows, drop_one l (by omega), List.any_cons]
    generalize l.getD i 0 = c at hrec ⊢
    by_cases hc : 1099511627776 < c
    · rw [if_pos (by omega), decide_eq_true hc, Bool.true_or, if_pos rfl]; rfl
    · rw [if_neg (by omega), decide_eq_false hc, Bool.false_or, IntWalk.u64_in _ (by omega), IntWalk.wrap64_in _ (by omega)]
      exact hrec (by omega)
theorem bucket_eq (l : List Nat) (hl : l.length ≤ 1000) (p : Int) (k : Nat) (hk : 80 < k) : quant_Bucket.f k (rows l) p = some (cast2 (bkt l p)) := by
  obtain ⟨k, rfl⟩ : ∃ m, k = m + 1 := ⟨k - 1, by omega⟩
  unfold quant_Bucket.f bkt
  by_cases h1 : p < 0
  · rw [if_pos h1, if_pos (.inl h1), quant_Bucket.j0, if_pos rfl]; rfl
  rw [if_neg h1]
  by_cases h2 : p > 1000
  · rw [if_pos h2, if_pos (.inr (.inl h2)), quant_Bucket.j0, if_pos rfl]; rfl
  rw [if_neg h2, rows_length]
  by_cases h3 : 33 < l.length
  · rw [if_pos (.inr (.inr h3)), decide_eq_true (by omega), quant_Bucket.j0, if_pos rfl]; rfl
  rw [if_neg (by omega), decide_eq_false (by omega), quant_Bucket.j0, if_neg (by simp), rows_length]
  obtain ⟨q, rfl⟩ := Int.eq_ofNat_of_zero_le (show 0 ≤ p by omega)
  have := l0_eq l (by omega) q (by omega) l.length 0 k (by omega) (by omega) (by simp)
  simpa using this
theorem counts_loop (l : List Nat) (hl : l.length ≤ 1000) : ∀ (d i k : Nat), i + d = l.length → d < k → tallyroomlaw32_counts.l0 k (ofN l) (rows (l.take i)) (i : Int) = some (rows l) := by
  intro d
  induction d with
  | zero =>
    intro i k hi hk
    obtain ⟨k, rfl⟩ : ∃ m, k = m + 1 := ⟨k - 1, by omega⟩
    rw [tallyroomlaw32_counts.l0, if_neg (by rw [ofN_length]; omega), List.take_of_length_le (by omega)]
  | succ d ih =>
    intro i k hi hk
    obtain ⟨k, rfl⟩ : ∃ m, k = m + 1 := ⟨k - 1, by omega⟩
    have := ih (i + 1) k (by omega) (by omega)
    rw [tallyroomlaw32_counts.l0, if_pos (by rw [ofN_length]; omega), if_pos (by omega), if_pos (by rw [rows_length, List.length_take]; omega), rd_ofN, IntWalk.wrap64_in _ (by omega)]
    rw [take_one l (by omega)] at this
    have e : rows (l.take i ++ [l.getD i 0]) = rows (l.take i) ++ [⟨((l.getD i 0 : Nat) : Int), false⟩] := by simp [rows]
    rw [e] at this
    exact this
theorem counts_eq (l : List Nat) (hl : l.length ≤ 1000) (k : Nat) (hk : l.length < k) : tallyroomlaw32_counts.f k (ofN l) = some (rows l) := counts_loop l hl l.length 0 k (by omega) hk
theorem any_false {l : List Nat} (h : l.any (fun x => decide (1099511627776 < x)) = false) : ∀ i, l.getD i 0 ≤ 1099511627776 := by
  intro i
  rw [List.any_eq_false] at h
  rw [List.getD_eq_getElem?_getD]
  cases e : l[i]? with
  | none => simp
  | some x => have := h x (List.mem_of_getElem? e); simp at this; exact this
theorem r1_eq (l : List Nat) (hl : l.length ≤ 33) (hw : ∀ i, l.getD i 0 ≤ 1099511627776) (n p : Nat) (hn : n ≤ 36283883716608) (hp : p ≤ 1000) (d : Nat) : ∀ (i k : Nat), i + d = l.length → d < k → (l.take i).sum ≤ 1099511627776 * i → (l.take i).sum < rank n p →
    tallyroomref32_Bucket.l1 k (ofN l) (p : Int) (n : Int) (((l.take i).sum : Nat) : Int) (i : Int) = some (cast2 (fdN (rank n p - (l.take i).sum) i (l.drop i))) := by
  have hq := np_le n p hn hp
  have hnp : IntKind.u64.wrap ((n : Int) * IntKind.u64.wrap (p : Int)) = ((n * p : Nat) : Int) := by
    rw [IntWalk.u64_in (p : Int) (by omega), ← Int.natCast_mul, IntWalk.u64_in _ (by omega)]
  have hrk : rank n p = max ((n * p + 999) / 1000) 1 := rfl
  generalize n * p = q at hq hnp hrk
  generalize rank n p = rk at hrk
  induction d with
  | zero =>
    intro i k hi hk hs hr
    obtain ⟨k, rfl⟩ : ∃ m, k = m + 1 := ⟨k - 1, by omega⟩
    rw [tallyroomref32_Bucket.l1, if_neg (by rw [ofN_length]; omega), List.drop_of_length_le (by omega), fdN]; rfl
  | succ d ih =>
    intro i k hi hk hs hr
    obtain ⟨k, rfl⟩ : ∃ m, k = m + 1 := ⟨k - 1, by omega⟩
    have hc := hw i
    have e : (l.take (i + 1)).sum = (l.take i).sum + l.getD i 0 := by
      rw [take_one l (by omega)]; simp
    have hrec := fun h h2 => ih (i + 1) k (by omega) (by omega) h h2
    rw [e] at hrec
    rw [tallyroomref32_Bucket.l1, if_pos (by rw [ofN_length]; omega), if_pos (by omega), rd_ofN, drop_one l (by omega), fdN, hnp, IntWalk.wrap64_in _ (by omega), show (i : Int) + 1 = ((i + 1 : Nat) : Int) by omega]
    generalize l.getD i 0 = c at hc hrec ⊢
    generalize (l.take i).sum = s at hs hr hrec ⊢
    rw [IntWalk.u64_in ((s : Int) + (c : Int)) (by omega), IntWalk.u64_in (((s : Int) + (c : Int)) * 1000) (by omega), show (s : Int) + (c : Int) = ((s + c : Nat) : Int) by omega]
    by_cases h : rk - s ≤ c
    · rw [if_pos h, if_pos (by omega), if_pos (by omega)]; rfl
    · rw [if_neg h]
      have hrec2 := hrec (by omega) (by omega)
      rw [show rk - (s + c) = rk - s - c by omega] at hrec2
      by_cases h0 : ((s + c : Nat) : Int) > 0
      · rw [if_pos h0, if_neg (by omega)]; exact hrec2
      · rw [if_neg h0]; exact hrec2
theorem r0_eq (l : List Nat) (hl : l.length ≤ 33) (p : Nat) (hp : p ≤ 1000) (d : Nat) : ∀ (i k : Nat), i + d = l.length → d + 40 < k → (l.take i).sum ≤ 1099511627776 * i → (∀ j, j < i → l.getD j 0 ≤ 1099511627776) →
    tallyroomref32_Bucket.l0 k (ofN l) (p : Int) (((l.take i).sum : Nat) : Int) (i : Int) = some (cast2 (if (l.drop i).any (fun x => decide (1099511627776 < x)) then (0, 1) else if l.sum = 0 then (0, 30) else fdN (rank l.sum p) 0 l)) := by
  induction d with
  | zero =>
    intro i k hi hk hs hb
    obtain ⟨k, rfl⟩ : ∃ m, k = m + 1 := ⟨k - 1, by omega⟩
    rw [List.take_of_length_le (by omega)] at hs ⊢
    rw [tallyroomref32_Bucket.l0, if_neg (by rw [ofN_length]; omega), List.drop_of_length_le (by omega)]
    simp only [List.any_nil, Bool.false_eq_true, if_false]
    by_cases h : l.sum = 0
    · rw [if_pos (by omega), if_pos h]; rfl
    · rw [if_neg (by omega), if_neg h]
      have hall : ∀ j, l.getD j 0 ≤ 1099511627776 := fun j => by
        by_cases hj : j < l.length
        · exact hb j (by omega)
        · rw [List.getD_eq_getElem?_getD, List.getElem?_eq_none (by omega)]; simp
      have := r1_eq l hl hall l.sum p (by omega) hp l.length 0 k (by omega) (by omega) (by simp) (by simp [rank]; omega)
      simpa using this
  | succ d ih =>
    intro i k hi hk hs hb
    obtain ⟨k, rfl⟩ : ∃ m, k = m + 1 := ⟨k - 1, by omega⟩
    have e : (l.take (i + 1)).sum = (l.take i).sum + l.getD i 0 := by
      rw [take_one l (by omega)]; simp
    have hrec := fun h h2 => ih (i + 1) k (by omega) (by omega) h h2
    rw [e] at hrec
    rw [tallyroomref32_Bucket.l0, if_pos (by rw [ofN_length]; omega), if_pos (by omega), rd_ofN, drop_one l (by omega), List.any_cons]
    have hb2 : l.getD i 0 ≤ 1099511627776 → ∀ j, j < i + 1 → l.getD j 0 ≤ 1099511627776 := fun h j hj => by
      by_cases e : j = i
      · subst e; exact h
      · exact hb j (by omega)
    generalize l.getD i 0 = c at hrec hb2 ⊢
    by_cases hc : 1099511627776 < c
    · rw [if_pos (by omega), decide_eq_true hc, Bool.true_or, if_pos rfl]; rfl
    · rw [if_neg (by omega), decide_eq_false hc, Bool.false_or, IntWalk.u64_in _ (by omega), IntWalk.wrap64_in _ (by omega)]
      exact hrec (by omega) (hb2 (by omega))
theorem rbucket_eq (l : List Nat) (hl : l.length ≤ 1000) (p : Int) (k : Nat) (hk : 80 < k) : tallyroomref32_Bucket.f k (ofN l) p = some (cast2 (bkt l p)) := by
  obtain ⟨k, rfl⟩ : ∃ m, k = m + 1 := ⟨k - 1, by omega⟩
  unfold tallyroomref32_Bucket.f bkt
  by_cases h1 : p < 0
  · rw [if_pos h1, if_pos (.inl h1), tallyroomref32_Bucket.j0, if_pos rfl]; rfl
  rw [if_neg h1]
  by_cases h2 : p > 1000
  · rw [if_pos h2, if_pos (.inr (.inl h2)), tallyroomref32_Bucket.j0, if_pos rfl]; rfl
  rw [if_neg h2, ofN_length]
  by_cases h3 : 33 < l.length
  · rw [if_pos (.inr (.inr h3)), decide_eq_true (by omega), tallyroomref32_Bucket.j0, if_pos rfl]; rfl
  rw [if_neg (by omega), decide_eq_false (by omega), tallyroomref32_Bucket.j0, if_neg (by simp)]
  obtain ⟨q, rfl⟩ := Int.eq_ofNat_of_zero_le (show 0 ≤ p by omega)
  have := r0_eq l (by omega) q (by omega) l.length 0 k (by omega) (by omega) (by simp) (by simp)
  simpa using this
theorem right_loop (bs : List Nat) (hl : bs.length ≤ 1000) : ∀ (d i k : Nat), 1 ≤ i → (i + d = bs.length ∨ (i = 1 ∧ d = 0 ∧ bs.length = 0)) → d < k → (∀ j, j + 1 < i → bs.getD j 0 < bs.getD (j + 1) 0) →
    tallyroomref11_Right.l0 k (ofN bs) (i : Int) = some (decide (okB bs)) := by
  intro d
  induction d with
  | zero =>
    intro i k h1 hi hk ha
    obtain ⟨k, rfl⟩ : ∃ m, k = m + 1 := ⟨k - 1, by omega⟩
    rw [tallyroomref11_Right.l0, if_neg (by rw [ofN_length]; omega), ofN_length]
    congr 1
    rw [decide_eq_decide]
    constructor
    · intro h
      exact ⟨by omega, fun j hj => ha j (by omega)⟩
    · intro h
      have := h.1; omega
  | succ d ih =>
    intro i k h1 hi hk ha
    obtain ⟨k, rfl⟩ : ∃ m, k = m + 1 := ⟨k - 1, by omega⟩
    have hlt : i < bs.length := by omega
    obtain ⟨j, rfl⟩ : ∃ j, i = j + 1 := ⟨i - 1, by omega⟩
    rw [tallyroomref11_Right.l0, if_pos (by rw [ofN_length]; omega), if_pos (by omega), show wrap64 (((j + 1 : Nat) : Int) - 1) = (j : Int) by rw [IntWalk.wrap64_in _ (by omega)]; omega, if_pos (by omega), if_pos (by rw [ofN_length]; omega), rd_ofN, rd_ofN, show wrap64 (((j + 1 : Nat) : Int) + 1) = ((j + 1 + 1 : Nat) : Int) by rw [IntWalk.wrap64_in _ (by omega)]; omega]
    by_cases h : bs.getD (j + 1) 0 ≤ bs.getD j 0
    · rw [if_pos (by omega)]
      congr 1
      symm
      rw [decide_eq_false_iff_not]
      intro hh
      have := hh.2 j hlt
      omega
    · rw [if_neg (by omega)]
      refine ih (j + 1 + 1) k (by omega) (by omega) (by omega) (fun q hq => ?_)
      by_cases e : q = j
      · subst e; omega
      · exact ha q (by omega)
theorem right_f (bs : List Nat) (hl : bs.length ≤ 1000) (k : Nat) (hk : bs.length < k) : tallyroomref11_Right.f k (ofN bs) = some (decide (okB bs)) := by
  unfold tallyroomref11_Right.f
  by_cases h : bs.length = 0
  · exact right_loop bs hl 0 1 k (by omega) (.inr ⟨rfl, rfl, h⟩) (by omega) (fun j hj => by omega)
  · exact right_loop bs hl (bs.length - 1) 1 k (by omega) (.inl (by omega)) (by omega) (fun j hj => by omega)
theorem rd_mid (bs : List Nat) (M : Int) (i : Nat) (hi : i ≤ bs.length) : rd ([0] ++ ofN bs ++ [M]) (i : Int) = if (i : Int) = 0 then 0 else ((bs.getD (i - 1) 0 : Nat) : Int) := by
  have hl := ofN_length bs
  cases i with
  | zero => simp [rd]
  | succ j =>
    rw [if_neg (by omega)]
    have : rd (ofN bs) (j : Int) = rd ([0] ++ ofN bs ++ [M]) ((j + 1 : Nat) : Int) := by
      unfold rd
      rw [Int.toNat_natCast, Int.toNat_natCast, List.getD_eq_getElem?_getD, List.getD_eq_getElem?_getD, List.getElem?_append_left (by simp [hl]; omega), List.singleton_append, List.getElem?_cons_succ]
    rw [← this, rd_ofN]; rfl
theorem rd_last (bs : List Nat) (M : Int) : rd ([0] ++ ofN bs ++ [M]) ((bs.length + 1 : Nat) : Int) = M := by
  unfold rd
  rw [Int.toNat_natCast, List.getD_eq_getElem?_getD, List.getElem?_append_right (by simp [ofN_length])]
  simp [ofN_length]
theorem rbounds_eq (bs : List Nat) (hl : bs.length ≤ 1000) (i : Int) (hi : i ≤ 9223372036854775807) (k : Nat) (hk : bs.length < k) : tallyroomref32_Bounds.f k (ofN bs) i = some (bnds bs i) := by
  unfold tallyroomref32_Bounds.f bnds
  rw [right_f bs hl k hk, Option.bind_some]
  by_cases hok : okB bs
  · rw [decide_eq_true hok, if_pos rfl, ofN_length]
    by_cases h0 : i < 0
    · rw [if_pos h0, if_neg (by omega)]
    rw [if_neg h0]
    by_cases h1 : i > (bs.length : Int)
    · rw [if_pos h1, if_neg (by omega)]
    rw [if_neg h1, if_pos ⟨hok, by omega, by omega⟩]
    obtain ⟨q, rfl⟩ := Int.eq_ofNat_of_zero_le (show 0 ≤ i by omega)
    have hqn : q ≤ bs.length := by omega
    have hlen : ([0] ++ ofN bs ++ [18446744073709551615] : List Int).length = bs.length + 2 := by simp [ofN_length]
    have hlen1 : ([0] ++ ofN bs : List Int).length = bs.length + 1 := by simp [ofN_length]
    rw [Option.bind_some, if_pos (by simp; omega), Option.bind_some, if_pos (by rw [hlen1]; omega), Option.bind_some, if_pos (by omega), if_pos (by rw [hlen]; omega), IntWalk.wrap64_in _ (by omega), if_pos (by omega), if_pos (by rw [hlen]; omega), rd_mid bs _ q hqn, show (q : Int) + 1 = ((q + 1 : Nat) : Int) by omega, Int.toNat_natCast]
    by_cases hq : q = bs.length
    · rw [hq, rd_last, if_pos (show ((bs.length : Nat) : Int) = (bs.length : Int) from rfl)]
    · rw [rd_mid bs _ (q + 1) (by omega), if_neg (show ¬ ((q + 1 : Nat) : Int) = 0 by omega), if_neg (show ¬ (q : Int) = (bs.length : Int) by omega)]; rfl
  · rw [decide_eq_false hok, if_neg (by simp), if_neg (fun h => hok h.1)]
theorem bounds_eq (bs : List Nat) (hl : bs.length ≤ 1000) (hw : ∀ x ∈ bs, x ≤ 18446744073709551615) (i : Int) : quant_Bounds.f (ofN bs) i = some (bnds bs i) := by
  unfold quant_Bounds.f
  rw [if_pos ⟨fun x hx => by obtain ⟨y, hy, rfl⟩ := List.mem_map.1 hx; have := hw y hy; omega, by rw [ofN_length]; exact hl⟩, toNat_ofN]
theorem bnds_zero (bs : List Nat) : (bnds bs 0).2.2 = decide (okB bs) := by
  unfold bnds
  by_cases h : okB bs
  · rw [if_pos ⟨h, by omega, by omega⟩, decide_eq_true h]
  · rw [if_neg (fun e => h e.1), decide_eq_false h]
/-- Between which bounds a part is. -/
def ofB (bs l : List Nat) (p : Int) : Int × Int × Int :=
  if okB bs ∧ l.length = bs.length + 1 then (if (bkt l p).2 = 0 then ((bnds bs (bkt l p).1).1, (bnds bs (bkt l p).1).2.1, 0) else (0, 0, ((bkt l p).2 : Int))) else (0, 0, 1)
theorem of_eq (bs l : List Nat) (hl : l.length ≤ 1000) (hb : bs.length ≤ 1000) (hw : ∀ x ∈ bs, x ≤ 18446744073709551615) (p : Int) (k : Nat) (hk : 82 < k) : quant_Of.f k (ofN bs) ([] : List ByteArray) false 0 false 0 false 0 false (rows l) ([] : List (S107)) p = some (ofB bs l p) := by
  obtain ⟨k, rfl⟩ : ∃ m, k = m + 1 := ⟨k - 1, by omega⟩
  unfold quant_Of.f ofB
  rw [bounds_eq bs hb hw, Option.bind_some, bnds_zero, rows_length, ofN_length, IntWalk.wrap64_in _ (by omega)]
  by_cases hok : okB bs
  · rw [decide_eq_true hok, if_pos rfl]
    by_cases hlen : l.length = bs.length + 1
    · rw [if_pos ⟨hok, hlen⟩, show ((l.length : Int) != (bs.length : Int) + 1) = false by rw [bne_eq_false_iff_eq]; omega, quant_Of.j0, if_neg (by simp), bucket_eq l hl p k (by omega), Option.bind_some]
      by_cases he : (bkt l p).2 = 0
      · rw [if_pos (by show ((bkt l p).2 : Int) = 0; omega), if_pos he]
        show (quant_Bounds.f (ofN bs) ((bkt l p).1 : Int)).bind _ = _
        rw [bounds_eq bs hb hw]; rfl
      · rw [if_neg (by show ¬ ((bkt l p).2 : Int) = 0; omega), if_neg he]; rfl
    · rw [if_neg (fun e => hlen e.2), show ((l.length : Int) != (bs.length : Int) + 1) = true by rw [bne_iff_ne]; omega, quant_Of.j0, if_pos rfl]
  · rw [decide_eq_false hok, if_neg (by simp), if_neg (fun e => hok e.1), quant_Of.j0, if_pos rfl]
theorem alive_ok {k : Nat} (hk : 100 ≤ k) : tallyroomlaw32_alive.f k = some true := by
  unfold tallyroomlaw32_alive.f
  have h0 : tallyroomlaw32_counts.f k ([1, 2, 1] : List Int) = some (rows [1, 2, 1]) := counts_eq [1, 2, 1] (by decide) k (by show 3 < k; omega)
  have h1 := bucket_eq [1, 2, 1] (by decide) 500 k (by omega)
  have h2 := bucket_eq [] (by decide) 500 k (by omega)
  have e1 : bkt [1, 2, 1] 500 = (1, 0) := by decide +kernel
  have e2 : bkt [] 500 = (0, 30) := by decide +kernel
  rw [e1] at h1
  rw [e2] at h2
  rw [h0, Option.bind_some, h1, Option.bind_some, show ([] : List S26) = rows [] from rfl, h2, Option.bind_some]
  rfl
theorem u64_wf {x : Int} (h : (Lit.int .u64 x).wf = true) : 0 ≤ x ∧ x ≤ (18446744073709551615 : Nat) := by
  simpa [Lit.wf, IntKind.min, IntKind.max, IntKind.signed, IntKind.bits] using h
theorem i64_wf {x : Int} (h : (Lit.int .i64 x).wf = true) : -9223372036854775808 ≤ x ∧ x ≤ 9223372036854775807 := by
  simpa [Lit.wf, IntKind.min, IntKind.max, IntKind.signed, IntKind.bits] using h
end QuantTellsP
open QuantTellsP
theorem QuantTells : tallyroomlaw32_QuantTells.Pure := by
  intro l0 p l2 i _ _ hw0 hp _ _ hw2 hi
  obtain ⟨l, rfl, hl⟩ := ofN_of l0 _ fun x hx => u64_wf (hw0 x hx)
  obtain ⟨bs, rfl, hb⟩ := ofN_of l2 _ fun x hx => u64_wf (hw2 x hx)
  have hi2 := (i64_wf hi).2
  refine ⟨1003, ?_⟩
  unfold tallyroomlaw32_QuantTells.f
  rw [alive_ok (by omega), Option.bind_some, if_pos rfl, ofN_length, ofN_length]
  by_cases g0 : (l.length : Int) > 60
  · rw [if_pos g0, tallyroomlaw32_QuantTells.j0, if_pos rfl]
  rw [if_neg g0]
  by_cases g1 : (bs.length : Int) > 60
  · rw [decide_eq_true g1, tallyroomlaw32_QuantTells.j0, if_pos rfl]
  have hll : l.length ≤ 1000 := by omega
  have hbl : bs.length ≤ 1000 := by omega
  rw [decide_eq_false g1, tallyroomlaw32_QuantTells.j0, if_neg (by simp), counts_eq l hll _ (by omega), Option.bind_some, bucket_eq l hll p _ (by omega), Option.bind_some, rbucket_eq l hll p _ (by omega), Option.bind_some, bounds_eq bs hbl hb, Option.bind_some, rbounds_eq bs hbl i hi2 _ (by omega), Option.bind_some, if_pos rfl, if_pos rfl, if_pos rfl, if_pos rfl]
  rw [show ((bnds bs i).2.2 != (bnds bs i).2.2) = false by simp, tallyroomlaw32_QuantTells.j1, if_neg (by simp), counts_eq l hll _ (by omega), Option.bind_some, of_eq bs l hll hbl hb p _ (by omega), Option.bind_some, right_f bs hbl _ (by omega), Option.bind_some, ofN_length, ofN_length, IntWalk.wrap64_in _ (by omega)]
  unfold ofB
  by_cases hok : okB bs
  · rw [decide_eq_true hok, if_pos rfl]
    by_cases hlen : l.length = bs.length + 1
    · rw [if_pos ⟨hok, hlen⟩, show ((l.length : Int) != (bs.length : Int) + 1) = false by rw [bne_eq_false_iff_eq]; omega, tallyroomlaw32_QuantTells.j2, if_neg (by simp)]
      by_cases he : (bkt l p).2 = 0
      · rw [if_pos he, if_pos (by show ((bkt l p).2 : Int) = 0; omega)]
        have hk2 : ((bkt l p).1 : Int) ≤ 9223372036854775807 := by
          have h : (bkt l p).1 ≤ 1000000 := by
            have : ∀ (l : List Nat) (r i : Nat), (fdN r i l).1 ≤ i + l.length := by
              intro l
              induction l with
              | nil => intro r i; simp [fdN]
              | cons c l ih =>
                intro r i
                unfold fdN
                split
                · simp
                · have := ih (r - c) (i + 1); simp; omega
            unfold bkt
            split
            · simp
            · split
              · simp
              · split
                · simp
                · have := this l (rank l.sum p.toNat) 0; omega
          omega
        show (tallyroomref32_Bounds.f _ (ofN bs) ((bkt l p).1 : Int)).bind _ = _
        rw [rbounds_eq bs hbl _ hk2 _ (by omega), Option.bind_some, if_pos rfl, if_pos rfl]
        simp
      · rw [if_neg he, if_neg (by show ¬ ((bkt l p).2 : Int) = 0; omega)]
        show (if ((bkt l p).2 : Int) = ((bkt l p).2 : Int) then _ else _) = _
        rw [if_pos rfl]
        rfl
    · rw [if_neg (fun e => hlen e.2), show ((l.length : Int) != (bs.length : Int) + 1) = true by rw [bne_iff_ne]; omega, tallyroomlaw32_QuantTells.j2, if_pos rfl, if_pos rfl]
      rfl
  · rw [decide_eq_false hok, if_neg (by simp), if_neg (fun e => hok e.1), tallyroomlaw32_QuantTells.j2, if_pos rfl, if_pos rfl]
    rfl
end Go.Proofs.Ytdcbhakclhbdpaa.Pure
