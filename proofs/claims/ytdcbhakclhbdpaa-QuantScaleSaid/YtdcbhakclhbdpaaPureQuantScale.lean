/- QuantScale: the bucket does not change when all counts are multiplied, and the outer ones are the first and the last that are not empty. No conditions. -/
import Derived.Test.YtdcbhakclhbdpaaPQuantScalex2
import Derived.IntWalk
namespace Go.Proofs.Ytdcbhakclhbdpaa.Pure
open Go.RowKit Go.Proofs.Ytdcbhakclhbdpaa.PQuantScale Go.Proofs.YtdcbhakclhbdpaaW.PrintWords Go.Proofs.YtdcbhakclhbdpaaW.PrintLast Go.Proofs.YtdcbhakclhbdpaaW.PrintMore

namespace QuantScaleP
/-- Where the count r falls. -/
def fd : Nat → Nat → List Nat → Int × Int
  | _, _, [] => (0, 30)
  | r, i, c :: l => if r ≤ c then ((i : Int), 0) else fd (r - c) (i + 1) l
theorem fd_scale (m : Nat) (l : List Nat) : ∀ (r s i : Nat), (∀ x, r ≤ x ↔ s ≤ m * x) → fd s i (l.map (m * ·)) = fd r i l := by
  induction l with
  | nil => intro r s i _; rfl
  | cons c l ih =>
    intro r s i h
    rw [List.map_cons, fd, fd]
    by_cases h1 : r ≤ c
    · rw [if_pos h1, if_pos ((h c).1 h1)]
    · rw [if_neg h1, if_neg fun h2 => h1 ((h c).2 h2)]
      refine ih _ _ _ fun x => ?_
      have := h (x + c)
      rw [Nat.mul_add] at this
      omega
theorem fd_ok (l : List Nat) : ∀ (r i : Nat), 1 ≤ r → r ≤ l.sum → (fd r i l).2 = 0 := by
  induction l with
  | nil => intro r i h1 h2; simp at h2; omega
  | cons c l ih =>
    intro r i h1 h2
    rw [List.sum_cons] at h2
    rw [fd]
    by_cases h : r ≤ c
    · rw [if_pos h]
    · rw [if_neg h]; exact ih _ _ (by omega) (by omega)
theorem fd_first (l : List Nat) : ∀ (i a : Nat), 0 < l.getD a 0 → (∀ j, j < a → l.getD j 0 = 0) → fd 1 i l = (((i + a : Nat) : Int), 0) := by
  induction l with
  | nil => intro i a h _; simp at h
  | cons c l ih =>
    intro i a h1 h2
    rw [fd]
    cases a with
    | zero => rw [List.getD_cons_zero] at h1; rw [if_pos (by omega)]; rfl
    | succ a =>
      have h0 := h2 0 (by omega)
      rw [List.getD_cons_zero] at h0
      rw [List.getD_cons_succ] at h1
      subst h0
      rw [if_neg (by omega), show 1 - 0 = 1 from rfl, ih (i + 1) a h1 fun j hj => by have := h2 (j + 1) (by omega); rwa [List.getD_cons_succ] at this]
      congr 2
      omega
theorem sum_zero (l : List Nat) : (∀ j, l.getD j 0 = 0) → l.sum = 0 := by
  induction l with
  | nil => intro _; rfl
  | cons c l ih =>
    intro h
    have h0 := h 0
    rw [List.getD_cons_zero] at h0
    rw [List.sum_cons, h0, ih fun j => by have := h (j + 1); rwa [List.getD_cons_succ] at this]
theorem sum_pos (l : List Nat) : ∀ a, 0 < l.getD a 0 → 0 < l.sum := by
  induction l with
  | nil => intro a h; simp at h
  | cons c l ih =>
    intro a h
    rw [List.sum_cons]
    cases a with
    | zero => rw [List.getD_cons_zero] at h; omega
    | succ a => rw [List.getD_cons_succ] at h; have := ih a h; omega
theorem fd_last (l : List Nat) : ∀ (i b : Nat), 0 < l.getD b 0 → (∀ j, b < j → l.getD j 0 = 0) → fd l.sum i l = (((i + b : Nat) : Int), 0) := by
  induction l with
  | nil => intro i b h _; simp at h
  | cons c l ih =>
    intro i b h1 h2
    rw [fd, List.sum_cons]
    cases b with
    | zero =>
      have h0 := sum_zero l fun j => by have := h2 (j + 1) (by omega); rwa [List.getD_cons_succ] at this
      rw [if_pos (by omega)]; rfl
    | succ b =>
      rw [List.getD_cons_succ] at h1
      have h0 := sum_pos l b h1
      rw [if_neg (by omega), show c + l.sum - c = l.sum by omega, ih (i + 1) b h1 fun j hj => by have := h2 (j + 1) (by omega); rwa [List.getD_cons_succ] at this]
      congr 2
      omega
/-- Which of so many stands at the share p of 1000. -/
def rank (n p : Nat) : Nat := max ((n * p + 999) / 1000) 1
def bk (l : List Nat) (p : Nat) : Int × Int := if l.sum = 0 then (0, 30) else fd (rank l.sum p) 0 l
def rows (l : List Nat) : List S26 := l.map fun n : Nat => (⟨(n : Int), false⟩ : S26)
theorem rows_length (l : List Nat) : (rows l).length = l.length := by simp [rows]
theorem rd_rows (l : List Nat) (i : Nat) : (rd_T26 (rows l) (i : Int)).f0 = ((l.getD i 0 : Nat) : Int) := by
  unfold rd_T26 rows
  simp only [Int.toNat_natCast, List.getD_eq_getElem?_getD, List.getElem?_map]
  cases l[i]? <;> simp [z26]
theorem getD_le {l : List Nat} {B : Nat} (h : ∀ n ∈ l, n ≤ B) (i : Nat) : l.getD i 0 ≤ B := by
  rw [List.getD_eq_getElem?_getD]
  cases e : l[i]? with
  | none => simp
  | some x => exact h x (List.mem_of_getElem? e)
theorem take_one (l : List Nat) {i : Nat} (h : i < l.length) : l.take (i + 1) = l.take i ++ [l.getD i 0] := by
  rw [List.take_succ_eq_append_getElem h, List.getD_eq_getElem?_getD, List.getElem?_eq_getElem h]; rfl
theorem drop_one (l : List Nat) {i : Nat} (h : i < l.length) : l.drop i = l.getD i 0 :: l.drop (i + 1) := by
  rw [List.drop_eq_getElem_cons h, List.getD_eq_getElem?_getD, List.getElem?_eq_getElem h]; rfl
theorem l1_eq (l : List Nat) (hl : l.length ≤ 33) (d : Nat) : ∀ (i k r : Nat), i + d = l.length → d < k → r ≤ 4000000 → quant_Bucket.l1 k (r : Int) (rows l) (l.length : Int) (i : Int) = some (fd r i (l.drop i)) := by
  induction d with
  | zero =>
    intro i k r hi hk hr
    obtain ⟨k, rfl⟩ : ∃ m, k = m + 1 := ⟨k - 1, by omega⟩
    rw [quant_Bucket.l1, if_neg (by omega), List.drop_of_length_le (by omega), fd]
  | succ d ih =>
    intro i k r hi hk hr
    obtain ⟨k, rfl⟩ : ∃ m, k = m + 1 := ⟨k - 1, by omega⟩
    rw [quant_Bucket.l1, if_pos (by omega), if_pos (by omega), if_pos (by rw [rows_length]; omega), rd_rows, drop_one l (by omega), fd]
    generalize l.getD i 0 = c
    by_cases h : r ≤ c
    · rw [if_pos (by omega), if_pos h]
    · rw [if_neg (by omega), if_neg h, IntWalk.u64_in _ (by omega), IntWalk.wrap64_in _ (by omega), show (r : Int) - (c : Int) = ((r - c : Nat) : Int) by omega, show (i : Int) + 1 = ((i + 1 : Nat) : Int) by omega]
      exact ih (i + 1) k (r - c) (by omega) (by omega) (by omega)
theorem rank_eq (n p : Nat) (hn : n ≤ 2310000) (hp : p ≤ 1000) : mx (IntKind.u64.wrap (Int.tdiv (IntKind.u64.wrap ((IntKind.u64.wrap ((IntKind.u64.wrap ((n : Int) * (IntKind.u64.wrap (p : Int)))) + 1000)) - 1)) 1000)) 1 = ((rank n p : Nat) : Int) := by
  have h : n * p ≤ 2310000 * 1000 := Nat.mul_le_mul hn hp
  unfold rank
  rw [IntWalk.u64_in (p : Int) (by omega), ← Int.natCast_mul]
  generalize n * p = q at h ⊢
  rw [IntWalk.u64_in (q : Int) (by omega), IntWalk.u64_in ((q : Int) + 1000) (by omega), IntWalk.u64_in ((q : Int) + 1000 - 1) (by omega), Int.tdiv_eq_ediv_of_nonneg (by omega), IntWalk.u64_in _ (by omega)]
  unfold mx
  split <;> omega
theorem l0_eq (l : List Nat) (hl : l.length ≤ 33) (hw : ∀ n ∈ l, n ≤ 70000) (p : Nat) (hp : p ≤ 1000) (d : Nat) : ∀ (i k : Nat), i + d = l.length → d + 40 < k → (l.take i).sum ≤ 70000 * i → quant_Bucket.l0 k (rows l) (p : Int) (((l.take i).sum : Nat) : Int) (rows l) (l.length : Int) (i : Int) = some (bk l p) := by
  induction d with
  | zero =>
    intro i k hi hk hs
    obtain ⟨k, rfl⟩ : ∃ m, k = m + 1 := ⟨k - 1, by omega⟩
    rw [List.take_of_length_le (by omega)] at hs ⊢
    rw [quant_Bucket.l0, if_neg (by omega)]
    unfold bk
    by_cases h : l.sum = 0
    · rw [if_pos (by omega), if_pos h]
    · have hr : rank l.sum p ≤ 4000000 := by
        unfold rank
        have h : l.sum * p ≤ 2310000 * 1000 := Nat.mul_le_mul (by omega) hp
        omega
      rw [if_neg (by omega), if_neg h, rank_eq _ _ (by omega) hp, rows_length]
      exact l1_eq l hl l.length 0 k _ (by omega) (by omega) hr
  | succ d ih =>
    intro i k hi hk hs
    obtain ⟨k, rfl⟩ : ∃ m, k = m + 1 := ⟨k - 1, by omega⟩
    have hc := getD_le hw i
    have e : (l.take (i + 1)).sum = (l.take i).sum + l.getD i 0 := by
      rw [take_one l (by omega)]; simp
    have hrec := ih (i + 1) k (by omega) (by omega) (by omega)
    rw [e] at hrec
    rw [quant_Bucket.l0, if_pos (by omega), if_pos (by omega), if_pos (by rw [rows_length]; omega), rd_rows]
    generalize l.getD i 0 = c at hc hrec ⊢
    rw [if_neg (by omega), IntWalk.u64_in _ (by omega), IntWalk.wrap64_in _ (by omega)]
    exact hrec
theorem bucket_eq (l : List Nat) (hl : l.length ≤ 33) (hw : ∀ n ∈ l, n ≤ 70000) (p : Nat) (hp : p ≤ 1000) (k : Nat) (hk : 80 < k) : quant_Bucket.f k (rows l) (p : Int) = some (bk l p) := by
  obtain ⟨k, rfl⟩ : ∃ m, k = m + 1 := ⟨k - 1, by omega⟩
  unfold quant_Bucket.f
  rw [if_neg (by omega), if_neg (by omega), quant_Bucket.j0, if_neg (by rw [rows_length]; simp; omega), rows_length]
  have := l0_eq l hl hw p hp l.length 0 k (by omega) (by omega) (by simp)
  simpa using this
theorem bk_scale (l : List Nat) (m p : Nat) (hm : 1 ≤ m) : bk (l.map (m * ·)) p = bk l p := by
  have hs : (l.map (m * ·)).sum = m * l.sum := by
    induction l with
    | nil => rfl
    | cons c l ih => rw [List.map_cons, List.sum_cons, List.sum_cons, ih, Nat.mul_add]
  unfold bk
  rw [hs]
  by_cases h : l.sum = 0
  · rw [if_pos h, if_pos (by rw [h]; rfl)]
  · rw [if_neg h, if_neg (Nat.mul_ne_zero (by omega) h)]
    refine fd_scale m l _ _ 0 fun x => ?_
    unfold rank
    have h1 : l.sum * p ≤ 1000 * x ↔ m * (l.sum * p) ≤ m * (1000 * x) := (Nat.mul_le_mul_left_iff (by omega)).symm
    have h2 : 1 ≤ x ↔ 1 ≤ m * x := by
      constructor
      · intro h; exact Nat.mul_pos (by omega) h
      · intro h; exact Nat.pos_of_mul_pos_left h
    rw [show m * (1000 * x) = 1000 * (m * x) from Nat.mul_left_comm ..] at h1
    rw [Nat.mul_assoc]
    generalize l.sum * p = q at h1 ⊢
    generalize m * q = s at h1 ⊢
    generalize m * x = y at h1 h2 ⊢
    omega
theorem alive_ok {k : Nat} (hk : 100 ≤ k) : tallyroomlaw32_alive.f k = some true := by
  obtain ⟨j, rfl⟩ : ∃ m, k = m + 5 := ⟨k - 5, by omega⟩
  unfold tallyroomlaw32_alive.f
  have h0 : tallyroomlaw32_counts.f (j + 5) ([1, 2, 1] : List Int) = some (rows [1, 2, 1]) := by
    unfold tallyroomlaw32_counts.f
    iterate 3 rw [tallyroomlaw32_counts.l0, if_pos (by decide +kernel), if_pos (by decide +kernel), if_pos (by simp)]
    rw [tallyroomlaw32_counts.l0, if_neg (by decide +kernel), show wrap64 (0 + 1) = 1 by decide +kernel, show wrap64 (1 + 1) = 2 by decide +kernel]
    rfl
  have h1 := bucket_eq [1, 2, 1] (by decide) (by decide) 500 (by decide) (j + 5) (by omega)
  have h2 := bucket_eq [] (by decide) (by decide) 500 (by decide) (j + 5) (by omega)
  have e1 : bk [1, 2, 1] 500 = (1, 0) := by decide +kernel
  have e2 : bk [] 500 = (0, 30) := by decide +kernel
  rw [e1] at h1
  rw [e2] at h2
  rw [h0, Option.bind_some, show (500 : Int) = ((500 : Nat) : Int) from rfl, h1, Option.bind_some, show ([] : List S26) = rows [] from rfl, h2, Option.bind_some]
  rfl
/-- The first and the last that are not empty, up to i. -/
def Ends (l : List Nat) (i : Nat) (x y : Int) : Prop := (x = -1 ∧ ∀ j, j < i → l.getD j 0 = 0) ∨
  ∃ a b : Nat, x = a ∧ y = b ∧ a < i ∧ b < i ∧ 0 < l.getD a 0 ∧ 0 < l.getD b 0 ∧ (∀ j, j < a → l.getD j 0 = 0) ∧ ∀ j, b < j → j < i → l.getD j 0 = 0
theorem getD_out (l : List Nat) (j : Nat) (h : l.length ≤ j) : l.getD j 0 = 0 := by
  rw [List.getD_eq_getElem?_getD, List.getElem?_eq_none h]; rfl
theorem rd_ofN (l : List Nat) (i : Nat) : rd (l.map (Nat.cast : Nat → Int)) (i : Int) = ((l.getD i 0 : Nat) : Int) := by
  unfold rd
  simp only [Int.toNat_natCast, List.getD_eq_getElem?_getD, List.getElem?_map]
  cases l[i]? <;> simp
theorem law_loop (l : List Nat) (hl : l.length ≤ 33) (hw : ∀ n ∈ l, n ≤ 255) (c p : Nat) (hc : c ≤ 255) (hp : p ≤ 65535) (d : Nat) : ∀ (i k : Nat) (x y : Int), i + d = l.length → d + 100 < k → Ends l i x y →
    tallyroomlaw32_QuantScale.l0 k (l.map (Nat.cast : Nat → Int)) (c : Int) (p : Int) (rows (l.take i)) (rows ((l.take i).map ((1 + c) * ·))) x y (i : Int) = some true := by
  induction d with
  | zero =>
    intro i k x y hi hk hE
    obtain ⟨k, rfl⟩ : ∃ m, k = m + 1 := ⟨k - 1, by omega⟩
    rw [List.take_of_length_le (by omega), tallyroomlaw32_QuantScale.l0, if_neg (by rw [List.length_map]; omega)]
    have hm : ∀ n ∈ l.map ((1 + c) * ·), n ≤ 70000 := fun n hn => by
      obtain ⟨z, hz, rfl⟩ := List.mem_map.1 hn
      have := hw z hz
      have : (1 + c) * z ≤ 256 * 255 := Nat.mul_le_mul (by omega) (by omega)
      omega
    have hm' : ∀ n ∈ l, n ≤ 70000 := fun n hn => by have := hw n hn; omega
    have e1 : Int.tmod (wrap64 (p : Int)) 1001 = ((p % 1001 : Nat) : Int) := by
      rw [IntWalk.wrap64_in _ (by omega), Int.tmod_eq_emod_of_nonneg (by omega)]; omega
    have hq : p % 1001 ≤ 1000 := by omega
    rw [e1]
    generalize p % 1001 = q at hq ⊢
    have b1 := bucket_eq l hl hm' q hq k (by omega)
    have b2 := bucket_eq (l.map ((1 + c) * ·)) (by rw [List.length_map]; exact hl) hm q hq k (by omega)
    have b3 := bucket_eq l hl hm' 0 (by omega) k (by omega)
    have b4 := bucket_eq l hl hm' 1000 (by omega) k (by omega)
    rw [bk_scale l (1 + c) q (by omega)] at b2
    rw [b1, Option.bind_some, b2, Option.bind_some, show (0 : Int) = ((0 : Nat) : Int) from rfl, b3, Option.bind_some, show (1000 : Int) = ((1000 : Nat) : Int) from rfl, b4, Option.bind_some]
    rcases hE with ⟨rfl, hz⟩ | ⟨a, b, rfl, rfl, ha, hb, pa, pb, za, zb⟩
    · have h0 : l.sum = 0 := sum_zero l fun j => by
        by_cases h : j < i
        · exact hz j h
        · exact getD_out l j (by omega)
      have e : ∀ q, bk l q = (0, 30) := fun q => by unfold bk; rw [if_pos h0]
      rw [e, e, e]
      rfl
    · have hs := sum_pos l a pa
      have h3 : bk l 0 = ((a : Int), 0) := by
        unfold bk
        rw [if_neg (by omega), show rank l.sum 0 = 1 by unfold rank; rw [Nat.mul_zero]; rfl, fd_first l 0 a pa za]; simp
      have h4 : bk l 1000 = ((b : Int), 0) := by
        unfold bk
        rw [if_neg (by omega), show rank l.sum 1000 = l.sum by unfold rank; omega, fd_last l 0 b pb fun j hj => by
          by_cases h : j < i
          · exact zb j hj h
          · exact getD_out l j (by omega)]
        simp
      have h5 : (bk l q).2 = 0 := by
        unfold bk
        rw [if_neg (by omega)]
        refine fd_ok l _ 0 (by unfold rank; omega) ?_
        have : l.sum * q ≤ l.sum * 1000 := Nat.mul_le_mul (Nat.le_refl _) hq
        unfold rank
        omega
      rw [h3, h4, if_neg (by omega), if_pos (by rw [h5]; rfl), if_pos (by rw [h5]; rfl), if_pos (by rfl), if_pos (by rfl), if_pos rfl, if_pos (by rfl)]
      simp
  | succ d ih =>
    intro i k x y hi hk hE
    obtain ⟨k, rfl⟩ : ∃ m, k = m + 1 := ⟨k - 1, by omega⟩
    have hlt : i < l.length := by omega
    have hci := getD_le hw i
    have hrec := ih (i + 1) k
    have e1 : rows (l.take i) ++ [(⟨IntKind.u64.wrap (rd (l.map (Nat.cast : Nat → Int)) (i : Int)), false⟩ : S26)] = rows (l.take (i + 1)) := by
      rw [rd_ofN, IntWalk.u64_in _ (by omega), take_one l hlt]
      simp [rows]
    have hmul : (1 + c) * l.getD i 0 ≤ 256 * 255 := Nat.mul_le_mul (by omega) hci
    have e2 : rows ((l.take i).map ((1 + c) * ·)) ++ [(⟨IntKind.u64.wrap ((IntKind.u64.wrap (rd (l.map (Nat.cast : Nat → Int)) (i : Int))) * (IntKind.u64.wrap (1 + (IntKind.u64.wrap (c : Int))))), false⟩ : S26)] = rows ((l.take (i + 1)).map ((1 + c) * ·)) := by
      have e : IntKind.u64.wrap ((IntKind.u64.wrap (rd (l.map (Nat.cast : Nat → Int)) (i : Int))) * (IntKind.u64.wrap (1 + (IntKind.u64.wrap (c : Int))))) = (((1 + c) * l.getD i 0 : Nat) : Int) := by
        rw [rd_ofN, IntWalk.u64_in ((l.getD i 0 : Nat) : Int) (by omega), IntWalk.u64_in (c : Int) (by omega), IntWalk.u64_in (1 + (c : Int)) (by omega), show (1 + (c : Int)) = ((1 + c : Nat) : Int) by omega, ← Int.natCast_mul, Nat.mul_comm]
        exact IntWalk.u64_in _ (by omega)
      rw [e, take_one l hlt, List.map_append]
      simp [rows]
    have e3 : wrap64 ((i : Int) + 1) = ((i + 1 : Nat) : Int) := by rw [IntWalk.wrap64_in _ (by omega)]; omega
    rw [tallyroomlaw32_QuantScale.l0, if_pos (by rw [List.length_map]; omega), if_pos (by omega), if_pos (by rw [rows_length, List.length_take]; omega), e1, Option.bind_some, if_pos (by rw [rows_length, List.length_map, List.length_take]; omega), e2, Option.bind_some, e3, rd_ofN]
    by_cases h0 : 0 < l.getD i 0
    · rw [if_pos (by omega)]
      rcases hE with ⟨rfl, hz⟩ | ⟨a, b, rfl, rfl, ha, hb, pa, pb, za, zb⟩
      · rw [if_pos (by omega)]
        exact hrec _ _ (by omega) (by omega) (.inr ⟨i, i, rfl, rfl, by omega, by omega, h0, h0, hz, fun j _ _ => by omega⟩)
      · rw [if_neg (by omega)]
        exact hrec _ _ (by omega) (by omega) (.inr ⟨a, i, rfl, rfl, by omega, by omega, pa, h0, za, fun j _ _ => by omega⟩)
    · rw [if_neg (by omega)]
      refine hrec _ _ (by omega) (by omega) ?_
      rcases hE with ⟨rfl, hz⟩ | ⟨a, b, rfl, rfl, ha, hb, pa, pb, za, zb⟩
      · refine .inl ⟨rfl, fun j hj => ?_⟩
        by_cases h : j < i
        · exact hz j h
        · obtain rfl : j = i := by omega
          omega
      · refine .inr ⟨a, b, rfl, rfl, by omega, by omega, pa, pb, za, fun j h1 h2 => ?_⟩
        by_cases h : j < i
        · exact zb j h1 h
        · obtain rfl : j = i := by omega
          omega
theorem u8_wf {x : Int} (h : (Lit.int .u8 x).wf = true) : 0 ≤ x ∧ x ≤ 255 := by
  simpa [Lit.wf, IntKind.min, IntKind.max, IntKind.signed, IntKind.bits] using h
theorem u16_wf {x : Int} (h : (Lit.int .u16 x).wf = true) : 0 ≤ x ∧ x ≤ 65535 := by
  simpa [Lit.wf, IntKind.min, IntKind.max, IntKind.signed, IntKind.bits] using h
theorem nats (l : List Int) (h : ∀ x ∈ l, (Lit.int .u8 x).wf = true) : ∃ ns : List Nat, l = ns.map (Nat.cast : Nat → Int) ∧ ∀ n ∈ ns, n ≤ 255 := by
  induction l with
  | nil => exact ⟨[], rfl, by simp⟩
  | cons x l ih =>
    obtain ⟨ns, rfl, hn⟩ := ih fun y hy => h y (List.mem_cons_of_mem _ hy)
    have hx := u8_wf (h x (List.mem_cons_self ..))
    obtain ⟨x, rfl⟩ := Int.eq_ofNat_of_zero_le hx.1
    refine ⟨x :: ns, rfl, fun m hm => ?_⟩
    rcases List.mem_cons.1 hm with rfl | hm
    · omega
    · exact hn m hm
end QuantScaleP

open QuantScaleP in
theorem QuantScale : tallyroomlaw32_QuantScale.Pure := by
  intro l c p _ _ hl hc hp
  obtain ⟨ns, rfl, hw⟩ := nats l hl
  have hc := u8_wf hc
  obtain ⟨c, rfl⟩ := Int.eq_ofNat_of_zero_le hc.1
  have hp := u16_wf hp
  obtain ⟨p, rfl⟩ := Int.eq_ofNat_of_zero_le hp.1
  refine ⟨300, ?_⟩
  unfold tallyroomlaw32_QuantScale.f
  rw [alive_ok (by omega), Option.bind_some, if_pos rfl]
  by_cases h : ns.length > 33
  · rw [if_pos (by simp; omega)]
  · rw [if_neg (by simp; omega)]
    have := law_loop ns (by omega) hw c p (by omega) (by omega) ns.length 0 300 (-1) (-1) (by omega) (by omega) (.inl ⟨rfl, fun j hj => by omega⟩)
    simpa [rows] using this
end Go.Proofs.Ytdcbhakclhbdpaa.Pure
