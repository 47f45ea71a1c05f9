/- Plain facts on numbers in few bytes: what was put is got; signs. -/
import Derived.Test.YtfgpcoocbblkiaaXSvx0
import Derived.Test.YtfgpcoocbblkiaaXSvx3
import Derived.Test.YtfgpcoocbblkiaaVarBase
namespace Go.Proofs.Ytfgpcoocbblkiaa.Var
open Go.RowKit Go.Proofs.Ytfgpcoocbblkiaa.XSv Go.Proofs.YtfgpcoocbblkiaaW.PrintWords Go.Proofs.YtfgpcoocbblkiaaW.PrintLast Go.Proofs.YtfgpcoocbblkiaaW.PrintMore

theorem i_le {n i : Nat} (hn : 1 ≤ n) (h : n * 128 ^ i < 2 ^ 64) : i ≤ 9 := by
  rcases Nat.lt_or_ge 9 i with h9 | h9
  · have h1 : 128 ^ 10 ≤ 128 ^ i := Nat.pow_le_pow_right (by decide) h9
    have h2 : 1 * 128 ^ i ≤ n * 128 ^ i := Nat.mul_le_mul_right _ hn
    have h3 : (2 : Nat) ^ 64 ≤ 128 ^ 10 := by decide
    omega
  · exact h9
theorem vg_put (n : Nat) : ∀ (i acc : Nat) (rest : List Nat), n * 128 ^ i < 2 ^ 64 → (i = 0 ∨ 1 ≤ n) → vg i acc (vput n ++ rest) = (acc + n * 128 ^ i, i + (vput n).length, 0) := by
  induction n using Nat.strongRecOn with
  | _ n ih =>
    intro i acc rest hn hi
    by_cases h : n < 128
    · rw [vput_small h]
      simp only [List.cons_append, List.nil_append, List.length_singleton]
      have hb : ¬ (10 ≤ i ∨ i = 9 ∧ 1 < n % 128) := by
        rcases Nat.eq_zero_or_pos n with rfl | h0
        · omega
        · have := i_le h0 hn
          rintro (h1 | ⟨rfl, h1⟩)
          · omega
          · have : 2 * 128 ^ 9 ≤ n * 128 ^ 9 := Nat.mul_le_mul_right _ (by omega)
            have h3 : (2 : Nat) ^ 64 ≤ 2 * 128 ^ 9 := by decide
            omega
      rw [vg, if_neg hb, if_pos h, if_neg (by omega), Nat.mod_eq_of_lt h]
    · rw [vput_great h]
      simp only [List.cons_append, List.length_cons]
      have hm : n / 128 * 128 ^ (i + 1) ≤ n * 128 ^ i := by
        rw [Nat.pow_succ, Nat.mul_comm (128 ^ i) 128, ← Nat.mul_assoc]
        exact Nat.mul_le_mul_right _ (Nat.div_mul_le_self _ _)
      have := i_le (n := n / 128) (i := i + 1) (by omega) (by omega)
      rw [vg, if_neg (by omega), if_neg (by omega), ih (n / 128) (by omega) (i + 1) _ rest (by omega) (by omega)]
      have e : acc + (128 + n % 128) % 128 * 128 ^ i + n / 128 * 128 ^ (i + 1) = acc + n * 128 ^ i := by
        rw [show (128 + n % 128) % 128 = n % 128 by omega, Nat.pow_succ, Nat.mul_comm (128 ^ i) 128, ← Nat.mul_assoc, Nat.add_assoc, ← Nat.add_mul]
        rw [show n % 128 + n / 128 * 128 = n by omega]
      rw [e, show i + 1 + (vput (n / 128)).length = i + ((vput (n / 128)).length + 1) by omega]
theorem vget_put (n : Nat) (rest : List Nat) (hn : n < 2 ^ 64) : vget (vput n ++ rest) = (n, (vput n).length, 0) := by
  have := vg_put n 0 0 rest (by simpa using hn) (.inl rfl)
  simpa [vget] using this
theorem vg_cut (n : Nat) : ∀ (i acc j : Nat), n * 128 ^ i < 2 ^ 64 → (i = 0 ∨ 1 ≤ n) → j < (vput n).length → vg i acc ((vput n).take j) = (0, 0, 10) := by
  induction n using Nat.strongRecOn with
  | _ n ih =>
    intro i acc j hn hi hj
    cases j with
    | zero => rfl
    | succ j =>
      by_cases h : n < 128
      · rw [vput_small h] at hj; simp at hj
      · rw [vput_great h] at hj ⊢
        simp only [List.take_succ_cons, List.length_cons] at hj ⊢
        have hm : n / 128 * 128 ^ (i + 1) ≤ n * 128 ^ i := by
          rw [Nat.pow_succ, Nat.mul_comm (128 ^ i) 128, ← Nat.mul_assoc]
          exact Nat.mul_le_mul_right _ (Nat.div_mul_le_self _ _)
        have := i_le (n := n / 128) (i := i + 1) (by omega) (by omega)
        rw [vg, if_neg (by omega), if_neg (by omega)]
        exact ih (n / 128) (by omega) (i + 1) _ j (by omega) (by omega) (by omega)
theorem vget_cut (n j : Nat) (hn : n < 2 ^ 64) (hj : j < (vput n).length) : vget ((vput n).take j) = (0, 0, 10) := vg_cut n 0 0 j (by simpa using hn) (.inl rfl) hj
theorem vput_inj {n m : Nat} (hn : n < 2 ^ 64) (hm : m < 2 ^ 64) {a b : List Nat} (h : vput n ++ a = vput m ++ b) : n = m := by
  have h1 := vget_put n a hn
  rw [h, vget_put m b hm] at h1
  exact (Prod.mk.inj h1).1.symm
theorem vput_length_mono {n m : Nat} (h : n ≤ m) : (vput n).length ≤ (vput m).length := by
  induction m using Nat.strongRecOn generalizing n with
  | _ m ih =>
    by_cases hn : n < 128
    · rw [vput_small hn]; exact vput_pos m
    · rw [vput_great hn, vput_great (n := m) (by omega), List.length_cons, List.length_cons]
      have := ih (m / 128) (by omega) (n := n / 128) (by omega)
      omega

/-! ### two lists of bytes -/
theorem ofN_inj {a b : List Nat} (h : ofN a = ofN b) : a = b := by
  induction a generalizing b with
  | nil => cases b with
    | nil => rfl
    | cons y b => simp [ofN] at h
  | cons x a ih => cases b with
    | nil => simp [ofN] at h
    | cons y b =>
      simp only [ofN, List.map_cons, List.cons.injEq] at h
      rw [ih h.2, show x = y by omega]
theorem strOfNums_ofN (a : List Nat) (ha : ∀ x ∈ a, x ≤ 255) : (strOfNums (ofN a)).toList.map UInt8.toNat = a := by
  rw [ByteArray.toList_eq, strOfNums_data]
  unfold ofN
  rw [List.map_map, List.map_map]
  conv => rhs; rw [← List.map_id a]
  apply List.map_congr_left
  intro x hx
  have := ha x hx
  simp only [Function.comp, Int.toNat_natCast, id, UInt8.toNat_ofNat']
  omega
theorem bytes_eq {a b : List Nat} (ha : ∀ x ∈ a, x ≤ 255) (hb : ∀ x ∈ b, x ≤ 255) : tallyroomref01_Bytes.f (ofN a) (ofN b) = some (decide (a = b)) := by
  unfold tallyroomref01_Bytes.f
  by_cases h : a = b
  · subst h; simp
  · rw [decide_eq_false h]
    congr 1
    rw [beq_eq_false_iff_ne]
    intro e
    exact h (by rw [← strOfNums_ofN a ha, ← strOfNums_ofN b hb, e])

/-! ### signs -/
theorem xor_zero (x : Int) (h : 0 ≤ x ∧ x ≤ 18446744073709551615) : Go.bits .xor .u64 x 0 = x := by
  obtain ⟨n, rfl⟩ := Int.eq_ofNat_of_zero_le h.1
  have := bits_xor_u64_nat n 0 (by omega) (by omega)
  simpa using this
theorem xor_ones (x : Int) (h : 0 ≤ x ∧ x ≤ 18446744073709551615) : Go.bits .xor .u64 x 18446744073709551615 = 18446744073709551615 - x := by
  obtain ⟨n, rfl⟩ := Int.eq_ofNat_of_zero_le h.1
  have h1 := bits_xor_u64_nat n 18446744073709551615 (by omega) (by omega)
  have h2 : (n ^^^ 18446744073709551615) = 18446744073709551615 - n := by
    have hb : (BitVec.ofNat 64 n ^^^ BitVec.allOnes 64).toNat = 18446744073709551615 - n := by
      rw [BitVec.xor_allOnes, BitVec.toNat_not, BitVec.toNat_ofNat, Nat.mod_eq_of_lt (by omega)]
    rw [BitVec.toNat_xor, BitVec.toNat_ofNat, BitVec.toNat_allOnes, Nat.mod_eq_of_lt (by omega)] at hb
    exact hb
  rw [h2] at h1
  refine h1.trans ?_
  omega
theorem xor_i64_zero (x : Int) (h : -9223372036854775808 ≤ x ∧ x ≤ 9223372036854775807) : Go.bits .xor .i64 x 0 = x := by
  show IntKind.i64.wrap ((BitVec.ofInt 64 x ^^^ BitVec.ofInt 64 0).toNat : Int) = x
  rw [show BitVec.ofInt 64 0 = 0#64 by decide, BitVec.xor_zero, BitVec.toNat_ofInt, IntKind.wrap_i64]
  omega
theorem xor_i64_ones (x : Int) (h : -9223372036854775808 ≤ x ∧ x ≤ 9223372036854775807) : Go.bits .xor .i64 x (-1) = -1 - x := by
  show IntKind.i64.wrap ((BitVec.ofInt 64 x ^^^ BitVec.ofInt 64 (-1)).toNat : Int) = _
  rw [show BitVec.ofInt 64 (-1) = BitVec.allOnes 64 by decide, BitVec.xor_allOnes, BitVec.toNat_not, BitVec.toNat_ofInt, IntKind.wrap_i64]
  omega
theorem and_one (n : Nat) (h : n < 18446744073709551616) : Go.bits .and .u64 (n : Int) 1 = ((n % 2 : Nat) : Int) := by
  have := bits_and_u64_nat n 1 h (by omega)
  rw [Nat.and_one_is_mod] at this
  exact this
theorem ofN_byte {l : List Int} (h : ∀ x ∈ l, (Lit.int .u8 x).wf = true) : ∃ ns : List Nat, l = ofN ns ∧ ∀ n ∈ ns, n ≤ 255 := ofN_of l 255 fun x hx => u8_wf (h x hx)
theorem vput_wf (n : Nat) : ∀ x ∈ vput n, x ≤ 255 := vput_byte n
theorem mem_app {a b : List Nat} (ha : ∀ x ∈ a, x ≤ 255) (hb : ∀ x ∈ b, x ≤ 255) : ∀ x ∈ a ++ b, x ≤ 255 := fun x hx => (List.mem_append.1 hx).elim (ha x) (hb x)
end Go.Proofs.Ytfgpcoocbblkiaa.Var
