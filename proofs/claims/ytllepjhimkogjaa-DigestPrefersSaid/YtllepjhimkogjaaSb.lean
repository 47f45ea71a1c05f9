/- The order of texts as lists of bytes: it is total, and > is < turned about. No conditions. -/
import Derived.WalkKit
import Derived.Lib.Bytealg
namespace Go.Proofs.Ytllepjhimkogjaa.Sb
set_option linter.unusedSimpArgs false
theorem u8_tri (a b : UInt8) : a < b ∨ a = b ∨ b < a := by
  rcases Nat.lt_trichotomy a.toNat b.toNat with h | h | h
  · exact Or.inl (UInt8.lt_iff_toNat_lt.2 h)
  · exact Or.inr (Or.inl (UInt8.toNat_inj.1 h))
  · exact Or.inr (Or.inr (UInt8.lt_iff_toNat_lt.2 h))
theorem u8_asymm {a b : UInt8} (h : a < b) : ¬ b < a := fun k => by
  have := UInt8.lt_iff_toNat_lt.1 h; have := UInt8.lt_iff_toNat_lt.1 k; omega
theorem u8_irrefl (a : UInt8) : ¬ a < a := fun k => by have := UInt8.lt_iff_toNat_lt.1 k; omega
theorem u8_trans {a b c : UInt8} (h : a < b) (k : b < c) : a < c := by
  have := UInt8.lt_iff_toNat_lt.1 h; have := UInt8.lt_iff_toNat_lt.1 k; exact UInt8.lt_iff_toNat_lt.2 (by omega)
/-- -1, 0, 1: as compareBytes. -/
theorem cmp_lt : ∀ x y : List UInt8, Op.bytesLess x y = true ↔ Lib.compareBytes x y = -1
  | [], [] => by simp [Op.bytesLess, Lib.compareBytes]
  | [], _ :: _ => by simp [Op.bytesLess, Lib.compareBytes]
  | _ :: _, [] => by simp [Op.bytesLess, Lib.compareBytes]
  | a :: x, b :: y => by
    have ih := cmp_lt x y
    unfold Op.bytesLess Lib.compareBytes
    rcases u8_tri a b with h | h | h
    · simp [h]
    · subst h; simp [u8_irrefl, ih]
    · have h1 := u8_asymm h
      have h2 : a ≠ b := fun e => u8_irrefl b (by rw [e] at h; exact h)
      simp [h, h1, h2]
theorem cmp_swap : ∀ x y : List UInt8, Lib.compareBytes y x = - Lib.compareBytes x y
  | [], [] => by simp [Lib.compareBytes]
  | [], _ :: _ => by simp [Lib.compareBytes]
  | _ :: _, [] => by simp [Lib.compareBytes]
  | a :: x, b :: y => by
    have ih := cmp_swap x y
    unfold Lib.compareBytes
    rcases u8_tri a b with h | h | h
    · simp [h, u8_asymm h]
    · subst h; simp [u8_irrefl, ih]
    · simp [h, u8_asymm h]
theorem cmp_zero : ∀ x y : List UInt8, Lib.compareBytes x y = 0 ↔ x = y
  | [], [] => by simp [Lib.compareBytes]
  | [], _ :: _ => by simp [Lib.compareBytes]
  | _ :: _, [] => by simp [Lib.compareBytes]
  | a :: x, b :: y => by
    have ih := cmp_zero x y
    unfold Lib.compareBytes
    rcases u8_tri a b with h | h | h
    · have : a ≠ b := fun e => u8_irrefl b (by rw [e] at h; exact h)
      simp [h, this]
    · subst h; simp [u8_irrefl, ih]
    · have : a ≠ b := fun e => u8_irrefl b (by rw [e] at h; exact h)
      simp [h, u8_asymm h, this]
theorem cmp_range : ∀ x y : List UInt8, Lib.compareBytes x y = -1 ∨ Lib.compareBytes x y = 0 ∨ Lib.compareBytes x y = 1
  | [], [] => by simp [Lib.compareBytes]
  | [], _ :: _ => by simp [Lib.compareBytes]
  | _ :: _, [] => by simp [Lib.compareBytes]
  | a :: x, b :: y => by
    have ih := cmp_range x y
    unfold Lib.compareBytes
    split
    · simp
    · split
      · simp
      · exact ih
theorem cmp_trans : ∀ x y z : List UInt8, Lib.compareBytes x y = -1 → Lib.compareBytes y z = -1 → Lib.compareBytes x z = -1
  | [], [], _ => by simp [Lib.compareBytes]
  | [], _ :: _, [] => by simp [Lib.compareBytes]
  | [], _ :: _, _ :: _ => by simp [Lib.compareBytes]
  | _ :: _, [], _ => by simp [Lib.compareBytes]
  | _ :: _, _ :: _, [] => by simp [Lib.compareBytes]
  | a :: x, b :: y, c :: z => by
    have ih := cmp_trans x y z
    unfold Lib.compareBytes
    rcases u8_tri a b with h | h | h
    · rcases u8_tri b c with k | k | k
      · simp [h, k, u8_trans h k]
      · subst k; simp [h]
      · simp [k, u8_asymm k]
    · subst h
      rcases u8_tri a c with k | k | k
      · simp [k]
      · subst k; simpa [u8_irrefl] using ih
      · simp [k, u8_asymm k]
    · simp [h, u8_asymm h]
theorem bl_ite (a b : ByteArray) : (if Op.bytesLess a.toList b.toList = true then (-1 : Int) else if Op.bytesLess b.toList a.toList = true then 1 else 0) = Lib.compareBytes a.toList b.toList := by
  have h1 := cmp_lt a.toList b.toList
  have h2 := cmp_lt b.toList a.toList
  have h3 := cmp_swap a.toList b.toList
  rcases cmp_range a.toList b.toList with h | h | h
  · rw [if_pos (h1.2 h), h]
  · rw [if_neg (fun e => by rw [h1.1 e] at h; cases h), if_neg (fun e => by have := h2.1 e; omega), h]
  · rw [if_neg (fun e => by rw [h1.1 e] at h; cases h), if_pos (h2.2 (by omega)), h]
theorem not_le (x y : List UInt8) : (!(Op.bytesLess x y || x == y)) = Op.bytesLess y x := by
  have h1 := cmp_lt x y
  have h2 := cmp_lt y x
  have h3 := cmp_swap x y
  have h4 := cmp_zero x y
  rw [Bool.eq_iff_iff]
  simp only [Bool.not_eq_true', Bool.or_eq_false_iff, beq_eq_false_iff_ne, ne_eq]
  rw [h2]
  constructor
  · rintro ⟨a, b⟩
    rcases cmp_range x y with h | h | h
    · rw [h1.2 h] at a; cases a
    · exact absurd (h4.1 h) b
    · omega
  · intro h
    refine ⟨?_, fun e => ?_⟩
    · rw [Bool.eq_false_iff]; intro e; have := h1.1 e; omega
    · have := h4.2 e; omega
theorem gtr_string (t : TypeId) (a b : ByteArray) : binOp .gtr t (.string a) (.string b) = pure (.bool (Op.bytesLess b.toList a.toList)) := by
  rw [← not_le]
  simp [binOp, Op.stringOp]
end Go.Proofs.Ytllepjhimkogjaa.Sb
