/- Plain facts on the sum: one bit turned, or two, are told. -/
import Derived.Test.YtbfmmjdbnbfnmaaXDx0
import Derived.Test.YtbfmmjdbnbfnmaaCrcBase
namespace Go.Proofs.Ytbfmmjdbnbfnmaa.Crc
open Go.RowKit Go.Proofs.Ytbfmmjdbnbfnmaa.XD Go.Proofs.YtbfmmjdbnbfnmaaW.PrintWords Go.Proofs.YtbfmmjdbnbfnmaaW.PrintLast Go.Proofs.YtbfmmjdbnbfnmaaW.PrintMore
open Go.Proofs.Ytbfmmjdbnbfnmaa.Var

/-! ### one bit's step backwards -/
theorem step_inj {a b : Nat} (ha : a < 4294967296) (hb : b < 4294967296) (h : step a = step b) : a = b := by
  have hx : step (a ^^^ b) = 0 := by rw [step_xor, h, Nat.xor_self]
  have hlt := xor_lt ha hb
  generalize hc : a ^^^ b = c at hx hlt
  have hc0 : c = 0 := by
    unfold step at hx
    by_cases h1 : c % 2 = 1
    · rw [if_pos h1] at hx
      have : c / 2 = Pol := by
        have := congrArg (· ^^^ Pol) hx
        simpa [Nat.xor_assoc] using this
      unfold Pol at this
      omega
    · rw [if_neg h1] at hx; omega
  subst hc0
  have := congrArg (· ^^^ b) hc
  simpa [Nat.xor_assoc] using this
theorem steps_inj (k : Nat) : ∀ {a b : Nat}, a < 4294967296 → b < 4294967296 → steps k a = steps k b → a = b := by
  induction k with
  | zero => exact fun _ _ h => h
  | succ k ih => exact fun ha hb h => step_inj ha hb (ih (step_lt ha) (step_lt hb) h)
theorem step_zero : step 0 = 0 := rfl
theorem steps_zero (k : Nat) : steps k 0 = 0 := by
  induction k with
  | zero => rfl
  | succ k ih => rw [steps, step_zero, ih]

/-! ### the register is linear -/
theorem feed_shift (l : List Nat) : ∀ (a b : Nat), feed (a ^^^ b) l = feed a l ^^^ steps (8 * l.length) b := by
  induction l with
  | nil => intro a b; rfl
  | cons x l ih =>
    intro a b
    show feed (steps 8 ((a ^^^ b) ^^^ x)) l = feed (steps 8 (a ^^^ x)) l ^^^ steps (8 * (l.length + 1)) b
    have e : (a ^^^ b) ^^^ x = (a ^^^ x) ^^^ b := by rw [Nat.xor_assoc, Nat.xor_comm b x, ← Nat.xor_assoc]
    rw [e, steps_xor 8, ih, show 8 * (l.length + 1) = 8 + 8 * l.length by omega, steps_add 8 (8 * l.length)]
theorem feed_set (l : List Nat) : ∀ (n i x : Nat), i < l.length → feed n (l.set i (l.getD i 0 ^^^ x)) = feed n l ^^^ steps (8 * (l.length - i)) x := by
  induction l with
  | nil => intro n i x h; simp at h
  | cons c l ih =>
    intro n i x h
    cases i with
    | zero =>
      show feed (steps 8 (n ^^^ (c ^^^ x))) l = feed (steps 8 (n ^^^ c)) l ^^^ steps (8 * (l.length + 1 - 0)) x
      rw [← Nat.xor_assoc, steps_xor 8, feed_shift, show 8 * (l.length + 1 - 0) = 8 + 8 * l.length by omega, steps_add 8 (8 * l.length)]
    | succ i =>
      show feed (steps 8 (n ^^^ c)) (l.set i (l.getD i 0 ^^^ x)) = feed (steps 8 (n ^^^ c)) l ^^^ steps (8 * (l.length + 1 - (i + 1))) x
      rw [ih _ i x (by simpa using h), show l.length + 1 - (i + 1) = l.length - i by omega]
/-- Four bytes at once. -/
theorem feed_byte (r n s : Nat) : steps (8 + r) (n ^^^ s) = steps r (steps 8 (n ^^^ s % 256) ^^^ s / 256) := by
  rw [steps_add 8 r]
  congr 1
  have h := split_low s 8
  conv => lhs; rw [← h]
  rw [Nat.xor_comm (2 ^ 8 * (s / 2 ^ 8)), ← Nat.xor_assoc, steps_xor 8, steps_shift 8]
theorem feed_le4 (n s : Nat) (hs : s < 4294967296) : feed n (le4 s) = steps 32 (n ^^^ s) := by
  have e : le4 s = [s % 256, s / 256 % 256, s / 256 / 256 % 256, s / 256 / 256 / 256 % 256] := by
    unfold le4
    rw [show s / 65536 % 256 = s / 256 / 256 % 256 by omega, show s / 16777216 % 256 = s / 256 / 256 / 256 % 256 by omega]
  rw [e]
  show steps 8 (steps 8 (steps 8 (steps 8 (n ^^^ s % 256) ^^^ s / 256 % 256) ^^^ s / 256 / 256 % 256) ^^^ s / 256 / 256 / 256 % 256) = _
  have h1 := feed_byte 24 n s
  generalize steps 8 (n ^^^ s % 256) = n1 at h1 ⊢
  have h2 := feed_byte 16 n1 (s / 256)
  generalize steps 8 (n1 ^^^ s / 256 % 256) = n2 at h2 ⊢
  have h3 := feed_byte 8 n2 (s / 256 / 256)
  generalize steps 8 (n2 ^^^ s / 256 / 256 % 256) = n3 at h3 ⊢
  have h4 := feed_byte 0 n3 (s / 256 / 256 / 256)
  rw [show s / 256 / 256 / 256 / 256 = 0 by omega, Nat.xor_zero] at h4
  exact (h1.trans (h2.trans (h3.trans h4))).symm

/-! ### what is valid -/
def ones : Nat := 4294967295
def num4 (l : List Nat) : Nat := l.getD 0 0 + 256 * l.getD 1 0 + 65536 * l.getD 2 0 + 16777216 * l.getD 3 0
theorem le4_num4 (l : List Nat) (hl : l.length = 4) (hw : ∀ x ∈ l, x ≤ 255) : le4 (num4 l) = l ∧ num4 l < 4294967296 := by
  match l, hl with
  | [a, b, c, d], _ =>
    have ha := hw a (by simp)
    have hb := hw b (by simp)
    have hc := hw c (by simp)
    have hd := hw d (by simp)
    have e : num4 [a, b, c, d] = a + 256 * b + 65536 * c + 16777216 * d := rfl
    rw [e]
    refine ⟨?_, by omega⟩
    simp only [le4, List.cons.injEq, and_true]
    omega
theorem valid_iff (l : List Nat) (h4 : 4 ≤ l.length) (hw : ∀ x ∈ l, x ≤ 255) : (opened l).2 = 12 ∨ feed ones l = steps 32 ones := by
  unfold opened
  rw [if_neg (by omega)]
  by_cases he : l.drop (l.length - 4) = le4 (sum (l.take (l.length - 4)))
  · right
    have ht : ∀ x ∈ l.take (l.length - 4), x ≤ 255 := fun x hx => hw x (List.mem_of_mem_take hx)
    have hf := feed_lt (l.take (l.length - 4)) ones (by decide) ht
    conv => lhs; rw [← List.take_append_drop (l.length - 4) l]
    rw [feed_append, he, feed_le4 _ _ (sum_lt _)]
    congr 1
    have h1 : sum (l.take (l.length - 4)) = ones ^^^ feed ones (l.take (l.length - 4)) := by
      unfold sum more
      rw [show inv 0 = ones by rfl]
      exact (xor_inv _ hf).symm
    rw [h1, Nat.xor_comm ones, ← Nat.xor_assoc, Nat.xor_self, Nat.zero_xor]
  · left
    rw [if_neg he]
theorem sealed_valid (l : List Nat) (hw : ∀ x ∈ l, x ≤ 255) : feed ones (sealed l) = steps 32 ones := by
  rcases valid_iff (sealed l) (by rw [sealed_length]; omega) (sealed_wf hw) with h | h
  · rw [opened_sealed] at h; simp at h
  · exact h

/-! ### no two bits turned are alike -/
def apart : Nat → Nat → Bool
  | 0, _ => true
  | k + 1, n => match step n with
    | 0 => false
    | m + 1 => (m != 0) && apart k (m + 1)
theorem apart_steps (k : Nat) : ∀ n, apart k n = true → ∀ d, 1 ≤ d → d ≤ k → steps d n ≠ 1 := by
  induction k with
  | zero => intro n _ d h1 h2; omega
  | succ k ih =>
    intro n h d h1 h2
    rw [apart] at h
    split at h
    · cases h
    · rename_i m hm
      obtain ⟨d, rfl⟩ : ∃ e, d = e + 1 := ⟨d - 1, by omega⟩
      rw [Bool.and_eq_true] at h
      rw [steps, hm]
      cases d with
      | zero =>
        show m + 1 ≠ 1
        have := h.1
        simp at this
        omega
      | succ d => exact ih (m + 1) h.2 (d + 1) (by omega) (by omega)
/-- One bit turned: what the register is behind all. -/
theorem bit_at (n p : Nat) (hp : p < 8 * n) : steps (8 * (n - p / 8)) (2 ^ (p % 8)) = steps (8 * n - p) 1 := by
  rw [show 8 * (n - p / 8) = p % 8 + (8 * n - p) by omega, steps_add (p % 8) (8 * n - p)]
  have := steps_shift (p % 8) 1
  rw [Nat.mul_one] at this
  rw [this]
set_option maxRecDepth 1000000 in
theorem apart_all : apart 15960 1 = true := by decide +kernel
theorem one_bit (k : Nat) : steps k 1 ≠ 0 := fun h => by
  have := steps_inj k (a := 1) (b := 0) (by omega) (by omega) (by rw [h, steps_zero])
  omega
theorem two_bits {a b : Nat} (h : a < b) (hb : b ≤ 15960) : steps a 1 ≠ steps b 1 := fun e => by
  have h1 : steps b 1 = steps a (steps (b - a) 1) := by rw [← steps_add (b - a) a, show b - a + a = b by omega]
  have h2 := steps_inj a (a := 1) (b := steps (b - a) 1) (by omega) (steps_lt _ (by omega)) (by rw [e, h1])
  exact apart_steps 15960 1 apart_all (b - a) (by omega) (by omega) h2.symm
theorem xor_ne {a b : Nat} (h : b ≠ 0) : a ^^^ b ≠ a := fun e => h (by
  have := congrArg (a ^^^ ·) e
  simpa [← Nat.xor_assoc] using this)
/-- Bit p of bytes is turned. -/
def turned (l : List Nat) (p : Nat) : List Nat := l.set (p / 8) (l.getD (p / 8) 0 ^^^ 2 ^ (p % 8))
theorem turned_length (l : List Nat) (p : Nat) : (turned l p).length = l.length := by simp [turned]
theorem turned_wf {l : List Nat} (p : Nat) (hw : ∀ x ∈ l, x ≤ 255) : ∀ x ∈ turned l p, x ≤ 255 := by
  intro x hx
  rcases List.mem_or_eq_of_mem_set hx with h | rfl
  · exact hw x h
  · have h1 : l.getD (p / 8) 0 < 2 ^ 8 := by have := getD_le hw (p / 8); omega
    have h2 : 2 ^ (p % 8) < 2 ^ 8 := Nat.pow_lt_pow_right (by decide) (by omega)
    have := Nat.xor_lt_two_pow h1 h2
    omega
theorem turned_feed (l : List Nat) (p n : Nat) (hp : p < 8 * l.length) : feed n (turned l p) = feed n l ^^^ steps (8 * l.length - p) 1 := by
  unfold turned
  rw [feed_set l n (p / 8) _ (by omega), bit_at _ _ hp]
theorem tells_one (l : List Nat) (hw : ∀ x ∈ l, x ≤ 255) (p : Nat) (hp : p < 8 * (sealed l).length) : (opened (turned (sealed l) p)).2 = 12 := by
  rcases valid_iff (turned (sealed l) p) (by rw [turned_length, sealed_length]; omega) (turned_wf p (sealed_wf hw)) with h | h
  · exact h
  · rw [turned_feed _ _ _ hp, sealed_valid l hw] at h
    exact absurd h (xor_ne (one_bit _))
theorem tells_two (l : List Nat) (hw : ∀ x ∈ l, x ≤ 255) (hl : l.length ≤ 1990) (p q : Nat) (hpq : p ≠ q) (hp : p < 8 * (sealed l).length) (hq : q < 8 * (sealed l).length) :
    (opened (turned (turned (sealed l) p) q)).2 = 12 := by
  rcases valid_iff (turned (turned (sealed l) p) q) (by rw [turned_length, turned_length, sealed_length]; omega) (turned_wf q (turned_wf p (sealed_wf hw))) with h | h
  · exact h
  · rw [turned_feed _ _ _ (by rw [turned_length]; exact hq), turned_feed _ _ _ hp, turned_length, sealed_valid l hw, Nat.xor_assoc] at h
    exfalso
    rw [sealed_length] at hp hq h
    refine xor_ne (fun h0 => ?_) h
    have h1 : steps (8 * (l.length + 4) - p) 1 = steps (8 * (l.length + 4) - q) 1 := by
      have := congrArg (· ^^^ steps (8 * (l.length + 4) - q) 1) h0
      simpa [Nat.xor_assoc] using this
    rcases Nat.lt_or_gt_of_ne hpq with h2 | h2
    · exact two_bits (by omega) (by omega) h1.symm
    · exact two_bits (by omega) (by omega) h1
end Go.Proofs.Ytbfmmjdbnbfnmaa.Crc
