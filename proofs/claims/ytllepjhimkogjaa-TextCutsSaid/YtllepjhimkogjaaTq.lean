/- What the document's functions on whole texts are in plain words. No conditions but a bound on the length. -/
import Derived.Test.YtllepjhimkogjaaXXx0
import Derived.Test.YtllepjhimkogjaaXXx13
import Derived.Test.YtllepjhimkogjaaXXx14
import Derived.Test.YtllepjhimkogjaaXXx15
import Derived.Test.YtllepjhimkogjaaXXx17
import Derived.Test.YtllepjhimkogjaaXXx20
import Derived.Test.YtllepjhimkogjaaTr
namespace Go.Proofs.Ytllepjhimkogjaa.Tp
open Go.RowKit Go.Proofs.Ytllepjhimkogjaa.XX Go.Proofs.YtllepjhimkogjaaW.PrintWords Go.Proofs.YtllepjhimkogjaaW.PrintLast
open Go.Proofs.Ytllepjhimkogjaa.Txt Go.Proofs.Ytllepjhimkogjaa.Tw

theorem rest_extract (s : ByteArray) (pos : Nat) : D (s.extract pos s.size) = rest s pos := by
  rw [D_extract, List.take_of_length_le (by rw [List.length_drop, D_len]; exact Nat.le_refl _)]; rfl
theorem rune_at (s : ByteArray) (pos : Nat) (h : pos < s.size) (k : Nat) (hk : 10 ≤ k) : tallyroomref03_Rune.f k (s.extract pos s.size) = ans (Utf8.decode s pos) := by
  have e := rest_extract s pos
  rw [rune_eq _ (by rw [← D_len, e, rest_len]; omega) k hk, e, rest_dec]
theorem right_rest {s : ByteArray} {pos : Nat} (h : pos < s.size) : right (rest s pos) = (okD (Utf8.decode s pos) && right (rest s (pos + (Utf8.decode s pos).2))) := by
  rw [right_cons _ _ _ (us_rest h)]
  unfold bad okD
  rw [unit_len h]; rfl
theorem rright_loop (s : ByteArray) (hs : s.size ≤ 1000000) (d : Nat) : ∀ (pos k : Nat), pos ≤ s.size → s.size - pos ≤ d → d + 11 ≤ k → tallyroomref03_Right.l0 k s (pos : Int) = some (right (rest s pos)) := by
  induction d with
  | zero =>
    intro pos k hp hd hk
    obtain ⟨k, rfl⟩ : ∃ m, k = m + 1 := ⟨k - 1, by omega⟩
    rw [tallyroomref03_Right.l0, if_neg (by omega), rest_end (by omega)]; rfl
  | succ d ih =>
    intro pos k hp hd hk
    obtain ⟨k, rfl⟩ : ∃ m, k = m + 1 := ⟨k - 1, by omega⟩
    by_cases h : pos < s.size
    · have hw := width_pos s pos
      have hl := width_le h
      rw [tallyroomref03_Right.l0, if_pos (by omega), if_pos (by omega), if_pos (by omega), Int.toNat_natCast, rune_at s pos h k (by omega), ans, Option.bind_some, right_rest h]
      cases hok : okD (Utf8.decode s pos) with
      | false => rw [if_neg (by simp)]; rfl
      | true =>
        rw [if_pos rfl]
        simp only
        rw [IntWalk.wrap64_in _ (by omega), show (pos : Int) + ((Utf8.decode s pos).2 : Int) = ((pos + (Utf8.decode s pos).2 : Nat) : Int) by omega, ih _ k (by omega) (by omega) (by omega)]; rfl
    · rw [tallyroomref03_Right.l0, if_neg (by omega), rest_end h]; rfl
theorem rright (s : ByteArray) (hs : s.size ≤ 1000000) (k : Nat) (hk : s.size + 11 ≤ k) : tallyroomref03_Right.f k s = some (right (D s)) :=
  rright_loop s hs s.size 0 k (by omega) (by omega) hk
theorem rcount_loop (s : ByteArray) (hs : s.size ≤ 1000000) (d : Nat) : ∀ (pos n k : Nat), pos ≤ s.size → s.size - pos ≤ d → d + 11 ≤ k → n ≤ pos → tallyroomref03_Count.l0 k s (n : Int) (pos : Int) = some ((n + count (rest s pos) : Nat) : Int) := by
  induction d with
  | zero =>
    intro pos n k hp hd hk hn
    obtain ⟨k, rfl⟩ : ∃ m, k = m + 1 := ⟨k - 1, by omega⟩
    rw [tallyroomref03_Count.l0, if_neg (by omega), rest_end (by omega)]; rfl
  | succ d ih =>
    intro pos n k hp hd hk hn
    obtain ⟨k, rfl⟩ : ∃ m, k = m + 1 := ⟨k - 1, by omega⟩
    by_cases h : pos < s.size
    · have hw := width_pos s pos
      have hl := width_le h
      have hc : count (rest s pos) = 1 + count (rest s (pos + (Utf8.decode s pos).2)) := by unfold count; rw [us_rest h, List.length_cons]; omega
      rw [tallyroomref03_Count.l0, if_pos (by omega), if_pos (by omega), if_pos (by omega), Int.toNat_natCast, rune_at s pos h k (by omega), ans, Option.bind_some, hc]
      simp only
      rw [IntWalk.wrap64_in ((pos : Int) + _) (by omega), IntWalk.wrap64_in ((n : Int) + 1) (by omega), show (pos : Int) + ((Utf8.decode s pos).2 : Int) = ((pos + (Utf8.decode s pos).2 : Nat) : Int) by omega, show (n : Int) + 1 = ((n + 1 : Nat) : Int) by omega, ih _ _ k (by omega) (by omega) (by omega) (by omega), Nat.add_assoc]
    · rw [tallyroomref03_Count.l0, if_neg (by omega), rest_end h]; rfl
theorem rcount (s : ByteArray) (hs : s.size ≤ 1000000) (k : Nat) (hk : s.size + 11 ≤ k) : tallyroomref03_Count.f k s = some ((count (D s) : Nat) : Int) := by
  have := rcount_loop s hs s.size 0 0 k (by omega) (by omega) hk (by omega)
  rw [Nat.zero_add] at this
  exact this
theorem B_append (a b : List UInt8) : B a ++ B b = B (a ++ b) := D_inj (by rw [D_append, D_B, D_B, D_B])
theorem rcut_loop (s : ByteArray) (n : Int) (hs : s.size ≤ 1000000) (d : Nat) : ∀ (pos k : Nat), pos ≤ s.size → s.size - pos ≤ d → d + 11 ≤ k → (pos = 0 ∨ (pos : Int) ≤ n) →
    tallyroomref03_Cut.l0 k s n (pos : Int) = some (B ((D s).take (pos + (join (cutU (n.toNat - pos) (us (rest s pos)))).length))) := by
  have fin : ∀ (pos k : Nat), pos ≤ s.size → ¬ pos < s.size → tallyroomref03_Cut.l0 (k + 1) s n (pos : Int) = some (B ((D s).take (pos + (join (cutU (n.toNat - pos) (us (rest s pos)))).length))) := by
    intro pos k hp h
    rw [tallyroomref03_Cut.l0, if_neg (by omega), rest_end h, us_nil, cutU, join_nil, List.length_nil, List.take_of_length_le (by rw [D_len]; omega), B_D]
  induction d with
  | zero =>
    intro pos k hp hd hk hn
    obtain ⟨k, rfl⟩ : ∃ m, k = m + 1 := ⟨k - 1, by omega⟩
    exact fin pos k hp (by omega)
  | succ d ih =>
    intro pos k hp hd hk hn
    obtain ⟨k, rfl⟩ : ∃ m, k = m + 1 := ⟨k - 1, by omega⟩
    by_cases h : pos < s.size
    · have hw := width_pos s pos
      have hl := width_le h
      rw [tallyroomref03_Cut.l0, if_pos (by omega), if_pos (by omega), if_pos (by omega), Int.toNat_natCast, rune_at s pos h k (by omega), ans, Option.bind_some]
      simp only
      rw [IntWalk.wrap64_in ((pos : Int) + _) (by omega), show (pos : Int) + ((Utf8.decode s pos).2 : Int) = ((pos + (Utf8.decode s pos).2 : Nat) : Int) by omega]
      by_cases hgt : ((pos + (Utf8.decode s pos).2 : Nat) : Int) > n
      · rw [if_pos hgt, us_rest h, cutU_stop (by rw [unit_len h]; omega), join_nil, List.length_nil, Nat.add_zero]
        congr 1
        apply D_inj
        rw [D_B, D_extract, List.drop_zero, Nat.sub_zero]
      · rw [if_neg hgt, ih _ k (by omega) (by omega) (by omega) (.inr (by omega)), us_rest h, cutU, if_pos (by rw [unit_len h]; omega), join_cons, List.length_append, unit_len h, ← Nat.add_assoc, ← Nat.sub_sub]
    · exact fin pos k hp h
theorem rcut (s : ByteArray) (n : Int) (hs : s.size ≤ 1000000) (k : Nat) (hk : s.size + 11 ≤ k) : tallyroomref03_Cut.f k s n = some (B (cut n.toNat (D s))) := by
  have := rcut_loop s n hs s.size 0 k (by omega) (by omega) hk (.inl rfl)
  rw [Nat.zero_add, Nat.sub_zero, rest_zero] at this
  rw [(cut_us n.toNat (D s)).2.2]
  exact this
theorem plain_iff (r : Nat) : plain r = false ↔ (r < 32 ∨ (127 ≤ r ∧ r < 160) ∨ r = 8232 ∨ r = 8233 ∨ r = 65533) := by
  unfold plain
  by_cases a : r < 32 <;> by_cases b : 127 ≤ r ∧ r < 160 <;> by_cases c : r = 8232 <;> by_cases d : r = 8233 <;> by_cases e : r = 65533 <;> simp [a, b, c, d, e]
/-- One round of Clean. -/
theorem clean_round (s acc : ByteArray) (pos k : Nat) (hs : s.size ≤ 1000000) (h : pos < s.size) (ha : acc.size ≤ pos) (hk : 10 ≤ k) :
    tallyroomref03_Clean.l0 (k + 1) s acc (pos : Int) = tallyroomref03_Clean.l0 k s (acc ++ B (cl ((Utf8.decode s pos).1, (rest s pos).take (Utf8.decode s pos).2)).2) ((pos + (Utf8.decode s pos).2 : Nat) : Int) := by
  have hw := width_pos s pos
  have hl := width_le h
  rw [tallyroomref03_Clean.l0, if_pos (by omega), if_pos (by omega), if_pos (by omega), Int.toNat_natCast, rune_at s pos h k hk, ans, Option.bind_some]
  simp only
  rw [IntWalk.wrap64_in ((pos : Int) + _) (by omega), show (pos : Int) + ((Utf8.decode s pos).2 : Int) = ((pos + (Utf8.decode s pos).2 : Nat) : Int) by omega, Int.toNat_natCast]
  have ex : s.extract pos (pos + (Utf8.decode s pos).2) = B ((rest s pos).take (Utf8.decode s pos).2) := by
    apply D_inj
    rw [D_B, D_extract, Nat.add_sub_cancel_left]; rfl
  have hsz : (s.extract pos (pos + (Utf8.decode s pos).2)).size = (Utf8.decode s pos).2 := by rw [ex, B_size, unit_len h]
  by_cases hp : plain (Utf8.decode s pos).1 = true
  · have hq : ¬ ((Utf8.decode s pos).1 < 32 ∨ (127 ≤ (Utf8.decode s pos).1 ∧ (Utf8.decode s pos).1 < 160) ∨ (Utf8.decode s pos).1 = 8232 ∨ (Utf8.decode s pos).1 = 8233 ∨ (Utf8.decode s pos).1 = 65533) := fun e => by rw [(plain_iff _).2 e] at hp; cases hp
    have e1 : (cl ((Utf8.decode s pos).1, (rest s pos).take (Utf8.decode s pos).2)).2 = (rest s pos).take (Utf8.decode s pos).2 := by unfold cl; rw [if_pos hp]
    rw [e1, ← ex]
    rw [if_neg (by omega)]
    by_cases h1 : ((Utf8.decode s pos).1 : Int) ≥ 127
    · rw [if_pos h1, if_neg (by omega), if_neg (by omega), if_neg (by omega), if_neg (by omega), if_pos (by omega), if_pos (by omega), if_pos (by omega)]
    · rw [if_neg h1, if_neg (by omega), if_neg (by omega), if_neg (by omega), if_pos (by omega), if_pos (by omega), if_pos (by omega)]
  · rw [Bool.not_eq_true] at hp
    have hq := (plain_iff _).1 hp
    have e1 : B (cl ((Utf8.decode s pos).1, (rest s pos).take (Utf8.decode s pos).2)).2 = ⟨#[95]⟩ := by unfold cl; rw [hp, if_neg (by simp)]; rfl
    rw [e1]
    by_cases c1 : ((Utf8.decode s pos).1 : Int) < 32
    · rw [if_pos c1, if_pos (by omega)]
    · rw [if_neg c1]
      by_cases c2 : ((Utf8.decode s pos).1 : Int) ≥ 127
      · rw [if_pos c2]
        by_cases c3 : ((Utf8.decode s pos).1 : Int) < 160
        · rw [if_pos c3, if_pos (by omega)]
        · rw [if_neg c3]
          by_cases c4 : ((Utf8.decode s pos).1 : Int) = 8232
          · rw [if_pos c4, if_pos (by omega)]
          · rw [if_neg c4]
            by_cases c5 : ((Utf8.decode s pos).1 : Int) = 8233
            · rw [if_pos c5, if_pos (by omega)]
            · rw [if_neg c5, if_pos (by omega), if_pos (by omega)]
      · exfalso; omega
theorem rclean_loop (s : ByteArray) (hs : s.size ≤ 1000000) (d : Nat) : ∀ (pos k : Nat) (acc : ByteArray), pos ≤ s.size → s.size - pos ≤ d → d + 11 ≤ k → acc.size ≤ pos → tallyroomref03_Clean.l0 k s acc (pos : Int) = some (acc ++ B (join ((us (rest s pos)).map cl))) := by
  have fin : ∀ (pos k : Nat) (acc : ByteArray), pos ≤ s.size → ¬ pos < s.size → tallyroomref03_Clean.l0 (k + 1) s acc (pos : Int) = some (acc ++ B (join ((us (rest s pos)).map cl))) := by
    intro pos k acc hp h
    rw [tallyroomref03_Clean.l0, if_neg (by omega), rest_end h, us_nil, List.map_nil, join_nil]
    congr 1
    exact D_inj (by rw [D_append, D_B, List.append_nil])
  induction d with
  | zero =>
    intro pos k acc hp hd hk ha
    obtain ⟨k, rfl⟩ : ∃ m, k = m + 1 := ⟨k - 1, by omega⟩
    exact fin pos k acc hp (by omega)
  | succ d ih =>
    intro pos k acc hp hd hk ha
    obtain ⟨k, rfl⟩ : ∃ m, k = m + 1 := ⟨k - 1, by omega⟩
    by_cases h : pos < s.size
    · have hw := width_pos s pos
      have hl := width_le h
      have hcl := cl_len ((Utf8.decode s pos).1, (rest s pos).take (Utf8.decode s pos).2) (by rw [unit_len h]; omega)
      rw [unit_len h] at hcl
      rw [clean_round s acc pos k hs h ha (by omega), ih _ k _ (by omega) (by omega) (by omega) (by rw [ByteArray.size_append, B_size]; omega), us_rest h, List.map_cons, join_cons]
      congr 1
      exact D_inj (by rw [D_append, D_append, D_append, D_B, D_B, D_B, List.append_assoc])
    · exact fin pos k acc hp h
theorem rclean (s : ByteArray) (hs : s.size ≤ 1000000) (k : Nat) (hk : s.size + 11 ≤ k) : tallyroomref03_Clean.f k s = some (B (clean (D s))) := by
  have := rclean_loop s hs s.size 0 k ⟨#[]⟩ (by omega) (by omega) hk (by decide)
  rw [rest_zero] at this
  have e : (⟨#[]⟩ : ByteArray) ++ B (join ((us s.data.toList).map cl)) = B (clean (D s)) := D_inj (by rw [D_append, D_B, D_B]; rfl)
  rw [e] at this
  exact this
end Go.Proofs.Ytllepjhimkogjaa.Tp
