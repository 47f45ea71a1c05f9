/- The law's proof, part 35: the text Tk of this session, or words printed for this seat; what the theorem doesn't use is left out. No conditions. -/
import Derived.Test.YtllepjhimkogjaaFSTe7
import Derived.Test.YtllepjhimkogjaaFSTe33
import Derived.Test.YtllepjhimkogjaaFSTe34
namespace Go.Proofs.Ytllepjhimkogjaa.Tw
end Go.Proofs.Ytllepjhimkogjaa.Tw
namespace Go.Proofs.Ytllepjhimkogjaa.Txt
end Go.Proofs.Ytllepjhimkogjaa.Txt
namespace Go.Proofs.Ytllepjhimkogjaa.XX
end Go.Proofs.Ytllepjhimkogjaa.XX
namespace Go.Proofs.YtllepjhimkogjaaW.PrintLast
end Go.Proofs.YtllepjhimkogjaaW.PrintLast
namespace Go.Proofs.YtllepjhimkogjaaW.PrintWords
end Go.Proofs.YtllepjhimkogjaaW.PrintWords
namespace Go.Proofs.Ytllepjhimkogjaa.Tp
open Go.RowKit Go.Proofs.Ytllepjhimkogjaa.XX Go.Proofs.YtllepjhimkogjaaW.PrintWords Go.Proofs.YtllepjhimkogjaaW.PrintLast
open Go.Proofs.Ytllepjhimkogjaa.Txt Go.Proofs.Ytllepjhimkogjaa.Tw
def by' (S : ByteArray) (i : Nat) : Nat := ((D S).getD i 0).toNat
theorem by_lt (S : ByteArray) (i : Nat) : by' S i < 256 := ((D S).getD i 0).toNat_lt
theorem bt_by (S : ByteArray) (i : Nat) : bt S (i : Int) = (by' S i : Int) := by
  unfold bt by'
  rw [Int.toNat_natCast]
  by_cases h : i < S.size
  · rw [dif_pos h, List.getD_eq_getElem?_getD, List.getElem?_eq_getElem (by rw [D_len]; exact h)]
    rfl
  · rw [dif_neg h, List.getD_eq_getElem?_getD, List.getElem?_eq_none (by rw [D_len]; omega)]
    rfl
abbrev badT : Option (Int × Int × Bool) := some (65533, 1, false)
theorem l0_next (S : ByteArray) (k N L r i : Nat) (hi : i < N) (hN : N ≤ 4) (hs : i < S.size) (hr : r ≤ 2000000) (h1 : 128 ≤ by' S i) (h2 : by' S i ≤ 191) :
    tallyroomref03_Rune.l0 (k + 1) S (N : Int) (L : Int) (r : Int) (i : Int) = tallyroomref03_Rune.l0 k S (N : Int) (L : Int) ((r * 64 + by' S i - 128 : Nat) : Int) ((i + 1 : Nat) : Int) := by
  rw [tallyroomref03_Rune.l0, if_pos (by omega), if_pos (by omega), if_pos (by omega), bt_by, if_neg (by omega), if_neg (by omega)]
  rw [IntWalk.wrap64_in ((by' S i : Nat) : Int) (by omega), IntWalk.wrap64_in ((r : Int) * 64) (by omega), IntWalk.wrap64_in ((r : Int) * 64 + (by' S i : Int)) (by omega), IntWalk.wrap64_in ((r : Int) * 64 + (by' S i : Int) - 128) (by omega), IntWalk.wrap64_in ((i : Int) + 1) (by omega)]
  rw [show (r : Int) * 64 + (by' S i : Int) - 128 = ((r * 64 + by' S i - 128 : Nat) : Int) by omega, show (i : Int) + 1 = ((i + 1 : Nat) : Int) by omega]
theorem l0_bad (S : ByteArray) (k N L r i : Nat) (hi : i < N) (hs : i < S.size) (h : by' S i < 128 ∨ 191 < by' S i) :
    tallyroomref03_Rune.l0 (k + 1) S (N : Int) (L : Int) (r : Int) (i : Int) = badT := by
  rw [tallyroomref03_Rune.l0, if_pos (by omega), if_pos (by omega), if_pos (by omega), bt_by]
  by_cases h1 : by' S i < 128
  · rw [if_pos (by omega)]
  · rw [if_neg (by omega), if_pos (by omega)]
theorem l0_end (S : ByteArray) (k N L r : Nat) :
    tallyroomref03_Rune.l0 (k + 1) S (N : Int) (L : Int) (r : Int) (N : Int) = if r < L ∨ 1114111 < r ∨ (55296 ≤ r ∧ r < 57344) then badT else some ((r : Int), (N : Int), true) := by
  rw [tallyroomref03_Rune.l0, if_neg (by omega)]
  by_cases h1 : r < L
  · rw [if_pos (by omega), if_pos (.inl h1)]
  · rw [if_neg (by omega)]
    by_cases h2 : 1114111 < r
    · rw [if_pos (by omega), if_pos (.inr (.inl h2))]
    · rw [if_neg (by omega)]
      by_cases h3 : 55296 ≤ r
      · rw [if_pos (by omega)]
        by_cases h4 : r < 57344
        · rw [if_pos (by omega), if_pos (.inr (.inr ⟨h3, h4⟩))]
        · rw [if_neg (by omega), if_neg (by omega)]
      · rw [if_neg (by omega), if_neg (by omega)]
theorem j2_short (S : ByteArray) (k N L r : Nat) (h : S.size < N) : tallyroomref03_Rune.j2 (k + 1) S (N : Int) (L : Int) (r : Int) = badT := by
  rw [tallyroomref03_Rune.j2, if_pos (by omega)]
theorem j2_go (S : ByteArray) (k N L r : Nat) (h : ¬ S.size < N) : tallyroomref03_Rune.j2 (k + 1) S (N : Int) (L : Int) (r : Int) = tallyroomref03_Rune.l0 k S (N : Int) (L : Int) (r : Int) ((1 : Nat) : Int) := by
  rw [tallyroomref03_Rune.j2, if_neg (by omega)]; rfl
def okD (d : Nat × Nat) : Bool := !decide (d.1 = 65533 ∧ d.2 = 1)
def ans (d : Nat × Nat) : Option (Int × Int × Bool) := some ((d.1 : Int), (d.2 : Int), okD d)
theorem ans_ok {r n : Nat} (h : 2 ≤ n) : ans (r, n) = some ((r : Int), (n : Int), true) := by
  unfold ans okD; rw [decide_eq_false (by simp only; omega)]; rfl
theorem two (S : ByteArray) (k b0 : Nat) (hb : 194 ≤ b0 ∧ b0 < 224) (h0 : by' S 0 = b0) (hs : 1 ≤ S.size) :
    tallyroomref03_Rune.j2 (k + 4) S ((2 : Nat) : Int) ((128 : Nat) : Int) ((b0 - 192 : Nat) : Int) = ans (Lib.decodeN S.size b0 (by' S 1) (by' S 2) (by' S 3)) := by
  have l1 := by_lt S 1
  by_cases hn : S.size < 2
  · rw [j2_short _ _ _ _ _ hn]
    have e : Lib.decodeN S.size b0 (by' S 1) (by' S 2) (by' S 3) = (65533, 1) := by
      unfold Lib.decodeN
      repeat' split
      all_goals first | rfl | (exfalso; omega)
    rw [e]; rfl
  · rw [j2_go _ _ _ _ _ hn]
    by_cases h1 : 128 ≤ by' S 1 ∧ by' S 1 ≤ 191
    · rw [l0_next S _ 2 128 _ 1 (by omega) (by omega) (by omega) (by omega) h1.1 h1.2]
      have := l0_end S (k + 1) 2 128 ((b0 - 192) * 64 + by' S 1 - 128)
      rw [this, if_neg (by omega)]
      have e : Lib.decodeN S.size b0 (by' S 1) (by' S 2) (by' S 3) = ((b0 - 192) * 64 + by' S 1 - 128, 2) := by
        unfold Lib.decodeN
        repeat' split
        all_goals first | (exfalso; omega) | exact Prod.ext (by dsimp only; omega) rfl
      rw [e, ans_ok (by omega)]
    · rw [l0_bad S _ 2 128 _ 1 (by omega) (by omega) (by omega)]
      have e : Lib.decodeN S.size b0 (by' S 1) (by' S 2) (by' S 3) = (65533, 1) := by
        unfold Lib.decodeN
        repeat' split
        all_goals first | rfl | (exfalso; omega)
      rw [e]; rfl
theorem three (S : ByteArray) (k b0 : Nat) (hb : 224 ≤ b0 ∧ b0 < 240) :
    tallyroomref03_Rune.j2 (k + 4) S ((3 : Nat) : Int) ((2048 : Nat) : Int) ((b0 - 224 : Nat) : Int) = ans (Lib.decodeN S.size b0 (by' S 1) (by' S 2) (by' S 3)) := by
  have l1 := by_lt S 1
  have l2 := by_lt S 2
  have bad : (S.size < 3 ∨ ¬ (128 ≤ by' S 1 ∧ by' S 1 ≤ 191) ∨ ¬ (128 ≤ by' S 2 ∧ by' S 2 ≤ 191)) → ans (Lib.decodeN S.size b0 (by' S 1) (by' S 2) (by' S 3)) = badT := by
    intro h
    have e : Lib.decodeN S.size b0 (by' S 1) (by' S 2) (by' S 3) = (65533, 1) := by
      unfold Lib.decodeN
      repeat' split
      all_goals first | rfl | (exfalso; omega)
    rw [e]; rfl
  by_cases hn : S.size < 3
  · rw [j2_short _ _ _ _ _ hn, bad (.inl hn)]
  · rw [j2_go _ _ _ _ _ hn]
    by_cases h1 : 128 ≤ by' S 1 ∧ by' S 1 ≤ 191
    · rw [l0_next S _ 3 2048 _ 1 (by omega) (by omega) (by omega) (by omega) h1.1 h1.2]
      by_cases h2 : 128 ≤ by' S 2 ∧ by' S 2 ≤ 191
      · rw [l0_next S _ 3 2048 _ (1 + 1) (by omega) (by omega) (by omega) (by omega) h2.1 h2.2]
        have := l0_end S k 3 2048 (((b0 - 224) * 64 + by' S 1 - 128) * 64 + by' S (1 + 1) - 128)
        rw [show ((1 + 1 + 1 : Nat) : Int) = ((3 : Nat) : Int) from rfl, this]
        rw [show 1 + 1 = 2 from rfl]
        by_cases hc : (((b0 - 224) * 64 + by' S 1 - 128) * 64 + by' S 2 - 128 < 2048 ∨ 1114111 < ((b0 - 224) * 64 + by' S 1 - 128) * 64 + by' S 2 - 128 ∨ (55296 ≤ ((b0 - 224) * 64 + by' S 1 - 128) * 64 + by' S 2 - 128 ∧ ((b0 - 224) * 64 + by' S 1 - 128) * 64 + by' S 2 - 128 < 57344))
        · rw [if_pos hc]
          have e : Lib.decodeN S.size b0 (by' S 1) (by' S 2) (by' S 3) = (65533, 1) := by
            unfold Lib.decodeN
            repeat' split
            all_goals first | rfl | (exfalso; omega)
          rw [e]; rfl
        · rw [if_neg hc]
          have e : Lib.decodeN S.size b0 (by' S 1) (by' S 2) (by' S 3) = (((b0 - 224) * 64 + by' S 1 - 128) * 64 + by' S 2 - 128, 3) := by
            unfold Lib.decodeN
            repeat' split
            all_goals first | (exfalso; omega) | exact Prod.ext (by dsimp only; omega) rfl
          rw [e, ans_ok (by omega)]
      · rw [l0_bad S _ 3 2048 _ (1 + 1) (by omega) (by omega) (show by' S 2 < 128 ∨ 191 < by' S 2 by omega), bad (.inr (.inr h2))]
    · rw [l0_bad S _ 3 2048 _ 1 (by omega) (by omega) (by omega), bad (.inr (.inl h1))]
theorem four (S : ByteArray) (k b0 : Nat) (hb : 240 ≤ b0 ∧ b0 < 245) :
    tallyroomref03_Rune.j2 (k + 5) S ((4 : Nat) : Int) ((65536 : Nat) : Int) ((b0 - 240 : Nat) : Int) = ans (Lib.decodeN S.size b0 (by' S 1) (by' S 2) (by' S 3)) := by
  have l1 := by_lt S 1
  have l2 := by_lt S 2
  have l3 := by_lt S 3
  have bad : (S.size < 4 ∨ ¬ (128 ≤ by' S 1 ∧ by' S 1 ≤ 191) ∨ ¬ (128 ≤ by' S 2 ∧ by' S 2 ≤ 191) ∨ ¬ (128 ≤ by' S 3 ∧ by' S 3 ≤ 191)) → ans (Lib.decodeN S.size b0 (by' S 1) (by' S 2) (by' S 3)) = badT := by
    intro h
    have e : Lib.decodeN S.size b0 (by' S 1) (by' S 2) (by' S 3) = (65533, 1) := by
      unfold Lib.decodeN
      repeat' split
      all_goals first | rfl | (exfalso; omega)
    rw [e]; rfl
  by_cases hn : S.size < 4
  · rw [j2_short _ _ _ _ _ hn, bad (.inl hn)]
  · rw [j2_go _ _ _ _ _ hn]
    by_cases h1 : 128 ≤ by' S 1 ∧ by' S 1 ≤ 191
    · rw [l0_next S _ 4 65536 _ 1 (by omega) (by omega) (by omega) (by omega) h1.1 h1.2]
      by_cases h2 : 128 ≤ by' S 2 ∧ by' S 2 ≤ 191
      · rw [l0_next S _ 4 65536 _ (1 + 1) (by omega) (by omega) (by omega) (by omega) h2.1 h2.2]
        by_cases h3 : 128 ≤ by' S 3 ∧ by' S 3 ≤ 191
        · rw [l0_next S _ 4 65536 _ (1 + 1 + 1) (by omega) (by omega) (by omega) (by simp only [show 1 + 1 = 2 from rfl]; omega) h3.1 h3.2]
          have := l0_end S k 4 65536 ((((b0 - 240) * 64 + by' S 1 - 128) * 64 + by' S (1 + 1) - 128) * 64 + by' S (1 + 1 + 1) - 128)
          rw [show ((1 + 1 + 1 + 1 : Nat) : Int) = ((4 : Nat) : Int) from rfl, this]
          rw [show 1 + 1 + 1 = 3 from rfl, show 1 + 1 = 2 from rfl]
          by_cases hc : ((((b0 - 240) * 64 + by' S 1 - 128) * 64 + by' S 2 - 128) * 64 + by' S 3 - 128 < 65536 ∨ 1114111 < (((b0 - 240) * 64 + by' S 1 - 128) * 64 + by' S 2 - 128) * 64 + by' S 3 - 128 ∨ (55296 ≤ (((b0 - 240) * 64 + by' S 1 - 128) * 64 + by' S 2 - 128) * 64 + by' S 3 - 128 ∧ (((b0 - 240) * 64 + by' S 1 - 128) * 64 + by' S 2 - 128) * 64 + by' S 3 - 128 < 57344))
          · rw [if_pos hc]
            have e : Lib.decodeN S.size b0 (by' S 1) (by' S 2) (by' S 3) = (65533, 1) := by
              unfold Lib.decodeN
              repeat' split
              all_goals first | rfl | (exfalso; omega)
            rw [e]; rfl
          · rw [if_neg hc]
            have e : Lib.decodeN S.size b0 (by' S 1) (by' S 2) (by' S 3) = ((((b0 - 240) * 64 + by' S 1 - 128) * 64 + by' S 2 - 128) * 64 + by' S 3 - 128, 4) := by
              unfold Lib.decodeN
              repeat' split
              all_goals first | (exfalso; omega) | exact Prod.ext (by dsimp only; omega) rfl
            rw [e, ans_ok (by omega)]
        · rw [l0_bad S _ 4 65536 _ (1 + 1 + 1) (by omega) (by omega) (show by' S 3 < 128 ∨ 191 < by' S 3 by omega), bad (.inr (.inr (.inr h3)))]
      · rw [l0_bad S _ 4 65536 _ (1 + 1) (by omega) (by omega) (show by' S 2 < 128 ∨ 191 < by' S 2 by omega), bad (.inr (.inr (.inl h2)))]
    · rw [l0_bad S _ 4 65536 _ 1 (by omega) (by omega) (by omega), bad (.inr (.inl h1))]
theorem rune_eq (S : ByteArray) (hs : 1 ≤ S.size) (k : Nat) (hk : 10 ≤ k) : tallyroomref03_Rune.f k S = ans (Lib.decodeL (D S)) := by
  obtain ⟨k, rfl⟩ : ∃ m, k = m + 10 := ⟨k - 10, by omega⟩
  have l0 := by_lt S 0
  have e0 : wrap64 (bt S 0) = (by' S 0 : Int) := by
    have := bt_by S 0
    rw [show ((0 : Nat) : Int) = 0 from rfl] at this
    rw [this, IntWalk.wrap64_in _ (by omega)]
  have ed : Lib.decodeL (D S) = Lib.decodeN S.size (by' S 0) (by' S 1) (by' S 2) (by' S 3) := by rw [Lib.decodeL_N, D_len]; rfl
  unfold tallyroomref03_Rune.f
  rw [if_pos (by omega), e0, ed]
  generalize hb : by' S 0 = b0 at l0 ⊢
  have bad : 128 ≤ b0 → (b0 < 194 ∨ 245 ≤ b0) → ans (Lib.decodeN S.size b0 (by' S 1) (by' S 2) (by' S 3)) = badT := by
    intro h1 h
    have e : Lib.decodeN S.size b0 (by' S 1) (by' S 2) (by' S 3) = (65533, 1) := by
      unfold Lib.decodeN
      repeat' split
      all_goals first | rfl | (exfalso; omega)
    rw [e]; rfl
  by_cases h1 : b0 < 128
  · rw [if_neg (by omega)]
    have a1 := j2_go S (k + 9) 1 0 b0 (by omega)
    have a2 := l0_end S (k + 8) 1 0 b0
    rw [if_neg (by omega)] at a2
    have e : Lib.decodeN S.size b0 (by' S 1) (by' S 2) (by' S 3) = (b0, 1) := by unfold Lib.decodeN; rw [if_pos h1]
    rw [e]
    refine (a1.trans a2).trans ?_
    unfold ans okD
    rw [decide_eq_false (by simp only; omega)]; rfl
  · rw [if_pos (by omega)]
    by_cases h2 : b0 < 194
    · rw [if_neg (by omega), tallyroomref03_Rune.j0, if_neg (by simp), if_neg (by omega), tallyroomref03_Rune.j1, if_neg (by simp), if_neg (by omega), bad (by omega) (.inl h2)]
    · rw [if_pos (by omega)]
      by_cases h3 : b0 < 224
      · rw [tallyroomref03_Rune.j0, if_pos (decide_eq_true (by omega)), IntWalk.wrap64_in _ (by omega), show (b0 : Int) - 192 = ((b0 - 192 : Nat) : Int) by omega]
        exact two S (k + 5) b0 ⟨by omega, h3⟩ hb hs
      · rw [tallyroomref03_Rune.j0, if_neg (by rw [decide_eq_true_eq]; omega), if_pos (by omega)]
        by_cases h4 : b0 < 240
        · rw [tallyroomref03_Rune.j1, if_pos (decide_eq_true (by omega)), IntWalk.wrap64_in _ (by omega), show (b0 : Int) - 224 = ((b0 - 224 : Nat) : Int) by omega]
          exact three S (k + 4) b0 ⟨by omega, h4⟩
        · rw [tallyroomref03_Rune.j1, if_neg (by rw [decide_eq_true_eq]; omega), if_pos (by omega)]
          by_cases h5 : b0 < 245
          · rw [if_pos (by omega), IntWalk.wrap64_in _ (by omega), show (b0 : Int) - 240 = ((b0 - 240 : Nat) : Int) by omega]
            exact four S (k + 3) b0 ⟨by omega, h5⟩
          · rw [if_neg (by omega), bad (by omega) (.inr (by omega))]
end Go.Proofs.Ytllepjhimkogjaa.Tp
namespace Go.Proofs.Ytllepjhimkogjaa.Tp
open Go.RowKit Go.Proofs.Ytllepjhimkogjaa.XX Go.Proofs.YtllepjhimkogjaaW.PrintWords Go.Proofs.YtllepjhimkogjaaW.PrintLast
open Go.Proofs.Ytllepjhimkogjaa.Txt Go.Proofs.Ytllepjhimkogjaa.Tw
theorem rest_extract (s : ByteArray) (pos : Nat) : D (s.extract pos s.size) = rest s pos := by
  rw [D_extract, List.take_of_length_le (by rw [List.length_drop, D_len]; exact Nat.le_refl _)]; rfl
theorem rune_at (s : ByteArray) (pos : Nat) (h : pos < s.size) (k : Nat) (hk : 10 ≤ k) : tallyroomref03_Rune.f k (s.extract pos s.size) = ans (Utf8.decode s pos) := by
  have e := rest_extract s pos
  rw [rune_eq _ (by rw [← D_len, e, rest_len]; omega) k hk, e, rest_dec]
theorem right_rest {s : ByteArray} {pos : Nat} (h : pos < s.size) : right (rest s pos) = (okD (Utf8.decode s pos) && right (rest s (pos + (Utf8.decode s pos).2))) := by
  rw [right_cons _ _ _ (us_rest h)]
  unfold bad okD
  rw [unit_len h]; rfl
theorem rright_loop (s : ByteArray) (hs : s.size ≤ 1000000) (d : Nat) : ∀ (pos k : Nat), pos ≤ s.size → s.size - pos ≤ d → d + 11 ≤ k → tallyroomref03_Right.l0 k s (pos : Int) = some (right (rest s pos)) := by
  induction d with
  | zero =>
    intro pos k hp hd hk
    obtain ⟨k, rfl⟩ : ∃ m, k = m + 1 := ⟨k - 1, by omega⟩
    rw [tallyroomref03_Right.l0, if_neg (by omega), rest_end (by omega)]; rfl
  | succ d ih =>
    intro pos k hp hd hk
    obtain ⟨k, rfl⟩ : ∃ m, k = m + 1 := ⟨k - 1, by omega⟩
    by_cases h : pos < s.size
    · have hw := width_pos s pos
      have hl := width_le h
      rw [tallyroomref03_Right.l0, if_pos (by omega), if_pos (by omega), if_pos (by omega), Int.toNat_natCast, rune_at s pos h k (by omega), ans, Option.bind_some, right_rest h]
      cases hok : okD (Utf8.decode s pos) with
      | false => rw [if_neg (by simp)]; rfl
      | true =>
        rw [if_pos rfl]
        simp only
        rw [IntWalk.wrap64_in _ (by omega), show (pos : Int) + ((Utf8.decode s pos).2 : Int) = ((pos + (Utf8.decode s pos).2 : Nat) : Int) by omega, ih _ k (by omega) (by omega) (by omega)]; rfl
    · rw [tallyroomref03_Right.l0, if_neg (by omega), rest_end h]; rfl
theorem rright (s : ByteArray) (hs : s.size ≤ 1000000) (k : Nat) (hk : s.size + 11 ≤ k) : tallyroomref03_Right.f k s = some (right (D s)) :=
  rright_loop s hs s.size 0 k (by omega) (by omega) hk
theorem rcut_loop (s : ByteArray) (n : Int) (hs : s.size ≤ 1000000) (d : Nat) : ∀ (pos k : Nat), pos ≤ s.size → s.size - pos ≤ d → d + 11 ≤ k → (pos = 0 ∨ (pos : Int) ≤ n) →
    tallyroomref03_Cut.l0 k s n (pos : Int) = some (B ((D s).take (pos + (join (cutU (n.toNat - pos) (us (rest s pos)))).length))) := by
  have fin : ∀ (pos k : Nat), pos ≤ s.size → ¬ pos < s.size → tallyroomref03_Cut.l0 (k + 1) s n (pos : Int) = some (B ((D s).take (pos + (join (cutU (n.toNat - pos) (us (rest s pos)))).length))) := by
    intro pos k hp h
    rw [tallyroomref03_Cut.l0, if_neg (by omega), rest_end h, us_nil, cutU, join_nil, List.length_nil, List.take_of_length_le (by rw [D_len]; omega), B_D]
  induction d with
  | zero =>
    intro pos k hp hd hk hn
    obtain ⟨k, rfl⟩ : ∃ m, k = m + 1 := ⟨k - 1, by omega⟩
    exact fin pos k hp (by omega)
  | succ d ih =>
    intro pos k hp hd hk hn
    obtain ⟨k, rfl⟩ : ∃ m, k = m + 1 := ⟨k - 1, by omega⟩
    by_cases h : pos < s.size
    · have hw := width_pos s pos
      have hl := width_le h
      rw [tallyroomref03_Cut.l0, if_pos (by omega), if_pos (by omega), if_pos (by omega), Int.toNat_natCast, rune_at s pos h k (by omega), ans, Option.bind_some]
      simp only
      rw [IntWalk.wrap64_in ((pos : Int) + _) (by omega), show (pos : Int) + ((Utf8.decode s pos).2 : Int) = ((pos + (Utf8.decode s pos).2 : Nat) : Int) by omega]
      by_cases hgt : ((pos + (Utf8.decode s pos).2 : Nat) : Int) > n
      · rw [if_pos hgt, us_rest h, cutU_stop (by rw [unit_len h]; omega), join_nil, List.length_nil, Nat.add_zero]
        congr 1
        apply D_inj
        rw [D_B, D_extract, List.drop_zero, Nat.sub_zero]
      · rw [if_neg hgt, ih _ k (by omega) (by omega) (by omega) (.inr (by omega)), us_rest h, cutU, if_pos (by rw [unit_len h]; omega), join_cons, List.length_append, unit_len h, ← Nat.add_assoc, ← Nat.sub_sub]
    · exact fin pos k hp h
theorem rcut (s : ByteArray) (n : Int) (hs : s.size ≤ 1000000) (k : Nat) (hk : s.size + 11 ≤ k) : tallyroomref03_Cut.f k s n = some (B (cut n.toNat (D s))) := by
  have := rcut_loop s n hs s.size 0 k (by omega) (by omega) hk (.inl rfl)
  rw [Nat.zero_add, Nat.sub_zero, rest_zero] at this
  rw [(cut_us n.toNat (D s)).2.2]
  exact this
theorem plain_iff (r : Nat) : plain r = false ↔ (r < 32 ∨ (127 ≤ r ∧ r < 160) ∨ r = 8232 ∨ r = 8233 ∨ r = 65533) := by
  unfold plain
  by_cases a : r < 32 <;> by_cases b : 127 ≤ r ∧ r < 160 <;> by_cases c : r = 8232 <;> by_cases d : r = 8233 <;> by_cases e : r = 65533 <;> simp [a, b, c, d, e]
theorem clean_round (s acc : ByteArray) (pos k : Nat) (hs : s.size ≤ 1000000) (h : pos < s.size) (ha : acc.size ≤ pos) (hk : 10 ≤ k) :
    tallyroomref03_Clean.l0 (k + 1) s acc (pos : Int) = tallyroomref03_Clean.l0 k s (acc ++ B (cl ((Utf8.decode s pos).1, (rest s pos).take (Utf8.decode s pos).2)).2) ((pos + (Utf8.decode s pos).2 : Nat) : Int) := by
  have hw := width_pos s pos
  have hl := width_le h
  rw [tallyroomref03_Clean.l0, if_pos (by omega), if_pos (by omega), if_pos (by omega), Int.toNat_natCast, rune_at s pos h k hk, ans, Option.bind_some]
  simp only
  rw [IntWalk.wrap64_in ((pos : Int) + _) (by omega), show (pos : Int) + ((Utf8.decode s pos).2 : Int) = ((pos + (Utf8.decode s pos).2 : Nat) : Int) by omega, Int.toNat_natCast]
  have ex : s.extract pos (pos + (Utf8.decode s pos).2) = B ((rest s pos).take (Utf8.decode s pos).2) := by
    apply D_inj
    rw [D_B, D_extract, Nat.add_sub_cancel_left]; rfl
  have hsz : (s.extract pos (pos + (Utf8.decode s pos).2)).size = (Utf8.decode s pos).2 := by rw [ex, B_size, unit_len h]
  by_cases hp : plain (Utf8.decode s pos).1 = true
  · have hq : ¬ ((Utf8.decode s pos).1 < 32 ∨ (127 ≤ (Utf8.decode s pos).1 ∧ (Utf8.decode s pos).1 < 160) ∨ (Utf8.decode s pos).1 = 8232 ∨ (Utf8.decode s pos).1 = 8233 ∨ (Utf8.decode s pos).1 = 65533) := fun e => by rw [(plain_iff _).2 e] at hp; cases hp
    have e1 : (cl ((Utf8.decode s pos).1, (rest s pos).take (Utf8.decode s pos).2)).2 = (rest s pos).take (Utf8.decode s pos).2 := by unfold cl; rw [if_pos hp]
    rw [e1, ← ex]
    rw [if_neg (by omega)]
    by_cases h1 : ((Utf8.decode s pos).1 : Int) ≥ 127
    · rw [if_pos h1, if_neg (by omega), if_neg (by omega), if_neg (by omega), if_neg (by omega), if_pos (by omega), if_pos (by omega), if_pos (by omega)]
    · rw [if_neg h1, if_neg (by omega), if_neg (by omega), if_neg (by omega), if_pos (by omega), if_pos (by omega), if_pos (by omega)]
  · rw [Bool.not_eq_true] at hp
    have hq := (plain_iff _).1 hp
    have e1 : B (cl ((Utf8.decode s pos).1, (rest s pos).take (Utf8.decode s pos).2)).2 = ⟨#[95]⟩ := by unfold cl; rw [hp, if_neg (by simp)]; rfl
    rw [e1]
    by_cases c1 : ((Utf8.decode s pos).1 : Int) < 32
    · rw [if_pos c1, if_pos (by omega)]
    · rw [if_neg c1]
      by_cases c2 : ((Utf8.decode s pos).1 : Int) ≥ 127
      · rw [if_pos c2]
        by_cases c3 : ((Utf8.decode s pos).1 : Int) < 160
        · rw [if_pos c3, if_pos (by omega)]
        · rw [if_neg c3]
          by_cases c4 : ((Utf8.decode s pos).1 : Int) = 8232
          · rw [if_pos c4, if_pos (by omega)]
          · rw [if_neg c4]
            by_cases c5 : ((Utf8.decode s pos).1 : Int) = 8233
            · rw [if_pos c5, if_pos (by omega)]
            · rw [if_neg c5, if_pos (by omega), if_pos (by omega)]
      · exfalso; omega
theorem rclean_loop (s : ByteArray) (hs : s.size ≤ 1000000) (d : Nat) : ∀ (pos k : Nat) (acc : ByteArray), pos ≤ s.size → s.size - pos ≤ d → d + 11 ≤ k → acc.size ≤ pos → tallyroomref03_Clean.l0 k s acc (pos : Int) = some (acc ++ B (join ((us (rest s pos)).map cl))) := by
  have fin : ∀ (pos k : Nat) (acc : ByteArray), pos ≤ s.size → ¬ pos < s.size → tallyroomref03_Clean.l0 (k + 1) s acc (pos : Int) = some (acc ++ B (join ((us (rest s pos)).map cl))) := by
    intro pos k acc hp h
    rw [tallyroomref03_Clean.l0, if_neg (by omega), rest_end h, us_nil, List.map_nil, join_nil]
    congr 1
    exact D_inj (by rw [D_append, D_B, List.append_nil])
  induction d with
  | zero =>
    intro pos k acc hp hd hk ha
    obtain ⟨k, rfl⟩ : ∃ m, k = m + 1 := ⟨k - 1, by omega⟩
    exact fin pos k acc hp (by omega)
  | succ d ih =>
    intro pos k acc hp hd hk ha
    obtain ⟨k, rfl⟩ : ∃ m, k = m + 1 := ⟨k - 1, by omega⟩
    by_cases h : pos < s.size
    · have hw := width_pos s pos
      have hl := width_le h
      have hcl := cl_len ((Utf8.decode s pos).1, (rest s pos).take (Utf8.decode s pos).2) (by rw [unit_len h]; omega)
      rw [unit_len h] at hcl
      rw [clean_round s acc pos k hs h ha (by omega), ih _ k _ (by omega) (by omega) (by omega) (by rw [ByteArray.size_append, B_size]; omega), us_rest h, List.map_cons, join_cons]
      congr 1
      exact D_inj (by rw [D_append, D_append, D_append, D_B, D_B, D_B, List.append_assoc])
    · exact fin pos k acc hp h
theorem rclean (s : ByteArray) (hs : s.size ≤ 1000000) (k : Nat) (hk : s.size + 11 ≤ k) : tallyroomref03_Clean.f k s = some (B (clean (D s))) := by
  have := rclean_loop s hs s.size 0 k ⟨#[]⟩ (by omega) (by omega) hk (by decide)
  rw [rest_zero] at this
  have e : (⟨#[]⟩ : ByteArray) ++ B (join ((us s.data.toList).map cl)) = B (clean (D s)) := D_inj (by rw [D_append, D_B, D_B]; rfl)
  rw [e] at this
  exact this
end Go.Proofs.Ytllepjhimkogjaa.Tp
namespace Go.Proofs.Ytllepjhimkogjaa.Tp
open Go.RowKit Go.Proofs.Ytllepjhimkogjaa.XX Go.Proofs.YtllepjhimkogjaaW.PrintWords Go.Proofs.YtllepjhimkogjaaW.PrintLast
open Go.Proofs.Ytllepjhimkogjaa.Txt Go.Proofs.Ytllepjhimkogjaa.Tw
theorem by_rest (s : ByteArray) (pos : Nat) : ((rest s pos).getD 0 0).toNat = by' s pos := by
  unfold by' rest D
  rw [List.getD_eq_getElem?_getD, List.getD_eq_getElem?_getD, List.getElem?_drop, Nat.add_zero]
theorem key_round (s : ByteArray) (pos k : Nat) (hs : s.size ≤ 1000000) (h : pos < s.size) :
    tallyroomref03_Key.l0 (k + 1) s (pos : Int) = if byteOk (by' s pos) pos = true then tallyroomref03_Key.l0 k s ((pos + 1 : Nat) : Int) else some false := by
  rw [tallyroomref03_Key.l0, if_pos (by omega), if_pos (by omega), bt_by, IntWalk.wrap64_in _ (by omega), show (pos : Int) + 1 = ((pos + 1 : Nat) : Int) by omega]
  generalize by' s pos = b
  generalize tallyroomref03_Key.l0 k s ((pos + 1 : Nat) : Int) = R
  by_cases hb : byteOk b pos = true
  · rw [if_pos hb]
    have hb' := of_decide_eq_true hb
    clear hb
    repeat' split
    all_goals first | rfl | (exfalso; omega)
  · rw [if_neg hb]
    have hb' := of_decide_eq_false (Bool.not_eq_true _ ▸ hb)
    clear hb
    repeat' split
    all_goals first | rfl | (exfalso; omega)
theorem rkey_loop (s : ByteArray) (hs : s.size ≤ 1000000) (d : Nat) : ∀ (pos k : Nat), pos ≤ s.size → s.size - pos ≤ d → d < k → tallyroomref03_Key.l0 k s (pos : Int) = some (keyL pos (rest s pos) && decide (1 ≤ s.size ∧ s.size ≤ 64)) := by
  have fin : ∀ (pos k : Nat), pos ≤ s.size → ¬ pos < s.size → tallyroomref03_Key.l0 (k + 1) s (pos : Int) = some (keyL pos (rest s pos) && decide (1 ≤ s.size ∧ s.size ≤ 64)) := by
    intro pos k hp h
    rw [tallyroomref03_Key.l0, if_neg (by omega), rest_end h, keyL, Bool.true_and]
    by_cases h1 : (s.size : Int) ≥ 1
    · rw [if_pos h1]
      congr 1
      exact decide_eq_decide.2 (by omega)
    · rw [if_neg h1, decide_eq_false (by omega)]
  induction d with
  | zero =>
    intro pos k hp hd hk
    obtain ⟨k, rfl⟩ : ∃ m, k = m + 1 := ⟨k - 1, by omega⟩
    exact fin pos k hp (by omega)
  | succ d ih =>
    intro pos k hp hd hk
    obtain ⟨k, rfl⟩ : ∃ m, k = m + 1 := ⟨k - 1, by omega⟩
    by_cases h : pos < s.size
    · rw [key_round s pos k hs h, rest_cons h, keyL, by_rest]
      cases hb : byteOk (by' s pos) pos with
      | false => rw [if_neg (by simp)]; rfl
      | true => rw [if_pos rfl, ih _ k (by omega) (by omega) (by omega)]; rfl
    · exact fin pos k hp h
theorem rkey (s : ByteArray) (hs : s.size ≤ 1000000) (k : Nat) (hk : s.size < k) : tallyroomref03_Key.f k s = some (key (D s)) := by
  have := rkey_loop s hs s.size 0 k (by omega) (by omega) hk
  rw [rest_zero] at this
  exact this
end Go.Proofs.Ytllepjhimkogjaa.Tp
