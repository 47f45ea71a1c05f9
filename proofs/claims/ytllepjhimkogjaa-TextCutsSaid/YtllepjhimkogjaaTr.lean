/- What the document's functions on texts are in plain words. No conditions but a bound on the length. -/
import Derived.Test.YtllepjhimkogjaaXXx0
import Derived.Test.YtllepjhimkogjaaXXx13
import Derived.Test.YtllepjhimkogjaaTp
namespace Go.Proofs.Ytllepjhimkogjaa.Tp
open Go.RowKit Go.Proofs.Ytllepjhimkogjaa.XX Go.Proofs.YtllepjhimkogjaaW.PrintWords Go.Proofs.YtllepjhimkogjaaW.PrintLast
open Go.Proofs.Ytllepjhimkogjaa.Txt Go.Proofs.Ytllepjhimkogjaa.Tw

/-- A byte of a text. -/
def by' (S : ByteArray) (i : Nat) : Nat := ((D S).getD i 0).toNat
theorem by_lt (S : ByteArray) (i : Nat) : by' S i < 256 := ((D S).getD i 0).toNat_lt
theorem bt_by (S : ByteArray) (i : Nat) : bt S (i : Int) = (by' S i : Int) := by
  unfold bt by'
  rw [Int.toNat_natCast]
  by_cases h : i < S.size
  · rw [dif_pos h, List.getD_eq_getElem?_getD, List.getElem?_eq_getElem (by rw [D_len]; exact h)]
    rfl
  · rw [dif_neg h, List.getD_eq_getElem?_getD, List.getElem?_eq_none (by rw [D_len]; omega)]
    rfl
abbrev badT : Option (Int × Int × Bool) := some (65533, 1, false)
theorem l0_next (S : ByteArray) (k N L r i : Nat) (hi : i < N) (hN : N ≤ 4) (hs : i < S.size) (hr : r ≤ 2000000) (h1 : 128 ≤ by' S i) (h2 : by' S i ≤ 191) :
    tallyroomref03_Rune.l0 (k + 1) S (N : Int) (L : Int) (r : Int) (i : Int) = tallyroomref03_Rune.l0 k S (N : Int) (L : Int) ((r * 64 + by' S i - 128 : Nat) : Int) ((i + 1 : Nat) : Int) := by
  rw [tallyroomref03_Rune.l0, if_pos (by omega), if_pos (by omega), if_pos (by omega), bt_by, if_neg (by omega), if_neg (by omega)]
  rw [IntWalk.wrap64_in ((by' S i : Nat) : Int) (by omega), IntWalk.wrap64_in ((r : Int) * 64) (by omega), IntWalk.wrap64_in ((r : Int) * 64 + (by' S i : Int)) (by omega), IntWalk.wrap64_in ((r : Int) * 64 + (by' S i : Int) - 128) (by omega), IntWalk.wrap64_in ((i : Int) + 1) (by omega)]
  rw [show (r : Int) * 64 + (by' S i : Int) - 128 = ((r * 64 + by' S i - 128 : Nat) : Int) by omega, show (i : Int) + 1 = ((i + 1 : Nat) : Int) by omega]
theorem l0_bad (S : ByteArray) (k N L r i : Nat) (hi : i < N) (hs : i < S.size) (h : by' S i < 128 ∨ 191 < by' S i) :
    tallyroomref03_Rune.l0 (k + 1) S (N : Int) (L : Int) (r : Int) (i : Int) = badT := by
  rw [tallyroomref03_Rune.l0, if_pos (by omega), if_pos (by omega), if_pos (by omega), bt_by]
  by_cases h1 : by' S i < 128
  · rw [if_pos (by omega)]
  · rw [if_neg (by omega), if_pos (by omega)]
theorem l0_end (S : ByteArray) (k N L r : Nat) :
    tallyroomref03_Rune.l0 (k + 1) S (N : Int) (L : Int) (r : Int) (N : Int) = if r < L ∨ 1114111 < r ∨ (55296 ≤ r ∧ r < 57344) then badT else some ((r : Int), (N : Int), true) := by
  rw [tallyroomref03_Rune.l0, if_neg (by omega)]
  by_cases h1 : r < L
  · rw [if_pos (by omega), if_pos (.inl h1)]
  · rw [if_neg (by omega)]
    by_cases h2 : 1114111 < r
    · rw [if_pos (by omega), if_pos (.inr (.inl h2))]
    · rw [if_neg (by omega)]
      by_cases h3 : 55296 ≤ r
      · rw [if_pos (by omega)]
        by_cases h4 : r < 57344
        · rw [if_pos (by omega), if_pos (.inr (.inr ⟨h3, h4⟩))]
        · rw [if_neg (by omega), if_neg (by omega)]
      · rw [if_neg (by omega), if_neg (by omega)]
theorem j2_short (S : ByteArray) (k N L r : Nat) (h : S.size < N) : tallyroomref03_Rune.j2 (k + 1) S (N : Int) (L : Int) (r : Int) = badT := by
  rw [tallyroomref03_Rune.j2, if_pos (by omega)]
theorem j2_go (S : ByteArray) (k N L r : Nat) (h : ¬ S.size < N) : tallyroomref03_Rune.j2 (k + 1) S (N : Int) (L : Int) (r : Int) = tallyroomref03_Rune.l0 k S (N : Int) (L : Int) (r : Int) ((1 : Nat) : Int) := by
  rw [tallyroomref03_Rune.j2, if_neg (by omega)]; rfl
def okD (d : Nat × Nat) : Bool := !decide (d.1 = 65533 ∧ d.2 = 1)
def ans (d : Nat × Nat) : Option (Int × Int × Bool) := some ((d.1 : Int), (d.2 : Int), okD d)
theorem ans_bad : ans (65533, 1) = badT := rfl
theorem ans_ok {r n : Nat} (h : 2 ≤ n) : ans (r, n) = some ((r : Int), (n : Int), true) := by
  unfold ans okD; rw [decide_eq_false (by simp only; omega)]; rfl

theorem two (S : ByteArray) (k b0 : Nat) (hb : 194 ≤ b0 ∧ b0 < 224) (h0 : by' S 0 = b0) (hs : 1 ≤ S.size) :
    tallyroomref03_Rune.j2 (k + 4) S ((2 : Nat) : Int) ((128 : Nat) : Int) ((b0 - 192 : Nat) : Int) = ans (Lib.decodeN S.size b0 (by' S 1) (by' S 2) (by' S 3)) := by
  have l1 := by_lt S 1
  by_cases hn : S.size < 2
  · rw [j2_short _ _ _ _ _ hn]
    have e : Lib.decodeN S.size b0 (by' S 1) (by' S 2) (by' S 3) = (65533, 1) := by
      unfold Lib.decodeN
      repeat' split
      all_goals first | rfl | (exfalso; omega)
    rw [e]; rfl
  · rw [j2_go _ _ _ _ _ hn]
    by_cases h1 : 128 ≤ by' S 1 ∧ by' S 1 ≤ 191
    · rw [l0_next S _ 2 128 _ 1 (by omega) (by omega) (by omega) (by omega) h1.1 h1.2]
      have := l0_end S (k + 1) 2 128 ((b0 - 192) * 64 + by' S 1 - 128)
      rw [this, if_neg (by omega)]
      have e : Lib.decodeN S.size b0 (by' S 1) (by' S 2) (by' S 3) = ((b0 - 192) * 64 + by' S 1 - 128, 2) := by
        unfold Lib.decodeN
        repeat' split
        all_goals first | (exfalso; omega) | exact Prod.ext (by dsimp only; omega) rfl
      rw [e, ans_ok (by omega)]
    · rw [l0_bad S _ 2 128 _ 1 (by omega) (by omega) (by omega)]
      have e : Lib.decodeN S.size b0 (by' S 1) (by' S 2) (by' S 3) = (65533, 1) := by
        unfold Lib.decodeN
        repeat' split
        all_goals first | rfl | (exfalso; omega)
      rw [e]; rfl
theorem three (S : ByteArray) (k b0 : Nat) (hb : 224 ≤ b0 ∧ b0 < 240) :
    tallyroomref03_Rune.j2 (k + 4) S ((3 : Nat) : Int) ((2048 : Nat) : Int) ((b0 - 224 : Nat) : Int) = ans (Lib.decodeN S.size b0 (by' S 1) (by' S 2) (by' S 3)) := by
  have l1 := by_lt S 1
  have l2 := by_lt S 2
  have bad : (S.size < 3 ∨ ¬ (128 ≤ by' S 1 ∧ by' S 1 ≤ 191) ∨ ¬ (128 ≤ by' S 2 ∧ by' S 2 ≤ 191)) → ans (Lib.decodeN S.size b0 (by' S 1) (by' S 2) (by' S 3)) = badT := by
    intro h
    have e : Lib.decodeN S.size b0 (by' S 1) (by' S 2) (by' S 3) = (65533, 1) := by
      unfold Lib.decodeN
      repeat' split
      all_goals first | rfl | (exfalso; omega)
    rw [e]; rfl
  by_cases hn : S.size < 3
  · rw [j2_short _ _ _ _ _ hn, bad (.inl hn)]
  · rw [j2_go _ _ _ _ _ hn]
    by_cases h1 : 128 ≤ by' S 1 ∧ by' S 1 ≤ 191
    · rw [l0_next S _ 3 2048 _ 1 (by omega) (by omega) (by omega) (by omega) h1.1 h1.2]
      by_cases h2 : 128 ≤ by' S 2 ∧ by' S 2 ≤ 191
      · rw [l0_next S _ 3 2048 _ (1 + 1) (by omega) (by omega) (by omega) (by omega) h2.1 h2.2]
        have := l0_end S k 3 2048 (((b0 - 224) * 64 + by' S 1 - 128) * 64 + by' S (1 + 1) - 128)
        rw [show ((1 + 1 + 1 : Nat) : Int) = ((3 : Nat) : Int) from rfl, this]
        rw [show 1 + 1 = 2 from rfl]
        by_cases hc : (((b0 - 224) * 64 + by' S 1 - 128) * 64 + by' S 2 - 128 < 2048 ∨ 1114111 < ((b0 - 224) * 64 + by' S 1 - 128) * 64 + by' S 2 - 128 ∨ (55296 ≤ ((b0 - 224) * 64 + by' S 1 - 128) * 64 + by' S 2 - 128 ∧ ((b0 - 224) * 64 + by' S 1 - 128) * 64 + by' S 2 - 128 < 57344))
        · rw [if_pos hc]
          have e : Lib.decodeN S.size b0 (by' S 1) (by' S 2) (by' S 3) = (65533, 1) := by
            unfold Lib.decodeN
            repeat' split
            all_goals first | rfl | (exfalso; omega)
          rw [e]; rfl
        · rw [if_neg hc]
          have e : Lib.decodeN S.size b0 (by' S 1) (by' S 2) (by' S 3) = (((b0 - 224) * 64 + by' S 1 - 128) * 64 + by' S 2 - 128, 3) := by
            unfold Lib.decodeN
            repeat' split
            all_goals first | (exfalso; omega) | exact Prod.ext (by dsimp only; omega) rfl
          rw [e, ans_ok (by omega)]
      · rw [l0_bad S _ 3 2048 _ (1 + 1) (by omega) (by omega) (show by' S 2 < 128 ∨ 191 < by' S 2 by omega), bad (.inr (.inr h2))]
    · rw [l0_bad S _ 3 2048 _ 1 (by omega) (by omega) (by omega), bad (.inr (.inl h1))]
theorem four (S : ByteArray) (k b0 : Nat) (hb : 240 ≤ b0 ∧ b0 < 245) :
    tallyroomref03_Rune.j2 (k + 5) S ((4 : Nat) : Int) ((65536 : Nat) : Int) ((b0 - 240 : Nat) : Int) = ans (Lib.decodeN S.size b0 (by' S 1) (by' S 2) (by' S 3)) := by
  have l1 := by_lt S 1
  have l2 := by_lt S 2
  have l3 := by_lt S 3
  have bad : (S.size < 4 ∨ ¬ (128 ≤ by' S 1 ∧ by' S 1 ≤ 191) ∨ ¬ (128 ≤ by' S 2 ∧ by' S 2 ≤ 191) ∨ ¬ (128 ≤ by' S 3 ∧ by' S 3 ≤ 191)) → ans (Lib.decodeN S.size b0 (by' S 1) (by' S 2) (by' S 3)) = badT := by
    intro h
    have e : Lib.decodeN S.size b0 (by' S 1) (by' S 2) (by' S 3) = (65533, 1) := by
      unfold Lib.decodeN
      repeat' split
      all_goals first | rfl | (exfalso; omega)
    rw [e]; rfl
  by_cases hn : S.size < 4
  · rw [j2_short _ _ _ _ _ hn, bad (.inl hn)]
  · rw [j2_go _ _ _ _ _ hn]
    by_cases h1 : 128 ≤ by' S 1 ∧ by' S 1 ≤ 191
    · rw [l0_next S _ 4 65536 _ 1 (by omega) (by omega) (by omega) (by omega) h1.1 h1.2]
      by_cases h2 : 128 ≤ by' S 2 ∧ by' S 2 ≤ 191
      · rw [l0_next S _ 4 65536 _ (1 + 1) (by omega) (by omega) (by omega) (by omega) h2.1 h2.2]
        by_cases h3 : 128 ≤ by' S 3 ∧ by' S 3 ≤ 191
        · rw [l0_next S _ 4 65536 _ (1 + 1 + 1) (by omega) (by omega) (by omega) (by simp only [show 1 + 1 = 2 from rfl]; omega) h3.1 h3.2]
          have := l0_end S k 4 65536 ((((b0 - 240) * 64 + by' S 1 - 128) * 64 + by' S (1 + 1) - 128) * 64 + by' S (1 + 1 + 1) - 128)
          rw [show ((1 + 1 + 1 + 1 : Nat) : Int) = ((4 : Nat) : Int) from rfl, this]
          rw [show 1 + 1 + 1 = 3 from rfl, show 1 + 1 = 2 from rfl]
          by_cases hc : ((((b0 - 240) * 64 + by' S 1 - 128) * 64 + by' S 2 - 128) * 64 + by' S 3 - 128 < 65536 ∨ 1114111 < (((b0 - 240) * 64 + by' S 1 - 128) * 64 + by' S 2 - 128) * 64 + by' S 3 - 128 ∨ (55296 ≤ (((b0 - 240) * 64 + by' S 1 - 128) * 64 + by' S 2 - 128) * 64 + by' S 3 - 128 ∧ (((b0 - 240) * 64 + by' S 1 - 128) * 64 + by' S 2 - 128) * 64 + by' S 3 - 128 < 57344))
          · rw [if_pos hc]
            have e : Lib.decodeN S.size b0 (by' S 1) (by' S 2) (by' S 3) = (65533, 1) := by
              unfold Lib.decodeN
              repeat' split
              all_goals first | rfl | (exfalso; omega)
            rw [e]; rfl
          · rw [if_neg hc]
            have e : Lib.decodeN S.size b0 (by' S 1) (by' S 2) (by' S 3) = ((((b0 - 240) * 64 + by' S 1 - 128) * 64 + by' S 2 - 128) * 64 + by' S 3 - 128, 4) := by
              unfold Lib.decodeN
              repeat' split
              all_goals first | (exfalso; omega) | exact Prod.ext (by dsimp only; omega) rfl
            rw [e, ans_ok (by omega)]
        · rw [l0_bad S _ 4 65536 _ (1 + 1 + 1) (by omega) (by omega) (show by' S 3 < 128 ∨ 191 < by' S 3 by omega), bad (.inr (.inr (.inr h3)))]
      · rw [l0_bad S _ 4 65536 _ (1 + 1) (by omega) (by omega) (show by' S 2 < 128 ∨ 191 < by' S 2 by omega), bad (.inr (.inr (.inl h2)))]
    · rw [l0_bad S _ 4 65536 _ 1 (by omega) (by omega) (by omega), bad (.inr (.inl h1))]
theorem rune_eq (S : ByteArray) (hs : 1 ≤ S.size) (k : Nat) (hk : 10 ≤ k) : tallyroomref03_Rune.f k S = ans (Lib.decodeL (D S)) := by
  obtain ⟨k, rfl⟩ : ∃ m, k = m + 10 := ⟨k - 10, by omega⟩
  have l0 := by_lt S 0
  have e0 : wrap64 (bt S 0) = (by' S 0 : Int) := by
    have := bt_by S 0
    rw [show ((0 : Nat) : Int) = 0 from rfl] at this
    rw [this, IntWalk.wrap64_in _ (by omega)]
  have ed : Lib.decodeL (D S) = Lib.decodeN S.size (by' S 0) (by' S 1) (by' S 2) (by' S 3) := by rw [Lib.decodeL_N, D_len]; rfl
  unfold tallyroomref03_Rune.f
  rw [if_pos (by omega), e0, ed]
  generalize hb : by' S 0 = b0 at l0 ⊢
  have bad : 128 ≤ b0 → (b0 < 194 ∨ 245 ≤ b0) → ans (Lib.decodeN S.size b0 (by' S 1) (by' S 2) (by' S 3)) = badT := by
    intro h1 h
    have e : Lib.decodeN S.size b0 (by' S 1) (by' S 2) (by' S 3) = (65533, 1) := by
      unfold Lib.decodeN
      repeat' split
      all_goals first | rfl | (exfalso; omega)
    rw [e]; rfl
  by_cases h1 : b0 < 128
  · rw [if_neg (by omega)]
    have a1 := j2_go S (k + 9) 1 0 b0 (by omega)
    have a2 := l0_end S (k + 8) 1 0 b0
    rw [if_neg (by omega)] at a2
    have e : Lib.decodeN S.size b0 (by' S 1) (by' S 2) (by' S 3) = (b0, 1) := by unfold Lib.decodeN; rw [if_pos h1]
    rw [e]
    refine (a1.trans a2).trans ?_
    unfold ans okD
    rw [decide_eq_false (by simp only; omega)]; rfl
  · rw [if_pos (by omega)]
    by_cases h2 : b0 < 194
    · rw [if_neg (by omega), tallyroomref03_Rune.j0, if_neg (by simp), if_neg (by omega), tallyroomref03_Rune.j1, if_neg (by simp), if_neg (by omega), bad (by omega) (.inl h2)]
    · rw [if_pos (by omega)]
      by_cases h3 : b0 < 224
      · rw [tallyroomref03_Rune.j0, if_pos (decide_eq_true (by omega)), IntWalk.wrap64_in _ (by omega), show (b0 : Int) - 192 = ((b0 - 192 : Nat) : Int) by omega]
        exact two S (k + 5) b0 ⟨by omega, h3⟩ hb hs
      · rw [tallyroomref03_Rune.j0, if_neg (by rw [decide_eq_true_eq]; omega), if_pos (by omega)]
        by_cases h4 : b0 < 240
        · rw [tallyroomref03_Rune.j1, if_pos (decide_eq_true (by omega)), IntWalk.wrap64_in _ (by omega), show (b0 : Int) - 224 = ((b0 - 224 : Nat) : Int) by omega]
          exact three S (k + 4) b0 ⟨by omega, h4⟩
        · rw [tallyroomref03_Rune.j1, if_neg (by rw [decide_eq_true_eq]; omega), if_pos (by omega)]
          by_cases h5 : b0 < 245
          · rw [if_pos (by omega), IntWalk.wrap64_in _ (by omega), show (b0 : Int) - 240 = ((b0 - 240 : Nat) : Int) by omega]
            exact four S (k + 3) b0 ⟨by omega, h5⟩
          · rw [if_neg (by omega), bad (by omega) (.inr (by omega))]
end Go.Proofs.Ytllepjhimkogjaa.Tp
