/- What the functions of package text come to, by the plain laws of texts. No conditions but a bound on the length. -/
import Derived.Test.YtgpkihnihmbomaaWMore
import Derived.Test.YtgpkihnihmbomaaProg
import Derived.WalkKit
import Derived.Deep.LoopGhost
import Derived.Lib.OthersKept
import Derived.Lib.MapLaws
namespace Go.Proofs.Ytgpkihnihmbomaa.Tw
open Go.RowKit Go.Proofs.YtgpkihnihmbomaaW.PrintWords Go.Proofs.YtgpkihnihmbomaaW.PrintLast

/-- What is left of a text, from a place on. -/
def rest (s : ByteArray) (pos : Nat) : List UInt8 := s.data.toList.drop pos
theorem rest_len (s : ByteArray) (pos : Nat) : (rest s pos).length = s.size - pos := by unfold rest; rw [List.length_drop]; rfl
theorem rest_ne {s : ByteArray} {pos : Nat} (h : pos < s.size) : rest s pos ≠ [] := by
  intro e
  have := congrArg List.length e
  rw [rest_len, List.length_nil] at this; omega
theorem rest_end {s : ByteArray} {pos : Nat} (h : ¬ pos < s.size) : rest s pos = [] := List.length_eq_zero_iff.1 (by rw [rest_len]; omega)
theorem rest_dec (s : ByteArray) (pos : Nat) : Lib.decodeL (rest s pos) = Utf8.decode s pos := Lib.decodeL_drop s pos
theorem width_pos (s : ByteArray) (pos : Nat) : 1 ≤ (Utf8.decode s pos).2 := by rw [← rest_dec]; exact Lib.decodeL_width _
theorem width_le {s : ByteArray} {pos : Nat} (h : pos < s.size) : pos + (Utf8.decode s pos).2 ≤ s.size := by
  have := Lib.decodeL_le _ (rest_ne h)
  rw [rest_dec, rest_len] at this; omega

theorem iter_below (w : World) (s : ByteArray) : Below w.heap.size w (w.iter s 0) := (Below.refl _ w).alloc (Nat.le_refl _) _
theorem iter_at (w : World) (s : ByteArray) : (w.iter s 0).heap[w.heap.size]? = some (.stringIter s 0) := World.iter_heap w s 0
theorem rest_zero (s : ByteArray) : rest s 0 = s.data.toList := rfl

/-- May a byte stand in a key at a place? -/
def byteOk (b i : Nat) : Bool := decide ((97 ≤ b ∧ b ≤ 122) ∨ (65 ≤ b ∧ b ≤ 90) ∨ b = 95 ∨ (0 < i ∧ ((48 ≤ b ∧ b ≤ 57) ∨ b = 46)))
def keyL : Nat → List UInt8 → Bool
  | _, [] => true
  | i, b :: r => byteOk b.toNat i && keyL (i + 1) r
def key (l : List UInt8) : Bool := keyL 0 l && decide (1 ≤ l.length ∧ l.length ≤ 64)
theorem rest_cons {s : ByteArray} {pos : Nat} (h : pos < s.size) : rest s pos = (rest s pos).getD 0 0 :: rest s (pos + 1) := by
  have e : rest s (pos + 1) = (rest s pos).drop 1 := by unfold rest; rw [List.drop_drop]
  have := rest_ne h
  rw [e]
  cases hl : rest s pos with
  | nil => exact absurd hl this
  | cons x r => rfl
/-- A rune below 128 is its byte; a greater one's first byte is 128 or more. -/
theorem dec_byte (s : ByteArray) (pos : Nat) : ((Utf8.decode s pos).1 < 128 ∧ (Utf8.decode s pos).2 = 1 ∧ (Utf8.decode s pos).1 = ((rest s pos).getD 0 0).toNat) ∨ (128 ≤ (Utf8.decode s pos).1 ∧ 128 ≤ ((rest s pos).getD 0 0).toNat) := by
  rw [← rest_dec, Lib.decodeL_N]
  by_cases hb : ((rest s pos).getD 0 0).toNat < 128
  · left
    unfold Lib.decodeN
    rw [if_pos hb]
    exact ⟨hb, rfl, rfl⟩
  · right
    refine ⟨?_, by omega⟩
    rcases Lib.decodeN_shape (rest s pos).length ((rest s pos).getD 0 0).toNat ((rest s pos).getD 1 0).toNat ((rest s pos).getD 2 0).toNat ((rest s pos).getD 3 0).toNat with ⟨c, e⟩ | ⟨c1, c2, c3, cv, e⟩ | ⟨c1, c2, c3, c4, cv, cs, e⟩ | ⟨c1, c2, c3, c4, c5, cv, cw, e⟩ | e
    all_goals (rw [e]; dsimp only; omega)
theorem keyL_step {s : ByteArray} {pos : Nat} (h : pos < s.size) : keyL pos (rest s pos) = (byteOk (Utf8.decode s pos).1 pos && keyL (pos + (Utf8.decode s pos).2) (rest s (pos + (Utf8.decode s pos).2))) := by
  rw [rest_cons h, keyL]
  rcases dec_byte s pos with ⟨h1, h2, h3⟩ | ⟨h1, h2⟩
  · rw [h2, h3]
  · have e1 : byteOk ((rest s pos).getD 0 0).toNat pos = false := by unfold byteOk; exact decide_eq_false (by omega)
    have e2 : byteOk (Utf8.decode s pos).1 pos = false := by unfold byteOk; exact decide_eq_false (by omega)
    rw [e1, e2]; rfl

set_option maxHeartbeats 8000000 in
set_option maxRecDepth 1000000 in
theorem key_walk (s : ByteArray) (w : World) (hs : s.size ≤ 35184372088832) :
    Calls Try.prog 73 #[.string s] w fun e w' => e = .returned (.bool (key s.data.toList)) ∧ Below w.heap.size w w' := by
  go_enter Try.func73, Try.ntmps73
  go_wp2
  go_loopg [] (s.size + 1) (fun kq wr => ∃ (pos : Nat), wr.heap[w.heap.size]? = some (.stringIter s pos) ∧ Below w.heap.size w wr ∧ s.size - pos < kq ∧ pos ≤ s.size ∧ keyL 0 s.data.toList = keyL pos (rest s pos))
  case atStart =>
    exact ⟨0, iter_at w s, iter_below w s, by omega, by omega, by rw [rest_zero]⟩
  case round =>
    obtain ⟨pos, hit, hbw, hk, hps, hc⟩ := hrel
    obtain ⟨k1, rfl⟩ : ∃ m, gk = m + 1 := ⟨gk - 1, by omega⟩
    by_cases hp : pos < s.size
    · have hnx : ∀ ty, (Instr.next (.pointer (some ⟨w.heap.size, 0, none⟩)) true ty).run Try.prog wr = _ := fun ty => Lib.run_next_any_at wr w.heap.size s pos ty hit hp
      have hw1 := width_pos s pos
      have hw2 := width_le hp
      have hit2 := Lib.iterAt_heap wr w.heap.size s pos (pos + (Utf8.decode s pos).2) hit
      have hbw2 := Lib.below_iterAt hbw (k := w.heap.size) (Nat.le_refl _) s (pos + (Utf8.decode s pos).2)
      rw [keyL_step hp] at hc
      generalize hR : (Utf8.decode s pos).1 = R at hnx hc
      by_cases hb : byteOk R pos = true
      · rw [hb, Bool.true_and] at hc
        have hb' := of_decide_eq_true hb
        have rel : ∃ (p : Nat), (wr.iterAt w.heap.size s (pos + (Utf8.decode s pos).2)).heap[w.heap.size]? = some (.stringIter s p) ∧ Below w.heap.size w (wr.iterAt w.heap.size s (pos + (Utf8.decode s pos).2)) ∧ s.size - p < k1 ∧ p ≤ s.size ∧ keyL 0 s.data.toList = keyL p (rest s p) := ⟨pos + (Utf8.decode s pos).2, hit2, hbw2, by omega, by omega, hc⟩
        have hrel := Aside0.mk rel
        clear rel hb
        by_cases a1 : (97 : Int) ≤ (R : Int)
        · have a2 : (R : Int) ≤ 122 := by omega
          clear hb'
          go_wp2
          go_roundg k1
          case measure => omega
          case rel => exact hrel.out
        · by_cases b1 : (65 : Int) ≤ (R : Int)
          · by_cases b2 : (R : Int) ≤ 90
            · clear hb'
              go_wp2
              go_roundg k1
              case measure => omega
              case rel => exact hrel.out
            · obtain rfl : R = 95 := by omega
              clear hb'
              go_wp2
              go_roundg k1
              case measure => omega
              case rel => exact hrel.out
          · have d1 : (0 : Int) < (pos : Int) := by omega
            have d2 : ¬ (R : Int) = 95 := by omega
            by_cases e1 : (48 : Int) ≤ (R : Int)
            · have e2 : (R : Int) ≤ 57 := by omega
              clear hb'
              go_wp2
              go_roundg k1
              case measure => omega
              case rel => exact hrel.out
            · obtain rfl : R = 46 := by omega
              clear hb'
              go_wp2
              go_roundg k1
              case measure => omega
              case rel => exact hrel.out
      · rw [Bool.not_eq_true] at hb
        rw [hb, Bool.false_and] at hc
        have hb' := of_decide_eq_false hb
        have hres : key s.data.toList = false := by unfold key; rw [hc]; rfl
        have hfin := Aside0.mk hres
        clear hres hb hc
        have d2 : ¬ (R : Int) = 95 := by omega
        have x1 : (97 : Int) ≤ (R : Int) → ¬ (R : Int) ≤ 122 := by omega
        have x2 : (65 : Int) ≤ (R : Int) → ¬ (R : Int) ≤ 90 := by omega
        have x3 : (0 : Int) < (pos : Int) → (48 : Int) ≤ (R : Int) → ¬ (R : Int) ≤ 57 := by omega
        have x4 : (0 : Int) < (pos : Int) → ¬ (R : Int) = 46 := by omega
        clear hb'
        by_cases a1 : (97 : Int) ≤ (R : Int)
        · have a2 := x1 a1
          have b1 : (65 : Int) ≤ (R : Int) := by omega
          have b2 := x2 b1
          have e1 : (48 : Int) ≤ (R : Int) := by omega
          have e2 : ¬ (R : Int) ≤ 57 := by omega
          have e3 : ¬ (R : Int) = 46 := by omega
          clear x1 x2 x3 x4
          by_cases d1 : (0 : Int) < (pos : Int)
          · go_wp2
            go_ret
            exact ⟨by rw [hfin.out]; rfl, hbw2⟩
          · go_wp2
            go_ret
            exact ⟨by rw [hfin.out]; rfl, hbw2⟩
        · by_cases b1 : (65 : Int) ≤ (R : Int)
          · have b2 := x2 b1
            have e1 : (48 : Int) ≤ (R : Int) := by omega
            have e2 : ¬ (R : Int) ≤ 57 := by omega
            have e3 : ¬ (R : Int) = 46 := by omega
            clear x1 x2 x3 x4
            by_cases d1 : (0 : Int) < (pos : Int)
            · go_wp2
              go_ret
              exact ⟨by rw [hfin.out]; rfl, hbw2⟩
            · go_wp2
              go_ret
              exact ⟨by rw [hfin.out]; rfl, hbw2⟩
          · by_cases d1 : (0 : Int) < (pos : Int)
            · have e3 := x4 d1
              by_cases e1 : (48 : Int) ≤ (R : Int)
              · have e2 := x3 d1 e1
                clear x1 x2 x3 x4
                go_wp2
                go_ret
                exact ⟨by rw [hfin.out]; rfl, hbw2⟩
              · clear x1 x2 x3 x4
                go_wp2
                go_ret
                exact ⟨by rw [hfin.out]; rfl, hbw2⟩
            · clear x1 x2 x3 x4
              go_wp2
              go_ret
              exact ⟨by rw [hfin.out]; rfl, hbw2⟩
    · have hnx : ∀ ty, (Instr.next (.pointer (some ⟨w.heap.size, 0, none⟩)) true ty).run Try.prog wr = _ := fun ty => Lib.run_next_end_at wr w.heap.size s pos ty hit hp
      rw [rest_end hp, keyL] at hc
      have hres : key s.data.toList = decide (1 ≤ s.size ∧ s.size ≤ 64) := by unfold key; rw [hc, Bool.true_and]; rfl
      by_cases h0 : s.size = 0
      · have hE : s.toList.isEmpty = true := by
          rw [ByteArray.toList_eq, List.length_eq_zero_iff.1 (show s.data.toList.length = 0 from h0)]; rfl
        rw [decide_eq_false (by omega)] at hres
        have hfin := Aside0.mk hres
        clear hres hc
        go_wp2
        go_ret
        exact ⟨by rw [hfin.out]; rfl, hbw⟩
      · have hE : s.toList.isEmpty = false := by
          rw [ByteArray.toList_eq]
          cases hl : s.data.toList with
          | nil => exact absurd (show s.data.toList.length = 0 by rw [hl]; rfl) h0
          | cons x r => rfl
        have hfin := Aside0.mk (show key s.data.toList = decide ((s.size : Int) ≤ 64) by rw [hres]; exact decide_eq_decide.2 (by omega))
        clear hres hc
        go_wp2
        go_ret
        exact ⟨by rw [hfin.out]; rfl, hbw⟩
end Go.Proofs.Ytgpkihnihmbomaa.Tw
