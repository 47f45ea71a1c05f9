/- The law's proof, part 16: the text Tw of this session, or words printed for this seat; what the theorem doesn't use is left out. No conditions. -/
import Derived.Test.YtllepjhimkogjaaFSTe7
import Derived.Test.YtllepjhimkogjaaProg
import Derived.WalkKit
import Derived.Deep.LoopGhost
import Derived.Lib.OthersKept
import Derived.Test.YtllepjhimkogjaaFSTe15
namespace Go.Proofs.Ytllepjhimkogjaa.Txt
end Go.Proofs.Ytllepjhimkogjaa.Txt
namespace Go.Proofs.YtllepjhimkogjaaW.PrintLast
end Go.Proofs.YtllepjhimkogjaaW.PrintLast
namespace Go.Proofs.YtllepjhimkogjaaW.PrintWords
end Go.Proofs.YtllepjhimkogjaaW.PrintWords
namespace Go.Proofs.Ytllepjhimkogjaa.Tw
open Go.RowKit Go.Proofs.YtllepjhimkogjaaW.PrintWords Go.Proofs.YtllepjhimkogjaaW.PrintLast
open Go.Proofs.Ytllepjhimkogjaa.Txt
def rest (s : ByteArray) (pos : Nat) : List UInt8 := s.data.toList.drop pos
theorem rest_len (s : ByteArray) (pos : Nat) : (rest s pos).length = s.size - pos := by unfold rest; rw [List.length_drop]; rfl
theorem rest_ne {s : ByteArray} {pos : Nat} (h : pos < s.size) : rest s pos ≠ [] := by
  intro e
  have := congrArg List.length e
  rw [rest_len, List.length_nil] at this; omega
theorem rest_end {s : ByteArray} {pos : Nat} (h : ¬ pos < s.size) : rest s pos = [] := List.length_eq_zero_iff.1 (by rw [rest_len]; omega)
theorem rest_dec (s : ByteArray) (pos : Nat) : Lib.decodeL (rest s pos) = Utf8.decode s pos := Lib.decodeL_drop s pos
theorem us_rest {s : ByteArray} {pos : Nat} (h : pos < s.size) : us (rest s pos) = ((Utf8.decode s pos).1, (rest s pos).take (Utf8.decode s pos).2) :: us (rest s (pos + (Utf8.decode s pos).2)) := by
  rw [us_step (rest_ne h), rest_dec]
  unfold rest
  rw [List.drop_drop]
theorem width_pos (s : ByteArray) (pos : Nat) : 1 ≤ (Utf8.decode s pos).2 := by rw [← rest_dec]; exact Lib.decodeL_width _
theorem width_le {s : ByteArray} {pos : Nat} (h : pos < s.size) : pos + (Utf8.decode s pos).2 ≤ s.size := by
  have := Lib.decodeL_le _ (rest_ne h)
  rw [rest_dec, rest_len] at this; omega
theorem iter_below (w : World) (s : ByteArray) : Below w.heap.size w (w.iter s 0) := (Below.refl _ w).alloc (Nat.le_refl _) _
theorem iter_at (w : World) (s : ByteArray) : (w.iter s 0).heap[w.heap.size]? = some (.stringIter s 0) := World.iter_heap w s 0
theorem rest_zero (s : ByteArray) : rest s 0 = s.data.toList := rfl
set_option maxHeartbeats 4000000 in
set_option maxRecDepth 1000000 in
theorem count_walk (s : ByteArray) (w : World) (hs : s.size ≤ 35184372088832) :
    Calls Try.prog 43 #[.string s] w fun e w' => e = .returned (.int .i64 (count s.data.toList : Nat)) ∧ Below w.heap.size w w' := by
  go_enter Try.func43, Try.ntmps43
  go_wp2
  go_loopg [3] (s.size + 1) (fun kq v3 wr => ∃ (pos n : Nat), v3 = .int .i64 (n : Int) ∧ wr.heap[w.heap.size]? = some (.stringIter s pos) ∧ Below w.heap.size w wr ∧ n + (us (rest s pos)).length = count s.data.toList ∧ s.size - pos < kq ∧ n ≤ pos ∧ pos ≤ s.size)
  case atStart =>
    exact ⟨0, 0, rfl, iter_at w s, iter_below w s, by rw [rest_zero, Nat.zero_add]; rfl, by omega, by omega, by omega⟩
  case round =>
    obtain ⟨pos, n, rfl, hit, hbw, hc, hk, hn, hps⟩ := hrel
    obtain ⟨k1, rfl⟩ : ∃ m, gk = m + 1 := ⟨gk - 1, by omega⟩
    by_cases hp : pos < s.size
    · have hnx : ∀ ty, (Instr.next (.pointer (some ⟨w.heap.size, 0, none⟩)) true ty).run Try.prog wr = _ := fun ty => Lib.run_next_any_at wr w.heap.size s pos ty hit hp
      have hw1 := width_pos s pos
      have hw2 := width_le hp
      have hit2 := Lib.iterAt_heap wr w.heap.size s pos (pos + (Utf8.decode s pos).2) hit
      have hbw2 := Lib.below_iterAt hbw (k := w.heap.size) (Nat.le_refl _) s (pos + (Utf8.decode s pos).2)
      have hus := us_rest hp
      rw [hus, List.length_cons] at hc
      go_wp2
      go_roundg k1
      case measure => omega
      case rel => exact ⟨pos + (Utf8.decode s pos).2, n + 1, rfl, hit2, hbw2, by omega, by omega, by omega, by omega⟩
    · have hnx : ∀ ty, (Instr.next (.pointer (some ⟨w.heap.size, 0, none⟩)) true ty).run Try.prog wr = _ := fun ty => Lib.run_next_end_at wr w.heap.size s pos ty hit hp
      rw [rest_end hp, us_nil, List.length_nil, Nat.add_zero] at hc
      subst hc
      go_wp2
      go_ret
      exact ⟨rfl, hbw⟩
theorem right_cons (l : List UInt8) (u : Nat × List UInt8) (L : List (Nat × List UInt8)) (h : us l = u :: L) : right l = (!bad u && L.all fun u => !bad u) := by
  unfold right; rw [h, List.all_cons]
set_option maxHeartbeats 4000000 in
set_option maxRecDepth 1000000 in
theorem right_walk (s : ByteArray) (w : World) (hs : s.size ≤ 35184372088832) :
    Calls Try.prog 41 #[.string s] w fun e w' => e = .returned (.bool (right s.data.toList)) ∧ Below w.heap.size w w' := by
  go_enter Try.func41, Try.ntmps41
  go_wp2
  go_loopg [3, 4] (s.size + 1) (fun kq v3 v4 wr => ∃ (pos : Nat) (L A : Int), v3 = .int .i32 L ∧ v4 = .int .i64 A ∧ wr.heap[w.heap.size]? = some (.stringIter s pos) ∧ Below w.heap.size w wr ∧ s.size - pos < kq ∧ pos ≤ s.size ∧ -1 ≤ A ∧ A ≤ pos ∧
    ((L = 65533 ∧ 0 ≤ A ∧ (pos : Int) - A = 1 ∧ right s.data.toList = false) ∨ (¬ (L = 65533 ∧ 0 ≤ A ∧ (pos : Int) - A = 1) ∧ right s.data.toList = right (rest s pos))))
  case atStart =>
    exact ⟨0, 0, -1, rfl, rfl, iter_at w s, iter_below w s, by omega, by omega, by omega, by omega, .inr ⟨by omega, by rw [rest_zero]⟩⟩
  case round =>
    obtain ⟨pos, L, A, rfl, rfl, hit, hbw, hk, hps, hA1, hA2, hc⟩ := hrel
    obtain ⟨k1, rfl⟩ : ∃ m, gk = m + 1 := ⟨gk - 1, by omega⟩
    by_cases hp : pos < s.size
    · have hnx : ∀ ty, (Instr.next (.pointer (some ⟨w.heap.size, 0, none⟩)) true ty).run Try.prog wr = _ := fun ty => Lib.run_next_any_at wr w.heap.size s pos ty hit hp
      have hw1 := width_pos s pos
      have hw2 := width_le hp
      have hit2 := Lib.iterAt_heap wr w.heap.size s pos (pos + (Utf8.decode s pos).2) hit
      have hbw2 := Lib.below_iterAt hbw (k := w.heap.size) (Nat.le_refl _) s (pos + (Utf8.decode s pos).2)
      rcases hc with ⟨rfl, h0, h1, hr⟩ | ⟨hn, hr⟩
      · have c1 : (0 : Int) ≤ A := h0
        have c2 : wrap64 ((pos : Int) - A) = 1 := by rw [IntWalk.wrap64_in _ (by omega)]; exact h1
        go_wp2
        go_ret
        exact ⟨by first | rfl | (rw [hr]; rfl), hbw2⟩
      · have hus := us_rest hp
        have hbad : bad ((Utf8.decode s pos).1, (rest s pos).take (Utf8.decode s pos).2) = decide ((Utf8.decode s pos).1 = 65533 ∧ (Utf8.decode s pos).2 = 1) := by
          unfold bad
          simp only [List.length_take, rest_len]
          rw [Nat.min_eq_left (by omega)]
        have hnew : ((((Utf8.decode s pos).1 : Int) = 65533 ∧ 0 ≤ (pos : Int) ∧ ((pos + (Utf8.decode s pos).2 : Nat) : Int) - (pos : Int) = 1 ∧ right s.data.toList = false) ∨ (¬ (((Utf8.decode s pos).1 : Int) = 65533 ∧ 0 ≤ (pos : Int) ∧ ((pos + (Utf8.decode s pos).2 : Nat) : Int) - (pos : Int) = 1) ∧ right s.data.toList = right (rest s (pos + (Utf8.decode s pos).2)))) := by
          rw [hr, right_cons _ _ _ hus, hbad]
          by_cases hb : (Utf8.decode s pos).1 = 65533 ∧ (Utf8.decode s pos).2 = 1
          · exact .inl ⟨by omega, by omega, by omega, by rw [decide_eq_true hb]; rfl⟩
          · exact .inr ⟨by omega, by rw [decide_eq_false hb]; rfl⟩
        by_cases d1 : L = 65533
        · subst d1
          by_cases d2 : 0 ≤ A
          · have d3 : ¬ wrap64 ((pos : Int) - A) = 1 := by rw [IntWalk.wrap64_in _ (by omega)]; omega
            go_wp2
            go_roundg k1
            case measure => omega
            case rel => exact ⟨pos + (Utf8.decode s pos).2, _, _, rfl, rfl, hit2, hbw2, by omega, by omega, by omega, by omega, hnew⟩
          · go_wp2
            go_roundg k1
            case measure => omega
            case rel => exact ⟨pos + (Utf8.decode s pos).2, _, _, rfl, rfl, hit2, hbw2, by omega, by omega, by omega, by omega, hnew⟩
        · go_wp2
          go_roundg k1
          case measure => omega
          case rel => exact ⟨pos + (Utf8.decode s pos).2, _, _, rfl, rfl, hit2, hbw2, by omega, by omega, by omega, by omega, hnew⟩
    · have hnx : ∀ ty, (Instr.next (.pointer (some ⟨w.heap.size, 0, none⟩)) true ty).run Try.prog wr = _ := fun ty => Lib.run_next_end_at wr w.heap.size s pos ty hit hp
      obtain rfl : pos = s.size := by omega
      rcases hc with ⟨rfl, h0, h1, hr⟩ | ⟨hn, hr⟩
      · have c1 : (0 : Int) ≤ A := h0
        have c2 : wrap64 ((s.size : Int) - A) = 1 := by rw [IntWalk.wrap64_in _ (by omega)]; exact h1
        go_wp2
        go_ret
        exact ⟨by first | rfl | (rw [hr]; rfl) | (show Ending.returned (.bool (!((s.size : Int) - A == 1))) = _; rw [e5.out]; rfl), hbw⟩
      · rw [rest_end hp, show right [] = true from rfl] at hr
        by_cases d1 : L = 65533
        · subst d1
          by_cases d2 : 0 ≤ A
          · have e4 : ¬ ((s.size : Int) - A = 1) := fun h => hn ⟨rfl, d2, h⟩
            have e5 := Aside0.mk (beq_false_of_ne e4)
            have d3 : ¬ wrap64 ((s.size : Int) - A) = 1 := by rw [IntWalk.wrap64_in _ (by omega)]; omega
            go_wp2
            go_ret
            exact ⟨by first | rfl | (rw [hr]; rfl) | (show Ending.returned (.bool (!((s.size : Int) - A == 1))) = _; rw [e5.out]; rfl), hbw⟩
          · go_wp2
            go_ret
            exact ⟨by first | rfl | (rw [hr]; rfl) | (show Ending.returned (.bool (!((s.size : Int) - A == 1))) = _; rw [e5.out]; rfl), hbw⟩
        · go_wp2
          go_ret
          exact ⟨by first | rfl | (rw [hr]; rfl) | (show Ending.returned (.bool (!((s.size : Int) - A == 1))) = _; rw [e5.out]; rfl), hbw⟩
def cutB (s : ByteArray) (n : Int) : ByteArray := s.extract 0 (cut n.toNat s.data.toList).length
theorem extract_all (s : ByteArray) : s.extract 0 s.size = s := by
  apply ByteArray.ext
  simp
theorem cutB_all (s : ByteArray) (n : Int) (h : (s.size : Int) ≤ n) : cutB s n = s := by
  unfold cutB
  rw [cut_all _ _ (show s.data.toList.length ≤ _ by have : s.data.toList.length = s.size := rfl; omega)]
  exact extract_all s
theorem cutU_stop {m : Nat} {u : Nat × List UInt8} {r : List (Nat × List UInt8)} (h : ¬ u.2.length ≤ m) : cutU m (u :: r) = [] := by rw [cutU, if_neg h]
theorem unit_len {s : ByteArray} {pos : Nat} (h : pos < s.size) : ((rest s pos).take (Utf8.decode s pos).2).length = (Utf8.decode s pos).2 := by
  have := width_le h
  rw [List.length_take, rest_len]; omega
def At (s : ByteArray) (n : Int) (E pos : Nat) : Prop :=
  (cut n.toNat s.data.toList).length = E + (join (cutU (n.toNat - E) (us (rest s E)))).length ∧ ((E = 0 ∧ pos = 0) ∨ (0 ≤ n ∧ E < s.size ∧ pos = E + (Utf8.decode s E).2 ∧ (E : Int) ≤ n))
theorem At.stop {s : ByteArray} {n : Int} {E pos : Nat} (h : At s n E pos) (hp : (pos : Int) > n) : (cut n.toNat s.data.toList).length = E := by
  obtain ⟨hc, ⟨rfl, rfl⟩ | ⟨h0, h1, h2, h3⟩⟩ := h
  · have := cut_len n.toNat s.data.toList
    omega
  · rw [us_rest h1, cutU_stop (by rw [unit_len h1]; omega), join_nil, List.length_nil] at hc
    omega
theorem At.go {s : ByteArray} {n : Int} {E pos : Nat} (h : At s n E pos) (hp : ¬ (pos : Int) > n) (hs : pos < s.size) : At s n pos (pos + (Utf8.decode s pos).2) := by
  obtain ⟨hc, ⟨rfl, rfl⟩ | ⟨h0, h1, h2, h3⟩⟩ := h
  · exact ⟨hc, .inr ⟨by omega, hs, rfl, by omega⟩⟩
  · refine ⟨?_, .inr ⟨h0, hs, rfl, by omega⟩⟩
    rw [us_rest h1, cutU, if_pos (by rw [unit_len h1]; omega), join_cons, List.length_append, unit_len h1] at hc
    rw [hc, ← h2, ← Nat.add_assoc, ← h2, show n.toNat - E - (Utf8.decode s E).2 = n.toNat - pos by omega]
theorem At.start (s : ByteArray) (n : Int) : At s n 0 0 := ⟨by rw [Nat.zero_add, Nat.sub_zero, rest_zero]; rfl, .inl ⟨rfl, rfl⟩⟩
set_option maxHeartbeats 4000000 in
set_option maxRecDepth 1000000 in
theorem cut_walk (s : ByteArray) (n : Int) (w : World) (hs : s.size ≤ 35184372088832) :
    Calls Try.prog 37 #[.string s, .int .i64 n] w fun e w' => e = .returned (.string (cutB s n)) ∧ Below w.heap.size w w' := by
  by_cases hn : n ≥ (s.size : Int)
  · rw [cutB_all s n hn]
    go_enter Try.func37, Try.ntmps37
    go_wp2
    go_ret
    exact ⟨rfl, Below.refl _ _⟩
  · go_enter Try.func37, Try.ntmps37
    go_wp2
    go_loopg [5] (s.size + 1) (fun kq v5 wr => ∃ (pos E : Nat), v5 = .int .i64 (E : Int) ∧ wr.heap[w.heap.size]? = some (.stringIter s pos) ∧ Below w.heap.size w wr ∧ s.size - pos < kq ∧ pos ≤ s.size ∧ Aside0 (At s n E pos) ∧ E ≤ s.size)
    case atStart =>
      exact ⟨0, 0, rfl, iter_at w s, iter_below w s, by omega, by omega, ⟨At.start s n⟩, by omega⟩
    case round =>
      obtain ⟨pos, E, rfl, hit, hbw, hk, hps, hA, hE⟩ := hrel
      obtain ⟨k1, rfl⟩ : ∃ m, gk = m + 1 := ⟨gk - 1, by omega⟩
      have hE1 : (E : Int) ≤ (s.size : Int) := by omega
      by_cases hp : pos < s.size
      · have hnx : ∀ ty, (Instr.next (.pointer (some ⟨w.heap.size, 0, none⟩)) true ty).run Try.prog wr = _ := fun ty => Lib.run_next_any_at wr w.heap.size s pos ty hit hp
        have hw1 := width_pos s pos
        have hw2 := width_le hp
        have hit2 := Lib.iterAt_heap wr w.heap.size s pos (pos + (Utf8.decode s pos).2) hit
        have hbw2 := Lib.below_iterAt hbw (k := w.heap.size) (Nat.le_refl _) s (pos + (Utf8.decode s pos).2)
        by_cases hpn : (pos : Int) > n
        · have hc := hA.out.stop hpn
          go_wp2
          go_ret
          exact ⟨by unfold cutB; rw [hc]; rfl, hbw2⟩
        · have hc := hA.out.go hpn hp
          have hc' := Aside0.mk hc
          clear hc
          go_wp2
          go_roundg k1
          case measure => omega
          case rel => exact ⟨pos + (Utf8.decode s pos).2, pos, rfl, hit2, hbw2, by omega, by omega, hc', by omega⟩
      · have hnx : ∀ ty, (Instr.next (.pointer (some ⟨w.heap.size, 0, none⟩)) true ty).run Try.prog wr = _ := fun ty => Lib.run_next_end_at wr w.heap.size s pos ty hit hp
        have hc := hA.out.stop (show (pos : Int) > n by omega)
        go_wp2
        go_ret
        exact ⟨by unfold cutB; rw [hc]; rfl, hbw⟩
def byteOk (b i : Nat) : Bool := decide ((97 ≤ b ∧ b ≤ 122) ∨ (65 ≤ b ∧ b ≤ 90) ∨ b = 95 ∨ (0 < i ∧ ((48 ≤ b ∧ b ≤ 57) ∨ b = 46)))
def keyL : Nat → List UInt8 → Bool
  | _, [] => true
  | i, b :: r => byteOk b.toNat i && keyL (i + 1) r
def key (l : List UInt8) : Bool := keyL 0 l && decide (1 ≤ l.length ∧ l.length ≤ 64)
theorem rest_cons {s : ByteArray} {pos : Nat} (h : pos < s.size) : rest s pos = (rest s pos).getD 0 0 :: rest s (pos + 1) := by
  have e : rest s (pos + 1) = (rest s pos).drop 1 := by unfold rest; rw [List.drop_drop]
  have := rest_ne h
  rw [e]
  cases hl : rest s pos with
  | nil => exact absurd hl this
  | cons x r => rfl
theorem dec_byte (s : ByteArray) (pos : Nat) : ((Utf8.decode s pos).1 < 128 ∧ (Utf8.decode s pos).2 = 1 ∧ (Utf8.decode s pos).1 = ((rest s pos).getD 0 0).toNat) ∨ (128 ≤ (Utf8.decode s pos).1 ∧ 128 ≤ ((rest s pos).getD 0 0).toNat) := by
  rw [← rest_dec, Lib.decodeL_N]
  by_cases hb : ((rest s pos).getD 0 0).toNat < 128
  · left
    unfold Lib.decodeN
    rw [if_pos hb]
    exact ⟨hb, rfl, rfl⟩
  · right
    refine ⟨?_, by omega⟩
    rcases Lib.decodeN_shape (rest s pos).length ((rest s pos).getD 0 0).toNat ((rest s pos).getD 1 0).toNat ((rest s pos).getD 2 0).toNat ((rest s pos).getD 3 0).toNat with ⟨c, e⟩ | ⟨c1, c2, c3, cv, e⟩ | ⟨c1, c2, c3, c4, cv, cs, e⟩ | ⟨c1, c2, c3, c4, c5, cv, cw, e⟩ | e
    all_goals (rw [e]; dsimp only; omega)
theorem keyL_step {s : ByteArray} {pos : Nat} (h : pos < s.size) : keyL pos (rest s pos) = (byteOk (Utf8.decode s pos).1 pos && keyL (pos + (Utf8.decode s pos).2) (rest s (pos + (Utf8.decode s pos).2))) := by
  rw [rest_cons h, keyL]
  rcases dec_byte s pos with ⟨h1, h2, h3⟩ | ⟨h1, h2⟩
  · rw [h2, h3]
  · have e1 : byteOk ((rest s pos).getD 0 0).toNat pos = false := by unfold byteOk; exact decide_eq_false (by omega)
    have e2 : byteOk (Utf8.decode s pos).1 pos = false := by unfold byteOk; exact decide_eq_false (by omega)
    rw [e1, e2]; rfl
set_option maxHeartbeats 8000000 in
set_option maxRecDepth 1000000 in
theorem key_walk (s : ByteArray) (w : World) (hs : s.size ≤ 35184372088832) :
    Calls Try.prog 46 #[.string s] w fun e w' => e = .returned (.bool (key s.data.toList)) ∧ Below w.heap.size w w' := by
  go_enter Try.func46, Try.ntmps46
  go_wp2
  go_loopg [] (s.size + 1) (fun kq wr => ∃ (pos : Nat), wr.heap[w.heap.size]? = some (.stringIter s pos) ∧ Below w.heap.size w wr ∧ s.size - pos < kq ∧ pos ≤ s.size ∧ keyL 0 s.data.toList = keyL pos (rest s pos))
  case atStart =>
    exact ⟨0, iter_at w s, iter_below w s, by omega, by omega, by rw [rest_zero]⟩
  case round =>
    obtain ⟨pos, hit, hbw, hk, hps, hc⟩ := hrel
    obtain ⟨k1, rfl⟩ : ∃ m, gk = m + 1 := ⟨gk - 1, by omega⟩
    by_cases hp : pos < s.size
    · have hnx : ∀ ty, (Instr.next (.pointer (some ⟨w.heap.size, 0, none⟩)) true ty).run Try.prog wr = _ := fun ty => Lib.run_next_any_at wr w.heap.size s pos ty hit hp
      have hw1 := width_pos s pos
      have hw2 := width_le hp
      have hit2 := Lib.iterAt_heap wr w.heap.size s pos (pos + (Utf8.decode s pos).2) hit
      have hbw2 := Lib.below_iterAt hbw (k := w.heap.size) (Nat.le_refl _) s (pos + (Utf8.decode s pos).2)
      rw [keyL_step hp] at hc
      generalize hR : (Utf8.decode s pos).1 = R at hnx hc
      by_cases hb : byteOk R pos = true
      · rw [hb, Bool.true_and] at hc
        have hb' := of_decide_eq_true hb
        have rel : ∃ (p : Nat), (wr.iterAt w.heap.size s (pos + (Utf8.decode s pos).2)).heap[w.heap.size]? = some (.stringIter s p) ∧ Below w.heap.size w (wr.iterAt w.heap.size s (pos + (Utf8.decode s pos).2)) ∧ s.size - p < k1 ∧ p ≤ s.size ∧ keyL 0 s.data.toList = keyL p (rest s p) := ⟨pos + (Utf8.decode s pos).2, hit2, hbw2, by omega, by omega, hc⟩
        have hrel := Aside0.mk rel
        clear rel hb
        by_cases a1 : (97 : Int) ≤ (R : Int)
        · have a2 : (R : Int) ≤ 122 := by omega
          clear hb'
          go_wp2
          go_roundg k1
          case measure => omega
          case rel => exact hrel.out
        · by_cases b1 : (65 : Int) ≤ (R : Int)
          · by_cases b2 : (R : Int) ≤ 90
            · clear hb'
              go_wp2
              go_roundg k1
              case measure => omega
              case rel => exact hrel.out
            · obtain rfl : R = 95 := by omega
              clear hb'
              go_wp2
              go_roundg k1
              case measure => omega
              case rel => exact hrel.out
          · have d1 : (0 : Int) < (pos : Int) := by omega
            have d2 : ¬ (R : Int) = 95 := by omega
            by_cases e1 : (48 : Int) ≤ (R : Int)
            · have e2 : (R : Int) ≤ 57 := by omega
              clear hb'
              go_wp2
              go_roundg k1
              case measure => omega
              case rel => exact hrel.out
            · obtain rfl : R = 46 := by omega
              clear hb'
              go_wp2
              go_roundg k1
              case measure => omega
              case rel => exact hrel.out
      · rw [Bool.not_eq_true] at hb
        rw [hb, Bool.false_and] at hc
        have hb' := of_decide_eq_false hb
        have hres : key s.data.toList = false := by unfold key; rw [hc]; rfl
        have hfin := Aside0.mk hres
        clear hres hb hc
        have d2 : ¬ (R : Int) = 95 := by omega
        have x1 : (97 : Int) ≤ (R : Int) → ¬ (R : Int) ≤ 122 := by omega
        have x2 : (65 : Int) ≤ (R : Int) → ¬ (R : Int) ≤ 90 := by omega
        have x3 : (0 : Int) < (pos : Int) → (48 : Int) ≤ (R : Int) → ¬ (R : Int) ≤ 57 := by omega
        have x4 : (0 : Int) < (pos : Int) → ¬ (R : Int) = 46 := by omega
        clear hb'
        by_cases a1 : (97 : Int) ≤ (R : Int)
        · have a2 := x1 a1
          have b1 : (65 : Int) ≤ (R : Int) := by omega
          have b2 := x2 b1
          have e1 : (48 : Int) ≤ (R : Int) := by omega
          have e2 : ¬ (R : Int) ≤ 57 := by omega
          have e3 : ¬ (R : Int) = 46 := by omega
          clear x1 x2 x3 x4
          by_cases d1 : (0 : Int) < (pos : Int)
          · go_wp2
            go_ret
            exact ⟨by rw [hfin.out]; rfl, hbw2⟩
          · go_wp2
            go_ret
            exact ⟨by rw [hfin.out]; rfl, hbw2⟩
        · by_cases b1 : (65 : Int) ≤ (R : Int)
          · have b2 := x2 b1
            have e1 : (48 : Int) ≤ (R : Int) := by omega
            have e2 : ¬ (R : Int) ≤ 57 := by omega
            have e3 : ¬ (R : Int) = 46 := by omega
            clear x1 x2 x3 x4
            by_cases d1 : (0 : Int) < (pos : Int)
            · go_wp2
              go_ret
              exact ⟨by rw [hfin.out]; rfl, hbw2⟩
            · go_wp2
              go_ret
              exact ⟨by rw [hfin.out]; rfl, hbw2⟩
          · by_cases d1 : (0 : Int) < (pos : Int)
            · have e3 := x4 d1
              by_cases e1 : (48 : Int) ≤ (R : Int)
              · have e2 := x3 d1 e1
                clear x1 x2 x3 x4
                go_wp2
                go_ret
                exact ⟨by rw [hfin.out]; rfl, hbw2⟩
              · clear x1 x2 x3 x4
                go_wp2
                go_ret
                exact ⟨by rw [hfin.out]; rfl, hbw2⟩
            · clear x1 x2 x3 x4
              go_wp2
              go_ret
              exact ⟨by rw [hfin.out]; rfl, hbw2⟩
    · have hnx : ∀ ty, (Instr.next (.pointer (some ⟨w.heap.size, 0, none⟩)) true ty).run Try.prog wr = _ := fun ty => Lib.run_next_end_at wr w.heap.size s pos ty hit hp
      rw [rest_end hp, keyL] at hc
      have hres : key s.data.toList = decide (1 ≤ s.size ∧ s.size ≤ 64) := by unfold key; rw [hc, Bool.true_and]; rfl
      by_cases h0 : s.size = 0
      · have hE : s.toList.isEmpty = true := by
          rw [ByteArray.toList_eq, List.length_eq_zero_iff.1 (show s.data.toList.length = 0 from h0)]; rfl
        rw [decide_eq_false (by omega)] at hres
        have hfin := Aside0.mk hres
        clear hres hc
        go_wp2
        go_ret
        exact ⟨by rw [hfin.out]; rfl, hbw⟩
      · have hE : s.toList.isEmpty = false := by
          rw [ByteArray.toList_eq]
          cases hl : s.data.toList with
          | nil => exact absurd (show s.data.toList.length = 0 by rw [hl]; rfl) h0
          | cons x r => rfl
        have hfin := Aside0.mk (show key s.data.toList = decide ((s.size : Int) ≤ 64) by rw [hres]; exact decide_eq_decide.2 (by omega))
        clear hres hc
        go_wp2
        go_ret
        exact ⟨by rw [hfin.out]; rfl, hbw⟩
end Go.Proofs.Ytllepjhimkogjaa.Tw
