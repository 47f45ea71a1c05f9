/- The law's proof, part 18: the text Tc of this session, or words printed for this seat; what the theorem doesn't use is left out. No conditions. -/
import Derived.Test.YtllepjhimkogjaaFSTe7
import Derived.Test.YtllepjhimkogjaaFSTe16
import Derived.Test.YtllepjhimkogjaaFSTe17
import Derived.BigCall
namespace Go.Proofs.Ytllepjhimkogjaa.Txt
end Go.Proofs.Ytllepjhimkogjaa.Txt
namespace Go.Proofs.YtllepjhimkogjaaW.PrintLast
end Go.Proofs.YtllepjhimkogjaaW.PrintLast
namespace Go.Proofs.YtllepjhimkogjaaW.PrintWords
end Go.Proofs.YtllepjhimkogjaaW.PrintWords
namespace Go.Proofs.Ytllepjhimkogjaa.Tw
open Go.RowKit Go.Proofs.YtllepjhimkogjaaW.PrintWords Go.Proofs.YtllepjhimkogjaaW.PrintLast
open Go.Proofs.Ytllepjhimkogjaa.Txt
set_option maxHeartbeats 4000000 in
set_option maxRecDepth 1000000 in
theorem plain_walk (R : Nat) (w : World) : Calls Try.prog 76 #[.int .i32 (R : Int)] w fun e w' => e = .returned (.bool (plain R)) ∧ w' = w := by
  have hp : plain R = decide (¬ (R < 32 ∨ (127 ≤ R ∧ R < 160) ∨ R = 8232 ∨ R = 8233 ∨ R = 65533)) := by
    unfold plain
    by_cases a : R < 32 <;> by_cases b : 127 ≤ R ∧ R < 160 <;> by_cases c : R = 8232 <;> by_cases d : R = 8233 <;> by_cases e : R = 65533 <;> simp [a, b, c, d, e]
  by_cases h : R < 32 ∨ (127 ≤ R ∧ R < 160) ∨ R = 8232 ∨ R = 8233 ∨ R = 65533
  · rw [decide_eq_false (fun hn => hn h)] at hp
    rw [hp]
    clear hp
    by_cases a : (R : Int) < 32
    · clear h
      go_enter Try.func76, Try.ntmps76
      go_wp2
      go_ret
      exact ⟨rfl, rfl⟩
    · by_cases b : (127 : Int) ≤ (R : Int)
      · by_cases b2 : (R : Int) ≤ 159
        · clear h
          go_enter Try.func76, Try.ntmps76
          go_wp2
          go_ret
          exact ⟨rfl, rfl⟩
        · have h3 : R = 8232 ∨ R = 8233 ∨ R = 65533 := by omega
          clear h
          rcases h3 with rfl | rfl | rfl
          all_goals
            go_enter Try.func76, Try.ntmps76
            go_wp2
            go_ret
            exact ⟨rfl, rfl⟩
      · exfalso; omega
  · rw [decide_eq_true h] at hp
    rw [hp]
    clear hp
    have a : ¬ (R : Int) < 32 := by omega
    have c1 : ¬ (R : Int) = 8232 := by omega
    have c2 : ¬ (R : Int) = 8233 := by omega
    have c3 : ¬ (R : Int) = 65533 := by omega
    by_cases b : (127 : Int) ≤ (R : Int)
    · have b2 : ¬ (R : Int) ≤ 159 := by omega
      clear h
      go_enter Try.func76, Try.ntmps76
      go_wp2
      go_ret
      exact ⟨rfl, rfl⟩
    · clear h
      go_enter Try.func76, Try.ntmps76
      go_wp2
      go_ret
      exact ⟨rfl, rfl⟩
theorem cl_bytes {s : ByteArray} {pos : Nat} (h : pos < s.size) : (cl ((Utf8.decode s pos).1, (rest s pos).take (Utf8.decode s pos).2)).2 = if plain (Utf8.decode s pos).1 then Lib.encodeRune (Utf8.decode s pos).1 else Lib.encodeRune 95 := by
  unfold cl
  by_cases hp : plain (Utf8.decode s pos).1 = true
  · rw [if_pos hp, if_pos hp]
    have := Lib.encode_decode (rest s pos) (rest_ne h) (by rw [rest_dec]; exact fun e => plain_ne hp e.1)
    rw [rest_dec] at this
    exact this.symm
  · rw [if_neg hp, if_neg hp]; rfl
theorem clean_step {s : ByteArray} {pos : Nat} (h : pos < s.size) : join ((us (rest s pos)).map cl) = (if plain (Utf8.decode s pos).1 then Lib.encodeRune (Utf8.decode s pos).1 else Lib.encodeRune 95) ++ join ((us (rest s (pos + (Utf8.decode s pos).2))).map cl) := by
  rw [us_rest h, List.map_cons, join_cons, cl_bytes h]
theorem rune_le (s : ByteArray) (pos : Nat) : (Utf8.decode s pos).1 ≤ 1114111 := by rw [← rest_dec]; exact Lib.decodeL_rune _
set_option maxHeartbeats 4000000 in
set_option maxRecDepth 1000000 in
theorem clean_walk (s : ByteArray) (w : World) (hs : s.size ≤ 35184372088832) :
    Calls Try.prog 45 #[.string s] w fun e w' => e = .returned (.string ⟨(clean s.data.toList).toArray⟩) ∧ Below w.heap.size w w' := by
  go_enter Try.func45, Try.ntmps45
  go_wp2
  go_loopg [] (s.size + 1) (fun kq wr => ∃ (pos : Nat) (acc : List UInt8), Lib.IsBuilderF 108 5 w.heap.size w.heap.size (Lib.byteCells acc) wr ∧ wr.heap[w.heap.size + 1]? = some (.stringIter s pos) ∧ Below w.heap.size w wr ∧ acc ++ join ((us (rest s pos)).map cl) = clean s.data.toList ∧ s.size - pos < kq ∧ pos ≤ s.size ∧ acc.length ≤ 4 * pos)
  case atStart =>
    refine ⟨0, [], (Lib.IsBuilderF.of (Lib.fresh_isBuilder 108 5 w)).alloc _, ?_, ((Below.refl _ w).alloc (Nat.le_refl _) _).alloc (by simp) _, by rw [rest_zero]; rfl, by omega, by omega, by simp⟩
    have := World.iter_heap (w.alloc (.cells #[.pointer none, .slice none 0 0] 108)) s 0
    simpa using this
  case round =>
    obtain ⟨pos, acc, hI, hit, hbw, hacc, hk, hps, hal⟩ := hrel
    obtain ⟨k1, rfl⟩ : ∃ m, gk = m + 1 := ⟨gk - 1, by omega⟩
    have hsz : w.heap.size + 1 < wr.heap.size := (Array.getElem?_eq_some_iff.1 hit).1
    by_cases hp : pos < s.size
    · have hnx : ∀ ty, (Instr.next (.pointer (some ⟨w.heap.size + 1, 0, none⟩)) true ty).run Try.prog wr = _ := fun ty => Lib.run_next_any_at wr (w.heap.size + 1) s pos ty hit hp
      have hw1 := width_pos s pos
      have hw2 := width_le hp
      have hI2 := hI.iterAt hit (pos + (Utf8.decode s pos).2)
      have hit2 := Lib.iterAt_heap wr (w.heap.size + 1) s pos (pos + (Utf8.decode s pos).2) hit
      have hbw2 := Lib.below_iterAt hbw (k := w.heap.size + 1) (by omega) s (pos + (Utf8.decode s pos).2)
      have hsz2 : w.heap.size ≤ (wr.iterAt (w.heap.size + 1) s (pos + (Utf8.decode s pos).2)).heap.size := by rw [Lib.iterAt_size]; omega
      have hr := rune_le s pos
      rw [clean_step hp] at hacc
      by_cases hpl : plain (Utf8.decode s pos).1 = true
      · rw [if_pos hpl] at hacc
        go_wp2_with (first
          | (go_at_call 76; refine (plain_walk (Utf8.decode s pos).1 _).mono ?_; rintro e w1 ⟨rfl, rfl⟩)
          | (go_at_call 77; refine (Tb.WriteRune_k w.heap.size w.heap.size _ _ (by omega) (by omega) _ hI2 (by rw [Lib.byteCells_length]; omega) hsz2).mono ?_))
        rintro e W1 ⟨rfl, h1, b1, k1'⟩
        go_wp2
        go_roundg k1
        case measure => omega
        case rel =>
          have hl4 := Lib.runeCells_le ((Utf8.decode s pos).1 : Int)
          rw [Lib.runeCells_length] at hl4
          refine ⟨pos + (Utf8.decode s pos).2, acc ++ Lib.encodeRune (Utf8.decode s pos).1, ?_, k1'.iter hit2 (by omega), hbw2.trans b1, ?_, by omega, by omega, by rw [List.length_append]; omega⟩
          · rw [Lib.byteCells_append, Lib.byteCells_encodeRune]; exact Or.inr h1
          · rw [← hacc, List.append_assoc]
      · rw [Bool.not_eq_true] at hpl
        rw [hpl] at hacc
        go_wp2_with (first
          | (go_at_call 76; refine (plain_walk (Utf8.decode s pos).1 _).mono ?_; rintro e w1 ⟨rfl, rfl⟩)
          | (go_at_call 77; refine (Tb.WriteRune_k w.heap.size w.heap.size _ 95 (by omega) (by omega) _ hI2 (by rw [Lib.byteCells_length]; omega) hsz2).mono ?_))
        rintro e W1 ⟨rfl, h1, b1, k1'⟩
        go_wp2
        go_roundg k1
        case measure => omega
        case rel =>
          refine ⟨pos + (Utf8.decode s pos).2, acc ++ Lib.encodeRune 95, ?_, k1'.iter hit2 (by omega), hbw2.trans b1, ?_, by omega, by omega, by rw [List.length_append]; have : (Lib.encodeRune 95).length = 1 := rfl; omega⟩
          · rw [Lib.byteCells_append, Lib.byteCells_encodeRune]; exact Or.inr h1
          · rw [← hacc, List.append_assoc]; rfl
    · have hnx : ∀ ty, (Instr.next (.pointer (some ⟨w.heap.size + 1, 0, none⟩)) true ty).run Try.prog wr = _ := fun ty => Lib.run_next_end_at wr (w.heap.size + 1) s pos ty hit hp
      rw [rest_end hp, us_nil, List.map_nil, join_nil, List.append_nil] at hacc
      go_wp2_with (go_at_call 78; refine (Tb.String_any_k w.heap.size w.heap.size acc _ hI (by omega)).mono ?_)
      rintro e W1 ⟨rfl, _, b1, _⟩
      go_wp2
      go_ret
      subst hacc
      exact ⟨rfl, hbw.trans b1⟩
end Go.Proofs.Ytllepjhimkogjaa.Tw
