/- What Count, Sum, Buckets, Full of a histogram answer. No conditions but bounds. -/
import Derived.Test.YtdcbhakclhbdpaaHj
namespace Go.Proofs.Ytdcbhakclhbdpaa.Hi
open Go.RowKit Go.Shelf Go.Proofs.YtdcbhakclhbdpaaW.PrintWords Go.Proofs.YtdcbhakclhbdpaaW.PrintLast
open Go.Proofs.Ytdcbhakclhbdpaa.Ob Go.Proofs.Ytdcbhakclhbdpaa.XH
set_option linter.unusedSimpArgs false
set_option linter.unusedVariables false

set_option maxHeartbeats 4000000 in
set_option maxRecDepth 1000000 in
theorem count_walk (w : World) (lo hi N b k : Nat) (v0 : Value) (bs : List Nat) (cs : List (Nat × Bool)) (c s : Nat × Bool) (h : Hc w lo hi N b k v0 bs cs c s) :
    Calls Try.prog 35 #[.pointer (some ⟨N, 0, none⟩)] w fun r w' => r = .returned (.agg #[.int .u64 (c.1 : Int), .bool c.2]) ∧ Only (fun _ => False) w w' := by
  have hlt : N < w.heap.size := Nat.lt_of_lt_of_le h.wn.2 h.top
  have hne : N ≠ w.heap.size := Nat.ne_of_lt hlt
  obtain ⟨⟨c0, c1⟩, ⟨c2, c2f⟩, ⟨c3, c3f⟩, ⟨c4, c4f⟩, c5, c5f⟩ := h.cells
  clear h
  go_enter Try.func35, Try.ntmps35
  go_wp2
  refine bodyPost_ret (results_cell_row rfl _ _ w.heap.size 26 #[.int .u64 (c.1 : Int), .bool c.2] (0, 0) _ rfl (blk_new w _) Try.underlying26 rfl (by kernel_rfl)) rfl ?_
  exact ⟨rfl, (Only.refl _ w).alloc _⟩
set_option maxHeartbeats 4000000 in
set_option maxRecDepth 1000000 in
theorem sum_walk (w : World) (lo hi N b k : Nat) (v0 : Value) (bs : List Nat) (cs : List (Nat × Bool)) (c s : Nat × Bool) (h : Hc w lo hi N b k v0 bs cs c s) :
    Calls Try.prog 36 #[.pointer (some ⟨N, 0, none⟩)] w fun r w' => r = .returned (.agg #[.int .u64 (s.1 : Int), .bool s.2]) ∧ Only (fun _ => False) w w' := by
  have hlt : N < w.heap.size := Nat.lt_of_lt_of_le h.wn.2 h.top
  have hne : N ≠ w.heap.size := Nat.ne_of_lt hlt
  obtain ⟨⟨c0, c1⟩, ⟨c2, c2f⟩, ⟨c3, c3f⟩, ⟨c4, c4f⟩, c5, c5f⟩ := h.cells
  clear h
  go_enter Try.func36, Try.ntmps36
  go_wp2
  refine bodyPost_ret (results_cell_row rfl _ _ w.heap.size 26 #[.int .u64 (s.1 : Int), .bool s.2] (0, 0) _ rfl (blk_new w _) Try.underlying26 rfl (by kernel_rfl)) rfl ?_
  exact ⟨rfl, (Only.refl _ w).alloc _⟩
theorem add_zero (b i : Nat) : (⟨b, 0, none⟩ : Addr).add i = ⟨b, i, none⟩ := by
  unfold Addr.add
  split
  · rename_i h; rw [h]
  · simp
theorem C_of_row {W : World} {b : Nat} {cs : List (Nat × Bool)} (h : Row W b (bc cs)) (hs : cs.length ≤ 1000) : Kd.C k26 W (some ⟨b, 0, none⟩) cs.length (cs.map toS) := by
  refine ⟨by simp, by omega, fun _ => ⟨_, rfl, fun j x hx => ?_⟩⟩
  have hj : j < cs.length := by have := (List.getElem?_eq_some_iff.1 hx).1; simpa using this
  obtain rfl : toS cs[j] = x := by
    rw [List.getElem?_map, List.getElem?_eq_getElem hj] at hx; exact Option.some.inj hx
  obtain ⟨h1, h2⟩ := bc_get cs j _ (List.getElem?_eq_getElem hj)
  refine ⟨_, rfl, k26_mk W _, fun i u hu => ?_⟩
  have e2 : k26.sz = 2 := rfl
  rw [e2]
  match i, hu with
  | 0, hu => obtain rfl := Option.some.inj hu; rw [add_zero]; exact (h _ _ h1).1
  | 1, hu => obtain rfl := Option.some.inj hu; rw [add_zero]; exact (h _ _ h2).1
  | i + 2, hu => cases hu
set_option maxHeartbeats 4000000 in
set_option maxRecDepth 1000000 in
theorem buckets_walk (w : World) (lo hi N b k : Nat) (v0 : Value) (bs : List Nat) (cs : List (Nat × Bool)) (c s : Nat × Bool) (h : Hc w lo hi N b k v0 bs cs c s) (hl : bs.length ≤ 32) :
    Calls Try.prog 33 #[.pointer (some ⟨N, 0, none⟩)] w fun r w' => ∃ A q, r = .returned (.slice A (bs.length + 1) q) ∧ Kd.R k26 26 w' w.heap.size (fun _ => True) (.slice A (bs.length + 1) q) (cs.map toS) ∧ Only (fun _ => False) w w' := by
  have hlen := h.len
  have hcap := h.cap
  have hC := C_of_row h.bow (by omega)
  obtain ⟨⟨c0, c1⟩, ⟨c2, c2f⟩, ⟨c3, c3f⟩, ⟨c4, c4f⟩, c5, c5f⟩ := h.cells
  clear h
  have hm : (cs.map toS).length = bs.length + 1 := by rw [List.length_map, hlen]
  rw [hlen, ← hm] at hC
  have key := Aside0.mk (sat_Count_45.calls (some ⟨b, 0, none⟩) k (cs.map toS) (cs.map toS) w hC (by omega) (by unfold sat_Count_45.f; simp; omega))
  rw [hm] at key
  replace hm := Aside0.mk hm
  clear hC hlen
  go_enter Try.func33, Try.ntmps33
  go_wp2_with (go_at_call 45; refine key.out.mono ?_; rintro r w1 ⟨v, rfl, hR, hB⟩; obtain ⟨A, m, q, rfl, hmm⟩ := R_sl hR; obtain rfl := hmm.trans hm.out; clear hmm; have HR := Aside0.mk (And.intro hR hB); clear hR hB)
  go_ret
  exact ⟨A, q, rfl, HR.out.1, Only.of_below HR.out.2 (fun j hj _ => hj)⟩
set_option maxHeartbeats 4000000 in
set_option maxRecDepth 1000000 in
theorem isfull_walk (w : World) (n : Int) (f : Bool) : Calls Try.prog 52 #[.agg #[.int .u64 n, .bool f]] w fun r w' => r = .returned (.bool f) ∧ Only (fun _ => False) w w' := by
  have hx := Aside0.mk ((Only.refl (fun _ => False) w).alloc (.cells #[.int .u64 n, .bool f] 26))
  go_enter Try.func52, Try.ntmps52
  go_wp2
  go_ret
  exact ⟨rfl, hx.out⟩
set_option maxHeartbeats 4000000 in
set_option maxRecDepth 1000000 in
theorem none_walk (w : World) (A : Option Addr) (m q : Nat) (Z : List S26) (hC : Kd.C k26 w A m Z) (hm : m ≤ 1000) (hz : ∀ x ∈ Z, x.f1 = false) :
    Calls Try.prog 54 #[.slice A m q, .func (.func 52) #[] #[]] w fun r w' => r = .returned (.int .i64 (-1)) ∧ Only (fun _ => False) w w' := by
  have HC := Aside0.mk hC
  have HZ := Aside0.mk hz
  have Hm := Aside0.mk hC.1
  clear hC hz
  go_enter Try.func54, Try.ntmps54
  go_wp2
  go_loopg [8] (m + 1) (fun kq v8 wr => ∃ i : Nat, v8 = .int .i64 (i : Int) ∧ i ≤ m ∧ m - i < kq ∧ Aside0 (Only (fun _ => False) w wr))
  case atStart => exact ⟨0, rfl, by omega, by omega, ⟨Only.refl _ w⟩⟩
  case round =>
    obtain ⟨i, rfl, hi, hk, HO⟩ := hrel
    obtain ⟨k1, rfl⟩ : ∃ m, gk = m + 1 := ⟨gk - 1, by omega⟩
    by_cases hin : i < m
    · have hinI : (i : Int) < (m : Int) := by omega
      have hi0 : (0 : Int) ≤ (i : Int) := by omega
      obtain ⟨ad, rfl, hx, hy⟩ := at_T26 (Kd.C_below HC.out (below_of HO.out)) (i : Int) (by omega) (by omega)
      have hf : (rd_T26 Z (i : Int)).f1 = false := by
        have hiZ : i < Z.length := by rw [Hm.out]; exact hin
        have e : rd_T26 Z (i : Int) = Z[i] := by
          unfold rd_T26
          rw [Int.toNat_natCast, List.getD_eq_getElem?_getD, List.getElem?_eq_getElem hiZ]; rfl
        rw [e]; exact HZ.out _ (List.getElem_mem hiZ)
      rw [hf] at hy
      rw [Int.toNat_natCast] at hx hy
      generalize (rd_T26 Z (i : Int)).f0 = n at hx
      clear hf
      go_wp2_with (go_at_call 52; refine (isfull_walk _ n false).mono ?_; rintro r w1 ⟨rfl, ho1⟩; replace HO := Aside0.mk (HO.out.trans ho1); clear ho1)
      go_roundg k1
      case measure => omega
      case rel => exact ⟨i + 1, by first | rfl | simp, by omega, by omega, HO⟩
    · have hinI : ¬ (i : Int) < (m : Int) := by omega
      go_wp2
      go_ret
      exact ⟨rfl, HO.out⟩
set_option maxHeartbeats 4000000 in
set_option maxRecDepth 1000000 in
theorem nowhere_walk (w : World) (A : Option Addr) (m q : Nat) (Z : List S26) (hC : Kd.C k26 w A m Z) (hm : m ≤ 1000) (hz : ∀ x ∈ Z, x.f1 = false) :
    Calls Try.prog 51 #[.slice A m q, .func (.func 52) #[] #[]] w fun r w' => r = .returned (.bool false) ∧ Only (fun _ => False) w w' := by
  have key := Aside0.mk (none_walk w A m q Z hC hm hz)
  clear hC hz
  go_enter Try.func51, Try.ntmps51
  go_wp2_with (go_at_call 54; refine key.out.mono ?_; rintro r w1 ⟨rfl, ho1⟩)
  go_ret
  exact ⟨by first | rfl | simp, ho1⟩
set_option maxHeartbeats 4000000 in
set_option maxRecDepth 1000000 in
theorem full_walk (w : World) (lo hi N b k : Nat) (v0 : Value) (bs : List Nat) (cs : List (Nat × Bool)) (n : Nat) (s : Nat × Bool) (h : Hc w lo hi N b k v0 bs cs (n, false) s) (hl : bs.length ≤ 32) (hf : ∀ x ∈ cs, x.2 = false) :
    Calls Try.prog 41 #[.pointer (some ⟨N, 0, none⟩)] w fun r w' => r = .returned (.bool s.2) ∧ Only (fun _ => False) w w' := by
  have hlen := h.len
  have hC := C_of_row h.bow (by omega)
  rw [hlen] at hC
  have key := Aside0.mk (nowhere_walk w (some ⟨b, 0, none⟩) (bs.length + 1) k (cs.map toS) hC (by omega) (by intro x hx; obtain ⟨y, hy, rfl⟩ := List.mem_map.1 hx; exact hf y hy))
  obtain ⟨⟨c0, c1⟩, ⟨c2, c2f⟩, ⟨c3, c3f⟩, ⟨c4, c4f⟩, c5, c5f⟩ := h.cells
  clear h hC hlen hf
  obtain ⟨s, f⟩ := s
  simp only at c2 c3 c4 c5 ⊢
  cases f with
  | true =>
    go_enter Try.func41, Try.ntmps41
    go_wp2
    go_ret
    exact ⟨by first | rfl | simp, Only.refl _ w⟩
  | false =>
    go_enter Try.func41, Try.ntmps41
    go_wp2_with (go_at_call 51; refine key.out.mono ?_; rintro r w1 ⟨rfl, ho1⟩)
    go_ret
    exact ⟨by first | rfl | simp, ho1⟩
end Go.Proofs.Ytdcbhakclhbdpaa.Hi
