/- The bucket of a number (hist.Bucket): how many of the bounds are less. No conditions but bounds on lengths. -/
import Derived.Shelf.SlSorted.Search
import Derived.Test.YtdcbhakclhbdpaaOb
import Derived.Test.YtdcbhakclhbdpaaXHx8
import Derived.Deep.LoopGhost
import Derived.Deep.QuietTactic
import Derived.BigQuiet
import Derived.RegionTactic
import Derived.BigRegion
namespace Go.Proofs.Ytdcbhakclhbdpaa.Hi
open Go.RowKit Go.Shelf Go.Proofs.YtdcbhakclhbdpaaW.PrintWords Go.Proofs.YtdcbhakclhbdpaaW.PrintLast
open Go.Proofs.Ytdcbhakclhbdpaa.Ob Go.Proofs.Ytdcbhakclhbdpaa.XH
set_option linter.unusedSimpArgs false
set_option linter.unusedVariables false

def ofN (l : List Nat) : List Int := l.map (Nat.cast : Nat → Int)
theorem ofN_length (l : List Nat) : (ofN l).length = l.length := by simp [ofN]
theorem rd_ofN (l : List Nat) (i : Nat) : rd (ofN l) (i : Int) = ((l.getD i 0 : Nat) : Int) := by
  simp only [rd, ofN, Int.toNat_natCast, List.getD_eq_getElem?_getD, List.getElem?_map]
  cases l[i]? <;> simp
theorem getD_at (l : List Nat) (i : Nat) (h : i < l.length) : l.getD i 0 = l[i] := by
  rw [List.getD_eq_getElem?_getD, List.getElem?_eq_getElem h]; rfl
/-- How many of the bounds are less. -/
def bk (bs : List Nat) (x : Nat) : Nat := bs.countP (fun b => decide (b < x))
def Asc (bs : List Nat) : Prop := ∀ i, i + 1 < bs.length → bs.getD i 0 ≤ bs.getD (i + 1) 0
theorem asc_le {bs : List Nat} (h : Asc bs) : ∀ (d i : Nat), i + d < bs.length → bs.getD i 0 ≤ bs.getD (i + d) 0 := by
  intro d
  induction d with
  | zero => intro i _; exact Nat.le_refl _
  | succ d ih => intro i hi; exact Nat.le_trans (ih i (by omega)) (h (i + d) (by omega))
theorem less_f (x y : Nat) : cmp_Less_uint64.f (x : Int) (y : Int) = some (decide (x < y)) := by
  unfold cmp_Less_uint64.f cmp_isNaN_uint64.f
  simp
theorem sorted_loop (bs : List Nat) (hl : bs.length ≤ 1000) : ∀ (i k : Nat), i < k → (i < bs.length ∨ i = 0) →
    slices_IsSorted_uint64_uint64.l0 k (ofN bs) (i : Int) = some (decide (∀ j, j < i → bs.getD j 0 ≤ bs.getD (j + 1) 0)) := by
  intro i
  induction i with
  | zero =>
    intro k hk _
    obtain ⟨k, rfl⟩ : ∃ m, k = m + 1 := ⟨k - 1, by omega⟩
    rw [slices_IsSorted_uint64_uint64.l0, if_neg (by omega)]
    simp
  | succ i ih =>
    intro k hk hi
    obtain ⟨k, rfl⟩ : ∃ m, k = m + 1 := ⟨k - 1, by omega⟩
    have hi : i + 1 < bs.length := by omega
    have hw : wrap64 (((i + 1 : Nat) : Int) - 1) = (i : Int) := by rw [IntWalk.wrap64_in _ (by omega)]; omega
    rw [slices_IsSorted_uint64_uint64.l0, hw, ofN_length, if_pos (by omega), if_pos (by omega), if_pos (by omega), if_pos (by omega), if_pos (by omega), rd_ofN, rd_ofN, less_f]
    simp only [Option.bind_some, decide_eq_true_eq]
    by_cases h : bs.getD (i + 1) 0 < bs.getD i 0
    · rw [if_pos h]
      congr 1
      symm
      rw [decide_eq_false_iff_not]
      intro hh
      have := hh i (by omega)
      omega
    · rw [if_neg h, ih k (by omega) (by omega)]
      congr 1
      rw [decide_eq_decide]
      constructor
      · intro hh j hj
        by_cases e : j = i
        · subst e; omega
        · exact hh j (by omega)
      · intro hh j hj
        exact hh j (by omega)
theorem sorted_f (bs : List Nat) (hl : bs.length ≤ 1000) : slices_IsSorted_uint64_uint64.f (bs.length + 1) (ofN bs) = some (decide (∀ j, j < bs.length - 1 → bs.getD j 0 ≤ bs.getD (j + 1) 0)) := by
  unfold slices_IsSorted_uint64_uint64.f
  rw [ofN_length]
  by_cases h0 : bs.length = 0
  · rw [h0]
    rw [show wrap64 (((0 : Nat) : Int) - 1) = -1 from IntWalk.wrap64_in _ (by omega), slices_IsSorted_uint64_uint64.l0, if_neg (by omega)]
    simp
  · rw [show wrap64 ((bs.length : Int) - 1) = ((bs.length - 1 : Nat) : Int) by rw [IntWalk.wrap64_in _ (by omega)]; omega]
    exact sorted_loop bs hl (bs.length - 1) _ (by omega) (by omega)
def search_ren : Go.Shelf.Ren := ⟨fun | 16 => 47 | n => n, fun | 3 => 3 | 4 => 4 | 35 => 81 | 38 => 88 | n => n, fun | n => n⟩
theorem search_lays : Go.Proofs.SlLaysO.n16 Try.prog search_ren := {
  mixed := by kernel_rfl
  f16 := Try.func47.trans (congrArg some (by kernel_rfl))
  t3 := Try.underlying3
  a3 := Try.isAgg3
  z3 := Try.sizeOf3
  v3 := Try.zeroValue3
  t4 := Try.underlying4
  a4 := Try.isAgg4
  z4 := Try.sizeOf4
  v4 := Try.zeroValue4
  t35 := Try.underlying81
  a35 := Try.isAgg81
  z35 := Try.sizeOf81
  v35 := Try.zeroValue81
  t38 := Try.underlying88
  a38 := Try.isAgg88
  z38 := Try.sizeOf88
  v38 := Try.zeroValue88 }
theorem num_at {w : World} {A : Option Addr} {n : Nat} {bs : List Nat} (h : Kd.C (Kd.int .u64) w A n (ofN bs)) (i : Nat) (hi : i < bs.length) : ∃ ad, A = some ad ∧ w.cell? (ad.add i) = some (.int .u64 ((bs.getD i 0 : Nat) : Int)) := by
  have hl2 := ofN_length bs
  obtain ⟨hl, _, hc⟩ := h
  obtain ⟨ad, e, hc⟩ := hc (by omega)
  have hx : (ofN bs)[i]? = some ((bs.getD i 0 : Nat) : Int) := by
    unfold ofN
    rw [List.getElem?_map, List.getElem?_eq_getElem hi, getD_at bs i hi]; rfl
  obtain ⟨c, hcl, hk, hcell⟩ := hc i _ hx
  obtain rfl : c = [.int .u64 ((bs.getD i 0 : Nat) : Int)] := hk
  have := hcell 0 _ rfl
  refine ⟨ad, e, ?_⟩
  have e2 : (Kd.int .u64).sz = 1 := rfl
  rw [e2, Nat.mul_one] at this
  simpa [Addr.add] using this
set_option maxHeartbeats 4000000 in
set_option maxRecDepth 1000000 in
theorem clos_walk (w : World) (A : Option Addr) (n c p q : Nat) (bs : List Nat) (x i : Nat) (hC : Kd.C (Kd.int .u64) w A n (ofN bs)) (hn : n = bs.length) (hp : w.cell? ⟨p, 0, none⟩ = some (.slice A n c)) (hq : w.cell? ⟨q, 0, none⟩ = some (.int .u64 (x : Int))) (hi : i < bs.length) :
    Calls Try.prog 48 #[.int .i64 (i : Int), .pointer (some ⟨p, 0, none⟩), .pointer (some ⟨q, 0, none⟩)] w fun r w' => r = .returned (.bool (decide (x ≤ bs.getD i 0))) ∧ ∃ m, w' = w.drewN m := by
  obtain ⟨ad, rfl, hx⟩ := num_at hC i hi
  subst hn
  clear hC
  have hiI : (i : Int) < (bs.length : Int) := by omega
  have hi0 : (0 : Int) ≤ (i : Int) := by omega
  generalize bs.getD i 0 = y at hx ⊢
  generalize bs.length = n at hp hiI hi
  go_enter Try.func48, Try.ntmps48
  go_wp2
  go_quiet (fail)
  go_wp2
  go_ret
  exact ⟨by first | rfl | simp, _, rfl⟩
theorem search_walk (W : World) (A : Option Addr) (n c p q : Nat) (bs : List Nat) (x : Nat) (hC : Kd.C (Kd.int .u64) W A n (ofN bs)) (hn : n = bs.length) (hp : W.cell? ⟨p, 0, none⟩ = some (.slice A n c)) (hq : W.cell? ⟨q, 0, none⟩ = some (.int .u64 (x : Int))) (hlp : p < W.heap.size) (hlq : q < W.heap.size) (hs : Asc bs) (hl : n ≤ 1000) :
    Calls Try.prog 47 #[.int .i64 (n : Int), .func (.func 48) #[] #[.pointer (some ⟨p, 0, none⟩), .pointer (some ⟨q, 0, none⟩)]] W fun r w' => r = .returned (.int .i64 ((bk bs x : Nat) : Int)) ∧ Only (fun _ => False) W w' := by
  have eg : ∀ args w, (callFunc 48 args).run Try.prog w = .ok (.enter 48 args) w := enters_of Try.func48 (by kernel_rfl) rfl
  have key := Any.sort_Search search_lays 48 #[.pointer (some ⟨p, 0, none⟩), .pointer (some ⟨q, 0, none⟩)] n (fun i => decide (x ≤ bs.getD i 0)) W eg (by omega)
    (fun m os i hi => by
      have hb := below_grown_sl W.heap.size W m os (Nat.le_refl _)
      refine (clos_walk _ A n c p q bs x i (Kd.C_below hC hb) hn ((hb.cell (p := ⟨p, 0, none⟩) hlp).trans hp) ((hb.cell (p := ⟨q, 0, none⟩) hlq).trans hq) (by omega)).mono ?_
      rintro r w' ⟨rfl, z, rfl⟩
      exact ⟨rfl, z, #[], by rw [Go.Sort.grow_empty]⟩) (fun a b hab hb ha => by
      have := asc_le hs (b - a) a (by omega)
      rw [show a + (b - a) = b by omega] at this
      simp only [decide_eq_true_eq] at ha ⊢
      omega)
  have e : (List.range n).countP (fun i => !decide (x ≤ bs.getD i 0)) = bk bs x := by
    subst hn
    have := Lib.countP_range bs.toArray (fun y => !decide (x ≤ y))
    simp only [List.size_toArray] at this
    unfold bk
    rw [show (fun b => decide (b < x)) = (fun y => !decide (x ≤ y)) from funext fun b => by by_cases h : b < x <;> simp [h] <;> omega]
    refine Eq.trans ?_ this
    refine List.countP_congr fun i hi => ?_
    rw [List.mem_range] at hi
    rw [getD_at bs i hi, getElem!_pos bs.toArray i (by simpa using hi)]
    simp
  rw [e] at key
  refine Calls.mono key ?_
  rintro r w' ⟨rfl, q, os, rfl⟩
  exact ⟨rfl, Only.of_below (below_grown_sl W.heap.size W q os (Nat.le_refl _)) (fun k hk _ => hk)⟩
theorem below_of {w wr : World} (h : Only (fun _ => False) w wr) : Below w.heap.size w wr := h.below (fun _ e => e.elim) (Nat.le_refl _)
theorem sorted_walk (w : World) (A : Option Addr) (n c : Nat) (bs : List Nat) (hC : Kd.C (Kd.int .u64) w A n (ofN bs)) (hn : n = bs.length) (hc : n ≤ c) (hl : n ≤ 1000) (t : Bool) (ht : decide (∀ j, j < bs.length - 1 → bs.getD j 0 ≤ bs.getD (j + 1) 0) = t) :
    Calls Try.prog 46 #[.slice A n c] w fun r w' => r = .returned (.bool t) ∧ Only (fun _ => False) w w' := by
  have e : n = (ofN bs).length := by rw [ofN_length, hn]
  subst e
  refine (slices_IsSorted_uint64_uint64.calls (bs.length + 1) A c (ofN bs) _ w hC hc (by rw [sorted_f bs (by rw [ofN_length] at hl; exact hl), ht])).mono ?_
  rintro r w' ⟨rfl, z, rfl⟩
  exact ⟨rfl, (Only.refl _ w).drewN z⟩
/-- How many of the first i bounds are less. -/
def bkI (bs : List Nat) (x i : Nat) : Nat := (bs.take i).countP (fun b => decide (b < x))
theorem bkI_next (bs : List Nat) (x i : Nat) (h : i < bs.length) : bkI bs x (i + 1) = bkI bs x i + if bs.getD i 0 < x then 1 else 0 := by
  unfold bkI
  rw [List.take_succ_eq_append_getElem h, List.countP_append, getD_at bs i h]
  by_cases e : bs[i] < x <;> simp [e]
theorem bkI_all (bs : List Nat) (x : Nat) : bkI bs x bs.length = bk bs x := by unfold bkI bk; rw [List.take_length]
theorem bkI_le (bs : List Nat) (x i : Nat) : bkI bs x i ≤ i := Nat.le_trans (List.countP_le_length) (by rw [List.length_take]; omega)
theorem bk_le (bs : List Nat) (x : Nat) : bk bs x ≤ bs.length := List.countP_le_length
theorem box2 (w : World) (v1 v2 : Value) (t1 t2 : TypeId) : Row ((w.alloc (.cells #[v1] t1)).alloc (.cells #[v2] t2)) w.heap.size [v1] ∧ Row ((w.alloc (.cells #[v1] t1)).alloc (.cells #[v2] t2)) (w.heap.size + 1) [v2] := by
  refine ⟨(Row.new w [v1] t1).alloc _, ?_⟩
  have h := Row.new (w.alloc (.cells #[v1] t1)) [v2] t2
  have e : (w.alloc (.cells #[v1] t1)).heap.size = w.heap.size + 1 := by show (w.heap.push _).size = _; simp
  rw [e] at h
  exact h
/-- The boxes of a call of Bucket. -/
structure Bx (w W : World) (A : Option Addr) (n c : Nat) (bs : List Nat) (x : Nat) : Prop where
  o : Only (fun _ => False) w W
  r1 : Row W w.heap.size [.slice A n c]
  r2 : Row W (w.heap.size + 1) [.int .u64 (x : Int)]
  C : Kd.C (Kd.int .u64) W A n (ofN bs)
theorem Bx.keep {w W W' : World} {A : Option Addr} {n c : Nat} {bs : List Nat} {x : Nat} (h : Bx w W A n c bs x) (k : Only (fun _ => False) W W') : Bx w W' A n c bs x :=
  ⟨h.o.trans k, h.r1.only k id, h.r2.only k id, Kd.C_below h.C (below_of k)⟩
theorem Bx.drewN {w W : World} {A : Option Addr} {n c : Nat} {bs : List Nat} {x : Nat} (h : Bx w W A n c bs x) (m : Nat) : Bx w (W.drewN m) A n c bs x := h.keep ((Only.refl _ _).drewN m)
set_option maxHeartbeats 4000000 in
set_option maxRecDepth 1000000 in
theorem bucket_walk (w : World) (A : Option Addr) (n c : Nat) (bs : List Nat) (x : Nat) (hC : Kd.C (Kd.int .u64) w A n (ofN bs)) (hn : n = bs.length) (hc : n ≤ c) (hl : n ≤ 1000) :
    Calls Try.prog 37 #[.slice A n c, .int .u64 (x : Int)] w fun r w' => r = .returned (.int .i64 ((bk bs x : Nat) : Int)) ∧ Only (fun _ => False) w w' := by
  have H0 := Aside0.mk (show Bx w ((w.alloc (.cells #[.slice A n c] 22)).alloc (.cells #[.int .u64 (x : Int)] 24)) A n c bs x from ⟨((Only.refl _ w).alloc _).alloc _, (box2 w _ _ _ _).1, (box2 w _ _ _ _).2, Kd.C_below hC (below_of (((Only.refl _ w).alloc _).alloc _))⟩)
  have HN := Aside0.mk hn
  have Hc := Aside0.mk hc
  clear hC hn hc
  cases ht : decide (∀ j, j < bs.length - 1 → bs.getD j 0 ≤ bs.getD (j + 1) 0) with
  | true =>
    have hA := Aside0.mk (show Asc bs from fun i hi => (of_decide_eq_true ht) i (by omega))
    replace ht := Aside0.mk ht
    go_enter Try.func37, Try.ntmps37
    go_wp2_with (first
      | (go_at_call 46; refine (sorted_walk _ A n c bs H0.out.C HN.out Hc.out hl true ht.out).mono ?_; rintro r w1 ⟨rfl, ho⟩; have H := Aside0.mk (H0.out.keep ho); have c1 := (H.out.r1 0 _ rfl).1; have c2 := (H.out.r2 0 _ rfl).1; clear ho)
      | (go_at_call 47; refine (search_walk _ A n c w.heap.size (w.heap.size + 1) bs x H.out.C HN.out c1 c2 (H.out.r1.lt (by simp)) (H.out.r2.lt (by simp)) hA.out hl).mono ?_; rintro r w2 ⟨rfl, ho2⟩))
    go_ret
    exact ⟨by first | rfl | simp, H.out.o.trans ho2⟩
  | false =>
    replace ht := Aside0.mk ht
    go_enter Try.func37, Try.ntmps37
    go_wp2_with (go_at_call 46; refine (sorted_walk _ A n c bs H0.out.C HN.out Hc.out hl false ht.out).mono ?_; rintro r w1 ⟨rfl, ho⟩; have H := Aside0.mk (H0.out.keep ho); have c1 := (H.out.r1 0 _ rfl).1; have c2 := (H.out.r2 0 _ rfl).1; clear ho H0)
    go_loopg [5, 16] (n + 1) (fun kq v5 v16 wr => ∃ i : Nat, v5 = .int .i64 ((bkI bs x i : Nat) : Int) ∧ v16 = .int .i64 (i : Int) ∧ i ≤ n ∧ n - i < kq ∧ Aside0 (Bx w wr A n c bs x))
    case atStart => exact ⟨0, rfl, rfl, by omega, by omega, H⟩
    case round =>
      clear H c1 c2
      obtain ⟨i, rfl, rfl, hi, hk, H⟩ := hrel
      obtain ⟨k1, rfl⟩ : ∃ m, gk = m + 1 := ⟨gk - 1, by omega⟩
      have c1 := (H.out.r1 0 _ rfl).1
      have c2 := (H.out.r2 0 _ rfl).1
      have hbi := bkI_le bs x i
      by_cases hin : i < n
      · have hinI : (i : Int) < (n : Int) := by omega
        have hi0 : (0 : Int) ≤ (i : Int) := by omega
        obtain ⟨ad, rfl, hx⟩ := num_at H.out.C i (by rw [← HN.out]; exact hin)
        have hnx := Aside0.mk (bkI_next bs x i (by rw [← HN.out]; exact hin))
        generalize bs.getD i 0 = y at hx hnx
        by_cases hy : y < x
        · have hyI : (y : Int) < (x : Int) := by omega
          go_wp2
          go_roundg k1
          case measure => omega
          case rel => exact ⟨i + 1, by rw [hnx.out, if_pos hy]; first | rfl | simp, by first | rfl | simp, by omega, by omega, H⟩
        · have hyI : ¬ (y : Int) < (x : Int) := by omega
          go_wp2
          go_roundg k1
          case measure => omega
          case rel => exact ⟨i + 1, by rw [hnx.out, if_neg hy]; first | rfl | simp, by first | rfl | simp, by omega, by omega, H⟩
      · have hinI : ¬ (i : Int) < (n : Int) := by omega
        have hz : bkI bs x i = bk bs x := by rw [show i = bs.length by have := HN.out; omega]; exact bkI_all bs x
        rw [hz] at hbi ⊢
        go_wp2
        go_ret
        exact ⟨by first | rfl | simp, H.out.o⟩
end Go.Proofs.Ytdcbhakclhbdpaa.Hi
