/- Plain facts of this session's texts Hb, He, Hp, Hi, Hj, Hk, Hm, Hq, Hs, Hqb, in one text. -/
import Derived.Shelf.SlSorted.Search
import Derived.Test.YtdcbhakclhbdpaaOb
import Derived.Test.YtdcbhakclhbdpaaXHx8
import Derived.Deep.LoopGhost
import Derived.Deep.QuietTactic
import Derived.BigQuiet
import Derived.RegionTactic
import Derived.BigRegion
import Derived.Test.YtdcbhakclhbdpaaXHx5
import Derived.Test.YtdcbhakclhbdpaaXHx25
import Derived.Test.YtdcbhakclhbdpaaXHx26
import Derived.Test.YtdcbhakclhbdpaaXHx1
import Derived.Test.YtdcbhakclhbdpaaXHx2
import Derived.Test.YtdcbhakclhbdpaaXHx14
import Derived.Test.YtdcbhakclhbdpaaXHx21
import Derived.Test.YtdcbhakclhbdpaaXHx22
import Derived.Test.YtdcbhakclhbdpaaXHx23
namespace Go.Proofs.Ytdcbhakclhbdpaa.Hi
open Go.RowKit Go.Shelf Go.Proofs.YtdcbhakclhbdpaaW.PrintWords Go.Proofs.YtdcbhakclhbdpaaW.PrintLast
open Go.Proofs.Ytdcbhakclhbdpaa.Ob Go.Proofs.Ytdcbhakclhbdpaa.XH
set_option linter.unusedSimpArgs false
set_option linter.unusedVariables false

def ofN (l : List Nat) : List Int := l.map (Nat.cast : Nat → Int)
theorem ofN_length (l : List Nat) : (ofN l).length = l.length := by simp [ofN]
theorem rd_ofN (l : List Nat) (i : Nat) : rd (ofN l) (i : Int) = ((l.getD i 0 : Nat) : Int) := by
  simp only [rd, ofN, Int.toNat_natCast, List.getD_eq_getElem?_getD, List.getElem?_map]
  cases l[i]? <;> simp
theorem getD_at (l : List Nat) (i : Nat) (h : i < l.length) : l.getD i 0 = l[i] := by
  rw [List.getD_eq_getElem?_getD, List.getElem?_eq_getElem h]; rfl
/-- How many of the bounds are less. -/
def bk (bs : List Nat) (x : Nat) : Nat := bs.countP (fun b => decide (b < x))
def Asc (bs : List Nat) : Prop := ∀ i, i + 1 < bs.length → bs.getD i 0 ≤ bs.getD (i + 1) 0
theorem asc_le {bs : List Nat} (h : Asc bs) : ∀ (d i : Nat), i + d < bs.length → bs.getD i 0 ≤ bs.getD (i + d) 0 := by
  intro d
  induction d with
  | zero => intro i _; exact Nat.le_refl _
  | succ d ih => intro i hi; exact Nat.le_trans (ih i (by omega)) (h (i + d) (by omega))
theorem less_f (x y : Nat) : cmp_Less_uint64.f (x : Int) (y : Int) = some (decide (x < y)) := by
  unfold cmp_Less_uint64.f cmp_isNaN_uint64.f
  simp
theorem sorted_loop (bs : List Nat) (hl : bs.length ≤ 1000) : ∀ (i k : Nat), i < k → (i < bs.length ∨ i = 0) →
    slices_IsSorted_uint64_uint64.l0 k (ofN bs) (i : Int) = some (decide (∀ j, j < i → bs.getD j 0 ≤ bs.getD (j + 1) 0)) := by
  intro i
  induction i with
  | zero =>
    intro k hk _
    obtain ⟨k, rfl⟩ : ∃ m, k = m + 1 := ⟨k - 1, by omega⟩
    rw [slices_IsSorted_uint64_uint64.l0, if_neg (by omega)]
    simp
  | succ i ih =>
    intro k hk hi
    obtain ⟨k, rfl⟩ : ∃ m, k = m + 1 := ⟨k - 1, by omega⟩
    have hi : i + 1 < bs.length := by omega
    have hw : wrap64 (((i + 1 : Nat) : Int) - 1) = (i : Int) := by rw [IntWalk.wrap64_in _ (by omega)]; omega
    rw [slices_IsSorted_uint64_uint64.l0, hw, ofN_length, if_pos (by omega), if_pos (by omega), if_pos (by omega), if_pos (by omega), if_pos (by omega), rd_ofN, rd_ofN, less_f]
    simp only [Option.bind_some, decide_eq_true_eq]
    by_cases h : bs.getD (i + 1) 0 < bs.getD i 0
    · rw [if_pos h]
      congr 1
      symm
      rw [decide_eq_false_iff_not]
      intro hh
      have := hh i (by omega)
      omega
    · rw [if_neg h, ih k (by omega) (by omega)]
      congr 1
      rw [decide_eq_decide]
      constructor
      · intro hh j hj
        by_cases e : j = i
        · subst e; omega
        · exact hh j (by omega)
      · intro hh j hj
        exact hh j (by omega)
theorem sorted_f (bs : List Nat) (hl : bs.length ≤ 1000) : slices_IsSorted_uint64_uint64.f (bs.length + 1) (ofN bs) = some (decide (∀ j, j < bs.length - 1 → bs.getD j 0 ≤ bs.getD (j + 1) 0)) := by
  unfold slices_IsSorted_uint64_uint64.f
  rw [ofN_length]
  by_cases h0 : bs.length = 0
  · rw [h0]
    rw [show wrap64 (((0 : Nat) : Int) - 1) = -1 from IntWalk.wrap64_in _ (by omega), slices_IsSorted_uint64_uint64.l0, if_neg (by omega)]
    simp
  · rw [show wrap64 ((bs.length : Int) - 1) = ((bs.length - 1 : Nat) : Int) by rw [IntWalk.wrap64_in _ (by omega)]; omega]
    exact sorted_loop bs hl (bs.length - 1) _ (by omega) (by omega)
def search_ren : Go.Shelf.Ren := ⟨fun | 16 => 47 | n => n, fun | 3 => 3 | 4 => 4 | 35 => 81 | 38 => 88 | n => n, fun | n => n⟩
theorem search_lays : Go.Proofs.SlLaysO.n16 Try.prog search_ren := {
  mixed := by kernel_rfl
  f16 := Try.func47.trans (congrArg some (by kernel_rfl))
  t3 := Try.underlying3
  a3 := Try.isAgg3
  z3 := Try.sizeOf3
  v3 := Try.zeroValue3
  t4 := Try.underlying4
  a4 := Try.isAgg4
  z4 := Try.sizeOf4
  v4 := Try.zeroValue4
  t35 := Try.underlying81
  a35 := Try.isAgg81
  z35 := Try.sizeOf81
  v35 := Try.zeroValue81
  t38 := Try.underlying88
  a38 := Try.isAgg88
  z38 := Try.sizeOf88
  v38 := Try.zeroValue88 }
theorem num_at {w : World} {A : Option Addr} {n : Nat} {bs : List Nat} (h : Kd.C (Kd.int .u64) w A n (ofN bs)) (i : Nat) (hi : i < bs.length) : ∃ ad, A = some ad ∧ w.cell? (ad.add i) = some (.int .u64 ((bs.getD i 0 : Nat) : Int)) := by
  have hl2 := ofN_length bs
  obtain ⟨hl, _, hc⟩ := h
  obtain ⟨ad, e, hc⟩ := hc (by omega)
  have hx : (ofN bs)[i]? = some ((bs.getD i 0 : Nat) : Int) := by
    unfold ofN
    rw [List.getElem?_map, List.getElem?_eq_getElem hi, getD_at bs i hi]; rfl
  obtain ⟨c, hcl, hk, hcell⟩ := hc i _ hx
  obtain rfl : c = [.int .u64 ((bs.getD i 0 : Nat) : Int)] := hk
  have := hcell 0 _ rfl
  refine ⟨ad, e, ?_⟩
  have e2 : (Kd.int .u64).sz = 1 := rfl
  rw [e2, Nat.mul_one] at this
  simpa [Addr.add] using this
set_option maxHeartbeats 4000000 in
set_option maxRecDepth 1000000 in
theorem clos_walk (w : World) (A : Option Addr) (n c p q : Nat) (bs : List Nat) (x i : Nat) (hC : Kd.C (Kd.int .u64) w A n (ofN bs)) (hn : n = bs.length) (hp : w.cell? ⟨p, 0, none⟩ = some (.slice A n c)) (hq : w.cell? ⟨q, 0, none⟩ = some (.int .u64 (x : Int))) (hi : i < bs.length) :
    Calls Try.prog 48 #[.int .i64 (i : Int), .pointer (some ⟨p, 0, none⟩), .pointer (some ⟨q, 0, none⟩)] w fun r w' => r = .returned (.bool (decide (x ≤ bs.getD i 0))) ∧ ∃ m, w' = w.drewN m := by
  obtain ⟨ad, rfl, hx⟩ := num_at hC i hi
  subst hn
  clear hC
  have hiI : (i : Int) < (bs.length : Int) := by omega
  have hi0 : (0 : Int) ≤ (i : Int) := by omega
  generalize bs.getD i 0 = y at hx ⊢
  generalize bs.length = n at hp hiI hi
  go_enter Try.func48, Try.ntmps48
  go_wp2
  go_quiet (fail)
  go_wp2
  go_ret
  exact ⟨by first | rfl | simp, _, rfl⟩
theorem search_walk (W : World) (A : Option Addr) (n c p q : Nat) (bs : List Nat) (x : Nat) (hC : Kd.C (Kd.int .u64) W A n (ofN bs)) (hn : n = bs.length) (hp : W.cell? ⟨p, 0, none⟩ = some (.slice A n c)) (hq : W.cell? ⟨q, 0, none⟩ = some (.int .u64 (x : Int))) (hlp : p < W.heap.size) (hlq : q < W.heap.size) (hs : Asc bs) (hl : n ≤ 1000) :
    Calls Try.prog 47 #[.int .i64 (n : Int), .func (.func 48) #[] #[.pointer (some ⟨p, 0, none⟩), .pointer (some ⟨q, 0, none⟩)]] W fun r w' => r = .returned (.int .i64 ((bk bs x : Nat) : Int)) ∧ Only (fun _ => False) W w' := by
  have eg : ∀ args w, (callFunc 48 args).run Try.prog w = .ok (.enter 48 args) w := enters_of Try.func48 (by kernel_rfl) rfl
  have key := Any.sort_Search search_lays 48 #[.pointer (some ⟨p, 0, none⟩), .pointer (some ⟨q, 0, none⟩)] n (fun i => decide (x ≤ bs.getD i 0)) W eg (by omega)
    (fun m os i hi => by
      have hb := below_grown_sl W.heap.size W m os (Nat.le_refl _)
      refine (clos_walk _ A n c p q bs x i (Kd.C_below hC hb) hn ((hb.cell (p := ⟨p, 0, none⟩) hlp).trans hp) ((hb.cell (p := ⟨q, 0, none⟩) hlq).trans hq) (by omega)).mono ?_
      rintro r w' ⟨rfl, z, rfl⟩
      exact ⟨rfl, z, #[], by rw [Go.Sort.grow_empty]⟩) (fun a b hab hb ha => by
      have := asc_le hs (b - a) a (by omega)
      rw [show a + (b - a) = b by omega] at this
      simp only [decide_eq_true_eq] at ha ⊢
      omega)
  have e : (List.range n).countP (fun i => !decide (x ≤ bs.getD i 0)) = bk bs x := by
    subst hn
    have := Lib.countP_range bs.toArray (fun y => !decide (x ≤ y))
    simp only [List.size_toArray] at this
    unfold bk
    rw [show (fun b => decide (b < x)) = (fun y => !decide (x ≤ y)) from funext fun b => by by_cases h : b < x <;> simp [h] <;> omega]
    refine Eq.trans ?_ this
    refine List.countP_congr fun i hi => ?_
    rw [List.mem_range] at hi
    rw [getD_at bs i hi, getElem!_pos bs.toArray i (by simpa using hi)]
    simp
  rw [e] at key
  refine Calls.mono key ?_
  rintro r w' ⟨rfl, q, os, rfl⟩
  exact ⟨rfl, Only.of_below (below_grown_sl W.heap.size W q os (Nat.le_refl _)) (fun k hk _ => hk)⟩
theorem below_of {w wr : World} (h : Only (fun _ => False) w wr) : Below w.heap.size w wr := h.below (fun _ e => e.elim) (Nat.le_refl _)
theorem sorted_walk (w : World) (A : Option Addr) (n c : Nat) (bs : List Nat) (hC : Kd.C (Kd.int .u64) w A n (ofN bs)) (hn : n = bs.length) (hc : n ≤ c) (hl : n ≤ 1000) (t : Bool) (ht : decide (∀ j, j < bs.length - 1 → bs.getD j 0 ≤ bs.getD (j + 1) 0) = t) :
    Calls Try.prog 46 #[.slice A n c] w fun r w' => r = .returned (.bool t) ∧ Only (fun _ => False) w w' := by
  have e : n = (ofN bs).length := by rw [ofN_length, hn]
  subst e
  refine (slices_IsSorted_uint64_uint64.calls (bs.length + 1) A c (ofN bs) _ w hC hc (by rw [sorted_f bs (by rw [ofN_length] at hl; exact hl), ht])).mono ?_
  rintro r w' ⟨rfl, z, rfl⟩
  exact ⟨rfl, (Only.refl _ w).drewN z⟩
/-- How many of the first i bounds are less. -/
def bkI (bs : List Nat) (x i : Nat) : Nat := (bs.take i).countP (fun b => decide (b < x))
theorem bkI_next (bs : List Nat) (x i : Nat) (h : i < bs.length) : bkI bs x (i + 1) = bkI bs x i + if bs.getD i 0 < x then 1 else 0 := by
  unfold bkI
  rw [List.take_succ_eq_append_getElem h, List.countP_append, getD_at bs i h]
  by_cases e : bs[i] < x <;> simp [e]
theorem bkI_all (bs : List Nat) (x : Nat) : bkI bs x bs.length = bk bs x := by unfold bkI bk; rw [List.take_length]
theorem bkI_le (bs : List Nat) (x i : Nat) : bkI bs x i ≤ i := Nat.le_trans (List.countP_le_length) (by rw [List.length_take]; omega)
theorem bk_le (bs : List Nat) (x : Nat) : bk bs x ≤ bs.length := List.countP_le_length
theorem box2 (w : World) (v1 v2 : Value) (t1 t2 : TypeId) : Row ((w.alloc (.cells #[v1] t1)).alloc (.cells #[v2] t2)) w.heap.size [v1] ∧ Row ((w.alloc (.cells #[v1] t1)).alloc (.cells #[v2] t2)) (w.heap.size + 1) [v2] := by
  refine ⟨(Row.new w [v1] t1).alloc _, ?_⟩
  have h := Row.new (w.alloc (.cells #[v1] t1)) [v2] t2
  have e : (w.alloc (.cells #[v1] t1)).heap.size = w.heap.size + 1 := by show (w.heap.push _).size = _; simp
  rw [e] at h
  exact h
/-- The boxes of a call of Bucket. -/
structure Bx (w W : World) (A : Option Addr) (n c : Nat) (bs : List Nat) (x : Nat) : Prop where
  o : Only (fun _ => False) w W
  r1 : Row W w.heap.size [.slice A n c]
  r2 : Row W (w.heap.size + 1) [.int .u64 (x : Int)]
  C : Kd.C (Kd.int .u64) W A n (ofN bs)
theorem Bx.keep {w W W' : World} {A : Option Addr} {n c : Nat} {bs : List Nat} {x : Nat} (h : Bx w W A n c bs x) (k : Only (fun _ => False) W W') : Bx w W' A n c bs x :=
  ⟨h.o.trans k, h.r1.only k id, h.r2.only k id, Kd.C_below h.C (below_of k)⟩
theorem Bx.drewN {w W : World} {A : Option Addr} {n c : Nat} {bs : List Nat} {x : Nat} (h : Bx w W A n c bs x) (m : Nat) : Bx w (W.drewN m) A n c bs x := h.keep ((Only.refl _ _).drewN m)
set_option maxHeartbeats 4000000 in
set_option maxRecDepth 1000000 in
theorem bucket_walk (w : World) (A : Option Addr) (n c : Nat) (bs : List Nat) (x : Nat) (hC : Kd.C (Kd.int .u64) w A n (ofN bs)) (hn : n = bs.length) (hc : n ≤ c) (hl : n ≤ 1000) :
    Calls Try.prog 37 #[.slice A n c, .int .u64 (x : Int)] w fun r w' => r = .returned (.int .i64 ((bk bs x : Nat) : Int)) ∧ Only (fun _ => False) w w' := by
  have H0 := Aside0.mk (show Bx w ((w.alloc (.cells #[.slice A n c] 22)).alloc (.cells #[.int .u64 (x : Int)] 24)) A n c bs x from ⟨((Only.refl _ w).alloc _).alloc _, (box2 w _ _ _ _).1, (box2 w _ _ _ _).2, Kd.C_below hC (below_of (((Only.refl _ w).alloc _).alloc _))⟩)
  have HN := Aside0.mk hn
  have Hc := Aside0.mk hc
  clear hC hn hc
  cases ht : decide (∀ j, j < bs.length - 1 → bs.getD j 0 ≤ bs.getD (j + 1) 0) with
  | true =>
    have hA := Aside0.mk (show Asc bs from fun i hi => (of_decide_eq_true ht) i (by omega))
    replace ht := Aside0.mk ht
    go_enter Try.func37, Try.ntmps37
    go_wp2_with (first
      | (go_at_call 46; refine (sorted_walk _ A n c bs H0.out.C HN.out Hc.out hl true ht.out).mono ?_; rintro r w1 ⟨rfl, ho⟩; have H := Aside0.mk (H0.out.keep ho); have c1 := (H.out.r1 0 _ rfl).1; have c2 := (H.out.r2 0 _ rfl).1; clear ho)
      | (go_at_call 47; refine (search_walk _ A n c w.heap.size (w.heap.size + 1) bs x H.out.C HN.out c1 c2 (H.out.r1.lt (by simp)) (H.out.r2.lt (by simp)) hA.out hl).mono ?_; rintro r w2 ⟨rfl, ho2⟩))
    go_ret
    exact ⟨by first | rfl | simp, H.out.o.trans ho2⟩
  | false =>
    replace ht := Aside0.mk ht
    go_enter Try.func37, Try.ntmps37
    go_wp2_with (go_at_call 46; refine (sorted_walk _ A n c bs H0.out.C HN.out Hc.out hl false ht.out).mono ?_; rintro r w1 ⟨rfl, ho⟩; have H := Aside0.mk (H0.out.keep ho); have c1 := (H.out.r1 0 _ rfl).1; have c2 := (H.out.r2 0 _ rfl).1; clear ho H0)
    go_loopg [5, 16] (n + 1) (fun kq v5 v16 wr => ∃ i : Nat, v5 = .int .i64 ((bkI bs x i : Nat) : Int) ∧ v16 = .int .i64 (i : Int) ∧ i ≤ n ∧ n - i < kq ∧ Aside0 (Bx w wr A n c bs x))
    case atStart => exact ⟨0, rfl, rfl, by omega, by omega, H⟩
    case round =>
      clear H c1 c2
      obtain ⟨i, rfl, rfl, hi, hk, H⟩ := hrel
      obtain ⟨k1, rfl⟩ : ∃ m, gk = m + 1 := ⟨gk - 1, by omega⟩
      have c1 := (H.out.r1 0 _ rfl).1
      have c2 := (H.out.r2 0 _ rfl).1
      have hbi := bkI_le bs x i
      by_cases hin : i < n
      · have hinI : (i : Int) < (n : Int) := by omega
        have hi0 : (0 : Int) ≤ (i : Int) := by omega
        obtain ⟨ad, rfl, hx⟩ := num_at H.out.C i (by rw [← HN.out]; exact hin)
        have hnx := Aside0.mk (bkI_next bs x i (by rw [← HN.out]; exact hin))
        generalize bs.getD i 0 = y at hx hnx
        by_cases hy : y < x
        · have hyI : (y : Int) < (x : Int) := by omega
          go_wp2
          go_roundg k1
          case measure => omega
          case rel => exact ⟨i + 1, by rw [hnx.out, if_pos hy]; first | rfl | simp, by first | rfl | simp, by omega, by omega, H⟩
        · have hyI : ¬ (y : Int) < (x : Int) := by omega
          go_wp2
          go_roundg k1
          case measure => omega
          case rel => exact ⟨i + 1, by rw [hnx.out, if_neg hy]; first | rfl | simp, by first | rfl | simp, by omega, by omega, H⟩
      · have hinI : ¬ (i : Int) < (n : Int) := by omega
        have hz : bkI bs x i = bk bs x := by rw [show i = bs.length by have := HN.out; omega]; exact bkI_all bs x
        rw [hz] at hbi ⊢
        go_wp2
        go_ret
        exact ⟨by first | rfl | simp, H.out.o⟩
end Go.Proofs.Ytdcbhakclhbdpaa.Hi

namespace Go.Proofs.Ytdcbhakclhbdpaa.Hi
theorem ofN_of (l : List Int) (B : Nat) (h : ∀ x ∈ l, 0 ≤ x ∧ x ≤ B) : ∃ ns : List Nat, l = ofN ns ∧ ∀ n ∈ ns, n ≤ B := by
  refine ⟨l.map Int.toNat, ?_, ?_⟩
  · unfold ofN
    rw [List.map_map]
    conv => lhs; rw [← List.map_id l]
    exact List.map_congr_left fun x hx => (Int.toNat_of_nonneg (h x hx).1).symm
  · intro n hn
    obtain ⟨x, hx, rfl⟩ := List.mem_map.1 hn
    have := h x hx
    omega
theorem u8_wf {x : Int} (h : (Lit.int .u8 x).wf = true) : 0 ≤ x ∧ x ≤ 255 := by
  simpa [Lit.wf, IntKind.min, IntKind.max, IntKind.signed, IntKind.bits] using h
theorem u16_wf {x : Int} (h : (Lit.int .u16 x).wf = true) : 0 ≤ x ∧ x ≤ 65535 := by
  simpa [Lit.wf, IntKind.min, IntKind.max, IntKind.signed, IntKind.bits] using h
theorem u64_wf {x : Int} (h : (Lit.int .u64 x).wf = true) : 0 ≤ x ∧ x ≤ 18446744073709551615 := by
  simpa [Lit.wf, IntKind.min, IntKind.max, IntKind.signed, IntKind.bits] using h
theorem i64_wf {x : Int} (h : (Lit.int .i64 x).wf = true) : -9223372036854775808 ≤ x ∧ x ≤ 9223372036854775807 := by
  simpa [Lit.wf, IntKind.min, IntKind.max, IntKind.signed, IntKind.bits] using h
end Go.Proofs.Ytdcbhakclhbdpaa.Hi

namespace Go.Proofs.Ytdcbhakclhbdpaa.Hi
open Go.RowKit Go.Shelf Go.Proofs.YtdcbhakclhbdpaaW.PrintWords Go.Proofs.YtdcbhakclhbdpaaW.PrintLast
open Go.Proofs.Ytdcbhakclhbdpaa.Ob Go.Proofs.Ytdcbhakclhbdpaa.XH
set_option linter.unusedSimpArgs false
set_option linter.unusedVariables false

/-- the greatest count -/
def most : Nat := 9223372036854775807
def addC (c : Nat × Bool) (n : Nat) : Nat × Bool := if c.2 = true ∨ most < n + c.1 then (most, true) else (c.1 + n, false)
def joinC (c d : Nat × Bool) : Nat × Bool := if d.2 = true then (most, true) else addC c d.1
def satS (t : Nat) : Nat × Bool := if most < t then (most, true) else (t, false)
theorem satS_le (t : Nat) : (satS t).1 ≤ most := by unfold satS; split <;> simp <;> omega
theorem add_sat (t n : Nat) : addC (satS t) n = satS (t + n) := by
  unfold addC satS
  by_cases h : most < t
  · rw [if_pos h, if_pos (.inl rfl), if_pos (by omega)]
  · rw [if_neg h]
    by_cases h2 : most < t + n
    · rw [if_pos (.inr (by show most < n + t; omega)), if_pos h2]
    · rw [if_neg (by simp; omega), if_neg h2]
theorem join_sat (t n : Nat) : joinC (satS t) (satS n) = satS (t + n) := by
  unfold joinC
  by_cases h : most < n
  · have e : satS n = (most, true) := by unfold satS; rw [if_pos h]
    rw [e, if_pos rfl]
    unfold satS; rw [if_pos (by omega)]
  · have e : satS n = (n, false) := by unfold satS; rw [if_neg h]
    rw [e, if_neg (by simp), add_sat]
theorem u64_in (x : Int) (h0 : 0 ≤ x) (h1 : x < 18446744073709551616) : IntKind.u64.wrap x = x := by
  unfold IntKind.wrap
  simp only [IntKind.signed, IntKind.bits]
  simp
  omega
theorem add_f (c : Nat × Bool) (n : Nat) (hc : c.1 ≤ most) : sat_Count_Add.f (c.1 : Int) c.2 (n : Int) = some (((addC c n).1 : Int), (addC c n).2) := by
  obtain ⟨c, f⟩ := c
  simp only at hc ⊢
  unfold sat_Count_Add.f sat_full.f addC
  cases f with
  | true => simp [most]
  | false =>
    have hm : most = 9223372036854775807 := rfl
    rw [hm] at hc
    by_cases h1 : (n : Int) > 9223372036854775807
    · rw [if_neg (by simp), if_pos h1, if_pos (.inr (by rw [hm]; show _ < n + c; omega))]; rfl
    · rw [if_neg (by simp), if_neg h1, u64_in _ (by omega) (by omega)]
      by_cases h2 : (c : Int) > 9223372036854775807 - (n : Int)
      · rw [if_pos h2, if_pos (.inr (by rw [hm]; show _ < n + c; omega))]; rfl
      · rw [if_neg h2, if_neg (by rw [hm]; simp; omega), u64_in _ (by omega) (by omega)]; rfl
theorem join_f (c d : Nat × Bool) (hc : c.1 ≤ most) : sat_Count_Join.f (c.1 : Int) c.2 (d.1 : Int) d.2 = some (((joinC c d).1 : Int), (joinC c d).2) := by
  obtain ⟨d, f⟩ := d
  unfold sat_Count_Join.f joinC
  cases f with
  | true => simp [sat_full.f, most]
  | false => simp only [Bool.false_eq_true, if_false, add_f c d hc, Option.bind_some]
/-- May these be bounds? -/
def okB (bs : List Nat) : Prop := bs.length ≤ 32 ∧ ∀ i, i + 1 < bs.length → bs.getD i 0 < bs.getD (i + 1) 0
instance (bs : List Nat) : Decidable (okB bs) := decidable_of_iff (bs.length ≤ 32 ∧ ∀ i, i < bs.length - 1 → bs.getD i 0 < bs.getD (i + 1) 0) ⟨fun h => ⟨h.1, fun i hi => h.2 i (by omega)⟩, fun h => ⟨h.1, fun i hi => h.2 i (by omega)⟩⟩
/-- How many of l are in each bucket. -/
def bucks (bs l : List Nat) : List (Nat × Bool) := (List.range (bs.length + 1)).map fun i => (l.countP fun x => decide (bk bs x = i), false)
theorem bucks_length (bs l : List Nat) : (bucks bs l).length = bs.length + 1 := by simp [bucks]
theorem bucks_get (bs l : List Nat) (i : Nat) (h : i < bs.length + 1) : (bucks bs l)[i]? = some (l.countP fun x => decide (bk bs x = i), false) := by
  unfold bucks
  rw [List.getElem?_map, List.getElem?_range h]; rfl
theorem bucks_put (bs l : List Nat) (x : Nat) (hl : l.length < most) : (bucks bs l).set (bk bs x) (addC (l.countP (fun y => decide (bk bs y = bk bs x)), false) 1) = bucks bs (l ++ [x]) := by
  have hx := bk_le bs x
  apply List.ext_getElem?
  intro i
  by_cases hi : i < bs.length + 1
  · rw [List.getElem?_set, bucks_get bs l i hi, bucks_get bs (l ++ [x]) i hi, List.countP_append]
    by_cases e : bk bs x = i
    · subst e
      rw [if_pos rfl, if_pos (by rw [bucks_length]; exact hi)]
      have hle : l.countP (fun y => decide (bk bs y = bk bs x)) ≤ l.length := List.countP_le_length
      unfold addC
      rw [if_neg (by simp; omega)]
      simp
    · rw [if_neg e]
      simp [e]
  · rw [List.getElem?_eq_none (by rw [List.length_set, bucks_length]; omega), List.getElem?_eq_none (by rw [bucks_length]; omega)]
theorem bucks_join (bs l l' : List Nat) (hl : l.length + l'.length ≤ most) (i : Nat) (hi : i < bs.length + 1) :
    joinC (l.countP (fun y => decide (bk bs y = i)), false) (l'.countP (fun y => decide (bk bs y = i)), false) = ((l ++ l').countP (fun y => decide (bk bs y = i)), false) := by
  have h1 : l.countP (fun y => decide (bk bs y = i)) ≤ l.length := List.countP_le_length
  have h2 : l'.countP (fun y => decide (bk bs y = i)) ≤ l'.length := List.countP_le_length
  unfold joinC addC
  rw [if_neg (by simp), if_neg (by simp; omega), List.countP_append]
/-- The cells of counts. -/
def bc (l : List (Nat × Bool)) : List Value := l.flatMap fun c => [.int .u64 (c.1 : Int), .bool c.2]
theorem bc_length (l : List (Nat × Bool)) : (bc l).length = 2 * l.length := by
  induction l with
  | nil => rfl
  | cons x l ih => unfold bc at ih ⊢; rw [List.flatMap_cons, List.length_append, ih, List.length_cons]; simp; omega
theorem bc_get (l : List (Nat × Bool)) (i : Nat) (c : Nat × Bool) (h : l[i]? = some c) : (bc l)[i * 2]? = some (.int .u64 (c.1 : Int)) ∧ (bc l)[i * 2 + 1]? = some (.bool c.2) := by
  induction l generalizing i with
  | nil => simp at h
  | cons x l ih =>
    unfold bc at ih ⊢
    rw [List.flatMap_cons]
    cases i with
    | zero =>
      obtain rfl : x = c := by simpa using h
      exact ⟨rfl, rfl⟩
    | succ i =>
      have := ih i (by simpa using h)
      have e1 : (i + 1) * 2 = i * 2 + 2 := by omega
      rw [e1]
      exact this
theorem bc_set (l : List (Nat × Bool)) (i : Nat) (c : Nat × Bool) (h : i < l.length) : ((bc l).set (i * 2) (.int .u64 (c.1 : Int))).set (i * 2 + 1) (.bool c.2) = bc (l.set i c) := by
  induction l generalizing i with
  | nil => simp at h
  | cons x l ih =>
    unfold bc at ih ⊢
    cases i with
    | zero => rfl
    | succ i =>
      have := ih i (by simpa using h)
      rw [List.set_cons_succ, List.flatMap_cons, List.flatMap_cons, show (i + 1) * 2 = i * 2 + 1 + 1 by omega]
      show _ :: _ :: _ = _ :: _ :: _
      rw [← this]
      rfl
end Go.Proofs.Ytdcbhakclhbdpaa.Hi

namespace Go.Proofs.Ytdcbhakclhbdpaa.Hi
open Go.RowKit Go.Shelf Go.Proofs.YtdcbhakclhbdpaaW.PrintWords Go.Proofs.YtdcbhakclhbdpaaW.PrintLast
open Go.Proofs.Ytdcbhakclhbdpaa.Ob Go.Proofs.Ytdcbhakclhbdpaa.XH
set_option linter.unusedSimpArgs false
set_option linter.unusedVariables false

theorem R_sl {α : Type} {d : Kd α} {e base : Nat} {ok : Nat → Prop} {w : World} {v : Value} {xs : List α} (h : d.R e w base ok v xs) : ∃ A m c, v = .slice A m c ∧ m = xs.length := by
  obtain ⟨A, c, h⟩ := Kd.R_slice h
  exact ⟨A, _, c, h, rfl⟩
theorem R_only {α : Type} {d : Kd α} {e base : Nat} {ok S : Nat → Prop} {w w1 : World} {v : Value} {xs : List α} (h : d.R e w base ok v xs) (k : Only S w w1) (hs : ∀ k, ok k → base ≤ k → k < w.heap.size → ¬ S k) : d.R e w1 base ok v xs :=
  Kd.R_mono (Kd.R_step (Kd.R_bound h) (fun i hi hlt => k.block i hlt (hs i hi.1 hi.2.1 hlt))) (fun _ hj => hj.1)
/-- What was done to new blocks alone. -/
theorem fresh {F S : Nat → Prop} {w a b : World} (h : Only F w a) (k : Only S a b) (hS : ∀ i, S i → w.heap.size ≤ i) : Only F w b :=
  ⟨k.os.trans h.os, k.tape.trans h.tape, k.output.trans h.output, Nat.le_trans h.size k.size, fun i hi hf => (k.block i (Nat.lt_of_lt_of_le hi h.size) fun e => by have := hS i e; omega).trans (h.block i hi hf)⟩
/-- The cells of counts, as the program's values. -/
def zc (Z : List S26) : List Value := Z.flatMap fun x => [.int .u64 x.f0, .bool x.f1]
theorem zc_length (Z : List S26) : (zc Z).length = Z.length * 2 := by
  induction Z with
  | nil => rfl
  | cons x l ih => unfold zc at ih ⊢; rw [List.flatMap_cons, List.length_append, ih, List.length_cons]; simp; omega
theorem zc_at (Z : List S26) (i : Nat) (h : i < Z.length) : (zc Z)[i * 2]? = some (.int .u64 (Z[i]).f0) ∧ (zc Z)[i * 2 + 1]? = some (.bool (Z[i]).f1) := by
  induction Z generalizing i with
  | nil => simp at h
  | cons x l ih =>
    unfold zc at ih ⊢
    rw [List.flatMap_cons]
    cases i with
    | zero => exact ⟨rfl, rfl⟩
    | succ i =>
      have := ih i (by simpa using h)
      rw [show (i + 1) * 2 = i * 2 + 2 by omega]
      exact this
def toS (c : Nat × Bool) : S26 := ⟨(c.1 : Int), c.2⟩
theorem zc_bc (l : List (Nat × Bool)) : zc (l.map toS) = bc l := by
  unfold zc bc
  rw [List.flatMap_map]; rfl
/-- An own row, as cells. -/
theorem Row_of_R {W : World} {base : Nat} {ok : Nat → Prop} {v : Value} {Z : List S26} (h : Kd.R k26 26 W base ok v Z) : ∃ A b c, v = .slice A Z.length c ∧ Z.length ≤ c ∧ (0 < Z.length → A = some ⟨b, 0, none⟩ ∧ base ≤ b ∧ b < W.heap.size ∧ ok b) ∧ Row W b (zc Z) := by
  obtain ⟨h0, inner, ho, hr⟩ := h
  have hin : inner = zc Z := by
    have hl : inner.length = Z.length * 2 := hr.1
    apply List.ext_getElem?
    intro q
    by_cases hq : q < inner.length
    · have hj : q / 2 < Z.length := by omega
      have hm := k26_openM (hr.2 (q / 2) _ (List.getElem?_eq_getElem hj))
      obtain ⟨e1, e2⟩ := zc_at Z (q / 2) hj
      have hk : k26.sz = 2 := rfl
      rw [hk] at hm
      have hx : ∀ r, r < 2 → inner[q / 2 * 2 + r]? = [Value.int .u64 (Z[q / 2]).f0, .bool (Z[q / 2]).f1][r]? := fun r hr => by
        rw [← hm, List.getElem?_take_of_lt hr, List.getElem?_drop]
      rcases Nat.mod_two_eq_zero_or_one q with h2 | h2
      · have := hx 0 (by omega)
        rw [show q / 2 * 2 + 0 = q by omega] at this
        rw [show q / 2 * 2 = q by omega] at e1
        rw [this, e1]; rfl
      · have := hx 1 (by omega)
        rw [show q / 2 * 2 + 1 = q by omega] at this e2
        rw [this, e2]; rfl
    · rw [List.getElem?_eq_none (by omega), List.getElem?_eq_none (by rw [zc_length]; omega)]
  subst hin
  obtain ⟨hl, h1 | ⟨g, cap, cur, rfl, hg, hh, hc1, hc2, hc3, hc4⟩⟩ := ho
  · have : Z = [] := List.eq_nil_of_length_eq_zero h1.2
    subst this
    exact ⟨none, 0, 0, h1.1, Nat.le_refl _, fun h => absurd h (by simp), fun i v hv => by simp [zc] at hv⟩
  · refine ⟨_, g, cap, rfl, hc1, fun _ => ⟨rfl, hg, (Array.getElem?_eq_some_iff.1 hh).1, h0 g rfl⟩, fun i v hv => ?_⟩
    have hk : k26.sz = 2 := rfl
    rw [← hc4, hk] at hv
    have hi : i < Z.length * 2 := by
      have := (List.getElem?_eq_some_iff.1 hv).1
      rw [List.length_take] at this
      exact Nat.lt_of_lt_of_le this (Nat.min_le_left _ _)
    rw [List.getElem?_take_of_lt hi] at hv
    unfold World.cell? World.frozen?
    simp only [hh]
    exact ⟨by simpa using hv, by simp⟩
theorem row_of_blk {W : World} {g : Nat} {cs : Array Value} {t : TypeId} (h : W.heap[g]? = some (.cells cs t (0, 0))) : Row W g cs.toList := by
  intro i v hv
  unfold World.cell? World.frozen?
  simp only [h]
  exact ⟨by simpa using hv, by simp⟩
theorem clone_walk (W : World) (A : Option Addr) (n c : Nat) (bs : List Nat) (hC : Kd.C (Kd.int .u64) W A n (ofN bs)) (hn : n = bs.length) (hc : n ≤ c) (hl : n ≤ 1000) :
    Calls Try.prog 44 #[.slice A n c] W fun r w' => ∃ A' c', r = .returned (.slice A' n c') ∧ Kd.R (Kd.int .u64) 24 w' W.heap.size (fun _ => True) (.slice A' n c') (ofN bs) ∧ Only (fun _ => False) W w' := by
  have e : n = (ofN bs).length := by rw [ofN_length, hn]
  subst e
  refine (slices_Clone_uint64_uint64.calls A c (ofN bs) (ofN bs) W hC hc (by unfold slices_Clone_uint64_uint64.f; simp; omega)).mono ?_
  rintro r w' ⟨v, rfl, hR, hB⟩
  obtain ⟨A', m, c', rfl, hm⟩ := R_sl hR
  subst hm
  exact ⟨A', c', rfl, hR, Only.of_below hB (fun k hk _ => hk)⟩
/-- A histogram in memory: its bounds, its buckets, count and sum. Its blocks are of lo to hi. -/
structure Hc (W : World) (lo hi N b k : Nat) (v0 : Value) (bs : List Nat) (cs : List (Nat × Bool)) (c s : Nat × Bool) : Prop where
  row : Row W N [v0, .slice (some ⟨b, 0, none⟩) (bs.length + 1) k, .int .u64 (c.1 : Int), .bool c.2, .int .u64 (s.1 : Int), .bool s.2]
  bow : Row W b (bc cs)
  bnd : Kd.R (Kd.int .u64) 24 W lo (fun j => j ≠ N ∧ j ≠ b ∧ j < hi) v0 (ofN bs)
  len : cs.length = bs.length + 1
  wn : lo ≤ N ∧ N < hi
  wb : lo ≤ b ∧ b < hi
  ne : b ≠ N
  cap : bs.length + 1 ≤ k
  top : hi ≤ W.heap.size
section
variable {W W' : World} {lo hi N b k : Nat} {v0 : Value} {bs : List Nat} {cs : List (Nat × Bool)} {c s : Nat × Bool}
theorem Hc.only (h : Hc W lo hi N b k v0 bs cs c s) {S : Nat → Prop} (o : Only S W W') (hS : ∀ j, lo ≤ j → j < hi → ¬ S j) : Hc W' lo hi N b k v0 bs cs c s :=
  ⟨h.row.only o (hS N h.wn.1 h.wn.2), h.bow.only o (hS b h.wb.1 h.wb.2), R_only h.bnd o (fun j hj hlo _ => hS j hlo hj.2.2), h.len, h.wn, h.wb, h.ne, h.cap, Nat.le_trans h.top o.size⟩
theorem Hc.keep (h : Hc W lo hi N b k v0 bs cs c s) (o : Only (fun _ => False) W W') : Hc W' lo hi N b k v0 bs cs c s := h.only o (fun _ _ _ => id)
theorem Hc.drew (h : Hc W lo hi N b k v0 bs cs c s) : Hc W.drew lo hi N b k v0 bs cs c s := h.keep (Only.refl _ W).drew
theorem Hc.setB (h : Hc W lo hi N b k v0 bs cs c s) (i : Nat) (d : Nat × Bool) (hi' : i < cs.length) : Hc ((W.setCell ⟨b, i * 2, none⟩ (.int .u64 (d.1 : Int))).setCell ⟨b, i * 2 + 1, none⟩ (.bool d.2)) lo hi N b k v0 bs (cs.set i d) c s := by
  have o : Only (fun j => j = b) W ((W.setCell ⟨b, i * 2, none⟩ (.int .u64 (d.1 : Int))).setCell ⟨b, i * 2 + 1, none⟩ (.bool d.2)) := ((Only.refl (fun j => j = b) W).setCell ⟨b, i * 2, none⟩ _ rfl).setCell ⟨b, i * 2 + 1, none⟩ _ rfl
  refine ⟨h.row.only o (fun e => h.ne e.symm), ?_, R_only h.bnd o (fun j hj _ _ => hj.2.1), by rw [List.length_set]; exact h.len, h.wn, h.wb, h.ne, h.cap, Nat.le_trans h.top o.size⟩
  rw [← bc_set cs i d hi']
  exact (h.bow.set (i * 2) _).set (i * 2 + 1) _
theorem Hc.setC (h : Hc W lo hi N b k v0 bs cs c s) (d : Nat × Bool) : Hc ((W.setCell ⟨N, 2, none⟩ (.int .u64 (d.1 : Int))).setCell ⟨N, 3, none⟩ (.bool d.2)) lo hi N b k v0 bs cs d s := by
  have o : Only (fun j => j = N) W ((W.setCell ⟨N, 2, none⟩ (.int .u64 (d.1 : Int))).setCell ⟨N, 3, none⟩ (.bool d.2)) := ((Only.refl (fun j => j = N) W).setCell ⟨N, 2, none⟩ _ rfl).setCell ⟨N, 3, none⟩ _ rfl
  exact ⟨(h.row.set 2 _).set 3 _, h.bow.only o h.ne, R_only h.bnd o (fun j hj _ _ => hj.1), h.len, h.wn, h.wb, h.ne, h.cap, Nat.le_trans h.top o.size⟩
theorem Hc.setS (h : Hc W lo hi N b k v0 bs cs c s) (d : Nat × Bool) : Hc ((W.setCell ⟨N, 4, none⟩ (.int .u64 (d.1 : Int))).setCell ⟨N, 5, none⟩ (.bool d.2)) lo hi N b k v0 bs cs c d := by
  have o : Only (fun j => j = N) W ((W.setCell ⟨N, 4, none⟩ (.int .u64 (d.1 : Int))).setCell ⟨N, 5, none⟩ (.bool d.2)) := ((Only.refl (fun j => j = N) W).setCell ⟨N, 4, none⟩ _ rfl).setCell ⟨N, 5, none⟩ _ rfl
  exact ⟨(h.row.set 4 _).set 5 _, h.bow.only o h.ne, R_only h.bnd o (fun j hj _ _ => hj.1), h.len, h.wn, h.wb, h.ne, h.cap, Nat.le_trans h.top o.size⟩
theorem Hc.at_ (h : Hc W lo hi N b k v0 bs cs c s) (i : Nat) (hi' : i < cs.length) : (W.cell? ⟨b, i * 2, none⟩ = some (.int .u64 ((cs[i]).1 : Int)) ∧ W.frozen? ⟨b, i * 2, none⟩ = false) ∧ (W.cell? ⟨b, i * 2 + 1, none⟩ = some (.bool (cs[i]).2) ∧ W.frozen? ⟨b, i * 2 + 1, none⟩ = false) := by
  obtain ⟨h1, h2⟩ := bc_get cs i _ (List.getElem?_eq_getElem hi')
  exact ⟨h.bow _ _ h1, h.bow _ _ h2⟩
theorem Hc.bounds (h : Hc W lo hi N b k v0 bs cs c s) : ∃ A q, v0 = .slice A bs.length q ∧ bs.length ≤ q ∧ Kd.C (Kd.int .u64) W A bs.length (ofN bs) := by
  obtain ⟨A, q, rfl, hq, hC⟩ := Kd.R_reads h.bnd
  rw [ofN_length] at hq hC
  exact ⟨A, q, by rw [ofN_length], hq, hC⟩
end

/-- Within New: what stands before the object is laid. -/
structure Mk (w W : World) (bs : List Nat) (n : Nat) (s : (Option Addr × Nat) × Nat) : Prop where
  o : Only (fun _ => False) w W
  bnd : Kd.R (Kd.int .u64) 24 W w.heap.size (fun j => j ≠ s.2) (.slice s.1.1 n s.1.2) (ofN bs)
  row : Row W s.2 (bc (bucks bs []))
  lt : w.heap.size ≤ s.2 ∧ s.2 < W.heap.size
theorem zeros_bc (bs : List Nat) (n : Nat) (hn : n = bs.length) : zc (List.replicate (n + 1) ⟨0, false⟩) = bc (bucks bs []) := by
  rw [← zc_bc]
  congr 1
  subst hn
  unfold bucks
  apply List.ext_getElem?
  intro i
  by_cases hi : i < bs.length + 1
  · rw [List.getElem?_replicate, if_pos hi, List.getElem?_map, List.getElem?_map, List.getElem?_range hi]; rfl
  · rw [List.getElem?_eq_none (by simp; omega), List.getElem?_eq_none (by simp; omega)]
/-- The row of zeros that was made. -/
structure Zs (w W W' : World) (bs : List Nat) (b : Nat) : Prop where
  o : Only (fun _ => False) W W'
  row : Row W' b (bc (bucks bs []))
  lt : W.heap.size ≤ b ∧ b < W'.heap.size
theorem zs_of {w W W' : World} {v : Value} {bs : List Nat} {n : Nat} (hn : n = bs.length) (hr : Kd.R k26 26 W' W.heap.size (fun _ => True) v (List.replicate ((n : Int) + 1).toNat ⟨0, false⟩)) (hg : W.grownBy W' none) : ∃ b k, v = .slice (some ⟨b, 0, none⟩) (n + 1) k ∧ n + 1 ≤ k ∧ Zs w W W' bs b := by
  rw [show ((n : Int) + 1).toNat = n + 1 by omega] at hr
  obtain ⟨A, b, k, rfl, hk, h1, h2⟩ := Row_of_R hr
  rw [List.length_replicate] at hk h1
  obtain ⟨rfl, h3, h4, _⟩ := h1 (by omega)
  rw [zeros_bc bs n hn] at h2
  refine ⟨b, k, by rw [List.length_replicate], hk, ⟨⟨hg.os, hg.tape, hg.output, hg.size, fun j hj _ => hg.block j hj (by simp)⟩, h2, h3, h4⟩⟩
theorem mk_a {w wr W1 W2 : World} {A' : Option Addr} {n c' b : Nat} {bs : List Nat} (ho : Only (fun _ => False) w wr) (hr1 : Kd.R (Kd.int .u64) 24 W1 wr.drew.heap.size (fun _ => True) (.slice A' n c') (ofN bs)) (ho1 : Only (fun _ => False) wr.drew W1) (hZ : Zs w W1 W2 bs b) : Mk w W2 bs n ((A', c'), b) := by
  have o1 : Only (fun _ => False) w W1 := ho.drew.trans ho1
  refine ⟨o1.trans hZ.o, ?_, hZ.row, ⟨Nat.le_trans o1.size hZ.lt.1, hZ.lt.2⟩⟩
  have h2 := R_only (Kd.R_bound hr1) hZ.o (fun _ _ _ _ e => e)
  exact Kd.R_lower (Kd.R_mono h2 (fun j hj => by have := hj.2.2.1; have := hZ.lt.1; show j ≠ b; omega)) ho.size
theorem mk_b {w wr W1 W2 : World} {A' : Option Addr} {n c' b : Nat} {bs : List Nat} (ho : Only (fun _ => False) w wr) (hr1 : Kd.R (Kd.int .u64) 24 W2 W1.heap.size (fun _ => True) (.slice A' n c') (ofN bs)) (ho1 : Only (fun _ => False) W1 W2) (hZ : Zs w wr.drew W1 bs b) : Mk w W2 bs n ((A', c'), b) := by
  have o1 : Only (fun _ => False) w W1 := ho.drew.trans hZ.o
  refine ⟨o1.trans ho1, ?_, hZ.row.only ho1 id, ⟨Nat.le_trans ho.size hZ.lt.1, Nat.lt_of_lt_of_le hZ.lt.2 ho1.size⟩⟩
  exact Kd.R_lower (Kd.R_mono (Kd.R_bound hr1) (fun j hj => by have := hj.2.1; have := hZ.lt.2; show j ≠ b; omega)) o1.size
def NewPost (w : World) (bs : List Nat) (r : Ending) (w' : World) : Prop :=
  (okB bs ∧ ∃ N b k v0, r = .returned (.tuple #[.pointer (some ⟨N, 0, none⟩), .int .i64 0]) ∧ Hc w' w.heap.size w'.heap.size N b k v0 bs (bucks bs []) (0, false) (0, false) ∧ Only (fun _ => False) w w') ∨
  (¬ okB bs ∧ r = .returned (.tuple #[.pointer none, .int .i64 1]) ∧ Only (fun _ => False) w w')
theorem mk_done {w W W1 : World} {bs : List Nat} {n N : Nat} {s : (Option Addr × Nat) × Nat} {k : Nat} (hn : n = bs.length) (h : Mk w W bs n s) (hk : n + 1 ≤ k) (hg : N = W.heap.size) (hbox : W1.heap[N]? = some (.cells #[.slice s.1.1 n s.1.2, .slice (some ⟨s.2, 0, none⟩) (n + 1) k, .int .u64 0, .bool false, .int .u64 0, .bool false] 78 (0, 0))) (hb : Below W.heap.size W W1) :
    Hc W1 w.heap.size W1.heap.size N s.2 k (.slice s.1.1 n s.1.2) bs (bucks bs []) (0, false) (0, false) ∧ Only (fun _ => False) w W1 := by
  have o : Only (fun _ => False) W W1 := Only.of_below hb (fun j hj _ => hj)
  have hlt := h.lt
  have hs := h.o.size
  subst hn
  have hN : N < W1.heap.size := (Array.getElem?_eq_some_iff.1 hbox).1
  refine ⟨⟨row_of_blk hbox, h.row.only o id, ?_, bucks_length _ _, ⟨by omega, hN⟩, ⟨hlt.1, by omega⟩, by omega, hk, Nat.le_refl _⟩, h.o.trans o⟩
  have h2 := R_only (Kd.R_bound h.bnd) o (fun _ _ _ _ e => e)
  exact Kd.R_mono h2 (fun j hj => ⟨by have := hj.2.2.1; omega, hj.1, by have := hj.2.2.1; have := o.size; omega⟩)
set_option maxHeartbeats 8000000 in
set_option maxRecDepth 1000000 in
theorem new_walk (w : World) (A : Option Addr) (n c : Nat) (bs : List Nat) (hC : Kd.C (Kd.int .u64) w A n (ofN bs)) (hn : n = bs.length) (hc : n ≤ c) (hl : n ≤ 1000) :
    Calls Try.prog 31 #[.slice A n c] w (NewPost w bs) := by
  have HC := Aside0.mk hC
  have HN := Aside0.mk hn
  have Hcc := Aside0.mk hc
  clear hC hn hc
  by_cases h32 : (32 : Int) < (n : Int)
  · go_enter Try.func31, Try.ntmps31
    go_wp2
    go_ret2
    exact .inr ⟨fun h => by have := h.1; have := HN.out; omega, rfl, Only.refl _ w⟩
  · go_enter Try.func31, Try.ntmps31
    go_wp2
    go_loopg [4] (n + 2) (fun kq v4 wr => ∃ i : Nat, v4 = .int .i64 (i : Int) ∧ 1 ≤ i ∧ (i ≤ n ∨ i = 1) ∧ n + 1 - i < kq ∧ Aside0 (Only (fun _ => False) w wr) ∧ Aside0 (∀ j, j + 1 < i → bs.getD j 0 < bs.getD (j + 1) 0))
    case atStart => exact ⟨1, rfl, by omega, by omega, by omega, ⟨Only.refl _ w⟩, ⟨fun j hj => by omega⟩⟩
    case round =>
      obtain ⟨i, rfl, h1, h2, hk, HO, HA⟩ := hrel
      obtain ⟨k1, rfl⟩ : ∃ m, gk = m + 1 := ⟨gk - 1, by omega⟩
      by_cases hin : i < n
      · have hinI : (i : Int) < (n : Int) := by omega
        have hi0 : (0 : Int) ≤ (i : Int) := by omega
        obtain ⟨j, hij⟩ : ∃ j, i = j + 1 := ⟨i - 1, by omega⟩
        have hijI : (i : Int) - 1 = (j : Int) := by omega
        have hj0 : (0 : Int) ≤ (j : Int) := by omega
        have hjn : (j : Int) < (n : Int) := by omega
        have HC' := Kd.C_below HC.out (below_of HO.out)
        obtain ⟨ad, rfl, hx⟩ := num_at HC' i (by rw [← HN.out]; exact hin)
        obtain ⟨ad', e', hy⟩ := num_at HC' j (by rw [← HN.out]; omega)
        cases e'
        clear HC'
        have hnx := Aside0.mk (show bs.getD i 0 ≤ bs.getD j 0 → ¬ okB bs from fun h hh => by have := hh.2 j (by rw [← HN.out]; omega); rw [← hij] at this; omega)
        have hny := Aside0.mk (show ¬ bs.getD i 0 ≤ bs.getD j 0 → ∀ q, q + 1 < i + 1 → bs.getD q 0 < bs.getD (q + 1) 0 from fun h q hq => by
          by_cases e : q = j
          · subst e; rw [← hij]; omega
          · exact HA.out q (by omega))
        generalize bs.getD i 0 = x at hx hnx hny
        generalize bs.getD j 0 = y at hy hnx hny
        clear hij
        by_cases hxy : x ≤ y
        · have hxyI : (x : Int) ≤ (y : Int) := by omega
          go_wp2
          go_quiet (fail)
          go_wp2
          go_ret2
          exact .inr ⟨hnx.out hxy, rfl, HO.out.drewN _⟩
        · have hxyI : ¬ (x : Int) ≤ (y : Int) := by omega
          go_wp2
          go_quiet (fail)
          go_wp2
          go_roundg k1
          case measure => omega
          case rel => exact ⟨i + 1, by first | rfl | simp, by omega, by omega, by omega, ⟨HO.out.drewN _⟩, ⟨hny.out hxy⟩⟩
      · have hinI : ¬ (i : Int) < (n : Int) := by omega
        have hok : Aside0 (okB bs) := ⟨⟨by have := HN.out; omega, fun j hj => HA.out j (by have := HN.out; omega)⟩⟩
        clear HA
        have HC' := Aside0.mk (fun W (o : Only (fun _ => False) w W) => Kd.C_below HC.out (below_of o))
        go_wp2
        have hwn := Aside0.mk (show wrap64 ((n : Int) + 1) = (n : Int) + 1 from IntWalk.wrap64_in _ (by omega))
        refine start_ (n := 10) (S := fun _ : World => True) (ds := []) #[false, false, false, false, false, false, false, false, false, false] (by kernel_rfl) rfl rfl trivial (fun hHeld => ?_)
        refine pure_ (i := 0) (N := some 24) (v := ?_) (a' := ?_) #[true, false, false, false, false, false, false, false, false, false] rfl rfl (by kernel_rfl) (fun _ _ _ h => h) (Or.inl ⟨by rfl, ?_⟩) ?_ ?_
        rotate_left
        · intro w'
          go_simp
          with_reducible rfl
        rotate_left
        · simp only [Act.put, List.setIfInBounds_toArray, List.set_cons_zero, List.set_cons_succ, i64_w, i32_w]
          rfl
        refine pure_ (i := 2) (N := some 26) (v := ?_) (a' := ?_) #[true, false, true, false, false, false, false, false, false, false] rfl rfl (by kernel_rfl) (fun _ _ _ h => h) (Or.inl ⟨by rfl, ?_⟩) ?_ ?_
        rotate_left
        · intro w'
          go_simp
          with_reducible rfl
        rotate_left
        · simp only [Act.put, List.setIfInBounds_toArray, List.set_cons_zero, List.set_cons_succ, i64_w, i32_w]
          rfl
        refine pure_ (i := 3) (N := some 27) (v := ?_) (a' := ?_) #[true, false, true, true, false, false, false, false, false, false] rfl rfl (by kernel_rfl) (fun _ _ _ h => h) (Or.inl ⟨by rfl, ?_⟩) ?_ ?_
        rotate_left
        · intro w'
          go_simp
          with_reducible rfl
        rotate_left
        · simp only [Act.put, List.setIfInBounds_toArray, List.set_cons_zero, List.set_cons_succ, i64_w, i32_w]
          rfl
        refine pure_ (i := 4) (N := some 28) (v := ?_) (a' := ?_) #[true, false, true, true, true, false, false, false, false, false] rfl rfl (by kernel_rfl) (fun _ _ _ h => h) (Or.inl ⟨by rfl, ?_⟩) ?_ ?_
        rotate_left
        · intro w'
          go_simp
          with_reducible rfl
        rotate_left
        · simp only [Act.put, List.setIfInBounds_toArray, List.set_cons_zero, List.set_cons_succ, i64_w, i32_w]
          rfl
        refine join_ (σ := ((Option Addr × Nat) × Nat) × {k : Nat // n + 1 ≤ k}) 4 #[true, true, true, true, true, true, false, false, false, false] (fun s_ => [(25, .slice s_.1.1.1 n s_.1.1.2), (29, .slice (some ⟨s_.1.2, 0, none⟩) (n + 1) s_.2.1)]) (fun s_ w' => Mk w w' bs n s_.1) ?_ ?_
        · rintro ⟨⟨⟨A', c'⟩, b⟩, ⟨k, hk⟩⟩ W hF
          replace hF := Aside0.mk hF
          refine norm_ (a' := ?_) ?_ ?_
          rotate_left
          · simp only [putAll, Act.put, List.setIfInBounds_toArray, List.set_cons_zero, List.set_cons_succ]
            rfl
          refine pure_ (i := 6) (N := some 30) (v := ?_) (a' := ?_) #[true, true, true, true, true, true, true, false, false, false] rfl rfl (by kernel_rfl) (fun _ _ _ h => h) (Or.inl ⟨by rfl, ?_⟩) ?_ ?_
          rotate_left
          · intro w'
            go_simp
            with_reducible rfl
          rotate_left
          · simp only [Act.put, List.setIfInBounds_toArray, List.set_cons_zero, List.set_cons_succ, i64_w, i32_w]
            rfl
          refine one_ (i := 7) (N := some 31) #[true, true, true, true, true, true, true, true, false, false] rfl rfl (by kernel_rfl) (by decide) (fun K hK => ?_)
          refine box_step ?hg (N := 31) ?hd (cs := #[.slice A' n c', .slice (some ⟨b, 0, none⟩) (n + 1) k, .int .u64 0, .bool false, .int .u64 0, .bool false]) (t := 78) ?hr ?_; (case hd => rfl); (case hg => rfl); (case hr => first | (go_simp; done) | (go_simp; rfl))
          intro N hg W1 hbox hb
          have hD := Aside0.mk (mk_done HN.out hF.out hk hg hbox hb)
          clear hbox hb hg
          refine hK.out _ _ (trivial) (fun hHeld => ?_)
          clear hK K
          refine norm_ (a' := ?_) ?_ ?_
          rotate_left
          · show Act.put _ (some 31) _ = _
            simp only [Act.put, List.setIfInBounds_toArray, List.set_cons_zero, List.set_cons_succ, i64_w, i32_w]
            rfl
          refine pure_ (i := 8) (N := some 2) (v := ?_) (a' := ?_) #[true, true, true, true, true, true, true, true, true, false] rfl rfl (by kernel_rfl) (fun _ _ _ h => h) (Or.inl ⟨by rfl, ?_⟩) ?_ ?_
          rotate_left
          · intro w'
            go_simp
            with_reducible rfl
          rotate_left
          · simp only [Act.put, List.setIfInBounds_toArray, List.set_cons_zero, List.set_cons_succ, i64_w, i32_w]
            rfl
          refine pure_ (i := 9) (N := some 3) (v := ?_) (a' := ?_) #[true, true, true, true, true, true, true, true, true, true] rfl rfl (by kernel_rfl) (fun _ _ _ h => h) (Or.inl ⟨by rfl, ?_⟩) ?_ ?_
          rotate_left
          · intro w'
            go_simp
            with_reducible rfl
          rotate_left
          · simp only [Act.put, List.setIfInBounds_toArray, List.set_cons_zero, List.set_cons_succ, i64_w, i32_w]
            rfl
          refine done_ (by kernel_rfl) ?_
          go_wp2
          go_ret2
          exact .inl ⟨hok.out, N, b, k, _, rfl, hD.out.1, hD.out.2⟩
        · intro hJ
          refine two_ (i := 1) (j := 5) (Ni := some 25) (Nj := some 29) #[true, true, true, true, true, false, false, false, false, false] #[true, false, true, true, true, true, false, false, false, false] rfl rfl rfl rfl (by kernel_rfl) (by decide) (by decide) (fun K hK => ?_) (fun K hK => ?_)
          · refine goes_ Try.func44 (by kernel_rfl) rfl #[.slice A n c] (by rfl) rfl rfl (by (try simp only [List.map_toArray, List.map_cons, List.map_nil]); first | done | rfl) ?_
            refine (clone_walk _ A n c bs (HC'.out _ HO.out.drew) HN.out Hcc.out hl).mono ?_
            rintro e W1 ⟨A', c', rfl, hr1, ho1⟩
            replace hr1 := Aside0.mk hr1
            replace ho1 := Aside0.mk ho1
            refine ⟨_, rfl, ?_⟩
            refine hK.out _ _ (trivial) (fun hHeld => ?_)
            clear hK K
            refine norm_ (a' := ?_) ?_ ?_
            rotate_left
            · show Act.put _ (some 25) _ = _
              simp only [Act.put, List.setIfInBounds_toArray, List.set_cons_zero, List.set_cons_succ, i64_w, i32_w]
              rfl
            refine one_ (i := 5) (N := some 29) #[true, true, true, true, true, true, false, false, false, false] rfl rfl (by kernel_rfl) (by decide) (fun K hK => ?_)
            refine Kd.R_make_step k26 (w0 := W1) W1.heap.size 26 (by rfl) rfl 38 (.tmp 28) (.tmp 28) rfl (wrap64 ((n : Int) + 1)) rfl rfl Try.underlying38 (.agg #[.int .u64 0, .bool false]) 16 info26 rfl (by decide) (by decide) ⟨0, false⟩ (ok := fun _ => True) (okp := fun _ => True) (k26_mkM _ _ _ ⟨0, false⟩) (fun _ h => h) trivial (by rw [hwn.out]; omega) (by rw [hwn.out]; omega) (Below.refl _ _) (Nat.le_refl _) ?_
            intro v W2 hz hbz hgz _
            rw [hwn.out] at hz
            obtain ⟨b, k, rfl, hk, hZ⟩ := zs_of (w := w) HN.out hz hgz
            have hM := Aside0.mk (mk_a HO.out hr1.out ho1.out hZ)
            clear hz hbz hgz hZ
            refine hK.out _ _ (trivial) (fun hHeld => ?_)
            clear hK K
            refine norm_ (a' := ?_) ?_ ?_
            rotate_left
            · show Act.put _ (some 29) _ = _
              simp only [Act.put, List.setIfInBounds_toArray, List.set_cons_zero, List.set_cons_succ, i64_w, i32_w]
              rfl
            exact norm_ (by first | (simp only [putAll, Act.put, List.setIfInBounds_toArray, List.set_cons_zero, List.set_cons_succ]; done) | (simp only [putAll, Act.put, List.setIfInBounds_toArray, List.set_cons_zero, List.set_cons_succ]; rfl)) (hJ (((A', c'), b), ⟨k, hk⟩) _ hM.out)
          · refine Kd.R_make_step k26 (w0 := wr.drew) wr.drew.heap.size 26 (by rfl) rfl 38 (.tmp 28) (.tmp 28) rfl (wrap64 ((n : Int) + 1)) rfl rfl Try.underlying38 (.agg #[.int .u64 0, .bool false]) 16 info26 rfl (by decide) (by decide) ⟨0, false⟩ (ok := fun _ => True) (okp := fun _ => True) (k26_mkM _ _ _ ⟨0, false⟩) (fun _ h => h) trivial (by rw [hwn.out]; omega) (by rw [hwn.out]; omega) (Below.refl _ _) (Nat.le_refl _) ?_
            intro v W1 hz hbz hgz _
            rw [hwn.out] at hz
            obtain ⟨b, k, rfl, hk, hZ⟩ := zs_of (w := w) HN.out hz hgz
            replace hZ := Aside0.mk hZ
            clear hz hbz hgz
            refine hK.out _ _ (trivial) (fun hHeld => ?_)
            clear hK K
            refine norm_ (a' := ?_) ?_ ?_
            rotate_left
            · show Act.put _ (some 29) _ = _
              simp only [Act.put, List.setIfInBounds_toArray, List.set_cons_zero, List.set_cons_succ, i64_w, i32_w]
              rfl
            refine one_ (i := 1) (N := some 25) #[true, true, true, true, true, true, false, false, false, false] rfl rfl (by kernel_rfl) (by decide) (fun K hK => ?_)
            refine goes_ Try.func44 (by kernel_rfl) rfl #[.slice A n c] (by rfl) rfl rfl (by (try simp only [List.map_toArray, List.map_cons, List.map_nil]); first | done | rfl) ?_
            refine (clone_walk _ A n c bs (HC'.out _ (HO.out.drew.trans hZ.out.o)) HN.out Hcc.out hl).mono ?_
            rintro e W2 ⟨A', c', rfl, hr1, ho1⟩
            have hM := Aside0.mk (mk_b HO.out hr1 ho1 hZ.out)
            clear hr1 ho1
            refine ⟨_, rfl, ?_⟩
            refine hK.out _ _ (trivial) (fun hHeld => ?_)
            clear hK K
            refine norm_ (a' := ?_) ?_ ?_
            rotate_left
            · show Act.put _ (some 25) _ = _
              simp only [Act.put, List.setIfInBounds_toArray, List.set_cons_zero, List.set_cons_succ, i64_w, i32_w]
              rfl
            exact norm_ (by first | (simp only [putAll, Act.put, List.setIfInBounds_toArray, List.set_cons_zero, List.set_cons_succ]; done) | (simp only [putAll, Act.put, List.setIfInBounds_toArray, List.set_cons_zero, List.set_cons_succ]; rfl)) (hJ (((A', c'), b), ⟨k, hk⟩) _ hM.out)
end Go.Proofs.Ytdcbhakclhbdpaa.Hi

namespace Go.Proofs.Ytdcbhakclhbdpaa.Hi
open Go.RowKit Go.Shelf Go.Proofs.YtdcbhakclhbdpaaW.PrintWords Go.Proofs.YtdcbhakclhbdpaaW.PrintLast
open Go.Proofs.Ytdcbhakclhbdpaa.Ob Go.Proofs.Ytdcbhakclhbdpaa.XH
set_option linter.unusedSimpArgs false
set_option linter.unusedVariables false

theorem add_walk (c : Nat × Bool) (n : Nat) (hc : c.1 ≤ most) (W : World) : Calls Try.prog 16 #[.agg #[.int .u64 (c.1 : Int), .bool c.2], .int .u64 (n : Int)] W fun r w' => r = .returned (.agg #[.int .u64 ((addC c n).1 : Int), .bool (addC c n).2]) ∧ Only (fun _ => False) W w' := by
  refine (sat_Count_Add.calls _ _ _ _ _ W (add_f c n hc)).mono ?_
  rintro r w' ⟨rfl, hb⟩
  exact ⟨rfl, Only.of_below hb (fun k hk _ => hk)⟩
theorem add1_walk (c : Nat × Bool) (hc : c.1 ≤ most) (W : World) : Calls Try.prog 16 #[.agg #[.int .u64 (c.1 : Int), .bool c.2], .int .u64 1] W fun r w' => r = .returned (.agg #[.int .u64 ((addC c 1).1 : Int), .bool (addC c 1).2]) ∧ Only (fun _ => False) W w' := add_walk c 1 hc W
theorem addC_le (c : Nat × Bool) (n : Nat) (hc : c.1 ≤ most) : (addC c n).1 ≤ most := by
  unfold addC
  split
  · exact Nat.le_refl _
  · rename_i h
    show c.1 + n ≤ most
    have : ¬ most < n + c.1 := fun e => h (.inr e)
    omega
theorem Hc.cells {W : World} {lo hi N b k : Nat} {v0 : Value} {bs : List Nat} {cs : List (Nat × Bool)} {c s : Nat × Bool} (h : Hc W lo hi N b k v0 bs cs c s) :
    (W.cell? ⟨N, 0, none⟩ = some v0 ∧ W.cell? ⟨N, 1, none⟩ = some (.slice (some ⟨b, 0, none⟩) (bs.length + 1) k)) ∧
    (W.cell? ⟨N, 2, none⟩ = some (.int .u64 (c.1 : Int)) ∧ W.frozen? ⟨N, 2, none⟩ = false) ∧ (W.cell? ⟨N, 3, none⟩ = some (.bool c.2) ∧ W.frozen? ⟨N, 3, none⟩ = false) ∧
    (W.cell? ⟨N, 4, none⟩ = some (.int .u64 (s.1 : Int)) ∧ W.frozen? ⟨N, 4, none⟩ = false) ∧ (W.cell? ⟨N, 5, none⟩ = some (.bool s.2) ∧ W.frozen? ⟨N, 5, none⟩ = false) :=
  ⟨⟨(h.row 0 _ rfl).1, (h.row 1 _ rfl).1⟩, h.row 2 _ rfl, h.row 3 _ rfl, h.row 4 _ rfl, h.row 5 _ rfl⟩
set_option maxHeartbeats 8000000 in
set_option maxRecDepth 1000000 in
theorem put_walk (w : World) (lo hi N b k : Nat) (v0 : Value) (bs : List Nat) (cs : List (Nat × Bool)) (c s : Nat × Bool) (x : Nat) (h : Hc w lo hi N b k v0 bs cs c s) (hl : bs.length ≤ 32) (hc : c.1 ≤ most) (hs : s.1 ≤ most) (i : Nat) (hi' : i < cs.length) (hbk : bk bs x = i) (hcs : (cs[i]).1 ≤ most) :
    Calls Try.prog 32 #[.pointer (some ⟨N, 0, none⟩), .int .u64 (x : Int)] w fun r w' => r = .returned (.int .i64 0) ∧ Hc w' lo hi N b k v0 bs (cs.set i (addC (cs[i]) 1)) (addC c 1) (addC s x) ∧ Only (fun j => j = N ∨ j = b) w w' := by
  obtain ⟨A, q, rfl, hq, hC⟩ := h.bounds
  have H := Aside0.mk h
  obtain ⟨⟨c0, c1⟩, c2, c3, c4, c5⟩ := h.cells
  replace hC := Aside0.mk hC
  replace hbk := Aside0.mk hbk
  have hib : i < bs.length + 1 := by rw [← h.len]; exact hi'
  have Hl := Aside0.mk (show bs.length ≤ 1000 by omega)
  have hset := Aside0.mk (show ∀ W, Hc W lo hi N b k (.slice A bs.length q) bs cs c s → Hc ((W.setCell ⟨b, i * 2, none⟩ (.int .u64 ((addC (cs[i]) 1).1 : Int))).setCell ⟨b, i * 2 + 1, none⟩ (.bool (addC (cs[i]) 1).2)) lo hi N b k (.slice A bs.length q) bs (cs.set i (addC (cs[i]) 1)) c s from fun W hW => hW.setB i _ hi')
  have hat := Aside0.mk (show ∀ W, Hc W lo hi N b k (.slice A bs.length q) bs cs c s → (W.cell? ⟨b, i * 2, none⟩ = some (.int .u64 ((cs[i]).1 : Int)) ∧ W.frozen? ⟨b, i * 2, none⟩ = false) ∧ (W.cell? ⟨b, i * 2 + 1, none⟩ = some (.bool (cs[i]).2) ∧ W.frozen? ⟨b, i * 2 + 1, none⟩ = false) from fun W hW => hW.at_ i hi')
  clear h
  generalize cs[i] = d at hcs hset hat ⊢
  replace hcs := Aside0.mk hcs
  replace hc := Aside0.mk hc
  replace hs := Aside0.mk hs
  generalize hn : bs.length = n at c0 c1 hC Hl hq hset hat H hib
  replace hn := Aside0.mk hn
  have hiI : (i : Int) < ((n : Int) + 1) := by omega
  have hi0 : (0 : Int) ≤ (i : Int) := by omega
  go_enter Try.func32, Try.ntmps32
  go_wp2_with (go_at_call 37; refine (bucket_walk _ A n q bs x hC.out hn.out.symm hq Hl.out).mono ?_; rintro r w1 ⟨rfl, ho⟩; rw [hbk.out]; replace H := Aside0.mk (And.intro (H.out.keep ho) (ho.mono (S := fun _ => False) (T := fun j => j = N ∨ j = b) fun _ e => e.elim)); clear c0 c1 c2 c3 c4 c5 ho hC)
  obtain ⟨⟨c0, c1⟩, c2, c3, c4, c5⟩ := H.out.1.cells
  rw [hn.out] at c1
  obtain ⟨⟨b0, b0f⟩, b1, b1f⟩ := hat.out _ H.out.1
  have hS := (show (fun w' : World => w'.cell? ⟨N, 1, none⟩ = some (.slice (some ⟨b, 0, none⟩) (n + 1) k) ∧ w'.cell? ⟨b, i * 2, none⟩ = some (.int .u64 (d.1 : Int)) ∧ w'.cell? ⟨b, i * 2 + 1, none⟩ = some (.bool d.2)) (w1.drew) from ⟨c1, b0, b1⟩)
  refine start_ (n := 15) (S := fun w' : World => w'.cell? ⟨N, 1, none⟩ = some (.slice (some ⟨b, 0, none⟩) (n + 1) k) ∧ w'.cell? ⟨b, i * 2, none⟩ = some (.int .u64 (d.1 : Int)) ∧ w'.cell? ⟨b, i * 2 + 1, none⟩ = some (.bool d.2)) (ds := [14]) #[false, false, false, false, false, false, false, false, false, false, false, false, false, false, false] (by kernel_rfl) rfl rfl hS (fun hHeld => ?_)
  clear hS
  refine pure_ (i := 0) (N := some 14) (v := ?_) (a' := ?_) #[true, false, false, false, false, false, false, false, false, false, false, false, false, false, false] rfl rfl (by kernel_rfl) (fun _ _ _ h => h) (Or.inl ⟨by rfl, ?_⟩) ?_ ?_
  rotate_left
  · intro w'
    go_simp
    with_reducible rfl
  rotate_left
  · simp only [Act.put, List.setIfInBounds_toArray, List.set_cons_zero, List.set_cons_succ, i64_w, i32_w]
    rfl
  refine pure_ (i := 1) (N := some 15) (v := ?_) (a' := ?_) #[true, true, false, false, false, false, false, false, false, false, false, false, false, false, false] rfl rfl (by kernel_rfl) (fun _ _ _ h => h) (Or.inl ⟨by rfl, ?_⟩) ?_ ?_
  rotate_left
  · intro w'
    go_simp
    with_reducible rfl
  rotate_left
  · simp only [Act.put, List.setIfInBounds_toArray, List.set_cons_zero, List.set_cons_succ, i64_w, i32_w]
    rfl
  refine pure_ (i := 2) (N := some 16) (v := ?_) (a' := ?_) #[true, true, true, false, false, false, false, false, false, false, false, false, false, false, false] rfl rfl (by kernel_rfl) (fun _ _ _ h => h) (Or.inl ⟨by rfl, ?_⟩) ?_ ?_
  rotate_left
  · intro w'
    go_simp
    with_reducible rfl
  rotate_left
  · simp only [Act.put, List.setIfInBounds_toArray, List.set_cons_zero, List.set_cons_succ, i64_w, i32_w]
    rfl
  refine take_ (i := 3) (N := some 17) (v := ?_) (a' := ?_) #[true, true, true, true, false, false, false, false, false, false, false, false, false, false, false] rfl rfl (by kernel_rfl) (fun _ _ _ h => h) (Or.inl ⟨by rfl, ?_⟩) hHeld ?_ ?_
  rotate_left
  · rintro w' ⟨s0, s1, s2⟩
    go_simp
    with_reducible rfl
  rotate_left
  · simp only [Act.put, List.setIfInBounds_toArray, List.set_cons_zero, List.set_cons_succ, i64_w, i32_w]
    rfl
  refine pure_ (i := 4) (N := some 18) (v := ?_) (a' := ?_) #[true, true, true, true, true, false, false, false, false, false, false, false, false, false, false] rfl rfl (by kernel_rfl) (fun _ _ _ h => h) (Or.inl ⟨by rfl, ?_⟩) ?_ ?_
  rotate_left
  · intro w'
    go_simp
    with_reducible rfl
  rotate_left
  · simp only [Act.put, List.setIfInBounds_toArray, List.set_cons_zero, List.set_cons_succ, i64_w, i32_w]
    rfl
  refine pure_ (i := 5) (N := some 19) (v := ?_) (a' := ?_) #[true, true, true, true, true, true, false, false, false, false, false, false, false, false, false] rfl rfl (by kernel_rfl) (fun _ _ _ h => h) (Or.inl ⟨by rfl, ?_⟩) ?_ ?_
  rotate_left
  · intro w'
    go_simp
    with_reducible rfl
  rotate_left
  · simp only [Act.put, List.setIfInBounds_toArray, List.set_cons_zero, List.set_cons_succ, i64_w, i32_w]
    rfl
  refine pure_ (i := 6) (N := some 20) (v := ?_) (a' := ?_) #[true, true, true, true, true, true, true, false, false, false, false, false, false, false, false] rfl rfl (by kernel_rfl) (fun _ _ _ h => h) (Or.inl ⟨by rfl, ?_⟩) ?_ ?_
  rotate_left
  · intro w'
    go_simp
    with_reducible rfl
  rotate_left
  · simp only [Act.put, List.setIfInBounds_toArray, List.set_cons_zero, List.set_cons_succ, i64_w, i32_w]
    rfl
  refine pure_ (i := 7) (N := some 21) (v := ?_) (a' := ?_) #[true, true, true, true, true, true, true, true, false, false, false, false, false, false, false] rfl rfl (by kernel_rfl) (fun _ _ _ h => h) (Or.inl ⟨by rfl, ?_⟩) ?_ ?_
  rotate_left
  · intro w'
    go_simp
    with_reducible rfl
  rotate_left
  · simp only [Act.put, List.setIfInBounds_toArray, List.set_cons_zero, List.set_cons_succ, i64_w, i32_w]
    rfl
  refine take_ (i := 8) (N := some 22) (v := ?_) (a' := ?_) #[true, true, true, true, true, true, true, true, true, false, false, false, false, false, false] rfl rfl (by kernel_rfl) (fun _ _ _ h => h) (Or.inl ⟨by rfl, ?_⟩) hHeld ?_ ?_
  rotate_left
  · rintro w' ⟨s0, s1, s2⟩
    go_simp
    with_reducible rfl
  rotate_left
  · simp only [Act.put, List.setIfInBounds_toArray, List.set_cons_zero, List.set_cons_succ, i64_w, i32_w]
    rfl
  refine pure_ (i := 9) (N := some 23) (v := ?_) (a' := ?_) #[true, true, true, true, true, true, true, true, true, true, false, false, false, false, false] rfl rfl (by kernel_rfl) (fun _ _ _ h => h) (Or.inl ⟨by rfl, ?_⟩) ?_ ?_
  rotate_left
  · intro w'
    go_simp
    with_reducible rfl
  rotate_left
  · simp only [Act.put, List.setIfInBounds_toArray, List.set_cons_zero, List.set_cons_succ, i64_w, i32_w]
    rfl
  refine pure_ (i := 10) (N := some 24) (v := ?_) (a' := ?_) #[true, true, true, true, true, true, true, true, true, true, true, false, false, false, false] rfl rfl (by kernel_rfl) (fun _ _ _ h => h) (Or.inl ⟨by rfl, ?_⟩) ?_ ?_
  rotate_left
  · intro w'
    go_simp
    with_reducible rfl
  rotate_left
  · simp only [Act.put, List.setIfInBounds_toArray, List.set_cons_zero, List.set_cons_succ, i64_w, i32_w]
    rfl
  refine take_ (i := 11) (N := some 25) (v := ?_) (a' := ?_) #[true, true, true, true, true, true, true, true, true, true, true, true, false, false, false] rfl rfl (by kernel_rfl) (fun _ _ _ h => h) (Or.inl ⟨by rfl, ?_⟩) hHeld ?_ ?_
  rotate_left
  · rintro w' ⟨s0, s1, s2⟩
    go_simp
    with_reducible rfl
  rotate_left
  · simp only [Act.put, List.setIfInBounds_toArray, List.set_cons_zero, List.set_cons_succ, i64_w, i32_w]
    rfl
  clear b0 b0f b1 b1f c0 c1 c2 c3 c4 c5
  refine one_ (i := 12) (N := some 26) #[true, true, true, true, true, true, true, true, true, true, true, true, true, false, false] rfl rfl (by kernel_rfl) (by decide) (fun K hK => ?_)
  refine goes_ Try.func16 (by kernel_rfl) rfl #[.agg #[.int .u64 (d.1 : Int), .bool d.2], .int .u64 1] (by rfl) rfl rfl (by (try simp only [List.map_toArray, List.map_cons, List.map_nil]); first | done | rfl) ?_
  refine (add1_walk d hcs.out _).mono ?_
  rintro r w2 ⟨rfl, ho2⟩
  replace H := Aside0.mk (And.intro (H.out.1.drew.keep ho2) (H.out.2.drew.trans (ho2.mono (S := fun _ => False) (T := fun j => j = N ∨ j = b) fun _ e => e.elim)))
  clear ho2
  refine ⟨_, rfl, ?_⟩
  obtain ⟨⟨b0, b0f⟩, b1, b1f⟩ := hat.out _ H.out.1
  have c1 := H.out.1.cells.1.2
  rw [hn.out] at c1
  refine hK.out _ _ (⟨c1, b0, b1⟩) (fun hHeld => ?_)
  clear hK K
  refine norm_ (a' := ?_) ?_ ?_
  rotate_left
  · show Act.put _ (some 26) _ = _
    simp only [Act.put, List.setIfInBounds_toArray, List.set_cons_zero, List.set_cons_succ, i64_w, i32_w]
    rfl
  refine pure_ (i := 13) (N := some 27) (v := ?_) (a' := ?_) #[true, true, true, true, true, true, true, true, true, true, true, true, true, true, false] rfl rfl (by kernel_rfl) (fun _ _ _ h => h) (Or.inl ⟨by rfl, ?_⟩) ?_ ?_
  rotate_left
  · intro w'
    go_simp
    with_reducible rfl
  rotate_left
  · simp only [Act.put, List.setIfInBounds_toArray, List.set_cons_zero, List.set_cons_succ, i64_w, i32_w]
    rfl
  refine last_ (i := 14) (N := none) #[true, true, true, true, true, true, true, true, true, true, true, true, true, true, true] rfl rfl (by kernel_rfl) (by decide) (fun K hK => ?_)
  refine skip_ (w1 := ?_) (by rfl) rfl ?_ ?_
  rotate_left
  · go_simp
    rfl
  refine hK.out _ _ ?_
  clear hK K
  refine done_ (by kernel_rfl) ?_
  replace H := Aside0.mk (And.intro (hset.out _ H.out.1) (show Only (fun j => j = N ∨ j = b) w _ from (H.out.2.setCell ⟨b, i * 2, none⟩ (.int .u64 ((addC d 1).1 : Int)) (.inr rfl)).setCell ⟨b, i * 2 + 1, none⟩ (.bool (addC d 1).2) (.inr rfl)))
  clear b0 b0f b1 b1f c1 hat hset hHeld
  have H3 := H
  clear H
  obtain ⟨⟨c0, c1⟩, ⟨c2, c2f⟩, ⟨c3, c3f⟩, ⟨c4, c4f⟩, c5, c5f⟩ := H3.out.1.cells
  go_wp2_with (go_at_call 16; first
    | (with_reducible refine (add1_walk c hc.out _).mono ?_; rintro r w4 ⟨rfl, ho4⟩; have H4 := Aside0.mk (And.intro (H3.out.1.keep ho4) (H3.out.2.trans (ho4.mono (S := fun _ => False) (T := fun j => j = N ∨ j = b) fun _ e => e.elim))); clear c0 c1 c2 c2f c3 c3f c4 c4f c5 c5f ho4 H3; obtain ⟨⟨c0, c1⟩, ⟨c2, c2f⟩, ⟨c3, c3f⟩, ⟨c4, c4f⟩, c5, c5f⟩ := H4.out.1.cells)
    | (with_reducible refine (add_walk s x hs.out _).mono ?_; rintro r w6 ⟨rfl, ho6⟩; have H6 := Aside0.mk (And.intro ((H4.out.1.setC (addC c 1)).keep ho6) ((((H4.out.2.setCell ⟨N, 2, none⟩ _ (.inl rfl)).setCell ⟨N, 3, none⟩ _ (.inl rfl))).trans (ho6.mono (S := fun _ => False) (T := fun j => j = N ∨ j = b) fun _ e => e.elim))); clear c0 c1 c2 c2f c3 c3f c4 c4f c5 c5f ho6 H4; obtain ⟨⟨c0, c1⟩, ⟨c2, c2f⟩, ⟨c3, c3f⟩, ⟨c4, c4f⟩, c5, c5f⟩ := H6.out.1.cells))
  go_ret
  exact ⟨rfl, H6.out.1.setS (addC s x), (H6.out.2.setCell ⟨N, 4, none⟩ _ (.inl rfl)).setCell ⟨N, 5, none⟩ _ (.inl rfl)⟩
end Go.Proofs.Ytdcbhakclhbdpaa.Hi

namespace Go.Proofs.Ytdcbhakclhbdpaa.Hi
open Go.RowKit Go.Shelf Go.Proofs.YtdcbhakclhbdpaaW.PrintWords Go.Proofs.YtdcbhakclhbdpaaW.PrintLast
open Go.Proofs.Ytdcbhakclhbdpaa.Ob Go.Proofs.Ytdcbhakclhbdpaa.XH
set_option linter.unusedSimpArgs false
set_option linter.unusedVariables false

set_option maxHeartbeats 4000000 in
set_option maxRecDepth 1000000 in
theorem count_walk (w : World) (lo hi N b k : Nat) (v0 : Value) (bs : List Nat) (cs : List (Nat × Bool)) (c s : Nat × Bool) (h : Hc w lo hi N b k v0 bs cs c s) :
    Calls Try.prog 35 #[.pointer (some ⟨N, 0, none⟩)] w fun r w' => r = .returned (.agg #[.int .u64 (c.1 : Int), .bool c.2]) ∧ Only (fun _ => False) w w' := by
  have hlt : N < w.heap.size := Nat.lt_of_lt_of_le h.wn.2 h.top
  have hne : N ≠ w.heap.size := Nat.ne_of_lt hlt
  obtain ⟨⟨c0, c1⟩, ⟨c2, c2f⟩, ⟨c3, c3f⟩, ⟨c4, c4f⟩, c5, c5f⟩ := h.cells
  clear h
  go_enter Try.func35, Try.ntmps35
  go_wp2
  refine bodyPost_ret (results_cell_row rfl _ _ w.heap.size 26 #[.int .u64 (c.1 : Int), .bool c.2] (0, 0) _ rfl (blk_new w _) Try.underlying26 rfl (by kernel_rfl)) rfl ?_
  exact ⟨rfl, (Only.refl _ w).alloc _⟩
set_option maxHeartbeats 4000000 in
set_option maxRecDepth 1000000 in
theorem sum_walk (w : World) (lo hi N b k : Nat) (v0 : Value) (bs : List Nat) (cs : List (Nat × Bool)) (c s : Nat × Bool) (h : Hc w lo hi N b k v0 bs cs c s) :
    Calls Try.prog 36 #[.pointer (some ⟨N, 0, none⟩)] w fun r w' => r = .returned (.agg #[.int .u64 (s.1 : Int), .bool s.2]) ∧ Only (fun _ => False) w w' := by
  have hlt : N < w.heap.size := Nat.lt_of_lt_of_le h.wn.2 h.top
  have hne : N ≠ w.heap.size := Nat.ne_of_lt hlt
  obtain ⟨⟨c0, c1⟩, ⟨c2, c2f⟩, ⟨c3, c3f⟩, ⟨c4, c4f⟩, c5, c5f⟩ := h.cells
  clear h
  go_enter Try.func36, Try.ntmps36
  go_wp2
  refine bodyPost_ret (results_cell_row rfl _ _ w.heap.size 26 #[.int .u64 (s.1 : Int), .bool s.2] (0, 0) _ rfl (blk_new w _) Try.underlying26 rfl (by kernel_rfl)) rfl ?_
  exact ⟨rfl, (Only.refl _ w).alloc _⟩
theorem add_zero (b i : Nat) : (⟨b, 0, none⟩ : Addr).add i = ⟨b, i, none⟩ := by
  unfold Addr.add
  split
  · rename_i h; rw [h]
  · simp
theorem C_of_row {W : World} {b : Nat} {cs : List (Nat × Bool)} (h : Row W b (bc cs)) (hs : cs.length ≤ 1000) : Kd.C k26 W (some ⟨b, 0, none⟩) cs.length (cs.map toS) := by
  refine ⟨by simp, by omega, fun _ => ⟨_, rfl, fun j x hx => ?_⟩⟩
  have hj : j < cs.length := by have := (List.getElem?_eq_some_iff.1 hx).1; simpa using this
  obtain rfl : toS cs[j] = x := by
    rw [List.getElem?_map, List.getElem?_eq_getElem hj] at hx; exact Option.some.inj hx
  obtain ⟨h1, h2⟩ := bc_get cs j _ (List.getElem?_eq_getElem hj)
  refine ⟨_, rfl, k26_mk W _, fun i u hu => ?_⟩
  have e2 : k26.sz = 2 := rfl
  rw [e2]
  match i, hu with
  | 0, hu => obtain rfl := Option.some.inj hu; rw [add_zero]; exact (h _ _ h1).1
  | 1, hu => obtain rfl := Option.some.inj hu; rw [add_zero]; exact (h _ _ h2).1
  | i + 2, hu => cases hu
set_option maxHeartbeats 4000000 in
set_option maxRecDepth 1000000 in
theorem buckets_walk (w : World) (lo hi N b k : Nat) (v0 : Value) (bs : List Nat) (cs : List (Nat × Bool)) (c s : Nat × Bool) (h : Hc w lo hi N b k v0 bs cs c s) (hl : bs.length ≤ 32) :
    Calls Try.prog 33 #[.pointer (some ⟨N, 0, none⟩)] w fun r w' => ∃ A q, r = .returned (.slice A (bs.length + 1) q) ∧ Kd.R k26 26 w' w.heap.size (fun _ => True) (.slice A (bs.length + 1) q) (cs.map toS) ∧ Only (fun _ => False) w w' := by
  have hlen := h.len
  have hcap := h.cap
  have hC := C_of_row h.bow (by omega)
  obtain ⟨⟨c0, c1⟩, ⟨c2, c2f⟩, ⟨c3, c3f⟩, ⟨c4, c4f⟩, c5, c5f⟩ := h.cells
  clear h
  have hm : (cs.map toS).length = bs.length + 1 := by rw [List.length_map, hlen]
  rw [hlen, ← hm] at hC
  have key := Aside0.mk (sat_Count_45.calls (some ⟨b, 0, none⟩) k (cs.map toS) (cs.map toS) w hC (by omega) (by unfold sat_Count_45.f; simp; omega))
  rw [hm] at key
  replace hm := Aside0.mk hm
  clear hC hlen
  go_enter Try.func33, Try.ntmps33
  go_wp2_with (go_at_call 45; refine key.out.mono ?_; rintro r w1 ⟨v, rfl, hR, hB⟩; obtain ⟨A, m, q, rfl, hmm⟩ := R_sl hR; obtain rfl := hmm.trans hm.out; clear hmm; have HR := Aside0.mk (And.intro hR hB); clear hR hB)
  go_ret
  exact ⟨A, q, rfl, HR.out.1, Only.of_below HR.out.2 (fun j hj _ => hj)⟩
set_option maxHeartbeats 4000000 in
set_option maxRecDepth 1000000 in
theorem isfull_walk (w : World) (n : Int) (f : Bool) : Calls Try.prog 52 #[.agg #[.int .u64 n, .bool f]] w fun r w' => r = .returned (.bool f) ∧ Only (fun _ => False) w w' := by
  have hx := Aside0.mk ((Only.refl (fun _ => False) w).alloc (.cells #[.int .u64 n, .bool f] 26))
  go_enter Try.func52, Try.ntmps52
  go_wp2
  go_ret
  exact ⟨rfl, hx.out⟩
set_option maxHeartbeats 4000000 in
set_option maxRecDepth 1000000 in
theorem none_walk (w : World) (A : Option Addr) (m q : Nat) (Z : List S26) (hC : Kd.C k26 w A m Z) (hm : m ≤ 1000) (hz : ∀ x ∈ Z, x.f1 = false) :
    Calls Try.prog 54 #[.slice A m q, .func (.func 52) #[] #[]] w fun r w' => r = .returned (.int .i64 (-1)) ∧ Only (fun _ => False) w w' := by
  have HC := Aside0.mk hC
  have HZ := Aside0.mk hz
  have Hm := Aside0.mk hC.1
  clear hC hz
  go_enter Try.func54, Try.ntmps54
  go_wp2
  go_loopg [8] (m + 1) (fun kq v8 wr => ∃ i : Nat, v8 = .int .i64 (i : Int) ∧ i ≤ m ∧ m - i < kq ∧ Aside0 (Only (fun _ => False) w wr))
  case atStart => exact ⟨0, rfl, by omega, by omega, ⟨Only.refl _ w⟩⟩
  case round =>
    obtain ⟨i, rfl, hi, hk, HO⟩ := hrel
    obtain ⟨k1, rfl⟩ : ∃ m, gk = m + 1 := ⟨gk - 1, by omega⟩
    by_cases hin : i < m
    · have hinI : (i : Int) < (m : Int) := by omega
      have hi0 : (0 : Int) ≤ (i : Int) := by omega
      obtain ⟨ad, rfl, hx, hy⟩ := at_T26 (Kd.C_below HC.out (below_of HO.out)) (i : Int) (by omega) (by omega)
      have hf : (rd_T26 Z (i : Int)).f1 = false := by
        have hiZ : i < Z.length := by rw [Hm.out]; exact hin
        have e : rd_T26 Z (i : Int) = Z[i] := by
          unfold rd_T26
          rw [Int.toNat_natCast, List.getD_eq_getElem?_getD, List.getElem?_eq_getElem hiZ]; rfl
        rw [e]; exact HZ.out _ (List.getElem_mem hiZ)
      rw [hf] at hy
      rw [Int.toNat_natCast] at hx hy
      generalize (rd_T26 Z (i : Int)).f0 = n at hx
      clear hf
      go_wp2_with (go_at_call 52; refine (isfull_walk _ n false).mono ?_; rintro r w1 ⟨rfl, ho1⟩; replace HO := Aside0.mk (HO.out.trans ho1); clear ho1)
      go_roundg k1
      case measure => omega
      case rel => exact ⟨i + 1, by first | rfl | simp, by omega, by omega, HO⟩
    · have hinI : ¬ (i : Int) < (m : Int) := by omega
      go_wp2
      go_ret
      exact ⟨rfl, HO.out⟩
set_option maxHeartbeats 4000000 in
set_option maxRecDepth 1000000 in
theorem nowhere_walk (w : World) (A : Option Addr) (m q : Nat) (Z : List S26) (hC : Kd.C k26 w A m Z) (hm : m ≤ 1000) (hz : ∀ x ∈ Z, x.f1 = false) :
    Calls Try.prog 51 #[.slice A m q, .func (.func 52) #[] #[]] w fun r w' => r = .returned (.bool false) ∧ Only (fun _ => False) w w' := by
  have key := Aside0.mk (none_walk w A m q Z hC hm hz)
  clear hC hz
  go_enter Try.func51, Try.ntmps51
  go_wp2_with (go_at_call 54; refine key.out.mono ?_; rintro r w1 ⟨rfl, ho1⟩)
  go_ret
  exact ⟨by first | rfl | simp, ho1⟩
set_option maxHeartbeats 4000000 in
set_option maxRecDepth 1000000 in
theorem full_walk (w : World) (lo hi N b k : Nat) (v0 : Value) (bs : List Nat) (cs : List (Nat × Bool)) (n : Nat) (s : Nat × Bool) (h : Hc w lo hi N b k v0 bs cs (n, false) s) (hl : bs.length ≤ 32) (hf : ∀ x ∈ cs, x.2 = false) :
    Calls Try.prog 41 #[.pointer (some ⟨N, 0, none⟩)] w fun r w' => r = .returned (.bool s.2) ∧ Only (fun _ => False) w w' := by
  have hlen := h.len
  have hC := C_of_row h.bow (by omega)
  rw [hlen] at hC
  have key := Aside0.mk (nowhere_walk w (some ⟨b, 0, none⟩) (bs.length + 1) k (cs.map toS) hC (by omega) (by intro x hx; obtain ⟨y, hy, rfl⟩ := List.mem_map.1 hx; exact hf y hy))
  obtain ⟨⟨c0, c1⟩, ⟨c2, c2f⟩, ⟨c3, c3f⟩, ⟨c4, c4f⟩, c5, c5f⟩ := h.cells
  clear h hC hlen hf
  obtain ⟨s, f⟩ := s
  simp only at c2 c3 c4 c5 ⊢
  cases f with
  | true =>
    go_enter Try.func41, Try.ntmps41
    go_wp2
    go_ret
    exact ⟨by first | rfl | simp, Only.refl _ w⟩
  | false =>
    go_enter Try.func41, Try.ntmps41
    go_wp2_with (go_at_call 51; refine key.out.mono ?_; rintro r w1 ⟨rfl, ho1⟩)
    go_ret
    exact ⟨by first | rfl | simp, ho1⟩
end Go.Proofs.Ytdcbhakclhbdpaa.Hi

namespace Go.Proofs.Ytdcbhakclhbdpaa.Hi
open Go.RowKit Go.Shelf Go.Proofs.YtdcbhakclhbdpaaW.PrintWords Go.Proofs.YtdcbhakclhbdpaaW.PrintLast
open Go.Proofs.Ytdcbhakclhbdpaa.Ob Go.Proofs.Ytdcbhakclhbdpaa.XH
set_option linter.unusedSimpArgs false
set_option linter.unusedVariables false

theorem join_walk1 (c d : Nat × Bool) (hc : c.1 ≤ most) (W : World) : Calls Try.prog 18 #[.agg #[.int .u64 (c.1 : Int), .bool c.2], .agg #[.int .u64 (d.1 : Int), .bool d.2]] W fun r w' => r = .returned (.agg #[.int .u64 ((joinC c d).1 : Int), .bool (joinC c d).2]) ∧ Only (fun _ => False) W w' := by
  refine (sat_Count_Join.calls _ _ _ _ _ _ W (join_f c d hc)).mono ?_
  rintro r w' ⟨rfl, hb⟩
  exact ⟨rfl, Only.of_below hb (fun k hk _ => hk)⟩
set_option maxHeartbeats 4000000 in
theorem put_nil (x : Int) (w : World) : Calls Try.prog 32 #[.pointer none, .int .u64 x] w fun r w' => r = .returned (.int .i64 3) ∧ w' = w := by
  go_enter Try.func32, Try.ntmps32
  go_wp2
  go_ret
  exact ⟨rfl, rfl⟩
set_option maxHeartbeats 4000000 in
theorem join_nil (p : Value) (w : World) : Calls Try.prog 40 #[.pointer none, p] w fun r w' => r = .returned (.int .i64 3) ∧ w' = w := by
  go_enter Try.func40, Try.ntmps40
  go_wp2
  go_ret
  exact ⟨rfl, rfl⟩
set_option maxHeartbeats 4000000 in
theorem join_nil2 (N : Nat) (w : World) : Calls Try.prog 40 #[.pointer (some ⟨N, 0, none⟩), .pointer none] w fun r w' => r = .returned (.int .i64 3) ∧ w' = w := by
  go_enter Try.func40, Try.ntmps40
  go_wp2
  go_ret
  exact ⟨rfl, rfl⟩
set_option maxHeartbeats 4000000 in
theorem buckets_nil (w : World) : Calls Try.prog 33 #[.pointer none] w fun r w' => r = .returned (.slice none 0 0) ∧ w' = w := by
  go_enter Try.func33, Try.ntmps33
  go_wp2
  go_ret
  exact ⟨rfl, rfl⟩
set_option maxHeartbeats 4000000 in
theorem full_nil (w : World) : Calls Try.prog 41 #[.pointer none] w fun r w' => r = .returned (.bool false) ∧ w' = w := by
  go_enter Try.func41, Try.ntmps41
  go_wp2
  go_ret
  exact ⟨by first | rfl | simp, rfl⟩
set_option maxHeartbeats 4000000 in
theorem count_nil (w : World) : Calls Try.prog 35 #[.pointer none] w fun r w' => r = .returned (.agg #[.int .u64 0, .bool false]) ∧ Only (fun _ => False) w w' := by
  go_enter Try.func35, Try.ntmps35
  go_wp2
  refine bodyPost_ret (results_cell_row rfl _ _ w.heap.size 26 #[.int .u64 0, .bool false] (0, 0) _ rfl (blk_new w _) Try.underlying26 rfl (by kernel_rfl)) rfl ?_
  exact ⟨rfl, (Only.refl _ w).alloc _⟩
set_option maxHeartbeats 4000000 in
theorem sum_nil (w : World) : Calls Try.prog 36 #[.pointer none] w fun r w' => r = .returned (.agg #[.int .u64 0, .bool false]) ∧ Only (fun _ => False) w w' := by
  go_enter Try.func36, Try.ntmps36
  go_wp2
  refine bodyPost_ret (results_cell_row rfl _ _ w.heap.size 26 #[.int .u64 0, .bool false] (0, 0) _ rfl (blk_new w _) Try.underlying26 rfl (by kernel_rfl)) rfl ?_
  exact ⟨rfl, (Only.refl _ w).alloc _⟩
theorem equal_loop (bs : List Nat) (hl : bs.length ≤ 1000) : ∀ (d i k : Nat), i + d = bs.length → d < k → slices_Equal_uint64_uint64.l0 k (ofN bs) (ofN bs) (bs.length : Int) (i : Int) = some true := by
  intro d
  induction d with
  | zero =>
    intro i k hi hk
    obtain ⟨k, rfl⟩ : ∃ m, k = m + 1 := ⟨k - 1, by omega⟩
    rw [slices_Equal_uint64_uint64.l0, if_neg (by omega)]
  | succ d ih =>
    intro i k hi hk
    obtain ⟨k, rfl⟩ : ∃ m, k = m + 1 := ⟨k - 1, by omega⟩
    rw [slices_Equal_uint64_uint64.l0, if_pos (by omega), if_pos (by omega), if_pos (by rw [ofN_length]; omega), if_pos (by rw [ofN_length]; omega), if_pos rfl, show wrap64 ((i : Int) + 1) = ((i + 1 : Nat) : Int) by rw [IntWalk.wrap64_in _ (by omega)]; omega]
    exact ih (i + 1) k (by omega) (by omega)
theorem equal_walk (W : World) (A A' : Option Addr) (n c c' : Nat) (bs : List Nat) (hC : Kd.C (Kd.int .u64) W A n (ofN bs)) (hC' : Kd.C (Kd.int .u64) W A' n (ofN bs)) (hn : n = bs.length) (hc : n ≤ c) (hc' : n ≤ c') (hl : n ≤ 1000) :
    Calls Try.prog 50 #[.slice A n c, .slice A' n c'] W fun r w' => r = .returned (.bool true) ∧ ∃ j, w' = W.drewN j := by
  have e : n = (ofN bs).length := by rw [ofN_length, hn]
  subst e
  refine (slices_Equal_uint64_uint64.calls (bs.length + 1) A c (ofN bs) A' c' (ofN bs) true W hC hc hC' hc' ?_).mono ?_
  · unfold slices_Equal_uint64_uint64.f
    rw [if_pos rfl, ofN_length]
    exact equal_loop bs (by rw [ofN_length] at hl; exact hl) bs.length 0 _ (by omega) (by omega)
  · rintro r w' ⟨rfl, j, rfl⟩
    exact ⟨rfl, j, rfl⟩
theorem differ_walk (W : World) (A A' : Option Addr) (n n' c c' : Nat) (bs bs' : List Nat) (hC : Kd.C (Kd.int .u64) W A n (ofN bs)) (hC' : Kd.C (Kd.int .u64) W A' n' (ofN bs')) (hn : n = bs.length) (hn' : n' = bs'.length) (hc : n ≤ c) (hc' : n' ≤ c') (hne : n ≠ n') :
    Calls Try.prog 50 #[.slice A n c, .slice A' n' c'] W fun r w' => r = .returned (.bool false) ∧ ∃ j, w' = W.drewN j := by
  have e : n = (ofN bs).length := by rw [ofN_length, hn]
  have e' : n' = (ofN bs').length := by rw [ofN_length, hn']
  subst e e'
  refine (slices_Equal_uint64_uint64.calls 1 A c (ofN bs) A' c' (ofN bs') false W hC hc hC' hc' ?_).mono ?_
  · unfold slices_Equal_uint64_uint64.f
    rw [if_neg (by omega)]
  · rintro r w' ⟨rfl, j, rfl⟩
    exact ⟨rfl, j, rfl⟩
/-- The two within Join. -/
structure Jn (w W : World) (lo hi N b k : Nat) (v0 : Value) (lo' hi' N' b' k' : Nat) (v0' : Value) (bs : List Nat) (cs cs' : List (Nat × Bool)) (c s c' s' : Nat × Bool) : Prop where
  h : Hc W lo hi N b k v0 bs cs c s
  o : Hc W lo' hi' N' b' k' v0' bs cs' c' s'
  k : Only (fun j => j = N ∨ j = b) w W
  dj : hi ≤ lo' ∨ hi' ≤ lo
section
variable {w W W' : World} {lo hi N b k lo' hi' N' b' k' : Nat} {v0 v0' : Value} {bs : List Nat} {cs cs' : List (Nat × Bool)} {c s c' s' : Nat × Bool}
theorem Jn.keep (h : Jn w W lo hi N b k v0 lo' hi' N' b' k' v0' bs cs cs' c s c' s') (o : Only (fun _ => False) W W') : Jn w W' lo hi N b k v0 lo' hi' N' b' k' v0' bs cs cs' c s c' s' :=
  ⟨h.h.keep o, h.o.keep o, h.k.trans (o.mono fun _ e => e.elim), h.dj⟩
theorem Jn.drew (h : Jn w W lo hi N b k v0 lo' hi' N' b' k' v0' bs cs cs' c s c' s') : Jn w W.drew lo hi N b k v0 lo' hi' N' b' k' v0' bs cs cs' c s c' s' := h.keep (Only.refl _ W).drew
theorem Jn.drewN (h : Jn w W lo hi N b k v0 lo' hi' N' b' k' v0' bs cs cs' c s c' s') (m : Nat) : Jn w (W.drewN m) lo hi N b k v0 lo' hi' N' b' k' v0' bs cs cs' c s c' s' := h.keep ((Only.refl _ W).drewN m)
theorem Jn.far (h : Jn w W lo hi N b k v0 lo' hi' N' b' k' v0' bs cs cs' c s c' s') : ∀ j, lo' ≤ j → j < hi' → ¬ (j = N ∨ j = b) := fun j h1 h2 e => by
  have := h.h.wn; have := h.h.wb; have := h.dj
  rcases e with rfl | rfl <;> omega
theorem Jn.setB (h : Jn w W lo hi N b k v0 lo' hi' N' b' k' v0' bs cs cs' c s c' s') (i : Nat) (d : Nat × Bool) (hlt : i < cs.length) : Jn w ((W.setCell ⟨b, i * 2, none⟩ (.int .u64 (d.1 : Int))).setCell ⟨b, i * 2 + 1, none⟩ (.bool d.2)) lo hi N b k v0 lo' hi' N' b' k' v0' bs (cs.set i d) cs' c s c' s' := by
  have o : Only (fun j => j = N ∨ j = b) W ((W.setCell ⟨b, i * 2, none⟩ (.int .u64 (d.1 : Int))).setCell ⟨b, i * 2 + 1, none⟩ (.bool d.2)) := ((Only.refl (fun j => j = N ∨ j = b) W).setCell ⟨b, i * 2, none⟩ _ (.inr rfl)).setCell ⟨b, i * 2 + 1, none⟩ _ (.inr rfl)
  exact ⟨h.h.setB i d hlt, h.o.only o h.far, h.k.trans o, h.dj⟩
theorem Jn.fin (h : Jn w W lo hi N b k v0 lo' hi' N' b' k' v0' bs cs cs' c s c' s') {x y : Nat × Bool} : Jn w ((((W.setCell ⟨N, 2, none⟩ (.int .u64 (x.1 : Int))).setCell ⟨N, 3, none⟩ (.bool x.2)).setCell ⟨N, 4, none⟩ (.int .u64 (y.1 : Int))).setCell ⟨N, 5, none⟩ (.bool y.2)) lo hi N b k v0 lo' hi' N' b' k' v0' bs cs cs' x y c' s' := by
  have o : Only (fun j => j = N ∨ j = b) W ((((W.setCell ⟨N, 2, none⟩ (.int .u64 (x.1 : Int))).setCell ⟨N, 3, none⟩ (.bool x.2)).setCell ⟨N, 4, none⟩ (.int .u64 (y.1 : Int))).setCell ⟨N, 5, none⟩ (.bool y.2)) := ((((Only.refl (fun j => j = N ∨ j = b) W).setCell ⟨N, 2, none⟩ _ (.inl rfl)).setCell ⟨N, 3, none⟩ _ (.inl rfl)).setCell ⟨N, 4, none⟩ _ (.inl rfl)).setCell ⟨N, 5, none⟩ _ (.inl rfl)
  exact ⟨(h.h.setC x).setS y, h.o.only o h.far, h.k.trans o, h.dj⟩
end
/-- The same words for the clones of the other one's buckets. -/
theorem R_away {W W' : World} {B lo hi N b k : Nat} {v0 v : Value} {bs : List Nat} {cs : List (Nat × Bool)} {c s : Nat × Bool} {Z : List S26} (h : Hc W lo hi N b k v0 bs cs c s) (hB : hi ≤ B) (hR : Kd.R k26 26 W B (fun _ => True) v Z) (o : Only (fun j => j = N ∨ j = b) W W') : Kd.R k26 26 W' B (fun _ => True) v Z :=
  R_only hR o (fun j _ hj _ e => by have := h.wn; have := h.wb; rcases e with rfl | rfl <;> omega)
set_option maxHeartbeats 8000000 in
set_option maxRecDepth 1000000 in
theorem joinlen_walk (w : World) (lo hi N b k : Nat) (v0 : Value) (lo' hi' N' b' k' : Nat) (v0' : Value) (bs bs' : List Nat) (cs cs' : List (Nat × Bool)) (c s c' s' : Nat × Bool) (h : Hc w lo hi N b k v0 bs cs c s) (o : Hc w lo' hi' N' b' k' v0' bs' cs' c' s') (hne : bs.length ≠ bs'.length) :
    Calls Try.prog 40 #[.pointer (some ⟨N, 0, none⟩), .pointer (some ⟨N', 0, none⟩)] w fun r w' => r = .returned (.int .i64 1) ∧ Only (fun _ => False) w w' := by
  obtain ⟨A, q, rfl, hq, hC⟩ := h.bounds
  obtain ⟨A', q', rfl, hq', hC'⟩ := o.bounds
  have c0 := h.cells.1.1
  have d0 := o.cells.1.1
  have key := Aside0.mk (fun m => differ_walk (w.drewN m) A A' bs.length bs'.length q q' bs bs' (Kd.C_drewN hC m) (Kd.C_drewN hC' m) rfl rfl hq hq' hne)
  clear h o hC hC'
  generalize bs.length = n at key c0 hne hq
  generalize bs'.length = n' at key d0 hne hq'
  go_enter Try.func40, Try.ntmps40
  go_wp2
  go_quiet (first | (go_at_call 50; exact Calls.quiet_of (key.out _)))
  go_wp2
  go_ret
  exact ⟨rfl, (Only.refl _ w).drewN _⟩
/-- A clone's cells. -/
theorem clone_at {W : World} {A : Option Addr} {m : Nat} {cs : List (Nat × Bool)} (hC : Kd.C k26 W A m (cs.map toS)) (i : Nat) (hi : i < cs.length) : ∃ ad, A = some ad ∧ W.cell? (ad.add (i * 2)) = some (.int .u64 ((cs[i]).1 : Int)) ∧ W.cell? ⟨(ad.add (i * 2)).block, (ad.add (i * 2)).off + 1, none⟩ = some (.bool (cs[i]).2) := by
  have hm : (cs.map toS).length = m := hC.1
  rw [List.length_map] at hm
  obtain ⟨ad, e, hx, hy⟩ := at_T26 hC (i : Int) (by omega) (by omega)
  have e2 : rd_T26 (cs.map toS) (i : Int) = toS cs[i] := by
    unfold rd_T26
    rw [Int.toNat_natCast, List.getD_eq_getElem?_getD, List.getElem?_map, List.getElem?_eq_getElem hi]; rfl
  rw [e2, Int.toNat_natCast] at hx hy
  exact ⟨ad, e, hx, hy⟩
/-- The buckets within Join: the first i are joined. -/
structure DD (n i : Nat) (D T cs : List (Nat × Bool)) : Prop where
  len : D.length = n + 1
  lo : ∀ j, j < i → D[j]? = T[j]?
  hi : ∀ j, i ≤ j → D[j]? = cs[j]?
theorem DD.next {n i : Nat} {D T cs : List (Nat × Bool)} {x : Nat × Bool} (h : DD n i D T cs) (hi : i < n + 1) (hx : T[i]? = some x) : DD n (i + 1) (D.set i x) T cs := by
  refine ⟨by rw [List.length_set]; exact h.len, fun j hj => ?_, fun j hj => ?_⟩
  · rw [List.getElem?_set]
    by_cases e : i = j
    · subst e; rw [if_pos rfl, if_pos (by rw [h.len]; exact hi), hx]
    · rw [if_neg e]; exact h.lo j (by omega)
  · rw [List.getElem?_set, if_neg (by omega)]; exact h.hi j (by omega)
theorem DD.all {n : Nat} {D T cs : List (Nat × Bool)} (h : DD n (n + 1) D T cs) (hT : T.length = n + 1) : D = T := by
  apply List.ext_getElem?
  intro j
  by_cases e : j < n + 1
  · exact h.lo j e
  · rw [List.getElem?_eq_none (by rw [h.len]; omega), List.getElem?_eq_none (by omega)]
set_option maxHeartbeats 16000000 in
set_option maxRecDepth 1000000 in
theorem join_walk (w : World) (lo hi N b k : Nat) (v0 : Value) (lo' hi' N' b' k' : Nat) (v0' : Value) (bs : List Nat) (cs cs' : List (Nat × Bool)) (c s c' s' : Nat × Bool) (h : Hc w lo hi N b k v0 bs cs c s) (o : Hc w lo' hi' N' b' k' v0' bs cs' c' s') (dj : hi ≤ lo' ∨ hi' ≤ lo) (hl : bs.length ≤ 32) (hcs : ∀ x ∈ cs, x.1 ≤ most) (hc : c.1 ≤ most) (hs : s.1 ≤ most) (T : List (Nat × Bool)) (hT : T.length = bs.length + 1) (hTj : ∀ j (h1 : j < cs.length) (h2 : j < cs'.length), T[j]? = some (joinC cs[j] cs'[j])) :
    Calls Try.prog 40 #[.pointer (some ⟨N, 0, none⟩), .pointer (some ⟨N', 0, none⟩)] w fun r w' => r = .returned (.int .i64 0) ∧ Jn w w' lo hi N b k v0 lo' hi' N' b' k' v0' bs T cs' (joinC c c') (joinC s s') c' s' := by
  obtain ⟨A, q, rfl, hq, hC⟩ := h.bounds
  obtain ⟨A', q', rfl, hq', hC'⟩ := o.bounds
  obtain ⟨⟨c0, c1⟩, c2, c3, c4, c5⟩ := h.cells
  have d0 := o.cells.1.1
  have htop := Aside0.mk h.top
  have hlc := h.len
  have hlc' := o.len
  have key := Aside0.mk (fun m => equal_walk (w.drewN m) A A' bs.length q q' bs (Kd.C_drewN hC m) (Kd.C_drewN hC' m) rfl hq hq' (by omega))
  have H := Aside0.mk (Jn.mk h o (Only.refl _ w) dj)
  have hbk := Aside0.mk (fun m => buckets_walk (w.drewN m) lo' hi' N' b' k' _ bs cs' c' s' (H.out.drewN m).o hl)
  clear h o hC hC'
  replace hcs := Aside0.mk hcs
  replace hc := Aside0.mk hc
  replace hs := Aside0.mk hs
  replace hT := Aside0.mk hT
  replace hTj := Aside0.mk hTj
  replace hlc := Aside0.mk hlc
  replace hlc' := Aside0.mk hlc'
  generalize hn : bs.length = n at key hbk c0 c1 d0 hq hq' H hlc hlc' hT hl
  replace hn := Aside0.mk hn
  go_enter Try.func40, Try.ntmps40
  go_wp2
  go_quiet (first | (go_at_call 50; exact Calls.quiet_of (key.out _)))
  go_wp2_with (go_at_call 33; refine (hbk.out _).mono ?_; rintro r w2 ⟨A2, q2, rfl, hR, ho⟩; have HR := Aside0.mk (show Kd.R k26 26 w2 w.heap.size (fun _ => True) (.slice A2 (n + 1) q2) (cs'.map toS) from hR); replace H := Aside0.mk ((H.out.drewN _).keep ho); clear hR ho c0 c1 c2 c3 c4 c5 d0 key hbk)
  go_loopg [28] (n + 2) (fun kq v28 wr => ∃ (i : Nat) (D : List (Nat × Bool)), v28 = .int .i64 (i : Int) ∧ i ≤ n + 1 ∧ n + 1 - i < kq ∧ Aside0 (DD n i D T cs) ∧ Aside0 (Jn w wr lo hi N b k (.slice A n q) lo' hi' N' b' k' (.slice A' n q') bs D cs' c s c' s') ∧ Aside0 (Kd.R k26 26 wr w.heap.size (fun _ => True) (.slice A2 (n + 1) q2) (cs'.map toS)))
  case atStart => exact ⟨0, cs, rfl, by omega, by omega, ⟨⟨by rw [hlc.out], fun j hj => by omega, fun j _ => rfl⟩⟩, H, HR⟩
  case round =>
    clear H HR
    obtain ⟨i, D, rfl, hi1, hk, HD, H, HR⟩ := hrel
    obtain ⟨k1, rfl⟩ : ∃ m, gk = m + 1 := ⟨gk - 1, by omega⟩
    by_cases hin : i < n + 1
    · have hinI : (i : Int) < ((n : Int) + 1) := by omega
      have hi0 : (0 : Int) ≤ (i : Int) := by omega
      have hic : i < cs.length := by rw [hlc.out]; exact hin
      have hic' : i < cs'.length := by rw [hlc'.out]; exact hin
      have hiD : i < D.length := by rw [HD.out.len]; exact hin
      have hDi : D[i] = cs[i] := by
        have := HD.out.hi i (Nat.le_refl _)
        rw [List.getElem?_eq_getElem hiD, List.getElem?_eq_getElem hic] at this
        exact Option.some.inj this
      obtain ⟨ad, rfl, hx, hy⟩ := clone_at (Kd.R_reads' HR.out).2.2 i hic'
      have hTi := Aside0.mk (hTj.out i hic hic')
      have hset := Aside0.mk (fun W (hW : Jn w W lo hi N b k (.slice A n q) lo' hi' N' b' k' (.slice A' n q') bs D cs' c s c' s') => hW.setB i (joinC cs[i] cs'[i]) hiD)
      have hat := Aside0.mk (fun W (hW : Jn w W lo hi N b k (.slice A n q) lo' hi' N' b' k' (.slice A' n q') bs D cs' c s c' s') => hW.h.at_ i hiD)
      rw [hDi] at hat
      have hdm := Aside0.mk (hcs.out _ (List.getElem_mem hic))
      have hnx := Aside0.mk (HD.out.next hin hTi.out)
      clear hDi hTi
      generalize cs[i] = d at hset hat hdm hnx
      generalize cs'[i] = e at hx hy hset hnx
      have HB := Aside0.mk (show ∀ W, Only (fun _ => False) (wr.alloc (.cells #[.int .u64 (e.1 : Int), .bool e.2] 26)) W → W.cell? ⟨wr.heap.size, 0, none⟩ = some (.int .u64 (e.1 : Int)) ∧ W.cell? ⟨wr.heap.size, 1, none⟩ = some (.bool e.2) from fun W hW => ⟨(((Row.new wr [.int .u64 (e.1 : Int), .bool e.2] 26).only hW id) 0 _ rfl).1, (((Row.new wr [.int .u64 (e.1 : Int), .bool e.2] 26).only hW id) 1 _ rfl).1⟩)
      have HN := Aside0.mk (H.out.keep ((Only.refl _ wr).alloc (.cells #[.int .u64 (e.1 : Int), .bool e.2] 26)))
      have HRN := Aside0.mk (R_away H.out.h htop.out HR.out ((Only.refl _ wr).alloc (.cells #[.int .u64 (e.1 : Int), .bool e.2] 26)))
      clear H HR
      go_wp2
      have c1 := HN.out.h.cells.1.2
      rw [hn.out] at c1
      obtain ⟨⟨b0, b0f⟩, b1, b1f⟩ := hat.out _ HN.out
      obtain ⟨x0, x1⟩ := HB.out _ (Only.refl _ _)
      have hS := (show (fun w' : World => w'.cell? ⟨N, 1, none⟩ = some (.slice (some ⟨b, 0, none⟩) (n + 1) k) ∧ w'.cell? ⟨b, i * 2, none⟩ = some (.int .u64 (d.1 : Int)) ∧ w'.cell? ⟨b, i * 2 + 1, none⟩ = some (.bool d.2) ∧ w'.cell? ⟨wr.heap.size, 0, none⟩ = some (.int .u64 (e.1 : Int)) ∧ w'.cell? ⟨wr.heap.size, 1, none⟩ = some (.bool e.2)) ((wr.alloc (.cells #[.int .u64 (e.1 : Int), .bool e.2] 26)).drew) from ⟨c1, b0, b1, x0, x1⟩)
      refine start_ (n := 16) (S := fun w' : World => w'.cell? ⟨N, 1, none⟩ = some (.slice (some ⟨b, 0, none⟩) (n + 1) k) ∧ w'.cell? ⟨b, i * 2, none⟩ = some (.int .u64 (d.1 : Int)) ∧ w'.cell? ⟨b, i * 2 + 1, none⟩ = some (.bool d.2) ∧ w'.cell? ⟨wr.heap.size, 0, none⟩ = some (.int .u64 (e.1 : Int)) ∧ w'.cell? ⟨wr.heap.size, 1, none⟩ = some (.bool e.2)) (ds := [15]) #[false, false, false, false, false, false, false, false, false, false, false, false, false, false, false, false] (by kernel_rfl) rfl rfl hS (fun hHeld => ?_)
      clear hS
      refine pure_ (i := 0) (N := some 33) (v := ?_) (a' := ?_) #[true, false, false, false, false, false, false, false, false, false, false, false, false, false, false, false] rfl rfl (by kernel_rfl) (fun _ _ _ h => h) (Or.inl ⟨by rfl, ?_⟩) ?_ ?_
      rotate_left
      · intro w'
        go_simp
        with_reducible rfl
      rotate_left
      · simp only [Act.put, List.setIfInBounds_toArray, List.set_cons_zero, List.set_cons_succ, i64_w, i32_w]
        rfl
      refine pure_ (i := 1) (N := some 34) (v := ?_) (a' := ?_) #[true, true, false, false, false, false, false, false, false, false, false, false, false, false, false, false] rfl rfl (by kernel_rfl) (fun _ _ _ h => h) (Or.inl ⟨by rfl, ?_⟩) ?_ ?_
      rotate_left
      · intro w'
        go_simp
        with_reducible rfl
      rotate_left
      · simp only [Act.put, List.setIfInBounds_toArray, List.set_cons_zero, List.set_cons_succ, i64_w, i32_w]
        rfl
      refine pure_ (i := 2) (N := some 35) (v := ?_) (a' := ?_) #[true, true, true, false, false, false, false, false, false, false, false, false, false, false, false, false] rfl rfl (by kernel_rfl) (fun _ _ _ h => h) (Or.inl ⟨by rfl, ?_⟩) ?_ ?_
      rotate_left
      · intro w'
        go_simp
        with_reducible rfl
      rotate_left
      · simp only [Act.put, List.setIfInBounds_toArray, List.set_cons_zero, List.set_cons_succ, i64_w, i32_w]
        rfl
      refine take_ (i := 3) (N := some 36) (v := ?_) (a' := ?_) #[true, true, true, true, false, false, false, false, false, false, false, false, false, false, false, false] rfl rfl (by kernel_rfl) (fun _ _ _ h => h) (Or.inl ⟨by rfl, ?_⟩) hHeld ?_ ?_
      rotate_left
      · rintro w' ⟨s0, s1, s2, s3, s4⟩
        go_simp
        with_reducible rfl
      rotate_left
      · simp only [Act.put, List.setIfInBounds_toArray, List.set_cons_zero, List.set_cons_succ, i64_w, i32_w]
        rfl
      refine pure_ (i := 4) (N := some 37) (v := ?_) (a' := ?_) #[true, true, true, true, true, false, false, false, false, false, false, false, false, false, false, false] rfl rfl (by kernel_rfl) (fun _ _ _ h => h) (Or.inl ⟨by rfl, ?_⟩) ?_ ?_
      rotate_left
      · intro w'
        go_simp
        with_reducible rfl
      rotate_left
      · simp only [Act.put, List.setIfInBounds_toArray, List.set_cons_zero, List.set_cons_succ, i64_w, i32_w]
        rfl
      refine pure_ (i := 5) (N := some 38) (v := ?_) (a' := ?_) #[true, true, true, true, true, true, false, false, false, false, false, false, false, false, false, false] rfl rfl (by kernel_rfl) (fun _ _ _ h => h) (Or.inl ⟨by rfl, ?_⟩) ?_ ?_
      rotate_left
      · intro w'
        go_simp
        with_reducible rfl
      rotate_left
      · simp only [Act.put, List.setIfInBounds_toArray, List.set_cons_zero, List.set_cons_succ, i64_w, i32_w]
        rfl
      refine pure_ (i := 6) (N := some 39) (v := ?_) (a' := ?_) #[true, true, true, true, true, true, true, false, false, false, false, false, false, false, false, false] rfl rfl (by kernel_rfl) (fun _ _ _ h => h) (Or.inl ⟨by rfl, ?_⟩) ?_ ?_
      rotate_left
      · intro w'
        go_simp
        with_reducible rfl
      rotate_left
      · simp only [Act.put, List.setIfInBounds_toArray, List.set_cons_zero, List.set_cons_succ, i64_w, i32_w]
        rfl
      refine pure_ (i := 7) (N := some 40) (v := ?_) (a' := ?_) #[true, true, true, true, true, true, true, true, false, false, false, false, false, false, false, false] rfl rfl (by kernel_rfl) (fun _ _ _ h => h) (Or.inl ⟨by rfl, ?_⟩) ?_ ?_
      rotate_left
      · intro w'
        go_simp
        with_reducible rfl
      rotate_left
      · simp only [Act.put, List.setIfInBounds_toArray, List.set_cons_zero, List.set_cons_succ, i64_w, i32_w]
        rfl
      refine take_ (i := 8) (N := some 41) (v := ?_) (a' := ?_) #[true, true, true, true, true, true, true, true, true, false, false, false, false, false, false, false] rfl rfl (by kernel_rfl) (fun _ _ _ h => h) (Or.inl ⟨by rfl, ?_⟩) hHeld ?_ ?_
      rotate_left
      · rintro w' ⟨s0, s1, s2, s3, s4⟩
        go_simp
        with_reducible rfl
      rotate_left
      · simp only [Act.put, List.setIfInBounds_toArray, List.set_cons_zero, List.set_cons_succ, i64_w, i32_w]
        rfl
      refine pure_ (i := 9) (N := some 42) (v := ?_) (a' := ?_) #[true, true, true, true, true, true, true, true, true, true, false, false, false, false, false, false] rfl rfl (by kernel_rfl) (fun _ _ _ h => h) (Or.inl ⟨by rfl, ?_⟩) ?_ ?_
      rotate_left
      · intro w'
        go_simp
        with_reducible rfl
      rotate_left
      · simp only [Act.put, List.setIfInBounds_toArray, List.set_cons_zero, List.set_cons_succ, i64_w, i32_w]
        rfl
      refine pure_ (i := 10) (N := some 43) (v := ?_) (a' := ?_) #[true, true, true, true, true, true, true, true, true, true, true, false, false, false, false, false] rfl rfl (by kernel_rfl) (fun _ _ _ h => h) (Or.inl ⟨by rfl, ?_⟩) ?_ ?_
      rotate_left
      · intro w'
        go_simp
        with_reducible rfl
      rotate_left
      · simp only [Act.put, List.setIfInBounds_toArray, List.set_cons_zero, List.set_cons_succ, i64_w, i32_w]
        rfl
      refine take_ (i := 11) (N := some 44) (v := ?_) (a' := ?_) #[true, true, true, true, true, true, true, true, true, true, true, true, false, false, false, false] rfl rfl (by kernel_rfl) (fun _ _ _ h => h) (Or.inl ⟨by rfl, ?_⟩) hHeld ?_ ?_
      rotate_left
      · rintro w' ⟨s0, s1, s2, s3, s4⟩
        go_simp
        with_reducible rfl
      rotate_left
      · simp only [Act.put, List.setIfInBounds_toArray, List.set_cons_zero, List.set_cons_succ, i64_w, i32_w]
        rfl
      refine take_ (i := 12) (N := some 45) (v := ?_) (a' := ?_) #[true, true, true, true, true, true, true, true, true, true, true, true, true, false, false, false] rfl rfl (by kernel_rfl) (fun _ _ _ h => h) (Or.inl ⟨by rfl, ?_⟩) hHeld ?_ ?_
      rotate_left
      · rintro w' ⟨s0, s1, s2, s3, s4⟩
        go_simp
        with_reducible rfl
      rotate_left
      · simp only [Act.put, List.setIfInBounds_toArray, List.set_cons_zero, List.set_cons_succ, i64_w, i32_w]
        rfl
      clear b0 b0f b1 b1f c1 x0 x1
      refine one_ (i := 13) (N := some 46) #[true, true, true, true, true, true, true, true, true, true, true, true, true, true, false, false] rfl rfl (by kernel_rfl) (by decide) (fun K hK => ?_)
      refine goes_ Try.func18 (by kernel_rfl) rfl #[.agg #[.int .u64 (d.1 : Int), .bool d.2], .agg #[.int .u64 (e.1 : Int), .bool e.2]] (by rfl) rfl rfl (by (try simp only [List.map_toArray, List.map_cons, List.map_nil]); first | done | rfl) ?_
      refine (join_walk1 d e hdm.out _).mono ?_
      rintro r w3 ⟨rfl, ho3⟩
      replace ho3 := Aside0.mk ((Only.refl _ _).drew.trans ho3 : Only (fun _ => False) (wr.alloc (.cells #[.int .u64 (e.1 : Int), .bool e.2] 26)) w3)
      replace HN := Aside0.mk (HN.out.keep ho3.out)
      refine ⟨_, rfl, ?_⟩
      obtain ⟨⟨b0, b0f⟩, b1, b1f⟩ := hat.out _ HN.out
      have c1 := HN.out.h.cells.1.2
      rw [hn.out] at c1
      obtain ⟨x0, x1⟩ := HB.out _ ho3.out
      refine hK.out _ _ (⟨c1, b0, b1, x0, x1⟩) (fun hHeld => ?_)
      clear hK K
      refine norm_ (a' := ?_) ?_ ?_
      rotate_left
      · show Act.put _ (some 46) _ = _
        simp only [Act.put, List.setIfInBounds_toArray, List.set_cons_zero, List.set_cons_succ, i64_w, i32_w]
        rfl
      refine pure_ (i := 14) (N := some 47) (v := ?_) (a' := ?_) #[true, true, true, true, true, true, true, true, true, true, true, true, true, true, true, false] rfl rfl (by kernel_rfl) (fun _ _ _ h => h) (Or.inl ⟨by rfl, ?_⟩) ?_ ?_
      rotate_left
      · intro w'
        go_simp
        with_reducible rfl
      rotate_left
      · simp only [Act.put, List.setIfInBounds_toArray, List.set_cons_zero, List.set_cons_succ, i64_w, i32_w]
        rfl
      refine last_ (i := 15) (N := none) #[true, true, true, true, true, true, true, true, true, true, true, true, true, true, true, true] rfl rfl (by kernel_rfl) (by decide) (fun K hK => ?_)
      refine skip_ (w1 := ?_) (by rfl) rfl ?_ ?_
      rotate_left
      · go_simp
        rfl
      refine hK.out _ _ ?_
      clear hK K
      refine done_ (by kernel_rfl) ?_
      have H2 := Aside0.mk (hset.out _ HN.out)
      have HR2 := Aside0.mk (R_away HN.out.h htop.out (R_only HRN.out ho3.out (fun _ _ _ _ e => e)) (((Only.refl (fun j => j = N ∨ j = b) w3).setCell ⟨b, i * 2, none⟩ (.int .u64 ((joinC d e).1 : Int)) (.inr rfl)).setCell ⟨b, i * 2 + 1, none⟩ (.bool (joinC d e).2) (.inr rfl)))
      clear b0 b0f b1 b1f c1 x0 x1 hat hset hHeld HB HN HRN ho3
      go_wp2
      go_roundg k1
      case measure => omega
      case rel => exact ⟨i + 1, D.set i (joinC d e), by first | rfl | simp, by omega, by omega, hnx, H2, HR2⟩
    · have hinI : ¬ (i : Int) < ((n : Int) + 1) := by omega
      obtain rfl : i = n + 1 := by omega
      obtain rfl := HD.out.all hT.out
      clear HD HR
      go_wp2
      obtain ⟨⟨c0, c1⟩, ⟨c2, c2f⟩, ⟨c3, c3f⟩, ⟨c4, c4f⟩, c5, c5f⟩ := H.out.h.cells
      obtain ⟨⟨d0, d1⟩, ⟨d2, d2f⟩, ⟨d3, d3f⟩, ⟨d4, d4f⟩, d5, d5f⟩ := H.out.o.cells
      have hS := (show (fun w' : World => (w'.cell? ⟨N, 2, none⟩ = some (.int .u64 (c.1 : Int)) ∧ w'.cell? ⟨N, 3, none⟩ = some (.bool c.2)) ∧ (w'.cell? ⟨N, 4, none⟩ = some (.int .u64 (s.1 : Int)) ∧ w'.cell? ⟨N, 5, none⟩ = some (.bool s.2)) ∧ (w'.cell? ⟨N', 2, none⟩ = some (.int .u64 (c'.1 : Int)) ∧ w'.cell? ⟨N', 3, none⟩ = some (.bool c'.2)) ∧ (w'.cell? ⟨N', 4, none⟩ = some (.int .u64 (s'.1 : Int)) ∧ w'.cell? ⟨N', 5, none⟩ = some (.bool s'.2))) (wr.drew) from ⟨⟨c2, c3⟩, ⟨c4, c5⟩, ⟨d2, d3⟩, d4, d5⟩)
      refine start_ (n := 26) (S := fun w' : World => (w'.cell? ⟨N, 2, none⟩ = some (.int .u64 (c.1 : Int)) ∧ w'.cell? ⟨N, 3, none⟩ = some (.bool c.2)) ∧ (w'.cell? ⟨N, 4, none⟩ = some (.int .u64 (s.1 : Int)) ∧ w'.cell? ⟨N, 5, none⟩ = some (.bool s.2)) ∧ (w'.cell? ⟨N', 2, none⟩ = some (.int .u64 (c'.1 : Int)) ∧ w'.cell? ⟨N', 3, none⟩ = some (.bool c'.2)) ∧ (w'.cell? ⟨N', 4, none⟩ = some (.int .u64 (s'.1 : Int)) ∧ w'.cell? ⟨N', 5, none⟩ = some (.bool s'.2))) (ds := [22, 25]) #[false, false, false, false, false, false, false, false, false, false, false, false, false, false, false, false, false, false, false, false, false, false, false, false, false, false] (by kernel_rfl) rfl rfl hS (fun hHeld => ?_)
      clear hS
      refine pure_ (i := 0) (N := some 49) (v := ?_) (a' := ?_) #[true, false, false, false, false, false, false, false, false, false, false, false, false, false, false, false, false, false, false, false, false, false, false, false, false, false] rfl rfl (by kernel_rfl) (fun _ _ _ h => h) (Or.inl ⟨by rfl, ?_⟩) ?_ ?_
      rotate_left
      · intro w'
        go_simp
        with_reducible rfl
      rotate_left
      · simp only [Act.put, List.setIfInBounds_toArray, List.set_cons_zero, List.set_cons_succ, i64_w, i32_w]
        rfl
      refine pure_ (i := 1) (N := some 50) (v := ?_) (a' := ?_) #[true, true, false, false, false, false, false, false, false, false, false, false, false, false, false, false, false, false, false, false, false, false, false, false, false, false] rfl rfl (by kernel_rfl) (fun _ _ _ h => h) (Or.inl ⟨by rfl, ?_⟩) ?_ ?_
      rotate_left
      · intro w'
        go_simp
        with_reducible rfl
      rotate_left
      · simp only [Act.put, List.setIfInBounds_toArray, List.set_cons_zero, List.set_cons_succ, i64_w, i32_w]
        rfl
      refine pure_ (i := 2) (N := some 51) (v := ?_) (a' := ?_) #[true, true, true, false, false, false, false, false, false, false, false, false, false, false, false, false, false, false, false, false, false, false, false, false, false, false] rfl rfl (by kernel_rfl) (fun _ _ _ h => h) (Or.inl ⟨by rfl, ?_⟩) ?_ ?_
      rotate_left
      · intro w'
        go_simp
        with_reducible rfl
      rotate_left
      · simp only [Act.put, List.setIfInBounds_toArray, List.set_cons_zero, List.set_cons_succ, i64_w, i32_w]
        rfl
      refine pure_ (i := 3) (N := some 52) (v := ?_) (a' := ?_) #[true, true, true, true, false, false, false, false, false, false, false, false, false, false, false, false, false, false, false, false, false, false, false, false, false, false] rfl rfl (by kernel_rfl) (fun _ _ _ h => h) (Or.inl ⟨by rfl, ?_⟩) ?_ ?_
      rotate_left
      · intro w'
        go_simp
        with_reducible rfl
      rotate_left
      · simp only [Act.put, List.setIfInBounds_toArray, List.set_cons_zero, List.set_cons_succ, i64_w, i32_w]
        rfl
      refine pure_ (i := 4) (N := some 53) (v := ?_) (a' := ?_) #[true, true, true, true, true, false, false, false, false, false, false, false, false, false, false, false, false, false, false, false, false, false, false, false, false, false] rfl rfl (by kernel_rfl) (fun _ _ _ h => h) (Or.inl ⟨by rfl, ?_⟩) ?_ ?_
      rotate_left
      · intro w'
        go_simp
        with_reducible rfl
      rotate_left
      · simp only [Act.put, List.setIfInBounds_toArray, List.set_cons_zero, List.set_cons_succ, i64_w, i32_w]
        rfl
      refine pure_ (i := 6) (N := some 55) (v := ?_) (a' := ?_) #[true, true, true, true, true, false, true, false, false, false, false, false, false, false, false, false, false, false, false, false, false, false, false, false, false, false] rfl rfl (by kernel_rfl) (fun _ _ _ h => h) (Or.inl ⟨by rfl, ?_⟩) ?_ ?_
      rotate_left
      · intro w'
        go_simp
        with_reducible rfl
      rotate_left
      · simp only [Act.put, List.setIfInBounds_toArray, List.set_cons_zero, List.set_cons_succ, i64_w, i32_w]
        rfl
      refine pure_ (i := 7) (N := some 56) (v := ?_) (a' := ?_) #[true, true, true, true, true, false, true, true, false, false, false, false, false, false, false, false, false, false, false, false, false, false, false, false, false, false] rfl rfl (by kernel_rfl) (fun _ _ _ h => h) (Or.inl ⟨by rfl, ?_⟩) ?_ ?_
      rotate_left
      · intro w'
        go_simp
        with_reducible rfl
      rotate_left
      · simp only [Act.put, List.setIfInBounds_toArray, List.set_cons_zero, List.set_cons_succ, i64_w, i32_w]
        rfl
      refine pure_ (i := 8) (N := some 57) (v := ?_) (a' := ?_) #[true, true, true, true, true, false, true, true, true, false, false, false, false, false, false, false, false, false, false, false, false, false, false, false, false, false] rfl rfl (by kernel_rfl) (fun _ _ _ h => h) (Or.inl ⟨by rfl, ?_⟩) ?_ ?_
      rotate_left
      · intro w'
        go_simp
        with_reducible rfl
      rotate_left
      · simp only [Act.put, List.setIfInBounds_toArray, List.set_cons_zero, List.set_cons_succ, i64_w, i32_w]
        rfl
      refine pure_ (i := 11) (N := some 60) (v := ?_) (a' := ?_) #[true, true, true, true, true, false, true, true, true, false, false, true, false, false, false, false, false, false, false, false, false, false, false, false, false, false] rfl rfl (by kernel_rfl) (fun _ _ _ h => h) (Or.inl ⟨by rfl, ?_⟩) ?_ ?_
      rotate_left
      · intro w'
        go_simp
        with_reducible rfl
      rotate_left
      · simp only [Act.put, List.setIfInBounds_toArray, List.set_cons_zero, List.set_cons_succ, i64_w, i32_w]
        rfl
      refine pure_ (i := 12) (N := some 61) (v := ?_) (a' := ?_) #[true, true, true, true, true, false, true, true, true, false, false, true, true, false, false, false, false, false, false, false, false, false, false, false, false, false] rfl rfl (by kernel_rfl) (fun _ _ _ h => h) (Or.inl ⟨by rfl, ?_⟩) ?_ ?_
      rotate_left
      · intro w'
        go_simp
        with_reducible rfl
      rotate_left
      · simp only [Act.put, List.setIfInBounds_toArray, List.set_cons_zero, List.set_cons_succ, i64_w, i32_w]
        rfl
      refine pure_ (i := 13) (N := some 62) (v := ?_) (a' := ?_) #[true, true, true, true, true, false, true, true, true, false, false, true, true, true, false, false, false, false, false, false, false, false, false, false, false, false] rfl rfl (by kernel_rfl) (fun _ _ _ h => h) (Or.inl ⟨by rfl, ?_⟩) ?_ ?_
      rotate_left
      · intro w'
        go_simp
        with_reducible rfl
      rotate_left
      · simp only [Act.put, List.setIfInBounds_toArray, List.set_cons_zero, List.set_cons_succ, i64_w, i32_w]
        rfl
      refine pure_ (i := 15) (N := some 64) (v := ?_) (a' := ?_) #[true, true, true, true, true, false, true, true, true, false, false, true, true, true, false, true, false, false, false, false, false, false, false, false, false, false] rfl rfl (by kernel_rfl) (fun _ _ _ h => h) (Or.inl ⟨by rfl, ?_⟩) ?_ ?_
      rotate_left
      · intro w'
        go_simp
        with_reducible rfl
      rotate_left
      · simp only [Act.put, List.setIfInBounds_toArray, List.set_cons_zero, List.set_cons_succ, i64_w, i32_w]
        rfl
      refine pure_ (i := 16) (N := some 65) (v := ?_) (a' := ?_) #[true, true, true, true, true, false, true, true, true, false, false, true, true, true, false, true, true, false, false, false, false, false, false, false, false, false] rfl rfl (by kernel_rfl) (fun _ _ _ h => h) (Or.inl ⟨by rfl, ?_⟩) ?_ ?_
      rotate_left
      · intro w'
        go_simp
        with_reducible rfl
      rotate_left
      · simp only [Act.put, List.setIfInBounds_toArray, List.set_cons_zero, List.set_cons_succ, i64_w, i32_w]
        rfl
      refine pure_ (i := 17) (N := some 66) (v := ?_) (a' := ?_) #[true, true, true, true, true, false, true, true, true, false, false, true, true, true, false, true, true, true, false, false, false, false, false, false, false, false] rfl rfl (by kernel_rfl) (fun _ _ _ h => h) (Or.inl ⟨by rfl, ?_⟩) ?_ ?_
      rotate_left
      · intro w'
        go_simp
        with_reducible rfl
      rotate_left
      · simp only [Act.put, List.setIfInBounds_toArray, List.set_cons_zero, List.set_cons_succ, i64_w, i32_w]
        rfl
      refine take_ (i := 5) (N := some 54) (v := ?_) (a' := ?_) #[true, true, true, true, true, true, true, true, true, false, false, true, true, true, false, true, true, true, false, false, false, false, false, false, false, false] rfl rfl (by kernel_rfl) (fun _ _ _ h => h) (Or.inl ⟨by rfl, ?_⟩) hHeld ?_ ?_
      rotate_left
      · rintro w' ⟨⟨s0, s1⟩, ⟨s2, s3⟩, ⟨s4, s5⟩, s6, s7⟩
        go_simp
        with_reducible rfl
      rotate_left
      · simp only [Act.put, List.setIfInBounds_toArray, List.set_cons_zero, List.set_cons_succ, i64_w, i32_w]
        rfl
      refine take_ (i := 9) (N := some 58) (v := ?_) (a' := ?_) #[true, true, true, true, true, true, true, true, true, true, false, true, true, true, false, true, true, true, false, false, false, false, false, false, false, false] rfl rfl (by kernel_rfl) (fun _ _ _ h => h) (Or.inl ⟨by rfl, ?_⟩) hHeld ?_ ?_
      rotate_left
      · rintro w' ⟨⟨s0, s1⟩, ⟨s2, s3⟩, ⟨s4, s5⟩, s6, s7⟩
        go_simp
        with_reducible rfl
      rotate_left
      · simp only [Act.put, List.setIfInBounds_toArray, List.set_cons_zero, List.set_cons_succ, i64_w, i32_w]
        rfl
      refine take_ (i := 14) (N := some 63) (v := ?_) (a' := ?_) #[true, true, true, true, true, true, true, true, true, true, false, true, true, true, true, true, true, true, false, false, false, false, false, false, false, false] rfl rfl (by kernel_rfl) (fun _ _ _ h => h) (Or.inl ⟨by rfl, ?_⟩) hHeld ?_ ?_
      rotate_left
      · rintro w' ⟨⟨s0, s1⟩, ⟨s2, s3⟩, ⟨s4, s5⟩, s6, s7⟩
        go_simp
        with_reducible rfl
      rotate_left
      · simp only [Act.put, List.setIfInBounds_toArray, List.set_cons_zero, List.set_cons_succ, i64_w, i32_w]
        rfl
      refine take_ (i := 18) (N := some 67) (v := ?_) (a' := ?_) #[true, true, true, true, true, true, true, true, true, true, false, true, true, true, true, true, true, true, true, false, false, false, false, false, false, false] rfl rfl (by kernel_rfl) (fun _ _ _ h => h) (Or.inl ⟨by rfl, ?_⟩) hHeld ?_ ?_
      rotate_left
      · rintro w' ⟨⟨s0, s1⟩, ⟨s2, s3⟩, ⟨s4, s5⟩, s6, s7⟩
        go_simp
        with_reducible rfl
      rotate_left
      · simp only [Act.put, List.setIfInBounds_toArray, List.set_cons_zero, List.set_cons_succ, i64_w, i32_w]
        rfl
      clear c0 c1 c2 c2f c3 c3f c4 c4f c5 c5f d0 d1 d2 d2f d3 d3f d4 d4f d5 d5f
      refine one_ (i := 10) (N := some 59) #[true, true, true, true, true, true, true, true, true, true, true, true, true, true, true, true, true, true, true, false, false, false, false, false, false, false] rfl rfl (by kernel_rfl) (by decide) (fun K hK => ?_)
      refine goes_ Try.func18 (by kernel_rfl) rfl #[.agg #[.int .u64 (c.1 : Int), .bool c.2], .agg #[.int .u64 (c'.1 : Int), .bool c'.2]] (by rfl) rfl rfl (by (try simp only [List.map_toArray, List.map_cons, List.map_nil]); first | done | rfl) ?_
      refine (join_walk1 c c' hc.out _).mono ?_
      rintro r w3 ⟨rfl, ho3⟩
      replace H := Aside0.mk (H.out.drew.keep ho3)
      clear ho3
      refine ⟨_, rfl, ?_⟩
      obtain ⟨⟨c0, c1⟩, ⟨c2, c2f⟩, ⟨c3, c3f⟩, ⟨c4, c4f⟩, c5, c5f⟩ := H.out.h.cells
      obtain ⟨⟨d0, d1⟩, ⟨d2, d2f⟩, ⟨d3, d3f⟩, ⟨d4, d4f⟩, d5, d5f⟩ := H.out.o.cells
      refine hK.out _ _ (⟨⟨c2, c3⟩, ⟨c4, c5⟩, ⟨d2, d3⟩, d4, d5⟩) (fun hHeld => ?_)
      clear hK K
      refine norm_ (a' := ?_) ?_ ?_
      rotate_left
      · show Act.put _ (some 59) _ = _
        simp only [Act.put, List.setIfInBounds_toArray, List.set_cons_zero, List.set_cons_succ, i64_w, i32_w]
        rfl
      clear c0 c1 c2 c2f c3 c3f c4 c4f c5 c5f d0 d1 d2 d2f d3 d3f d4 d4f d5 d5f
      refine one_ (i := 19) (N := some 68) #[true, true, true, true, true, true, true, true, true, true, true, true, true, true, true, true, true, true, true, true, false, false, false, false, false, false] rfl rfl (by kernel_rfl) (by decide) (fun K hK => ?_)
      refine goes_ Try.func18 (by kernel_rfl) rfl #[.agg #[.int .u64 (s.1 : Int), .bool s.2], .agg #[.int .u64 (s'.1 : Int), .bool s'.2]] (by rfl) rfl rfl (by (try simp only [List.map_toArray, List.map_cons, List.map_nil]); first | done | rfl) ?_
      refine (join_walk1 s s' hs.out _).mono ?_
      rintro r w4 ⟨rfl, ho4⟩
      replace H := Aside0.mk (H.out.keep ho4)
      clear ho4
      refine ⟨_, rfl, ?_⟩
      obtain ⟨⟨c0, c1⟩, ⟨c2, c2f⟩, ⟨c3, c3f⟩, ⟨c4, c4f⟩, c5, c5f⟩ := H.out.h.cells
      obtain ⟨⟨d0, d1⟩, ⟨d2, d2f⟩, ⟨d3, d3f⟩, ⟨d4, d4f⟩, d5, d5f⟩ := H.out.o.cells
      refine hK.out _ _ (⟨⟨c2, c3⟩, ⟨c4, c5⟩, ⟨d2, d3⟩, d4, d5⟩) (fun hHeld => ?_)
      clear hK K
      refine norm_ (a' := ?_) ?_ ?_
      rotate_left
      · show Act.put _ (some 68) _ = _
        simp only [Act.put, List.setIfInBounds_toArray, List.set_cons_zero, List.set_cons_succ, i64_w, i32_w]
        rfl
      refine pure_ (i := 20) (N := some 69) (v := ?_) (a' := ?_) #[true, true, true, true, true, true, true, true, true, true, true, true, true, true, true, true, true, true, true, true, true, false, false, false, false, false] rfl rfl (by kernel_rfl) (fun _ _ _ h => h) (Or.inl ⟨by rfl, ?_⟩) ?_ ?_
      rotate_left
      · intro w'
        go_simp
        with_reducible rfl
      rotate_left
      · simp only [Act.put, List.setIfInBounds_toArray, List.set_cons_zero, List.set_cons_succ, i64_w, i32_w]
        rfl
      refine pure_ (i := 21) (N := some 70) (v := ?_) (a' := ?_) #[true, true, true, true, true, true, true, true, true, true, true, true, true, true, true, true, true, true, true, true, true, true, false, false, false, false] rfl rfl (by kernel_rfl) (fun _ _ _ h => h) (Or.inl ⟨by rfl, ?_⟩) ?_ ?_
      rotate_left
      · intro w'
        go_simp
        with_reducible rfl
      rotate_left
      · simp only [Act.put, List.setIfInBounds_toArray, List.set_cons_zero, List.set_cons_succ, i64_w, i32_w]
        rfl
      refine last_ (i := 22) (N := none) #[true, true, true, true, true, true, true, true, true, true, true, true, true, true, true, true, true, true, true, true, true, true, true, false, false, false] rfl rfl (by kernel_rfl) (by decide) (fun K hK => ?_)
      refine skip_ (w1 := ?_) (by rfl) rfl ?_ ?_
      rotate_left
      · go_simp
        rfl
      refine hK.out _ _ ?_
      clear hK K
      refine pure_ (i := 23) (N := some 71) (v := ?_) (a' := ?_) #[true, true, true, true, true, true, true, true, true, true, true, true, true, true, true, true, true, true, true, true, true, true, true, true, false, false] rfl rfl (by kernel_rfl) (fun _ _ _ h => h) (Or.inl ⟨by rfl, ?_⟩) ?_ ?_
      rotate_left
      · intro w'
        go_simp
        with_reducible rfl
      rotate_left
      · simp only [Act.put, List.setIfInBounds_toArray, List.set_cons_zero, List.set_cons_succ, i64_w, i32_w]
        rfl
      refine pure_ (i := 24) (N := some 72) (v := ?_) (a' := ?_) #[true, true, true, true, true, true, true, true, true, true, true, true, true, true, true, true, true, true, true, true, true, true, true, true, true, false] rfl rfl (by kernel_rfl) (fun _ _ _ h => h) (Or.inl ⟨by rfl, ?_⟩) ?_ ?_
      rotate_left
      · intro w'
        go_simp
        with_reducible rfl
      rotate_left
      · simp only [Act.put, List.setIfInBounds_toArray, List.set_cons_zero, List.set_cons_succ, i64_w, i32_w]
        rfl
      refine last_ (i := 25) (N := none) #[true, true, true, true, true, true, true, true, true, true, true, true, true, true, true, true, true, true, true, true, true, true, true, true, true, true] rfl rfl (by kernel_rfl) (by decide) (fun K hK => ?_)
      refine skip_ (w1 := ?_) (by rfl) rfl ?_ ?_
      rotate_left
      · go_simp
        rfl
      refine hK.out _ _ ?_
      clear hK K
      refine done_ (by kernel_rfl) ?_
      clear c0 c1 c2 c2f c3 c3f c4 c4f c5 c5f d0 d1 d2 d2f d3 d3f d4 d4f d5 d5f
      go_wp2
      go_ret
      exact ⟨rfl, H.out.fin⟩
end Go.Proofs.Ytdcbhakclhbdpaa.Hi

namespace Go.Proofs.Ytdcbhakclhbdpaa.Hi
open Go.RowKit Go.Shelf Go.Proofs.YtdcbhakclhbdpaaW.PrintWords Go.Proofs.YtdcbhakclhbdpaaW.PrintLast
open Go.Proofs.Ytdcbhakclhbdpaa.Ob Go.Proofs.Ytdcbhakclhbdpaa.XH
set_option linter.unusedSimpArgs false
set_option linter.unusedVariables false

theorem satS_cast (t : Nat) : (((satS t).1 : Int), (satS t).2) = if (t : Int) > 9223372036854775807 then (9223372036854775807, true) else ((t : Int), false) := by
  unfold satS
  have hm : most = 9223372036854775807 := rfl
  by_cases h : most < t
  · rw [if_pos h, if_pos (by rw [hm] at h; omega)]; rfl
  · rw [if_neg h, if_neg (by rw [hm] at h; omega)]
theorem drop_at (l : List Nat) (i : Nat) (h : i < l.length) : l.drop i = l.getD i 0 :: l.drop (i + 1) := by
  rw [List.drop_eq_getElem_cons h, getD_at l i h]
theorem sum_loop (l : List Nat) (hl : l.length ≤ 1000) (hw : ∀ x ∈ l, x < 18446744073709551616) : ∀ (d i k hi lo : Nat), i + d = l.length → d < k → hi ≤ i → lo < 18446744073709551616 →
    tallyroomref10_Sum.l0 k (ofN l) (hi : Int) (lo : Int) (i : Int) = some (((satS (hi * 18446744073709551616 + lo + (l.drop i).sum)).1 : Int), (satS (hi * 18446744073709551616 + lo + (l.drop i).sum)).2) := by
  intro d
  induction d with
  | zero =>
    intro i k hi lo e hk h1 h2
    obtain ⟨k, rfl⟩ : ∃ m, k = m + 1 := ⟨k - 1, by omega⟩
    rw [tallyroomref10_Sum.l0, if_neg (by rw [ofN_length]; omega), List.drop_eq_nil_of_le (by omega), List.sum_nil, Nat.add_zero, satS_cast]
    by_cases c : (hi : Int) > 0
    · rw [if_pos c, if_pos (by omega)]
    · rw [if_neg c]
      by_cases c2 : (lo : Int) > 9223372036854775807
      · rw [if_pos c2, if_pos (by omega)]
      · rw [if_neg c2, if_neg (by omega)]
        congr 2
        omega
  | succ d ih =>
    intro i k hi lo e hk h1 h2
    obtain ⟨k, rfl⟩ : ∃ m, k = m + 1 := ⟨k - 1, by omega⟩
    have hlt : i < l.length := by omega
    have h4 : l.getD i 0 < 18446744073709551616 := by rw [getD_at l i hlt]; exact hw _ (List.getElem_mem hlt)
    rw [tallyroomref10_Sum.l0, if_pos (by rw [ofN_length]; omega), if_pos (by omega), if_pos (by omega), rd_ofN, if_pos (by omega), drop_at l i hlt, List.sum_cons, IntWalk.wrap64_in _ (by omega), show (i : Int) + 1 = ((i + 1 : Nat) : Int) by omega]
    generalize l.getD i 0 = x at h4 ⊢
    rw [show ((lo : Int) + (x : Int)) / 18446744073709551616 = (((lo + x) / 18446744073709551616 : Nat) : Int) by omega, show ((lo : Int) + (x : Int)) % 18446744073709551616 = (((lo + x) % 18446744073709551616 : Nat) : Int) by omega, u64_in _ (by omega) (by omega), show ((hi : Int) + (((lo + x) / 18446744073709551616 : Nat) : Int)) = ((hi + (lo + x) / 18446744073709551616 : Nat) : Int) by omega, ih (i + 1) k _ _ (by omega) (by omega) (by omega) (by omega)]
    generalize (l.drop (i + 1)).sum = R
    rw [show (hi + (lo + x) / 18446744073709551616) * 18446744073709551616 + (lo + x) % 18446744073709551616 + R = hi * 18446744073709551616 + lo + (x + R) by omega]
theorem sum_f (l : List Nat) (hl : l.length ≤ 1000) (hw : ∀ x ∈ l, x < 18446744073709551616) (k : Nat) (hk : l.length < k) : tallyroomref10_Sum.f k (ofN l) = some (((satS l.sum).1 : Int), (satS l.sum).2) := by
  have := sum_loop l hl hw l.length 0 k 0 0 (by omega) hk (by omega) (by omega)
  rw [List.drop_zero, show 0 * 18446744073709551616 + 0 + l.sum = l.sum by omega] at this
  exact this
theorem rbk_loop (bs : List Nat) (x : Nat) (hl : bs.length ≤ 1000) : ∀ (d i k : Nat), i + d = bs.length → d < k → tallyroomref11_Bucket.l0 k (ofN bs) (x : Int) ((bkI bs x i : Nat) : Int) (i : Int) = some ((bk bs x : Nat) : Int) := by
  intro d
  induction d with
  | zero =>
    intro i k hi hk
    obtain ⟨k, rfl⟩ : ∃ m, k = m + 1 := ⟨k - 1, by omega⟩
    rw [tallyroomref11_Bucket.l0, if_neg (by rw [ofN_length]; omega), show i = bs.length by omega, bkI_all]
  | succ d ih =>
    intro i k hi hk
    obtain ⟨k, rfl⟩ : ∃ m, k = m + 1 := ⟨k - 1, by omega⟩
    have hlt : i < bs.length := by omega
    have hle := bkI_le bs x i
    have hnx := bkI_next bs x i hlt
    have hj := ih (i + 1) k (by omega) (by omega)
    rw [tallyroomref11_Bucket.l0, if_pos (by rw [ofN_length]; omega), if_pos (by omega), rd_ofN, show wrap64 ((i : Int) + 1) = ((i + 1 : Nat) : Int) by rw [IntWalk.wrap64_in _ (by omega)]; omega]
    by_cases h : bs.getD i 0 < x
    · rw [if_pos (by omega), show wrap64 (((bkI bs x i : Nat) : Int) + 1) = ((bkI bs x i + 1 : Nat) : Int) by rw [IntWalk.wrap64_in _ (by omega)]; omega]
      rw [if_pos h] at hnx
      rw [← hnx]; exact hj
    · rw [if_neg (by omega)]
      have hnx2 : bkI bs x (i + 1) = bkI bs x i := by rw [hnx, if_neg h]; rfl
      rw [← hnx2]; exact hj
theorem rbk_f (bs : List Nat) (x : Nat) (hl : bs.length ≤ 1000) (k : Nat) (hk : bs.length < k) : tallyroomref11_Bucket.f k (ofN bs) (x : Int) = some ((bk bs x : Nat) : Int) := by
  have := rbk_loop bs x hl bs.length 0 k (by omega) hk
  have e : bkI bs x 0 = 0 := by simp [bkI]
  rw [e] at this
  exact this
/-- How many are in each bucket, as numbers. -/
def cnts (bs l : List Nat) : List Nat := (List.range (bs.length + 1)).map fun i => l.countP fun x => decide (bk bs x = i)
theorem cnts_length (bs l : List Nat) : (cnts bs l).length = bs.length + 1 := by simp [cnts]
theorem cnts_get (bs l : List Nat) (i : Nat) (h : i < bs.length + 1) : (cnts bs l)[i]? = some (l.countP fun x => decide (bk bs x = i)) := by
  unfold cnts
  rw [List.getElem?_map, List.getElem?_range h]; rfl
theorem cnts_getD (bs l : List Nat) (i : Nat) (h : i < bs.length + 1) : (cnts bs l).getD i 0 = l.countP fun x => decide (bk bs x = i) := by
  rw [List.getD_eq_getElem?_getD, cnts_get bs l i h]; rfl
theorem cnts_put (bs l : List Nat) (x : Nat) : (cnts bs l).set (bk bs x) ((cnts bs l).getD (bk bs x) 0 + 1) = cnts bs (l ++ [x]) := by
  have hx := bk_le bs x
  rw [cnts_getD bs l _ (by omega)]
  apply List.ext_getElem?
  intro i
  by_cases hi : i < bs.length + 1
  · rw [List.getElem?_set, cnts_get bs l i hi, cnts_get bs (l ++ [x]) i hi, List.countP_append]
    by_cases e : bk bs x = i
    · subst e
      rw [if_pos rfl, if_pos (by rw [cnts_length]; exact hi)]
      simp
    · rw [if_neg e]; simp [e]
  · rw [List.getElem?_eq_none (by rw [List.length_set, cnts_length]; omega), List.getElem?_eq_none (by rw [cnts_length]; omega)]
theorem ofN_set (l : List Nat) (i n : Nat) : (ofN l).set i (n : Int) = ofN (l.set i n) := by unfold ofN; rw [List.map_set]
theorem rhist_loop (bs l : List Nat) (hl : l.length ≤ 1000) (hb : bs.length ≤ 900) (hw : ∀ x ∈ l, x < 18446744073709551616) : ∀ (d i k : Nat), i + d = l.length → d + 1002 < k →
    tallyroomref11_Hist.l0 k (ofN bs) (ofN l) (ofN (cnts bs (l.take i))) (i : Int) = some (ofN (cnts bs l), ((satS l.sum).1 : Int), (satS l.sum).2) := by
  intro d
  induction d with
  | zero =>
    intro i k hi hk
    obtain ⟨k, rfl⟩ : ∃ m, k = m + 1 := ⟨k - 1, by omega⟩
    rw [tallyroomref11_Hist.l0, if_neg (by rw [ofN_length]; omega), sum_f l hl hw k (by omega), show i = l.length by omega, List.take_length]
    rfl
  | succ d ih =>
    intro i k hi hk
    obtain ⟨k, rfl⟩ : ∃ m, k = m + 1 := ⟨k - 1, by omega⟩
    have hlt : i < l.length := by omega
    have hx := bk_le bs (l.getD i 0)
    have hj := ih (i + 1) k (by omega) (by omega)
    have e1 : (cnts bs (l.take i)).getD (bk bs (l.getD i 0)) 0 ≤ 1000 := by
      rw [cnts_getD bs _ _ (by omega)]
      exact Nat.le_trans List.countP_le_length (by rw [List.length_take]; omega)
    rw [tallyroomref11_Hist.l0, if_pos (by rw [ofN_length]; omega), if_pos (by omega), rd_ofN, rbk_f bs _ (by omega) k (by omega), Option.bind_some, if_pos (by omega), if_pos (by rw [ofN_length, cnts_length]; omega), rd_ofN, u64_in _ (by omega) (by omega), Int.toNat_natCast, show wrap64 ((i : Int) + 1) = ((i + 1 : Nat) : Int) by rw [IntWalk.wrap64_in _ (by omega)]; omega]
    rw [show (((cnts bs (l.take i)).getD (bk bs (l.getD i 0)) 0 : Nat) : Int) + 1 = (((cnts bs (l.take i)).getD (bk bs (l.getD i 0)) 0 + 1 : Nat) : Int) by omega, ofN_set, cnts_put, show l.take i ++ [l.getD i 0] = l.take (i + 1) by rw [List.take_succ_eq_append_getElem hlt, getD_at l i hlt]]
    exact hj
theorem rhist_f (bs l : List Nat) (hl : l.length ≤ 1000) (hb : bs.length ≤ 900) (hw : ∀ x ∈ l, x < 18446744073709551616) : tallyroomref11_Hist.f 3000 (ofN bs) (ofN l) = some (ofN (cnts bs l), ((satS l.sum).1 : Int), (satS l.sum).2) := by
  unfold tallyroomref11_Hist.f
  rw [ofN_length, show wrap64 ((bs.length : Int) + 1) = ((bs.length + 1 : Nat) : Int) by rw [IntWalk.wrap64_in _ (by omega)]; omega, if_pos (by omega), Int.toNat_natCast, if_pos (by omega)]
  have e : List.replicate (bs.length + 1) (0 : Int) = ofN (cnts bs (l.take 0)) := by
    rw [List.take_zero]
    unfold ofN cnts
    apply List.ext_getElem?
    intro i
    by_cases hi : i < bs.length + 1
    · rw [List.getElem?_replicate, if_pos hi, List.getElem?_map, List.getElem?_map, List.getElem?_range hi]; rfl
    · rw [List.getElem?_eq_none (by simp; omega), List.getElem?_eq_none (by simp; omega)]
  rw [e]
  exact rhist_loop bs l hl hb hw l.length 0 3000 (by omega) (by omega)
theorem right_loop (bs : List Nat) (hl : bs.length ≤ 1000) : ∀ (d i k : Nat), 1 ≤ i → (i + d = bs.length ∨ (i = 1 ∧ d = 0 ∧ bs.length = 0)) → d < k → (∀ j, j + 1 < i → bs.getD j 0 < bs.getD (j + 1) 0) →
    tallyroomref11_Right.l0 k (ofN bs) (i : Int) = some (decide (okB bs)) := by
  intro d
  induction d with
  | zero =>
    intro i k h1 hi hk ha
    obtain ⟨k, rfl⟩ : ∃ m, k = m + 1 := ⟨k - 1, by omega⟩
    rw [tallyroomref11_Right.l0, if_neg (by rw [ofN_length]; omega), ofN_length]
    congr 1
    rw [decide_eq_decide]
    constructor
    · intro h
      exact ⟨by omega, fun j hj => ha j (by omega)⟩
    · intro h
      have := h.1; omega
  | succ d ih =>
    intro i k h1 hi hk ha
    obtain ⟨k, rfl⟩ : ∃ m, k = m + 1 := ⟨k - 1, by omega⟩
    have hlt : i < bs.length := by omega
    obtain ⟨j, rfl⟩ : ∃ j, i = j + 1 := ⟨i - 1, by omega⟩
    rw [tallyroomref11_Right.l0, if_pos (by rw [ofN_length]; omega), if_pos (by omega), show wrap64 (((j + 1 : Nat) : Int) - 1) = (j : Int) by rw [IntWalk.wrap64_in _ (by omega)]; omega, if_pos (by omega), if_pos (by rw [ofN_length]; omega), rd_ofN, rd_ofN, show wrap64 (((j + 1 : Nat) : Int) + 1) = ((j + 1 + 1 : Nat) : Int) by rw [IntWalk.wrap64_in _ (by omega)]; omega]
    by_cases h : bs.getD (j + 1) 0 ≤ bs.getD j 0
    · rw [if_pos (by omega)]
      congr 1
      symm
      rw [decide_eq_false_iff_not]
      intro hh
      have := hh.2 j hlt
      omega
    · rw [if_neg (by omega)]
      refine ih (j + 1 + 1) k (by omega) (by omega) (by omega) (fun q hq => ?_)
      by_cases e : q = j
      · subst e; omega
      · exact ha q (by omega)
theorem right_f (bs : List Nat) (hl : bs.length ≤ 1000) (k : Nat) (hk : bs.length < k) : tallyroomref11_Right.f k (ofN bs) = some (decide (okB bs)) := by
  unfold tallyroomref11_Right.f
  by_cases h : bs.length = 0
  · exact right_loop bs hl 0 1 k (by omega) (.inr ⟨rfl, rfl, h⟩) (by omega) (fun j hj => by omega)
  · exact right_loop bs hl (bs.length - 1) 1 k (by omega) (.inl (by omega)) (by omega) (fun j hj => by omega)
end Go.Proofs.Ytdcbhakclhbdpaa.Hi

namespace Go.Proofs.Ytdcbhakclhbdpaa.Hi
open Go.RowKit Go.Shelf Go.Proofs.YtdcbhakclhbdpaaW.PrintWords Go.Proofs.YtdcbhakclhbdpaaW.PrintLast
open Go.Proofs.Ytdcbhakclhbdpaa.Ob Go.Proofs.Ytdcbhakclhbdpaa.XH
set_option linter.unusedSimpArgs false
set_option linter.unusedVariables false

/-- The histogram of the numbers l. -/
structure IsH (w : World) (lo hi N : Nat) (bs l : List Nat) : Prop where
  ev : ∃ v0 b k, Hc w lo hi N b k v0 bs (bucks bs l) (l.length, false) (satS l.sum)
  few : l.length ≤ 1000
  ok : okB bs
section
variable {w wr w' : World} {lo hi N lo' hi' N' : Nat} {bs l l' : List Nat}
theorem IsH.only (h : IsH w lo hi N bs l) {S : Nat → Prop} (o : Only S w w') (hS : ∀ j, lo ≤ j → j < hi → ¬ S j) : IsH w' lo hi N bs l := by
  obtain ⟨v0, b, k, hc⟩ := h.ev
  exact ⟨⟨v0, b, k, hc.only o hS⟩, h.few, h.ok⟩
theorem IsH.keep (h : IsH w lo hi N bs l) (o : Only (fun _ => False) w w') : IsH w' lo hi N bs l := h.only o (fun _ _ _ => id)
theorem IsH.top (h : IsH w lo hi N bs l) : hi ≤ w.heap.size := by
  obtain ⟨v0, b, k, hc⟩ := h.ev
  exact hc.top
theorem most_big : 1000 < most := by decide
theorem new_h (A : Option Addr) (n c : Nat) (hC : Kd.C (Kd.int .u64) wr A n (ofN bs)) (hn : n = bs.length) (hc : n ≤ c) (hok : okB bs) :
    Calls Try.prog 31 #[.slice A n c] wr fun r w' => ∃ N, r = .returned (.tuple #[.pointer (some ⟨N, 0, none⟩), .int .i64 0]) ∧ IsH w' wr.heap.size w'.heap.size N bs [] ∧ Only (fun _ => False) wr w' := by
  refine (new_walk wr A n c bs hC hn hc (by have := hok.1; omega)).mono ?_
  rintro r w' (⟨_, N, b, k, v0, rfl, hh, ho⟩ | ⟨h, _⟩)
  · exact ⟨N, rfl, ⟨⟨v0, b, k, hh⟩, by simp, hok⟩, ho⟩
  · exact absurd hok h
theorem new_bad (A : Option Addr) (n c : Nat) (hC : Kd.C (Kd.int .u64) wr A n (ofN bs)) (hn : n = bs.length) (hc : n ≤ c) (hl : n ≤ 1000) (hok : ¬ okB bs) :
    Calls Try.prog 31 #[.slice A n c] wr fun r w' => r = .returned (.tuple #[.pointer none, .int .i64 1]) ∧ Only (fun _ => False) wr w' := by
  refine (new_walk wr A n c bs hC hn hc hl).mono ?_
  rintro r w' (⟨h, _⟩ | ⟨_, h⟩)
  · exact absurd h hok
  · exact h
theorem put_h (h : IsH w lo hi N bs l) (x : Nat) (hl : l.length < 1000) : Calls Try.prog 32 #[.pointer (some ⟨N, 0, none⟩), .int .u64 (x : Int)] w fun r w' => r = .returned (.int .i64 0) ∧ IsH w' lo hi N bs (l ++ [x]) ∧ Only (fun j => lo ≤ j ∧ j < hi) w w' := by
  obtain ⟨v0, b, k, hc⟩ := h.ev
  have hm := most_big
  have hb := bk_le bs x
  have hi' : bk bs x < (bucks bs l).length := by rw [bucks_length]; omega
  have hget : (bucks bs l)[bk bs x] = (l.countP (fun y => decide (bk bs y = bk bs x)), false) := by
    have := bucks_get bs l (bk bs x) (by omega)
    rw [List.getElem?_eq_getElem hi'] at this
    exact Option.some.inj this
  have hle : l.countP (fun y => decide (bk bs y = bk bs x)) ≤ l.length := List.countP_le_length
  refine (put_walk w lo hi N b k v0 bs (bucks bs l) (l.length, false) (satS l.sum) x hc h.ok.1 (by show l.length ≤ most; omega) (satS_le _) (bk bs x) hi' rfl (by rw [hget]; show l.countP _ ≤ most; omega)).mono ?_
  rintro r w' ⟨rfl, hh, ho⟩
  rw [hget, bucks_put bs l x (by omega), show addC (l.length, false) 1 = ((l ++ [x]).length, false) by unfold addC; rw [if_neg (by simp; omega)]; simp, add_sat, show l.sum + x = (l ++ [x]).sum by simp] at hh
  refine ⟨rfl, ⟨⟨v0, b, k, hh⟩, by simp; omega, h.ok⟩, ho.mono ?_⟩
  rintro j (rfl | rfl)
  · exact hc.wn
  · exact hc.wb
theorem count_h (h : IsH w lo hi N bs l) : Calls Try.prog 35 #[.pointer (some ⟨N, 0, none⟩)] w fun r w' => r = .returned (.agg #[.int .u64 (l.length : Int), .bool false]) ∧ Only (fun _ => False) w w' := by
  obtain ⟨v0, b, k, hc⟩ := h.ev
  exact count_walk w lo hi N b k v0 bs _ _ _ hc
theorem sum_h (h : IsH w lo hi N bs l) : Calls Try.prog 36 #[.pointer (some ⟨N, 0, none⟩)] w fun r w' => r = .returned (.agg #[.int .u64 ((satS l.sum).1 : Int), .bool (satS l.sum).2]) ∧ Only (fun _ => False) w w' := by
  obtain ⟨v0, b, k, hc⟩ := h.ev
  exact sum_walk w lo hi N b k v0 bs _ _ _ hc
theorem buckets_h (h : IsH w lo hi N bs l) : Calls Try.prog 33 #[.pointer (some ⟨N, 0, none⟩)] w fun r w' => ∃ A q, r = .returned (.slice A (bs.length + 1) q) ∧ Kd.R k26 26 w' w.heap.size (fun _ => True) (.slice A (bs.length + 1) q) ((bucks bs l).map toS) ∧ Only (fun _ => False) w w' := by
  obtain ⟨v0, b, k, hc⟩ := h.ev
  exact buckets_walk w lo hi N b k v0 bs _ _ _ hc h.ok.1
theorem full_h (h : IsH w lo hi N bs l) : Calls Try.prog 41 #[.pointer (some ⟨N, 0, none⟩)] w fun r w' => r = .returned (.bool (satS l.sum).2) ∧ Only (fun _ => False) w w' := by
  obtain ⟨v0, b, k, hc⟩ := h.ev
  refine full_walk w lo hi N b k v0 bs _ _ _ hc h.ok.1 ?_
  intro x hx
  obtain ⟨i, _, rfl⟩ := List.mem_map.1 hx
  rfl
theorem join_h (h : IsH w lo hi N bs l) (o : IsH w lo' hi' N' bs l') (dj : hi ≤ lo' ∨ hi' ≤ lo) (hl : l.length + l'.length ≤ 1000) :
    Calls Try.prog 40 #[.pointer (some ⟨N, 0, none⟩), .pointer (some ⟨N', 0, none⟩)] w fun r w' => r = .returned (.int .i64 0) ∧ IsH w' lo hi N bs (l ++ l') ∧ Only (fun j => lo ≤ j ∧ j < hi) w w' := by
  obtain ⟨v0, b, k, hc⟩ := h.ev
  obtain ⟨v0', b', k', hc'⟩ := o.ev
  have hm := most_big
  refine (join_walk w lo hi N b k v0 lo' hi' N' b' k' v0' bs _ _ _ _ _ _ hc hc' dj h.ok.1 ?_ (by show l.length ≤ most; omega) (satS_le _) (bucks bs (l ++ l')) (bucks_length _ _) ?_).mono ?_
  · intro x hx
    obtain ⟨i, _, rfl⟩ := List.mem_map.1 hx
    have : l.countP (fun y => decide (bk bs y = i)) ≤ l.length := List.countP_le_length
    show l.countP _ ≤ most; omega
  · intro j h1 h2
    rw [bucks_length] at h1
    have e1 : ∀ m, (hj : j < (bucks bs m).length) → (bucks bs m)[j] = (m.countP (fun y => decide (bk bs y = j)), false) := fun m hj => by
      have := bucks_get bs m j h1
      rw [List.getElem?_eq_getElem hj] at this
      exact Option.some.inj this
    rw [bucks_get bs _ j h1, e1, e1, bucks_join bs l l' (by omega) j h1]
  · rintro r w' ⟨rfl, hj⟩
    have hh := hj.h
    rw [join_sat, show joinC (l.length, false) (l'.length, false) = ((l ++ l').length, false) by unfold joinC addC; rw [if_neg (by simp), if_neg (by simp; omega)]; simp, show l.sum + l'.sum = (l ++ l').sum by simp] at hh
    refine ⟨rfl, ⟨⟨v0, b, k, hh⟩, by simp; omega, h.ok⟩, hj.k.mono ?_⟩
    rintro j (rfl | rfl)
    · exact hc.wn
    · exact hc.wb
theorem joinlen_h {bs' : List Nat} (h : IsH w lo hi N bs l) (o : IsH w lo' hi' N' bs' l') (hne : bs.length ≠ bs'.length) :
    Calls Try.prog 40 #[.pointer (some ⟨N, 0, none⟩), .pointer (some ⟨N', 0, none⟩)] w fun r w' => r = .returned (.int .i64 1) ∧ Only (fun _ => False) w w' := by
  obtain ⟨v0, b, k, hc⟩ := h.ev
  obtain ⟨v0', b', k', hc'⟩ := o.ev
  exact joinlen_walk w lo hi N b k v0 lo' hi' N' b' k' v0' bs bs' _ _ _ _ _ _ hc hc' hne
end
theorem rhist_walk (w : World) (A A2 : Option Addr) (n c m c2 : Nat) (bs l : List Nat) (hC : Kd.C (Kd.int .u64) w A n (ofN bs)) (hn : n = bs.length) (hc : n ≤ c) (hC2 : Kd.C (Kd.int .u64) w A2 m (ofN l)) (hm : m = l.length) (hc2 : m ≤ c2) (hl : l.length ≤ 1000) (hb : bs.length ≤ 900) (hw : ∀ x ∈ l, x < 18446744073709551616) :
    Calls Try.prog 49 #[.slice A n c, .slice A2 m c2] w fun r w' => ∃ A3 c3, r = .returned (.tuple #[.slice A3 (n + 1) c3, .int .u64 ((satS l.sum).1 : Int), .bool (satS l.sum).2]) ∧ Kd.C (Kd.int .u64) w' A3 (n + 1) (ofN (cnts bs l)) ∧ Only (fun _ => False) w w' := by
  have e : n = (ofN bs).length := by rw [ofN_length, hn]
  have e2 : m = (ofN l).length := by rw [ofN_length, hm]
  subst e e2
  refine (tallyroomref11_Hist.calls 3000 A c (ofN bs) A2 c2 (ofN l) _ _ _ w hC hc hC2 hc2 (rhist_f bs l hl hb hw)).mono ?_
  rintro r w' ⟨v, rfl, hR, hB⟩
  obtain ⟨A3, m3, c3, rfl, hm3⟩ := R_sl hR
  obtain ⟨_, _, hC3⟩ := Kd.R_reads' hR
  have hm4 : m3 = (ofN bs).length + 1 := by rw [hm3, ofN_length, cnts_length, ofN_length]
  subst hm4
  rw [← hm3] at hC3
  exact ⟨A3, c3, rfl, hC3, Only.of_below hB (fun k hk _ => hk)⟩
theorem bucks_cnts (bs l : List Nat) (i : Nat) (hi : i < (bucks bs l).length) : (bucks bs l)[i] = ((cnts bs l).getD i 0, false) := by
  have hi' : i < bs.length + 1 := by rw [bucks_length] at hi; exact hi
  have := bucks_get bs l i hi'
  rw [List.getElem?_eq_getElem hi] at this
  rw [cnts_getD bs l i hi']
  exact Option.some.inj this
set_option maxHeartbeats 8000000 in
set_option maxRecDepth 1000000 in
theorem shows_walk (w : World) (lo hi N : Nat) (A A2 : Option Addr) (n c m c2 : Nat) (bs l : List Nat) (h : IsH w lo hi N bs l) (hC : Kd.C (Kd.int .u64) w A n (ofN bs)) (hn : n = bs.length) (hc : n ≤ c) (hC2 : Kd.C (Kd.int .u64) w A2 m (ofN l)) (hm : m = l.length) (hc2 : m ≤ c2) (hw : ∀ x ∈ l, x < 18446744073709551616) :
    Calls Try.prog 39 #[.pointer (some ⟨N, 0, none⟩), .slice A n c, .slice A2 m c2] w fun r w' => r = .returned (.bool true) ∧ Only (fun _ => False) w w' := by
  have hfew := h.few
  have h32 := h.ok.1
  have key := Aside0.mk (rhist_walk w A A2 n c m c2 bs l hC hn hc hC2 hm hc2 hfew (by omega) hw)
  have H := Aside0.mk (And.intro h (Only.refl (fun _ => False) w))
  clear h hC hC2 hw
  rw [← hn] at h32
  rw [← hm] at hfew
  replace hn := Aside0.mk hn
  replace hm := Aside0.mk hm
  have hsat := Aside0.mk (fun W (hW : IsH W lo hi N bs l) => And.intro (sum_h hW) (full_h hW))
  have hcnt := Aside0.mk (fun W (hW : IsH W lo hi N bs l) => count_h hW)
  rw [← hm.out] at hcnt
  generalize satS l.sum = sv at key hsat
  obtain ⟨s1, s2⟩ := sv
  simp only at key hsat
  go_enter Try.func39, Try.ntmps39
  go_wp2_with (first
    | (go_at_call 49; refine key.out.mono ?_; rintro r w1 ⟨A3, c3, rfl, hC3, ho⟩; replace H := Aside0.mk (And.intro (H.out.1.keep ho) (H.out.2.trans ho)); replace hC3 := Aside0.mk hC3; clear ho)
    | (go_at_call 33; refine (buckets_h H.out.1).mono ?_; rintro r w2 ⟨A4, q4, rfl, hR, ho⟩; obtain ⟨_, _, hC4⟩ := Kd.R_reads' hR; rw [show ((bucks bs l).map toS).length = n + 1 by rw [List.length_map, bucks_length, hn.out]] at hC4; rw [← hn.out]; replace hC4 := Aside0.mk hC4; replace H := Aside0.mk (And.intro (H.out.1.keep ho) (H.out.2.trans ho)); replace hC3 := Aside0.mk (Kd.C_below hC3.out (below_of ho)); clear ho hR))
  go_loopg [11] (n + 2) (fun kq v11 wr => ∃ i : Nat, v11 = .int .i64 (i : Int) ∧ i ≤ n + 1 ∧ n + 1 - i < kq ∧ Aside0 (Only (fun _ => False) w2 wr))
  case atStart => exact ⟨0, rfl, by omega, by omega, ⟨Only.refl _ w2⟩⟩
  case round =>
    obtain ⟨i, rfl, hi1, hk, HO⟩ := hrel
    obtain ⟨k1, rfl⟩ : ∃ m, gk = m + 1 := ⟨gk - 1, by omega⟩
    by_cases hin : i < n + 1
    · have hinI : (i : Int) < ((n : Int) + 1) := by omega
      have hi0 : (0 : Int) ≤ (i : Int) := by omega
      have hib : i < (bucks bs l).length := by rw [bucks_length, ← hn.out]; exact hin
      obtain ⟨ad, rfl, hx⟩ := num_at (Kd.C_below hC3.out (below_of HO.out)) i (by rw [cnts_length, ← hn.out]; exact hin)
      obtain ⟨ad4, rfl, hy, hz⟩ := clone_at (Kd.C_below hC4.out (below_of HO.out)) i hib
      rw [bucks_cnts bs l i hib] at hy hz
      generalize (cnts bs l).getD i 0 = x at hx hy hz
      simp only at hy hz
      go_wp2
      go_quiet (fail)
      go_wp2
      go_roundg k1
      case measure => omega
      case rel => exact ⟨i + 1, by first | rfl | simp, by omega, by omega, ⟨HO.out.drewN _⟩⟩
    · have hinI : ¬ (i : Int) < ((n : Int) + 1) := by omega
      replace H := Aside0.mk (And.intro (H.out.1.keep HO.out) (H.out.2.trans HO.out))
      go_wp2_with (first
        | (go_at_call 35; refine (hcnt.out _ H.out.1).mono ?_; rintro r w5 ⟨rfl, ho⟩; replace H := Aside0.mk (And.intro (H.out.1.keep ho) (H.out.2.trans ho)); clear ho)
        | (go_at_call 36; refine (hsat.out _ H.out.1).1.mono ?_; rintro r w6 ⟨rfl, ho⟩; replace H := Aside0.mk (And.intro (H.out.1.keep ho) (H.out.2.trans ho)); clear ho)
        | (go_at_call 41; refine (hsat.out _ H.out.1).2.mono ?_; rintro r w7 ⟨rfl, ho⟩; replace H := Aside0.mk (And.intro (H.out.1.keep ho) (H.out.2.trans ho)); clear ho))
      go_ret
      exact ⟨by first | rfl | simp, H.out.2⟩
end Go.Proofs.Ytdcbhakclhbdpaa.Hi

namespace Go.Proofs.Ytdcbhakclhbdpaa.Hi
open Go.RowKit Go.Shelf Go.Proofs.YtdcbhakclhbdpaaW.PrintWords Go.Proofs.YtdcbhakclhbdpaaW.PrintLast
open Go.Proofs.Ytdcbhakclhbdpaa.Ob Go.Proofs.Ytdcbhakclhbdpaa.XH
set_option linter.unusedSimpArgs false
set_option linter.unusedVariables false

/-- From where to where a bucket goes. -/
def bnds (bs : List Nat) (i : Int) : Int × Int × Bool :=
  if okB bs ∧ 0 ≤ i ∧ i ≤ (bs.length : Int) then (if i = 0 then 0 else ((bs.getD (i.toNat - 1) 0 : Nat) : Int), if i = (bs.length : Int) then 18446744073709551615 else ((bs.getD i.toNat 0 : Nat) : Int), true) else (0, 0, false)
theorem trip {a b x y : Int} {c z : Bool} (h : (a, b, c) = (x, y, z)) : a = x ∧ b = y ∧ c = z := by cases h; exact ⟨rfl, rfl, rfl⟩
theorem add_none (ad : Addr) : ad.add 0 = ad := by unfold Addr.add; exact if_pos rfl
theorem toNat_ofN (l : List Nat) : (ofN l).map Int.toNat = l := by
  unfold ofN
  rw [List.map_map]
  exact (List.map_congr_left (g := id) fun x _ => by simp).trans (List.map_id _)
theorem new_any {w : World} {A : Option Addr} {n c : Nat} {bs : List Nat} (hC : Kd.C (Kd.int .u64) w A n (ofN bs)) (hn : n = bs.length) (hc : n ≤ c) (hl : n ≤ 1000) :
    Calls Try.prog 31 #[.slice A n c] w fun r w' => ((okB bs ∧ ∃ N, r = .returned (.tuple #[.pointer (some ⟨N, 0, none⟩), .int .i64 0])) ∨ (¬ okB bs ∧ r = .returned (.tuple #[.pointer none, .int .i64 1]))) ∧ Only (fun _ => False) w w' := by
  refine (new_walk w A n c bs hC hn hc hl).mono ?_
  rintro r w' (⟨h, N, b, k, v0, rfl, _, ho⟩ | ⟨h, rfl, ho⟩)
  · exact ⟨.inl ⟨h, N, rfl⟩, ho⟩
  · exact ⟨.inr ⟨h, rfl⟩, ho⟩
set_option maxHeartbeats 8000000 in
set_option maxRecDepth 1000000 in
theorem bounds_walk (w : World) (A : Option Addr) (n c : Nat) (bs : List Nat) (i : Int) (hC : Kd.C (Kd.int .u64) w A n (ofN bs)) (hn : n = bs.length) (hc : n ≤ c) (hl : n ≤ 1000) (r1 r2 : Int) (r3 : Bool) (hr : bnds bs i = (r1, r2, r3)) :
    Calls Try.prog 27 #[.slice A n c, .int .i64 i] w fun r w' => r = .returned (.tuple #[.int .u64 r1, .int .u64 r2, .bool r3]) ∧ Only (fun _ => False) w w' := by
  have HC := Aside0.mk hC
  have HN := Aside0.mk hn
  have key := Aside0.mk (new_any hC hn hc hl)
  clear hC hn hc
  unfold bnds at hr
  by_cases hok : okB bs
  · have hokA := Aside0.mk hok
    by_cases h0 : i < 0
    · rw [if_neg (fun h => by have := h.2.1; omega)] at hr
      obtain ⟨rfl, rfl, rfl⟩ := trip hr
      clear hok hr
      go_enter Try.func27, Try.ntmps27
      go_wp2_with (go_at_call 31; refine key.out.mono ?_; rintro r w1 ⟨h, ho⟩; obtain ⟨N, rfl⟩ := h.elim (fun h => h.2) (fun h => absurd hokA.out h.1); clear h; replace ho := Aside0.mk ho)
      go_ret3
      exact ⟨rfl, ho.out⟩
    · by_cases h1 : i > (n : Int)
      · rw [if_neg (fun h => by have := h.2.2; have := HN.out; omega)] at hr
        obtain ⟨rfl, rfl, rfl⟩ := trip hr
        clear hok hr
        go_enter Try.func27, Try.ntmps27
        go_wp2_with (go_at_call 31; refine key.out.mono ?_; rintro r w1 ⟨h, ho⟩; obtain ⟨N, rfl⟩ := h.elim (fun h => h.2) (fun h => absurd hokA.out h.1); clear h; replace ho := Aside0.mk ho)
        go_ret3
        exact ⟨rfl, ho.out⟩
      · rw [if_pos ⟨hok, by omega, by have := HN.out; omega⟩] at hr
        obtain ⟨q, rfl⟩ := Int.eq_ofNat_of_zero_le (show 0 ≤ i by omega)
        rw [Int.toNat_natCast] at hr
        have hqn : q ≤ n := by omega
        clear hok
        rcases Nat.eq_zero_or_pos q with hq0 | hq0
        · subst hq0
          rw [if_pos (by rfl)] at hr
          by_cases hz : n = 0
          · rw [if_pos (by rw [← HN.out, hz])] at hr
            obtain ⟨rfl, rfl, rfl⟩ := trip hr
            clear hr
            subst hz
            go_enter Try.func27, Try.ntmps27
            go_wp2_with (go_at_call 31; refine key.out.mono ?_; rintro r w1 ⟨h, ho⟩; obtain ⟨N, rfl⟩ := h.elim (fun h => h.2) (fun h => absurd hokA.out h.1); clear h; replace ho := Aside0.mk ho)
            go_ret3
            exact ⟨rfl, ho.out⟩
          · rw [if_neg (by rw [← HN.out]; omega)] at hr
            obtain ⟨rfl, rfl, rfl⟩ := trip hr
            clear hr
            have hzI : (0 : Int) < (n : Int) := by omega
            have hgd : Aside0 (bs.getD (0 : Int).toNat 0 = bs.getD 0 0) := ⟨rfl⟩
            have hcell := Aside0.mk (fun W (o : Only (fun _ => False) w W) => num_at (Kd.C_below HC.out (below_of o)) 0 (by rw [← HN.out]; omega))
            go_enter Try.func27, Try.ntmps27
            go_wp2_with (go_at_call 31; refine key.out.mono ?_; rintro r w1 ⟨h, ho⟩; obtain ⟨N, rfl⟩ := h.elim (fun h => h.2) (fun h => absurd hokA.out h.1); clear h; replace ho := Aside0.mk ho; obtain ⟨ad, rfl, hx⟩ := hcell.out _ ho.out; have hx2 := hx; rw [add_none] at hx2)
            go_ret3
            exact ⟨by first | rfl | simp, ho.out⟩
        · obtain ⟨j, hj⟩ : ∃ j, q = j + 1 := ⟨q - 1, by omega⟩
          have hjI : (q : Int) - 1 = (j : Int) := by omega
          have hj0 : (0 : Int) ≤ (j : Int) := by omega
          have hjn : (j : Int) < (n : Int) := by omega
          have hqI : (0 : Int) < (q : Int) := by omega
          rw [if_neg (by omega), show q - 1 = j by omega] at hr
          have hcell := Aside0.mk (fun W (o : Only (fun _ => False) w W) => num_at (Kd.C_below HC.out (below_of o)) j (by rw [← HN.out]; omega))
          by_cases hz : q = n
          · rw [if_pos (by rw [← HN.out, hz])] at hr
            obtain ⟨rfl, rfl, rfl⟩ := trip hr
            clear hr hj
            generalize bs.getD j 0 = x at hcell ⊢
            subst hz
            go_enter Try.func27, Try.ntmps27
            go_wp2_with (go_at_call 31; refine key.out.mono ?_; rintro r w1 ⟨h, ho⟩; obtain ⟨N, rfl⟩ := h.elim (fun h => h.2) (fun h => absurd hokA.out h.1); clear h; replace ho := Aside0.mk ho; obtain ⟨ad, rfl, hx⟩ := hcell.out _ ho.out)
            go_ret3
            exact ⟨by first | rfl | simp, ho.out⟩
          · rw [if_neg (by rw [← HN.out]; omega)] at hr
            obtain ⟨rfl, rfl, rfl⟩ := trip hr
            have hzI : (q : Int) < (n : Int) := by omega
            have hq0I : (0 : Int) ≤ (q : Int) := by omega
            have hcell2 := Aside0.mk (fun W (o : Only (fun _ => False) w W) => num_at (Kd.C_below HC.out (below_of o)) q (by rw [← HN.out]; omega))
            clear hr hj hz
            generalize bs.getD j 0 = x at hcell ⊢
            generalize bs.getD q 0 = y at hcell2 ⊢
            go_enter Try.func27, Try.ntmps27
            go_wp2_with (go_at_call 31; refine key.out.mono ?_; rintro r w1 ⟨h, ho⟩; obtain ⟨N, rfl⟩ := h.elim (fun h => h.2) (fun h => absurd hokA.out h.1); clear h; replace ho := Aside0.mk ho; obtain ⟨ad, rfl, hx⟩ := hcell.out _ ho.out; obtain ⟨ad', e', hy⟩ := hcell2.out _ ho.out; cases e')
            go_ret3
            exact ⟨by first | rfl | simp, ho.out⟩
  · rw [if_neg (fun h => hok h.1)] at hr
    obtain ⟨rfl, rfl, rfl⟩ := trip hr
    replace hok := Aside0.mk hok
    clear hr
    go_enter Try.func27, Try.ntmps27
    go_wp2_with (go_at_call 31; refine key.out.mono ?_; rintro r w1 ⟨h, ho⟩; obtain rfl := h.elim (fun h => absurd h.1 hok.out) (fun h => h.2); clear h; replace ho := Aside0.mk ho)
    go_ret3
    exact ⟨rfl, ho.out⟩
end Go.Proofs.Ytdcbhakclhbdpaa.Hi
