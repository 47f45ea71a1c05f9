/- What a sampler does, over what its policy's functions do: in plain words. No conditions but bounds. -/
import Derived.Test.YtgpkihnihmbomaaBx
import Derived.Test.YtgpkihnihmbomaaRa
namespace Go.Proofs.Ytgpkihnihmbomaa.Sm
open Go.RowKit Go.Proofs.YtgpkihnihmbomaaW.PrintWords Go.Proofs.YtgpkihnihmbomaaW.PrintLast
open Go.Proofs.Ytgpkihnihmbomaa.Ob Go.Proofs.Ytgpkihnihmbomaa.Two Go.Proofs.Ytgpkihnihmbomaa.Bx Go.Proofs.Ytgpkihnihmbomaa.Ra
set_option linter.unusedSimpArgs false
set_option linter.unusedVariables false
theorem row_pre {w : World} {b : Nat} {cs ds : List Value} (h : Row w b (cs ++ ds)) : Row w b cs := fun i v hv => h i v (by
  rw [List.getElem?_append_left (List.getElem?_eq_some_iff.1 hv).1]; exact hv)
/-- A policy's cells. -/
structure Po where
  op : ByteArray
  key : ByteArray
  vk : Int
  vn : Int
  vs : ByteArray
  n : Int
  A : Option Addr
  len : Nat
  c : Nat
abbrev Po.cells (p : Po) : List Value := [.string p.op, .string p.key, .int .i64 p.vk, .int .i64 p.vn, .string p.vs, .int .u64 p.n, .slice p.A p.len p.c]
abbrev Po.val (p : Po) : Value := .agg #[.string p.op, .string p.key, .int .i64 p.vk, .int .i64 p.vn, .string p.vs, .int .u64 p.n, .slice p.A p.len p.c]
/-- A sampler with a gate. -/
structure IsSm (w : World) (S N B : Nat) (p : Po) (width most c : Nat) (f : Nat → Nat) (has : Nat → Bool) : Prop where
  head : Row w S [.string p.op, .string p.key, .int .i64 p.vk, .int .i64 p.vn, .string p.vs, .int .u64 p.n, .slice p.A p.len p.c, .int .u64 (width : Int), .pointer (some ⟨N, 0, none⟩)]
  g : IsGate w N B most c f has
  sn : S ≠ N
  sb : S ≠ B
/-- A sampler without. -/
def IsFree (w : World) (S : Nat) (p : Po) (width : Nat) : Prop := Row w S [.string p.op, .string p.key, .int .i64 p.vk, .int .i64 p.vn, .string p.vs, .int .u64 p.n, .slice p.A p.len p.c, .int .u64 (width : Int), .pointer none]
theorem IsGate.keep {w w' : World} {N B most c : Nat} {f : Nat → Nat} {has : Nat → Bool} (h : IsGate w N B most c f has) {S : Nat → Prop} (k : Only S w w') (h1 : ¬ S N) (h2 : ¬ S B) : IsGate w' N B most c f has := by
  obtain ⟨n, D, hn, hown, hD⟩ := h.own
  have hlt := hown.lt
  obtain ⟨es, clock, hb, r⟩ := hown
  exact ⟨h.ne, h.head.only k h1, n, D, hn, ⟨es, clock, (k.block B hlt h2).trans hb, r⟩, hD⟩
theorem IsSm.keep {w w' : World} {S N B width most c : Nat} {p : Po} {f : Nat → Nat} {has : Nat → Bool} (h : IsSm w S N B p width most c f has) {T : Nat → Prop} (k : Only T w w') (h0 : ¬ T S) (h1 : ¬ T N) (h2 : ¬ T B) : IsSm w' S N B p width most c f has :=
  ⟨h.head.only k h0, IsGate.keep h.g k h1 h2, h.sn, h.sb⟩
theorem IsSm.below {w w' : World} {S N B width most c : Nat} {p : Po} {f : Nat → Nat} {has : Nat → Bool} (h : IsSm w S N B p width most c f has) (k : Below w.heap.size w w') : IsSm w' S N B p width most c f has :=
  h.keep (below_only0 k) id id id
set_option maxHeartbeats 4000000 in
set_option maxRecDepth 1000000 in
theorem ask_empty (s : Addr) (A : Option Addr) (c : Nat) (w : World) : Calls Try.prog 27 #[.pointer (some s), .slice A 0 c] w fun e w' => e = .returned (.tuple #[.int .i64 0, .int .u64 0, .int .i64 0]) ∧ w' = w := by
  go_enter Try.func27, Try.ntmps27
  go_wp2
  go_ret3
  exact ⟨rfl, rfl⟩
set_option maxHeartbeats 4000000 in
set_option maxRecDepth 1000000 in
theorem ask_nil (A : Option Addr) (n c : Nat) (w : World) : Calls Try.prog 27 #[.pointer none, .slice A n c] w fun e w' => e = .returned (.tuple #[.int .i64 0, .int .u64 0, .int .i64 3]) ∧ w' = w := by
  go_enter Try.func27, Try.ntmps27
  go_wp2
  go_ret3
  exact ⟨rfl, rfl⟩
set_option maxHeartbeats 4000000 in
set_option maxRecDepth 1000000 in
theorem ask_drop (S : Nat) (p : Po) (width : Nat) (gp : Value) (A : Option Addr) (n c : Nat) (win : Int) (w : World) (hn : 0 < n)
    (hr : Row w S [.string p.op, .string p.key, .int .i64 p.vk, .int .i64 p.vn, .string p.vs, .int .u64 p.n, .slice p.A p.len p.c, .int .u64 (width : Int), gp])
    (hW : Aside0 (Calls Try.prog 31 #[.slice A n c, .int .u64 (width : Int)] w fun e w' => e = .returned (.int .u64 win) ∧ Below w.heap.size w w'))
    (hH : Aside0 (∀ W, Below w.heap.size w W → Calls Try.prog 32 #[p.val, .slice A n c] W fun e w' => e = .returned (.bool false) ∧ Below W.heap.size W w')) :
    Calls Try.prog 27 #[.pointer (some ⟨S, 0, none⟩), .slice A n c] w fun e w' => e = .returned (.tuple #[.int .i64 0, .int .u64 win, .int .i64 0]) ∧ Below w.heap.size w w' := by
  have hz : ((n : Int) == 0) = false := by rw [beq_eq_false_iff_ne]; omega
  have c7 := (hr 7 _ rfl).1
  have R := Aside0.mk hr
  clear hr
  go_enter Try.func27, Try.ntmps27
  go_wp2_with (first
    | (go_at_call 31; refine hW.out.mono ?_; rintro e w1 ⟨rfl, hb1⟩; replace hb1 := Aside0.mk hb1)
    | (go_at_call 32; refine (hH.out _ hb1.out).mono ?_; rintro e w2 ⟨rfl, hb2⟩; replace hb2 := Aside0.mk (hb1.out.trans (hb2.mono hb1.out.size)))
    | (refine wpList_load_at (by rfl) 53 _ rfl S 0 rfl p.cells _ (row_at0 (row_pre (ds := [.int .u64 (width : Int), gp]) (R.out.only (below_only0 hb1.out) id))) Try.underlying53 rfl (by kernel_rfl) ?_))
  go_ret3
  exact ⟨rfl, hb2.out⟩
set_option maxHeartbeats 4000000 in
set_option maxRecDepth 1000000 in
theorem ask_free (S : Nat) (p : Po) (width : Nat) (A : Option Addr) (n c : Nat) (win : Int) (w : World) (hn : 0 < n) (hr : IsFree w S p width)
    (hW : Aside0 (Calls Try.prog 31 #[.slice A n c, .int .u64 (width : Int)] w fun e w' => e = .returned (.int .u64 win) ∧ Below w.heap.size w w'))
    (hH : Aside0 (∀ W, Below w.heap.size w W → Calls Try.prog 32 #[p.val, .slice A n c] W fun e w' => e = .returned (.bool true) ∧ Below W.heap.size W w')) :
    Calls Try.prog 27 #[.pointer (some ⟨S, 0, none⟩), .slice A n c] w fun e w' => e = .returned (.tuple #[.int .i64 1, .int .u64 win, .int .i64 0]) ∧ Below w.heap.size w w' := by
  unfold IsFree at hr
  have hz : ((n : Int) == 0) = false := by rw [beq_eq_false_iff_ne]; omega
  have c7 := (hr 7 _ rfl).1
  have R := Aside0.mk hr
  clear hr
  go_enter Try.func27, Try.ntmps27
  go_wp2_with (first
    | (go_at_call 31; refine hW.out.mono ?_; rintro e w1 ⟨rfl, hb1⟩; replace hb1 := Aside0.mk hb1)
    | (go_at_call 32; refine (hH.out _ hb1.out).mono ?_; rintro e w2 ⟨rfl, hb2⟩; replace hb2 := Aside0.mk (hb1.out.trans (hb2.mono hb1.out.size)); have c8 := (R.out.only (below_only0 hb2.out) id 8 _ rfl).1)
    | (refine wpList_load_at (by rfl) 53 _ rfl S 0 rfl p.cells _ (row_at0 (row_pre (ds := [.int .u64 (width : Int), .pointer none]) (R.out.only (below_only0 hb1.out) id))) Try.underlying53 rfl (by kernel_rfl) ?_))
  go_ret3
  exact ⟨rfl, hb2.out⟩
set_option maxHeartbeats 4000000 in
set_option maxRecDepth 1000000 in
theorem ask_gate (S N B : Nat) (p : Po) (width most cb : Nat) (f : Nat → Nat) (has : Nat → Bool) (A : Option Addr) (n c : Nat) (win : Nat) (w : World) (hn : 0 < n) (hs : IsSm w S N B p width most cb f has) (hwin : win < 18446744073709551616) (hm : most ≤ 65536) (hcb : cb < 1000000)
    (hW : Aside0 (Calls Try.prog 31 #[.slice A n c, .int .u64 (width : Int)] w fun e w' => e = .returned (.int .u64 (win : Int)) ∧ Below w.heap.size w w'))
    (hH : Aside0 (∀ W, Below w.heap.size w W → Calls Try.prog 32 #[p.val, .slice A n c] W fun e w' => e = .returned (.bool true) ∧ Below W.heap.size W w')) :
    Calls Try.prog 27 #[.pointer (some ⟨S, 0, none⟩), .slice A n c] w fun e w' => e = .returned (.tuple #[.int .i64 (if f win < most then 1 else 2), .int .u64 (win : Int), .int .i64 0]) ∧ IsSm w' S N B p width most (cb + 1) (at' f win (if f win < most then f win + 1 else f win)) (at' has win true) ∧ Only (fun j => j = B) w w' := by
  have hz : ((n : Int) == 0) = false := by rw [beq_eq_false_iff_ne]; omega
  have c7 := (hs.head 7 _ rfl).1
  have R := Aside0.mk hs
  clear hs
  by_cases hlt : f win < most
  · have hd := Aside0.mk (decide_eq_true hlt)
    rw [if_pos hlt, if_pos hlt]
    replace hlt := Aside0.mk hlt
    go_enter Try.func27, Try.ntmps27
    go_wp2_with (first
      | (go_at_call 31; refine hW.out.mono ?_; rintro e w1 ⟨rfl, hb1⟩; replace hb1 := Aside0.mk hb1)
      | (go_at_call 32; refine (hH.out _ hb1.out).mono ?_; rintro e w2 ⟨rfl, hb2⟩; replace hb2 := Aside0.mk (hb1.out.trans (hb2.mono hb1.out.size)); have R2 := Aside0.mk (R.out.below hb2.out); have c8 := (R2.out.head 8 _ rfl).1)
      | (go_at_call 16; refine (pass_walk N B most cb f has win _ R2.out.g hwin hm hcb).mono ?_; rintro e w3 ⟨rfl, hg3, ho3⟩; rw [hd.out]; rw [if_pos hlt.out] at hg3; replace hg3 := Aside0.mk hg3; replace ho3 := Aside0.mk ho3)
      | (refine wpList_load_at (by rfl) 53 _ rfl S 0 rfl p.cells _ (row_at0 (row_pre (ds := [.int .u64 (width : Int), .pointer (some ⟨N, 0, none⟩)]) (R.out.head.only (below_only0 hb1.out) id))) Try.underlying53 rfl (by kernel_rfl) ?_))
    go_ret3
    exact ⟨rfl, ⟨R2.out.head.only ho3.out R.out.sb, hg3.out, R.out.sn, R.out.sb⟩, ((below_only0 hb2.out).mono (fun _ h => h.elim)).trans ho3.out⟩
  · have hd := Aside0.mk (decide_eq_false hlt)
    rw [if_neg hlt, if_neg hlt]
    replace hlt := Aside0.mk hlt
    go_enter Try.func27, Try.ntmps27
    go_wp2_with (first
      | (go_at_call 31; refine hW.out.mono ?_; rintro e w1 ⟨rfl, hb1⟩; replace hb1 := Aside0.mk hb1)
      | (go_at_call 32; refine (hH.out _ hb1.out).mono ?_; rintro e w2 ⟨rfl, hb2⟩; replace hb2 := Aside0.mk (hb1.out.trans (hb2.mono hb1.out.size)); have R2 := Aside0.mk (R.out.below hb2.out); have c8 := (R2.out.head 8 _ rfl).1)
      | (go_at_call 16; refine (pass_walk N B most cb f has win _ R2.out.g hwin hm hcb).mono ?_; rintro e w3 ⟨rfl, hg3, ho3⟩; rw [hd.out]; rw [if_neg hlt.out] at hg3; replace hg3 := Aside0.mk hg3; replace ho3 := Aside0.mk ho3)
      | (refine wpList_load_at (by rfl) 53 _ rfl S 0 rfl p.cells _ (row_at0 (row_pre (ds := [.int .u64 (width : Int), .pointer (some ⟨N, 0, none⟩)]) (R.out.head.only (below_only0 hb1.out) id))) Try.underlying53 rfl (by kernel_rfl) ?_))
    go_ret3
    exact ⟨rfl, ⟨R2.out.head.only ho3.out R.out.sb, hg3.out, R.out.sn, R.out.sb⟩, ((below_only0 hb2.out).mono (fun _ h => h.elim)).trans ho3.out⟩
/-- A sampler was made, in new blocks. -/
def MadeS (w : World) (p : Po) (width most : Nat) (r : Ending) (w' : World) : Prop := ∃ S N B, r = .returned (.tuple #[.pointer (some ⟨S, 0, none⟩), .int .i64 0]) ∧ w.heap.size ≤ S ∧ w.heap.size ≤ N ∧ w.heap.size ≤ B ∧ S < w'.heap.size ∧ N < w'.heap.size ∧ B < w'.heap.size ∧ IsSm w' S N B p width most 0 (fun _ => 0) (fun _ => false) ∧ Below w.heap.size w w'
set_option maxHeartbeats 4000000 in
set_option maxRecDepth 1000000 in
theorem new_gate (p : Po) (width most : Nat) (w : World) (h1 : 1 ≤ width) (h2 : width ≤ 4611686018427387904) (hm : most ≤ 65536)
    (hC : Aside0 (∀ W, Below w.heap.size w W → Calls Try.prog 46 #[p.val] W fun e w' => e = .returned (.int .i64 0) ∧ Below W.heap.size W w')) :
    Calls Try.prog 24 #[p.val, .int .u64 (width : Int), .int .i64 (most : Int)] w fun e w' => MadeS w p width most e w' := by
  have hT := Aside0.mk ((Bx.start w).new p.cells 53)
  have a1 : ¬ (width : Int) < 1 := by omega
  have a2 : ¬ (width : Int) > 4611686018427387904 := by omega
  have a3 : ¬ (most : Int) < -1 := by omega
  have a4 : ((most : Int) == -1) = false := by rw [beq_eq_false_iff_ne]; omega
  go_enter Try.func24, Try.ntmps24
  go_wp2_with (first
    | (go_at_call 46; refine (hC.out _ hT.out.b).mono ?_; rintro e w1 ⟨rfl, hb1⟩; replace hT := Aside0.mk (hT.out.keep hb1); clear hb1)
    | (go_at_call 15; refine (new_walk most _ hm).mono ?_; rintro e w5 ⟨N, B, rfl, hN, hB, hN1, hB1, hg, ho⟩; have ho' := Aside0.mk ho; replace hg := Aside0.mk hg; replace hN := Aside0.mk (And.intro hN (And.intro hB (And.intro hN1 hB1))); clear hB hN1 hB1 ho; have HR := Aside0.mk ((Row.new w1 [.string p.op, .string p.key, .int .i64 p.vk, .int .i64 p.vn, .string p.vs, .int .u64 p.n, .slice p.A p.len p.c, .int .u64 (width : Int), .pointer none] 104).only ho'.out id); have c8 := (HR.out 8 _ rfl).1; have c8f := (HR.out 8 _ rfl).2)
    | (refine wpList_load_at (by rfl) 53 _ rfl w.heap.size 0 rfl p.cells _ (row_at0 (hT.out.row (by simp))) Try.underlying53 rfl (by kernel_rfl) ?_))
  go_ret2
  obtain ⟨hN1, hB1, hN2, hB2⟩ := hN.out
  have e := size_alloc w1 (.cells #[.string p.op, .string p.key, .int .i64 p.vk, .int .i64 p.vn, .string p.vs, .int .u64 p.n, .slice p.A p.len p.c, .int .u64 (width : Int), .pointer none] 104)
  rw [e] at hN1 hB1
  have hsz := hT.out.b.size
  have k := (Only.refl (fun k => k = w1.heap.size) w5).setCell ⟨w1.heap.size, 8, none⟩ (.pointer (some ⟨N, 0, none⟩)) rfl
  have ks : (w5.setCell ⟨w1.heap.size, 8, none⟩ (.pointer (some ⟨N, 0, none⟩))).heap.size = w5.heap.size := by simp [World.setCell]
  have hlt := HR.out.lt (by simp)
  refine ⟨w1.heap.size, N, B, rfl, hsz, by omega, by omega, by rw [ks]; exact hlt, by rw [ks]; exact hN2, by rw [ks]; exact hB2, ⟨HR.out.set 8 _, IsGate.keep hg.out k (fun h => by have h : N = w1.heap.size := h; omega) (fun h => by have h : B = w1.heap.size := h; omega), by omega, by omega⟩, ?_⟩
  exact ((hT.out.b.alloc hsz _).trans (ho'.out.below (fun _ h => h.elim) (by rw [e]; omega))).setCell hsz _
set_option maxHeartbeats 4000000 in
set_option maxRecDepth 1000000 in
theorem new_free (p : Po) (width : Nat) (w : World) (h1 : 1 ≤ width) (h2 : width ≤ 4611686018427387904)
    (hC : Aside0 (∀ W, Below w.heap.size w W → Calls Try.prog 46 #[p.val] W fun e w' => e = .returned (.int .i64 0) ∧ Below W.heap.size W w')) :
    Calls Try.prog 24 #[p.val, .int .u64 (width : Int), .int .i64 (-1)] w fun e w' => ∃ S, e = .returned (.tuple #[.pointer (some ⟨S, 0, none⟩), .int .i64 0]) ∧ w.heap.size ≤ S ∧ S < w'.heap.size ∧ IsFree w' S p width ∧ Below w.heap.size w w' := by
  have hT := Aside0.mk ((Bx.start w).new p.cells 53)
  have a1 : ¬ (width : Int) < 1 := by omega
  have a2 : ¬ (width : Int) > 4611686018427387904 := by omega
  go_enter Try.func24, Try.ntmps24
  go_wp2_with (first
    | (go_at_call 46; refine (hC.out _ hT.out.b).mono ?_; rintro e w1 ⟨rfl, hb1⟩; replace hT := Aside0.mk (hT.out.keep hb1); clear hb1)
    | (refine wpList_load_at (by rfl) 53 _ rfl w.heap.size 0 rfl p.cells _ (row_at0 (hT.out.row (by simp))) Try.underlying53 rfl (by kernel_rfl) ?_))
  go_ret2
  have e := size_alloc w1 (.cells #[.string p.op, .string p.key, .int .i64 p.vk, .int .i64 p.vn, .string p.vs, .int .u64 p.n, .slice p.A p.len p.c, .int .u64 (width : Int), .pointer none] 104)
  exact ⟨w1.heap.size, rfl, hT.out.b.size, by rw [e]; omega, Row.new w1 [.string p.op, .string p.key, .int .i64 p.vk, .int .i64 p.vn, .string p.vs, .int .u64 p.n, .slice p.A p.len p.c, .int .u64 (width : Int), .pointer none] 104, hT.out.b.alloc hT.out.b.size _⟩
set_option maxHeartbeats 4000000 in
set_option maxRecDepth 1000000 in
theorem new_wrong (p : Po) (width most : Int) (k : Int) (w : World) (hk : k ≠ 0)
    (hC : Aside0 (∀ W, Below w.heap.size w W → Calls Try.prog 46 #[p.val] W fun e w' => e = .returned (.int .i64 k) ∧ Below W.heap.size W w')) :
    Calls Try.prog 24 #[p.val, .int .u64 width, .int .i64 most] w fun e w' => e = .returned (.tuple #[.pointer none, .int .i64 1]) ∧ Below w.heap.size w w' := by
  have hT := Aside0.mk ((Bx.start w).new p.cells 53)
  have a1 : (k == 0) = false := by rw [beq_eq_false_iff_ne]; exact hk
  have a2 : (k != 0) = true := by rw [bne_iff_ne]; exact hk
  go_enter Try.func24, Try.ntmps24
  go_wp2_with (first
    | (go_at_call 46; refine (hC.out _ hT.out.b).mono ?_; rintro e w1 ⟨rfl, hb1⟩; replace hT := Aside0.mk (hT.out.keep hb1); clear hb1)
    | (refine wpList_load_at (by rfl) 53 _ rfl w.heap.size 0 rfl p.cells _ (row_at0 (hT.out.row (by simp))) Try.underlying53 rfl (by kernel_rfl) ?_))
  go_ret2
  exact ⟨rfl, hT.out.b⟩
set_option maxHeartbeats 4000000 in
set_option maxRecDepth 1000000 in
theorem new_bounds (p : Po) (width most : Int) (w : World) (hb : width < 1 ∨ width > 4611686018427387904 ∨ most < -1)
    (hC : Aside0 (∀ W, Below w.heap.size w W → Calls Try.prog 46 #[p.val] W fun e w' => e = .returned (.int .i64 0) ∧ Below W.heap.size W w')) :
    Calls Try.prog 24 #[p.val, .int .u64 width, .int .i64 most] w fun e w' => e = .returned (.tuple #[.pointer none, .int .i64 1]) ∧ Below w.heap.size w w' := by
  have hT := Aside0.mk ((Bx.start w).new p.cells 53)
  by_cases a1 : width < 1
  · clear hb
    go_enter Try.func24, Try.ntmps24
    go_wp2_with (first
      | (go_at_call 46; refine (hC.out _ hT.out.b).mono ?_; rintro e w1 ⟨rfl, hb1⟩; replace hT := Aside0.mk (hT.out.keep hb1); clear hb1)
      | (refine wpList_load_at (by rfl) 53 _ rfl w.heap.size 0 rfl p.cells _ (row_at0 (hT.out.row (by simp))) Try.underlying53 rfl (by kernel_rfl) ?_))
    go_ret2
    exact ⟨rfl, hT.out.b⟩
  · by_cases a2 : width > 4611686018427387904
    · clear hb
      go_enter Try.func24, Try.ntmps24
      go_wp2_with (first
        | (go_at_call 46; refine (hC.out _ hT.out.b).mono ?_; rintro e w1 ⟨rfl, hb1⟩; replace hT := Aside0.mk (hT.out.keep hb1); clear hb1)
        | (refine wpList_load_at (by rfl) 53 _ rfl w.heap.size 0 rfl p.cells _ (row_at0 (hT.out.row (by simp))) Try.underlying53 rfl (by kernel_rfl) ?_))
      go_ret2
      exact ⟨rfl, hT.out.b⟩
    · have a3 : most < -1 := by omega
      clear hb
      go_enter Try.func24, Try.ntmps24
      go_wp2_with (first
        | (go_at_call 46; refine (hC.out _ hT.out.b).mono ?_; rintro e w1 ⟨rfl, hb1⟩; replace hT := Aside0.mk (hT.out.keep hb1); clear hb1)
        | (refine wpList_load_at (by rfl) 53 _ rfl w.heap.size 0 rfl p.cells _ (row_at0 (hT.out.row (by simp))) Try.underlying53 rfl (by kernel_rfl) ?_))
      go_ret2
      exact ⟨rfl, hT.out.b⟩
set_option maxHeartbeats 4000000 in
set_option maxRecDepth 1000000 in
theorem new_many (p : Po) (width most : Int) (w : World) (h1 : 1 ≤ width) (h2 : width ≤ 4611686018427387904) (hm : 65536 < most)
    (hC : Aside0 (∀ W, Below w.heap.size w W → Calls Try.prog 46 #[p.val] W fun e w' => e = .returned (.int .i64 0) ∧ Below W.heap.size W w')) :
    Calls Try.prog 24 #[p.val, .int .u64 width, .int .i64 most] w fun e w' => e = .returned (.tuple #[.pointer none, .int .i64 1]) ∧ Below w.heap.size w w' := by
  have hT := Aside0.mk ((Bx.start w).new p.cells 53)
  have a1 : ¬ width < 1 := by omega
  have a2 : ¬ width > 4611686018427387904 := by omega
  have a3 : ¬ most < -1 := by omega
  have a4 : (most == -1) = false := by rw [beq_eq_false_iff_ne]; omega
  go_enter Try.func24, Try.ntmps24
  go_wp2_with (first
    | (go_at_call 46; refine (hC.out _ hT.out.b).mono ?_; rintro e w1 ⟨rfl, hb1⟩; replace hT := Aside0.mk (hT.out.keep hb1); clear hb1)
    | (go_at_call 15; refine (new_bad most _ (.inr hm)).mono ?_; rintro e w5 ⟨rfl, rfl⟩)
    | (refine wpList_load_at (by rfl) 53 _ rfl w.heap.size 0 rfl p.cells _ (row_at0 (hT.out.row (by simp))) Try.underlying53 rfl (by kernel_rfl) ?_))
  go_ret2
  exact ⟨rfl, hT.out.b.alloc hT.out.b.size _⟩
end Go.Proofs.Ytgpkihnihmbomaa.Sm
