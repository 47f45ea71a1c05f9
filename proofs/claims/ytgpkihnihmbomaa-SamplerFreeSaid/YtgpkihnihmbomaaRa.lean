/- What a gate (rate.Gate) does: in plain words. No conditions but bounds. -/
import Derived.Test.YtgpkihnihmbomaaOb
import Derived.Test.YtgpkihnihmbomaaWMore
import Derived.Deep.LoopGhost
import Derived.Maps.OwnSet
import Derived.Maps.OwnOps
import Derived.WalkKit
import Derived.ChangeMaps5
import Derived.Carry
namespace Go.Proofs.Ytgpkihnihmbomaa.Ra
open Go.RowKit Go.Maps Go.ChangeMaps Go.MapKept Go.Proofs.YtgpkihnihmbomaaW.PrintWords Go.Proofs.YtgpkihnihmbomaaW.PrintLast
open Go.Proofs.Ytgpkihnihmbomaa.Ob

theorem law22 : Keyed Try.prog 22 := int_keyed Try.underlying22
theorem zero3 (w : World) : (zeroValue 3).run Try.prog w = .ok (.int .i64 0) w := by kernel_rfl
def key (k : Nat) : Lit := .int .u64 (k : Int)
def num (c : Nat) : DataW Unit := .lit (.int .i64 (c : Int))
theorem key_ne {a b : Nat} (h : a ≠ b) : key a ≠ key b := by
  intro e
  have : (a : Int) = (b : Int) := by unfold key at e; injection e
  exact h (by omega)
/-- A gate: how many passed in each window, and which windows it knows; c bounds the windows. -/
structure IsGate (w : World) (N B most c : Nat) (f : Nat → Nat) (has : Nat → Bool) : Prop where
  ne : N ≠ B
  head : Row w N [.int .i64 (most : Int), .map (some B)]
  own : ∃ n D, n ≤ c ∧ w.ownsMap Try.prog 22 (plainElem (H := Unit) Try.prog 3) B n D ∧ ∀ k, k < 18446744073709551616 → D.atKey (key k) (num 0) = num (f k) ∧ Maps.has D (key k) = has k
theorem Only.of_turned {w w' : World} {b : Nat} (h : w.mapTurned w' b) : Only (fun k => k = b) w w' := by
  obtain ⟨es, clock, es', clock', hb, rfl⟩ := h
  exact ⟨rfl, rfl, rfl, by simp [setBlock], fun k _ hk => heap_setBlock_other hb _ (fun e => hk e)⟩
theorem key_wf {k : Nat} (h : k < 18446744073709551616) : (Lit.int .u64 (k : Int)).wf = true := by
  simp only [Lit.wf, IntKind.min, IntKind.max, IntKind.signed, IntKind.bits]
  simp; omega
theorem num_inj {a b : Nat} (h : (DataW.lit (.int .i64 (a : Int)) : DataW Unit) = .lit (.int .i64 (b : Int))) : a = b := by
  injection h with h; injection h; omega

set_option maxHeartbeats 4000000 in
set_option maxRecDepth 1000000 in
theorem passed_walk (N B most c : Nat) (f : Nat → Nat) (has : Nat → Bool) (k : Nat) (w : World) (hg : IsGate w N B most c f has) (hk : k < 18446744073709551616) :
    Calls Try.prog 17 #[.pointer (some ⟨N, 0, none⟩), .int .u64 (k : Int)] w fun r w' => r = .returned (.int .i64 (f k : Int)) ∧ w' = w := by
  obtain ⟨n, D, hn, hown, hD⟩ := hg.own
  have hkey : keyOf Try.prog 22 (.int .u64 (k : Int)) = some (key k) := keyOf_int_mk Try.underlying22 (key_wf hk)
  have c1 := (hg.head 1 _ rfl).1
  have hat0 := (hD k hk).1
  go_enter Try.func17, Try.ntmps17
  go_wp2_with (first
    | (at_lookup; refine wpList_lookup_own_int _ rfl _ _ 93 rfl 22 3 .i64 law22 Try.underlying93 Try.underlying3 (zero3 _) B n D rfl hown _ _ rfl hkey ?_; intro v hat hwc)
    | go_in)
  go_ret
  have e : v = (f k : Int) := by
    have := hat.symm.trans hat0
    unfold num at this
    injection this with h; injection h
  exact ⟨by rw [e]; rfl, rfl⟩

theorem look_eq {D : DataW Unit} {k c : Nat} {v : Int} (h : D.atKey (key k) (DataW.lit (Lit.int IntKind.i64 0)) = DataW.lit (Lit.int IntKind.i64 v)) (h0 : D.atKey (key k) (num 0) = num c) : v = (c : Int) := by
  have := h.symm.trans h0
  unfold num at this
  injection this with h; injection h
/-- One window turned. -/
def at' {α : Type} (f : Nat → α) (k : Nat) (v : α) : Nat → α := fun j => if j = k then v else f j
theorem own_put {w w' : World} {B c : Nat} {f : Nat → Nat} {has : Nat → Bool} {n : Nat} {D : DataW Unit} (h : w.ownsMap Try.prog 22 (plainElem (H := Unit) Try.prog 3) B n D) (hn : n ≤ c) (hD : ∀ k, k < 18446744073709551616 → D.atKey (key k) (num 0) = num (f k) ∧ Maps.has D (key k) = has k) (k v : Nat)
    (h' : w'.ownsMap Try.prog 22 (plainElem (H := Unit) Try.prog 3) B (n + 1) (D.put (key k) (num v))) :
    ∃ n D, n ≤ c + 1 ∧ w'.ownsMap Try.prog 22 (plainElem (H := Unit) Try.prog 3) B n D ∧ ∀ j, j < 18446744073709551616 → D.atKey (key j) (num 0) = num (at' f k v j) ∧ Maps.has D (key j) = at' has k true j := by
  refine ⟨n + 1, _, by omega, h', fun j hj => ?_⟩
  unfold at'
  by_cases e : j = k
  · subst e
    rw [if_pos rfl, if_pos rfl]
    have hkl : WideAt.IsKeyLit (key j) := by unfold key; trivial
    exact ⟨atKey_put_same h.isMap hkl _ _, has_put_same h.isMap hkl _⟩
  · rw [if_neg e, if_neg e]
    have := hD j hj
    exact ⟨(atKey_put_other (key_ne e) _ _).trans this.1, (has_put_other (key_ne e) _).trans this.2⟩
theorem own_del {w' : World} {B c : Nat} {f : Nat → Nat} {has : Nat → Bool} {n : Nat} {D : DataW Unit} (hn : n ≤ c) (hD : ∀ k, k < 18446744073709551616 → D.atKey (key k) (num 0) = num (f k) ∧ Maps.has D (key k) = has k) (k : Nat)
    (h' : w'.ownsMap Try.prog 22 (plainElem (H := Unit) Try.prog 3) B n (D.del (key k))) :
    ∃ n D, n ≤ c ∧ w'.ownsMap Try.prog 22 (plainElem (H := Unit) Try.prog 3) B n D ∧ ∀ j, j < 18446744073709551616 → D.atKey (key j) (num 0) = num (at' f k 0 j) ∧ Maps.has D (key j) = at' has k false j := by
  refine ⟨n, _, hn, h', fun j hj => ?_⟩
  unfold at'
  by_cases e : j = k
  · subst e
    rw [if_pos rfl, if_pos rfl]
    exact ⟨atKey_del_same _, has_del_same⟩
  · rw [if_neg e, if_neg e]
    have := hD j hj
    exact ⟨(atKey_del_other (key_ne e) _).trans this.1, (has_del_other (key_ne e)).trans this.2⟩

set_option maxHeartbeats 4000000 in
set_option maxRecDepth 1000000 in
theorem pass_walk (N B most c : Nat) (f : Nat → Nat) (has : Nat → Bool) (k : Nat) (w : World) (hg : IsGate w N B most c f has) (hk : k < 18446744073709551616) (hm : most ≤ 65536) (hc : c < 1000000) :
    Calls Try.prog 16 #[.pointer (some ⟨N, 0, none⟩), .int .u64 (k : Int)] w fun r w' => r = .returned (.bool (decide (f k < most))) ∧ IsGate w' N B most (c + 1) (at' f k (if f k < most then f k + 1 else f k)) (at' has k true) ∧ Only (fun j => j = B) w w' := by
  obtain ⟨n, D, hn, hown, hD⟩ := hg.own
  have hkey : keyOf Try.prog 22 (.int .u64 (k : Int)) = some (key k) := keyOf_int_mk Try.underlying22 (key_wf hk)
  have c0 := (hg.head 0 _ rfl).1
  have c1 := (hg.head 1 _ rfl).1
  have hat0 := Aside0.mk (hD k hk).1
  have hput := Aside0.mk (fun (v : Nat) (w' : World) => own_put (w' := w') hown hn hD k v)
  have hnm : n < maxLen := by unfold maxLen; omega
  have hne := hg.ne
  by_cases hlt : f k < most
  · have hr := Aside0.mk (show decide (f k < most) = true from decide_eq_true hlt)
    rw [if_pos hlt]
    go_enter Try.func16, Try.ntmps16
    have hw1 : (Lit.int .i64 ((f k : Int) + 1)).wf = true := by
      simp only [Lit.wf, IntKind.min, IntKind.max, IntKind.signed, IntKind.bits]
      simp; omega
    have hput1 := Aside0.mk (fun w' h' => hput.out (f k + 1) w' h')
    have hcast : ((f k + 1 : Nat) : Int) = (f k : Int) + 1 := by omega
    unfold num at hput1
    rw [hcast] at hput1
    clear hput hcast
    go_wp2_with (first
      | (at_lookup; refine wpList_lookup_own_int _ rfl _ _ 93 rfl 22 3 .i64 law22 Try.underlying93 Try.underlying3 (zero3 _) B n D rfl hown _ _ rfl hkey ?_; intro v hat hwc; obtain rfl := look_eq hat hat0.out; clear hat hwc)
      | (at_mapUpdate; refine wpList_mapUpdate_in _ rfl _ _ _ 93 rfl 22 3 law22 Try.underlying93 _ B n D rfl hown hnm _ _ _ rfl rfl hkey _ [] (plainElem_int Try.underlying3 hw1) ?_; intro w1 hown1 hturn1))
    go_ret
    exact ⟨by rw [hr.out]; first | rfl | simp [hlt], ⟨hg.ne, hg.head.only (Only.of_turned hturn1) hne, hput1.out _ hown1⟩, Only.of_turned hturn1⟩
  · have hr := Aside0.mk (show decide (f k < most) = false from decide_eq_false hlt)
    rw [if_neg hlt]
    go_enter Try.func16, Try.ntmps16
    have hput1 := Aside0.mk (fun w' h' => hput.out (f k) w' h')
    unfold num at hput1
    clear hput
    go_wp2_with (first
      | (at_lookup; refine wpList_lookup_own_int _ rfl _ _ 93 rfl 22 3 .i64 law22 Try.underlying93 Try.underlying3 (zero3 _) B n D rfl hown _ _ rfl hkey ?_; intro v hat hwc; obtain rfl := look_eq hat hat0.out; clear hat)
      | (at_mapUpdate; refine wpList_mapUpdate_in _ rfl _ _ _ 93 rfl 22 3 law22 Try.underlying93 _ B n D rfl hown hnm _ _ _ rfl rfl hkey _ [] (plainElem_int Try.underlying3 (by assumption)) ?_; intro w1 hown1 hturn1))
    go_ret
    exact ⟨by rw [hr.out]; first | rfl | simp [hlt], ⟨hg.ne, hg.head.only (Only.of_turned hturn1) hne, hput1.out _ hown1⟩, Only.of_turned hturn1⟩

set_option maxHeartbeats 4000000 in
set_option maxRecDepth 1000000 in
theorem forget_walk (N B most c : Nat) (f : Nat → Nat) (has : Nat → Bool) (k : Nat) (w : World) (hg : IsGate w N B most c f has) (hk : k < 18446744073709551616) :
    Calls Try.prog 18 #[.pointer (some ⟨N, 0, none⟩), .int .u64 (k : Int)] w fun r w' => r = .returned (.bool (has k)) ∧ IsGate w' N B most c (at' f k 0) (at' has k false) ∧ Only (fun j => j = B) w w' := by
  obtain ⟨n, D, hn, hown, hD⟩ := hg.own
  have hkey : keyOf Try.prog 22 (.int .u64 (k : Int)) = some (key k) := keyOf_int_mk Try.underlying22 (key_wf hk)
  have c1 := (hg.head 1 _ rfl).1
  have hhas := Aside0.mk (hD k hk).2
  have hdel := Aside0.mk (fun (w' : World) => own_del (w' := w') (B := B) hn hD k)
  have hne := hg.ne
  go_enter Try.func18, Try.ntmps18
  go_wp2_with (first
    | (at_lookup; refine wpList_lookup_own_ok_int _ rfl _ _ 93 rfl 22 3 .i64 law22 Try.underlying93 Try.underlying3 (zero3 _) B n D rfl hown _ _ rfl hkey ?_; intro v hat hwc; clear hat hwc; rw [hhas.out])
    | (at_delete; refine wpList_delete_own _ rfl _ _ 93 22 rfl 3 law22 Try.underlying93 _ B n D rfl hown _ _ rfl hkey ?_; intro w1 hown1 hturn1))
  go_ret
  exact ⟨rfl, ⟨hg.ne, hg.head.only (Only.of_turned hturn1) hne, hdel.out _ hown1⟩, Only.of_turned hturn1⟩
theorem new_bad (m : Int) (w : World) (h : m < 0 ∨ 65536 < m) :
    Calls Try.prog 15 #[.int .i64 m] w fun r w' => r = .returned (.tuple #[.pointer none, .int .i64 1]) ∧ w' = w := by
  go_enter Try.func15, Try.ntmps15
  by_cases h1 : m < 0
  · clear h
    go_wp2
    go_ret2
    exact ⟨rfl, rfl⟩
  · have h2 : m > 65536 := by omega
    clear h
    go_wp2
    go_ret2
    exact ⟨rfl, rfl⟩
/-- A gate was made, in new blocks. -/
def Made (w : World) (most : Nat) (r : Ending) (w' : World) : Prop := ∃ N B, r = .returned (.tuple #[.pointer (some ⟨N, 0, none⟩), .int .i64 0]) ∧ w.heap.size ≤ N ∧ w.heap.size ≤ B ∧ N < w'.heap.size ∧ B < w'.heap.size ∧ IsGate w' N B most 0 (fun _ => 0) (fun _ => false) ∧ Only (fun _ => False) w w'
set_option maxHeartbeats 4000000 in
set_option maxRecDepth 1000000 in
theorem new_walk (m : Nat) (w : World) (hm : m ≤ 65536) : Calls Try.prog 15 #[.int .i64 (m : Int)] w fun r w' => Made w m r w' := by
  have h1 : ¬ (m : Int) > 65536 := by omega
  have hmm := @run_makeMap Try.prog
  have own := Aside0.mk (World.ownsMap_made w Try.prog 22 (plainElem (H := Unit) Try.prog 3))
  have hsz : (w.alloc (.map #[] 0)).heap.size = w.heap.size + 1 := by show (w.heap.push _).size = _; simp
  go_enter Try.func15, Try.ntmps15
  go_wp2
  go_ret2
  have R2 := Row.new (w.alloc (.map #[] 0)) [.int .i64 (m : Int), .map (some w.heap.size)] 95
  rw [hsz] at R2
  have hsz2 : ∀ o, ((w.alloc (.map #[] 0)).alloc o).heap.size = w.heap.size + 2 := fun o => by show ((w.heap.push _).push _).size = _; simp
  refine ⟨w.heap.size + 1, w.heap.size, rfl, by omega, by omega, by rw [hsz2]; omega, by rw [hsz2]; omega, ⟨by omega, by simpa using R2, ⟨0, _, Nat.le_refl _, own.out.alloc _, fun k _ => ⟨rfl, rfl⟩⟩⟩, ((Only.refl _ w).alloc _).alloc _⟩
end Go.Proofs.Ytgpkihnihmbomaa.Ra
