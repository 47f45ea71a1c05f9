/- What a table of texts (strtab.Table) does: in plain words. No conditions but bounds. -/
import Derived.Test.YtfgpcoocbblkiaaXSvx0
import Derived.Test.YtfgpcoocbblkiaaOb
import Derived.Deep.LoopGhost
import Derived.Deep.QuietTactic
import Derived.BigQuiet
import Derived.RegionTactic
import Derived.BigRegion
import Derived.Maps.OwnSet
import Derived.Maps.OwnOps
import Derived.ChangeMaps5
import Derived.StringKeys
import Derived.Carry
namespace Go.Proofs.Ytfgpcoocbblkiaa.St
open Go.RowKit Go.Maps Go.ChangeMaps Go.MapKept Go.Proofs.YtfgpcoocbblkiaaW.PrintWords Go.Proofs.YtfgpcoocbblkiaaW.PrintLast
open Go.Proofs.Ytfgpcoocbblkiaa.Ob Go.Proofs.Ytfgpcoocbblkiaa.XSv
set_option linter.unusedSimpArgs false
set_option linter.unusedVariables false

theorem law9 : Keyed Try.prog 9 := string_keyed Try.underlying9
theorem zero3 (w : World) : (zeroValue 3).run Try.prog w = .ok (.int .i64 0) w := by kernel_rfl
def key (s : ByteArray) : Lit := .string s.data.toList
def num (c : Nat) : DataW Unit := .lit (.int .i64 (c : Int))
theorem bytes_ext {a b : ByteArray} (h : a.data.toList = b.data.toList) : a = b := by
  cases a; cases b; simp at h; subst h; rfl
theorem key_ne {a b : ByteArray} (h : a ≠ b) : key a ≠ key b := by
  intro e
  unfold key at e
  injection e with e
  exact h (bytes_ext e)
theorem only_of_grown {W w1 : World} {row : Option Nat} (hg : W.grownBy w1 row) : Only (fun k => some k = row) W w1 := ⟨hg.os, hg.tape, hg.output, hg.size, fun k hk hs => hg.block k hk hs⟩
theorem R_only {α : Type} {d : Kd α} {e base : Nat} {ok S : Nat → Prop} {w w1 : World} {v : Value} {xs : List α} (h : d.R e w base ok v xs) (k : Only S w w1) (hs : ∀ k, ok k → k < w.heap.size → ¬ S k) : d.R e w1 base ok v xs :=
  Kd.R_step h (fun i hi hlt => k.block i hlt (hs i hi hlt))
theorem R_sl {α : Type} {d : Kd α} {e base : Nat} {ok : Nat → Prop} {w : World} {v : Value} {xs : List α} (h : d.R e w base ok v xs) : ∃ A m c, v = .slice A m c ∧ m = xs.length := by
  obtain ⟨A, c, h⟩ := Kd.R_slice h
  exact ⟨A, _, c, h, rfl⟩
theorem Only.of_turned {w w' : World} {b : Nat} (h : w.mapTurned w' b) : Only (fun k => k = b) w w' := by
  obtain ⟨es, clock, es', clock', hb, rfl⟩ := h
  exact ⟨rfl, rfl, rfl, by simp [setBlock], fun k _ hk => heap_setBlock_other hb _ (fun e => hk e)⟩
/-- What was done to new blocks alone. -/
theorem fresh {F S : Nat → Prop} {w a b : World} (h : Only F w a) (k : Only S a b) (hS : ∀ i, S i → w.heap.size ≤ i) : Only F w b :=
  ⟨k.os.trans h.os, k.tape.trans h.tape, k.output.trans h.output, Nat.le_trans h.size k.size, fun i hi hf => (k.block i (Nat.lt_of_lt_of_le hi h.size) fun e => by have := hS i e; omega).trans (h.block i hi hf)⟩

/-- Where a text stands. -/
def idx (L : List ByteArray) (s : ByteArray) : Option Nat := L.findIdx? (fun t => t.data.toList == s.data.toList)
theorem idx_snoc (L : List ByteArray) (s t : ByteArray) (hs : idx L s = none) : idx (L ++ [s]) t = if t = s then some L.length else idx L t := by
  unfold idx at *
  rw [List.findIdx?_append]
  by_cases e : t = s
  · subst e
    rw [if_pos rfl, hs]
    simp [List.findIdx?_cons]
  · rw [if_neg e]
    have : ([s].findIdx? fun u => u.data.toList == t.data.toList) = none := by
      have h : ¬ s.data.toList = t.data.toList := fun h => e (bytes_ext h).symm
      have h2 : ¬ s.data = t.data := fun e => h (by rw [e])
      simp [List.findIdx?_cons, h2]
    rw [this]; simp
theorem idx_lt {L : List ByteArray} {s : ByteArray} {i : Nat} (h : idx L s = some i) : ∃ hi : i < L.length, L[i] = s := by
  unfold idx at h
  obtain ⟨hi, h1, _⟩ := List.findIdx?_eq_some_iff_getElem.1 h
  exact ⟨hi, bytes_ext (by simpa using h1)⟩
theorem idx_none {L : List ByteArray} {s : ByteArray} (h : idx L s = none) : s ∉ L := by
  unfold idx at h
  rw [List.findIdx?_eq_none_iff] at h
  intro hs
  have := h s hs
  simp at this
structure IsT (w : World) (base N B : Nat) (b : Option Nat) (L : List ByteArray) : Prop where
  ne : N ≠ B
  ev : ∃ v, Row w N [v, .map (some B)] ∧ Kd.R Kd.string 9 w base (fun k => k ≠ N ∧ k ≠ B) v L ∧ v.ownBlock = b
  own : ∃ n D, n ≤ L.length ∧ w.ownsMap Try.prog 9 (plainElem (H := Unit) Try.prog 3) B n D ∧ ∀ s : ByteArray, s.size ≤ maxLen → Maps.has D (key s) = (idx L s).isSome ∧ D.atKey (key s) (num 0) = num ((idx L s).getD 0)
  wn : base ≤ N
  wb : base ≤ B
  few : L.length ≤ 4096
theorem IsT.lt {w : World} {base N B : Nat} {b : Option Nat} {L : List ByteArray} (h : IsT w base N B b L) : N < w.heap.size ∧ B < w.heap.size ∧ ∀ k, b = some k → k < w.heap.size ∧ base ≤ k ∧ k ≠ N ∧ k ≠ B := by
  obtain ⟨v, h1, h2, rfl⟩ := h.ev
  obtain ⟨n, D, _, h3, _⟩ := h.own
  have h4 := Kd.R_bound h2
  exact ⟨h1.lt (by simp), h3.lt, fun k hk => ⟨(h4.1 k hk).2.2.1, (h4.1 k hk).2.1, (h4.1 k hk).1.1, (h4.1 k hk).1.2⟩⟩
theorem IsT.only {w w' : World} {base N B : Nat} {b : Option Nat} {L : List ByteArray} (h : IsT w base N B b L) {S : Nat → Prop} (k : Only S w w') (h1 : ¬ S N) (h2 : ¬ S B) (h3 : ∀ k, b = some k → ¬ S k) : IsT w' base N B b L := by
  obtain ⟨v, hr, he, rfl⟩ := h.ev
  obtain ⟨n, D, hn, hown, hD⟩ := h.own
  have hlt := hown.lt
  obtain ⟨es, clock, hb, r⟩ := hown
  refine ⟨h.ne, ⟨v, hr.only k h1, ?_, rfl⟩, ⟨n, D, hn, ⟨es, clock, (k.block B hlt h2).trans hb, r⟩, hD⟩, h.wn, h.wb, h.few⟩
  obtain ⟨h0, inner, ho, hr⟩ := he
  exact ⟨h0, inner, own_move ho (fun j hj => k.block j (own_lt ho j hj) (h3 j hj)), hr⟩
theorem num_look {D : DataW Unit} {k : Lit} {c : Nat} {v : Int} (h : D.atKey k (DataW.lit (Lit.int IntKind.i64 0)) = DataW.lit (Lit.int IntKind.i64 v)) (h0 : D.atKey k (num 0) = num c) : v = (c : Int) := by
  have := h.symm.trans h0
  unfold num at this
  injection this with h; injection h
set_option maxHeartbeats 4000000 in
set_option maxRecDepth 1000000 in
theorem put_long (p : Value) (s : ByteArray) (w : World) (N B base : Nat) (b : Option Nat) (L : List ByteArray) (hg : IsT w base N B b L) (hs : 4096 < s.size) :
    Calls Try.prog 14 #[.pointer (some ⟨N, 0, none⟩), .string s] w fun r w' => r = .returned (.tuple #[.int .i64 0, .int .i64 2]) ∧ w' = w := by
  have hsI : (4096 : Int) < (s.size : Int) := by omega
  go_enter Try.func14, Try.ntmps14
  go_wp2
  go_ret2
  exact ⟨rfl, rfl⟩
set_option maxHeartbeats 4000000 in
set_option maxRecDepth 1000000 in
theorem put_old (s : ByteArray) (w : World) (N B base : Nat) (b : Option Nat) (L : List ByteArray) (i : Nat) (hg : IsT w base N B b L) (hs : s.size ≤ 4096) (hi : idx L s = some i) :
    Calls Try.prog 14 #[.pointer (some ⟨N, 0, none⟩), .string s] w fun r w' => r = .returned (.tuple #[.int .i64 (i : Int), .int .i64 0]) ∧ w' = w := by
  have hsI : ¬ (4096 : Int) < (s.size : Int) := by omega
  obtain ⟨v, hr, he, _⟩ := hg.ev
  obtain ⟨n, D, hn, hown, hD⟩ := hg.own
  have hml : s.size ≤ maxLen := by unfold maxLen; omega
  have hkey : keyOf Try.prog 9 (.string s) = some (key s) := Go.WideMaps.keyOf_string_mk Try.underlying9 hml
  have c1 := (hr 1 _ rfl).1
  have hhas := Aside0.mk (hD s hml)
  rw [hi] at hhas
  go_enter Try.func14, Try.ntmps14
  go_wp2_with (at_lookup; refine wpList_lookup_own_ok_int _ rfl _ _ 105 rfl 9 3 .i64 law9 Try.underlying105 Try.underlying3 (zero3 _) B n D rfl hown _ _ rfl hkey ?_; intro v hat hwc; obtain rfl := num_look hat hhas.out.2; rw [hhas.out.1]; clear hat hwc)
  go_ret2
  exact ⟨rfl, rfl⟩
theorem map_step {P : Program} {ops : Array Oper} {o : Oper} {a : Act} {Q : Exit → Act → World → Prop} {Kc : Act → World → Prop} {w : World} (hw : Region.wanted o (yielded ops a.tmps) = true) {t : TypeId} {mo x v : Operand} (hop : o.op = Op.mapUpdate t mo x v)
    (k e : TypeId) (K : Keyed P k) (ht : P.underlying t = some (.map k e)) (R : Value → Option (DataW Unit × List MemPlace)) (b n : Nat) (D : DataW Unit)
    (hm : a.eval mo = .map (some b)) (hown : w.ownsMap P k R b n D) (hn : n < maxLen) (key val : Value) (kl : Lit) (hx : a.eval x = key) (hv : a.eval v = val) (hkey : keyOf P k key = some kl)
    (d : DataW Unit) (ps : List MemPlace) (hval : R val = some (d, ps))
    (h : ∀ w', w'.ownsMap P k R b (n + 1) (D.put kl d) → w.mapTurned w' b → Kc (a.put o.dst undef) w') :
    if Region.wanted o (yielded ops a.tmps) = true then Oper.wp P o a w Kc Q else Kc (a.put o.dst undef) w := by
  rw [if_pos hw]
  obtain ⟨w', hrun, r1, r2⟩ := hown.store K ht hn hkey hval
  unfold Oper.wp
  simp [execOp, hop, hm, hx, hv, hrun, Result.andThen]
  exact h w' r1 r2
set_option maxHeartbeats 4000000 in
set_option maxRecDepth 1000000 in
theorem put_full (s : ByteArray) (w : World) (N B base : Nat) (b : Option Nat) (L : List ByteArray) (hg : IsT w base N B b L) (hs : s.size ≤ 4096) (hi : idx L s = none) (hf : ¬ L.length < 4096) :
    Calls Try.prog 14 #[.pointer (some ⟨N, 0, none⟩), .string s] w fun r w' => r = .returned (.tuple #[.int .i64 0, .int .i64 31]) ∧ w' = w := by
  have hsI : ¬ (4096 : Int) < (s.size : Int) := by omega
  obtain ⟨v, hr, he, _⟩ := hg.ev
  obtain ⟨A, m, c, rfl, hm⟩ := R_sl he
  obtain ⟨n, D, hn, hown, hD⟩ := hg.own
  have hml : s.size ≤ maxLen := by unfold maxLen; omega
  have hkey : keyOf Try.prog 9 (.string s) = some (key s) := Go.WideMaps.keyOf_string_mk Try.underlying9 hml
  have c0 := (hr 0 _ rfl).1
  have c1 := (hr 1 _ rfl).1
  have hhas := Aside0.mk (hD s hml)
  rw [hi] at hhas
  have hfI : (4096 : Int) ≤ (m : Int) := by omega
  go_enter Try.func14, Try.ntmps14
  go_wp2_with (at_lookup; refine wpList_lookup_own_ok_int _ rfl _ _ 105 rfl 9 3 .i64 law9 Try.underlying105 Try.underlying3 (zero3 _) B n D rfl hown _ _ rfl hkey ?_; intro v hat hwc; obtain rfl := num_look hat hhas.out.2; rw [hhas.out.1]; clear hat hwc)
  go_ret2
  exact ⟨rfl, rfl⟩
theorem C_lit (W : World) (b : Nat) (s : ByteArray) (hb : W.heap.size = b) : Kd.C Kd.string (W.alloc (.cells #[.string s] 9)) (some ⟨b, 0, none⟩) 1 [s] := by
  subst hb
  have h := Row.new W [.string s] 9
  refine ⟨rfl, by omega, fun _ => ⟨_, rfl, fun j x hx => ?_⟩⟩
  have hj : j = 0 := by
    have := (List.getElem?_eq_some_iff.1 hx).1
    simp at this; exact this
  subst hj
  obtain rfl : s = x := Option.some.inj hx
  refine ⟨[.string s], rfl, rfl, fun i u hu => ?_⟩
  have := (h i u hu).1
  have hi : i = 0 := by have := (List.getElem?_eq_some_iff.1 hu).1; simp at this; exact this
  subst hi
  simpa [Addr.add] using this
/-- Before the append, the map is written. -/
structure Tw (w W : World) (base N B : Nat) (L : List ByteArray) (v : Value) : Prop where
  head : Row W N [v, .map (some B)]
  r : Kd.R Kd.string 9 W base (fun k => k ≠ N ∧ k ≠ B) v L
  o : Only (fun k => k = B) w W
  hb : base ≤ w.heap.size
  lt : N < w.heap.size ∧ B < w.heap.size
  wn : base ≤ B
theorem Tw.alloc {w W : World} {base N B : Nat} {L : List ByteArray} {v : Value} (h : Tw w W base N B L v) (o : Obj) : Tw w (W.alloc o) base N B L v :=
  ⟨h.head.alloc o, R_only h.r ((Only.refl (fun _ => False) W).alloc o) (fun _ _ _ => id), h.o.alloc o, h.hb, h.lt, h.wn⟩
theorem Tw.fresh {w W : World} {base N B : Nat} {L : List ByteArray} {v : Value} (h : Tw w W base N B L v) : ∀ k, W.heap.size ≤ k → k ≠ N ∧ k ≠ B := fun k hk => by have := h.lt; have := h.o.size; omega
theorem Tw.below {w W : World} {base N B : Nat} {L : List ByteArray} {v : Value} (h : Tw w W base N B L v) : Below base w W := h.o.below (by rintro k rfl; exact h.wn) h.hb
theorem Tw.size {w W : World} {base N B : Nat} {L : List ByteArray} {v : Value} (h : Tw w W base N B L v) : base ≤ W.heap.size := Nat.le_trans h.hb h.o.size
theorem Tw.after {w W w5 : World} {base N B : Nat} {L : List ByteArray} {v : Value} (h : Tw w W base N B L v) (hg : W.grownBy w5 v.ownBlock) : Row w5 N [v, .map (some B)] :=
  h.head.only (only_of_grown hg) (fun e => (h.r.1 N e.symm).1 rfl)
theorem own_put {w w' : World} {B n : Nat} {D : DataW Unit} {L : List ByteArray} {s : ByteArray} (h : w.ownsMap Try.prog 9 (plainElem (H := Unit) Try.prog 3) B n D) (hD : ∀ s : ByteArray, s.size ≤ maxLen → Maps.has D (key s) = (idx L s).isSome ∧ D.atKey (key s) (num 0) = num ((idx L s).getD 0)) (hs : idx L s = none) :
    ∀ t : ByteArray, t.size ≤ maxLen → Maps.has (D.put (key s) (num L.length)) (key t) = (idx (L ++ [s]) t).isSome ∧ (D.put (key s) (num L.length)).atKey (key t) (num 0) = num ((idx (L ++ [s]) t).getD 0) := by
  intro t ht
  rw [idx_snoc L s t hs]
  by_cases e : t = s
  · subst e
    rw [if_pos rfl]
    have hkl : WideAt.IsKeyLit (key t) := by unfold key; trivial
    exact ⟨has_put_same h.isMap hkl _, atKey_put_same h.isMap hkl _ _⟩
  · rw [if_neg e]
    exact ⟨(has_put_other (key_ne e) _).trans (hD t ht).1, (atKey_put_other (key_ne e) _ _).trans (hD t ht).2⟩
theorem Tw.fin {w W w5 : World} {base N B : Nat} {L : List ByteArray} {s : ByteArray} {v v1 : Value} {n : Nat} {D : DataW Unit} (hne : N ≠ B) (h : Tw w W base N B L v) (hr5 : Kd.R Kd.string 9 w5 base (fun k => k ≠ N ∧ k ≠ B) v1 (L ++ [s])) (hg : W.grownBy w5 v.ownBlock) (hat : v1.ownBlock = v.ownBlock ∨ ∃ b, v1.ownBlock = some b ∧ W.heap.size ≤ b)
    (hn : n ≤ L.length + 1) (hown : W.ownsMap Try.prog 9 (plainElem (H := Unit) Try.prog 3) B n D) (hD : ∀ t : ByteArray, t.size ≤ maxLen → Maps.has D (key t) = (idx (L ++ [s]) t).isSome ∧ D.atKey (key t) (num 0) = num ((idx (L ++ [s]) t).getD 0)) (hwn : base ≤ N) (hf : L.length < 4096) :
    (∃ b', (b' = v.ownBlock ∨ ∃ k, b' = some k ∧ w.heap.size ≤ k) ∧ IsT (w5.setCell ⟨N, 0, none⟩ v1) base N B b' (L ++ [s])) ∧ Only (fun k => k = N ∨ k = B ∨ some k = v.ownBlock) w (w5.setCell ⟨N, 0, none⟩ v1) := by
  have R5 := (h.after hg).set 0 v1
  have k1 := (only_of_grown hg)
  have k2 := (Only.refl (fun k => k = N) w5).setCell ⟨N, 0, none⟩ v1 rfl
  refine ⟨⟨v1.ownBlock, ?_, ⟨hne, ⟨v1, R5, R_only hr5 k2 (fun _ h _ => h.1), rfl⟩, ⟨n, D, by simpa using hn, ?_, hD⟩, hwn, h.wn, by simp; omega⟩⟩, ?_⟩
  · rcases hat with e | ⟨k, e, hk⟩
    · exact .inl e
    · exact .inr ⟨k, e, Nat.le_trans h.o.size hk⟩
  · have hlt := hown.lt
    obtain ⟨es, clock, hb, r⟩ := hown
    have h5 : B < w5.heap.size := Nat.lt_of_lt_of_le hlt k1.size
    exact ⟨es, clock, (k2.block B h5 (fun e => hne e.symm)).trans ((k1.block B hlt (fun e => (h.r.1 B e.symm).2 rfl)).trans hb), r⟩
  · exact ((h.o.mono fun _ e => .inr (.inl e)).trans (k1.mono fun _ e => .inr (.inr e))).setCell ⟨N, 0, none⟩ v1 (.inl rfl)
set_option maxHeartbeats 8000000 in
set_option maxRecDepth 1000000 in
theorem put_new (s : ByteArray) (w : World) (N B base : Nat) (b : Option Nat) (L : List ByteArray) (hg : IsT w base N B b L) (hs : s.size ≤ 4096) (hi : idx L s = none) (hf : L.length < 4096) (hb : base ≤ w.heap.size) :
    Calls Try.prog 14 #[.pointer (some ⟨N, 0, none⟩), .string s] w fun r w' => r = .returned (.tuple #[.int .i64 (L.length : Int), .int .i64 0]) ∧ (∃ b', (b' = b ∨ ∃ k, b' = some k ∧ w.heap.size ≤ k) ∧ IsT w' base N B b' (L ++ [s])) ∧ Only (fun k => k = N ∨ k = B ∨ some k = b) w w' := by
  have hsI : ¬ (4096 : Int) < (s.size : Int) := by omega
  obtain ⟨v, hr, he, rfl⟩ := hg.ev
  obtain ⟨A, m, c, rfl, hm⟩ := R_sl he
  obtain ⟨n, D, hn, hown, hD⟩ := hg.own
  have hne := hg.ne
  have hwn := hg.wn
  have hml : s.size ≤ maxLen := by unfold maxLen; omega
  have hkey : keyOf Try.prog 9 (.string s) = some (key s) := Go.WideMaps.keyOf_string_mk Try.underlying9 hml
  have c0a := (hr 0 _ rfl).1
  have c0b := (hr 0 _ rfl).2
  have c1 := (hr 1 _ rfl).1
  have hhas := Aside0.mk (hD s hml)
  rw [hi] at hhas
  have hmI : ¬ (4096 : Int) ≤ (m : Int) := by omega
  have hnm : n < maxLen := by unfold maxLen; omega
  have hw1 : (Lit.int .i64 (m : Int)).wf = true := by
    simp only [Lit.wf, IntKind.min, IntKind.max, IntKind.signed, IntKind.bits]
    simp; omega
  have hput := Aside0.mk (own_put (w' := w) hown hD hi)
  rw [← hm] at hput
  replace hm := Aside0.mk hm
  have hTw := Aside0.mk (fun (W : World) (k : Only (fun k => k = B) w W) => (Tw.mk (hr.only k hne) (R_only he k (fun _ h _ => h.2)) k hb ⟨hg.lt.1, hg.lt.2.1⟩ hg.wb : Tw w W base N B L (.slice A m c)))
  clear hg hD
  go_enter Try.func14, Try.ntmps14
  go_wp2_with (at_lookup; refine wpList_lookup_own_ok_int _ rfl _ _ 105 rfl 9 3 .i64 law9 Try.underlying105 Try.underlying3 (zero3 _) B n D rfl hown _ _ rfl hkey ?_; intro v hat hwc; obtain rfl := num_look hat hhas.out.2; rw [hhas.out.1]; clear hat hwc)
  have hS := (show (fun w' : World => w'.cell? ⟨N, 1, none⟩ = some (.map (some B)) ∧ w'.cell? ⟨N, 0, none⟩ = some (.slice A m c)) (w.drew) from ⟨c1, c0a⟩)
  refine start_ (n := 11) (S := fun w' : World => w'.cell? ⟨N, 1, none⟩ = some (.map (some B)) ∧ w'.cell? ⟨N, 0, none⟩ = some (.slice A m c)) (ds := []) #[false, false, false, false, false, false, false, false, false, false, false] (by kernel_rfl) rfl rfl hS (fun hHeld => ?_)
  clear hS
  refine pure_ (i := 0) (N := some 32) (v := ?_) (a' := ?_) #[true, false, false, false, false, false, false, false, false, false, false] rfl rfl (by kernel_rfl) (fun _ _ _ h => h) (Or.inl ⟨by rfl, ?_⟩) ?_ ?_
  rotate_left
  · intro w'
    go_simp
    with_reducible rfl
  rotate_left
  · simp only [Act.put, List.setIfInBounds_toArray, List.set_cons_zero, List.set_cons_succ, i64_w, i32_w]
    rfl
  refine pure_ (i := 1) (N := some 33) (v := ?_) (a' := ?_) #[true, true, false, false, false, false, false, false, false, false, false] rfl rfl (by kernel_rfl) (fun _ _ _ h => h) (Or.inl ⟨by rfl, ?_⟩) ?_ ?_
  rotate_left
  · intro w'
    go_simp
    with_reducible rfl
  rotate_left
  · simp only [Act.put, List.setIfInBounds_toArray, List.set_cons_zero, List.set_cons_succ, i64_w, i32_w]
    rfl
  refine pure_ (i := 2) (N := some 34) (v := ?_) (a' := ?_) #[true, true, true, false, false, false, false, false, false, false, false] rfl rfl (by kernel_rfl) (fun _ _ _ h => h) (Or.inl ⟨by rfl, ?_⟩) ?_ ?_
  rotate_left
  · intro w'
    go_simp
    with_reducible rfl
  rotate_left
  · simp only [Act.put, List.setIfInBounds_toArray, List.set_cons_zero, List.set_cons_succ, i64_w, i32_w]
    rfl
  refine take_ (i := 3) (N := some 35) (v := ?_) (a' := ?_) #[true, true, true, true, false, false, false, false, false, false, false] rfl rfl (by kernel_rfl) (fun _ _ _ h => h) (Or.inl ⟨by rfl, ?_⟩) hHeld ?_ ?_
  rotate_left
  · rintro w' ⟨s0, s1⟩
    go_simp
    with_reducible rfl
  rotate_left
  · simp only [Act.put, List.setIfInBounds_toArray, List.set_cons_zero, List.set_cons_succ, i64_w, i32_w]
    rfl
  refine pure_ (i := 4) (N := some 36) (v := ?_) (a' := ?_) #[true, true, true, true, true, false, false, false, false, false, false] rfl rfl (by kernel_rfl) (fun _ _ _ h => h) (Or.inl ⟨by rfl, ?_⟩) ?_ ?_
  rotate_left
  · intro w'
    go_simp
    with_reducible rfl
  rotate_left
  · simp only [Act.put, List.setIfInBounds_toArray, List.set_cons_zero, List.set_cons_succ, i64_w, i32_w]
    rfl
  refine pure_ (i := 5) (N := some 37) (v := ?_) (a' := ?_) #[true, true, true, true, true, true, false, false, false, false, false] rfl rfl (by kernel_rfl) (fun _ _ _ h => h) (Or.inl ⟨by rfl, ?_⟩) ?_ ?_
  rotate_left
  · intro w'
    go_simp
    with_reducible rfl
  rotate_left
  · simp only [Act.put, List.setIfInBounds_toArray, List.set_cons_zero, List.set_cons_succ, i64_w, i32_w]
    rfl
  refine pure_ (i := 6) (N := some 38) (v := ?_) (a' := ?_) #[true, true, true, true, true, true, true, false, false, false, false] rfl rfl (by kernel_rfl) (fun _ _ _ h => h) (Or.inl ⟨by rfl, ?_⟩) ?_ ?_
  rotate_left
  · intro w'
    go_simp
    with_reducible rfl
  rotate_left
  · simp only [Act.put, List.setIfInBounds_toArray, List.set_cons_zero, List.set_cons_succ, i64_w, i32_w]
    rfl
  refine pure_ (i := 7) (N := some 39) (v := ?_) (a' := ?_) #[true, true, true, true, true, true, true, true, false, false, false] rfl rfl (by kernel_rfl) (fun _ _ _ h => h) (Or.inl ⟨by rfl, ?_⟩) ?_ ?_
  rotate_left
  · intro w'
    go_simp
    with_reducible rfl
  rotate_left
  · simp only [Act.put, List.setIfInBounds_toArray, List.set_cons_zero, List.set_cons_succ, i64_w, i32_w]
    rfl
  refine take_ (i := 8) (N := some 40) (v := ?_) (a' := ?_) #[true, true, true, true, true, true, true, true, true, false, false] rfl rfl (by kernel_rfl) (fun _ _ _ h => h) (Or.inl ⟨by rfl, ?_⟩) hHeld ?_ ?_
  rotate_left
  · rintro w' ⟨s0, s1⟩
    go_simp
    with_reducible rfl
  rotate_left
  · simp only [Act.put, List.setIfInBounds_toArray, List.set_cons_zero, List.set_cons_succ, i64_w, i32_w]
    rfl
  refine pure_ (i := 9) (N := some 41) (v := ?_) (a' := ?_) #[true, true, true, true, true, true, true, true, true, true, false] rfl rfl (by kernel_rfl) (fun _ _ _ h => h) (Or.inl ⟨by rfl, ?_⟩) ?_ ?_
  rotate_left
  · intro w'
    go_simp
    with_reducible rfl
  rotate_left
  · simp only [Act.put, List.setIfInBounds_toArray, List.set_cons_zero, List.set_cons_succ, i64_w, i32_w]
    rfl
  refine one_ (i := 10) (N := none) #[true, true, true, true, true, true, true, true, true, true, true] rfl rfl (by kernel_rfl) (by decide) (fun K hK => ?_)
  refine map_step (by rfl) rfl 9 3 law9 Try.underlying105 (plainElem (H := Unit) Try.prog 3) B n D (by rfl) hown hnm (.string s) (.int .i64 (m : Int)) (key s) (by rfl) (by rfl) hkey (num m) [] (plainElem_int Try.underlying3 hw1) ?_
  intro w2 hown2 hturn2
  refine hK.out _ _ ⟨(hr.drew.only (Only.of_turned hturn2) hne 1 _ rfl).1, (hr.drew.only (Only.of_turned hturn2) hne 0 _ rfl).1⟩ (fun hHeld => ?_)
  clear hK K
  refine done_ (by kernel_rfl) ?_
  have hT := Aside0.mk (hTw.out w2 ((Only.refl (fun k => k = B) w).drew.trans (Only.of_turned hturn2)))
  have d0a := (hT.out.head 0 _ rfl).1
  have d0b := (hT.out.head 0 _ rfl).2
  clear c0a c0b c1 hHeld hTw
  go_wp2_with ((with_reducible refine gate_builtin (b := .append) (xs := #[.tmp 46, .tmp 48]) rfl ?_); at_builtin; refine Kd.R_append_rows Kd.string (w0 := w) base rfl (.tmp 46) (.tmp 48) 22 9 (.string ByteArray.empty) 16 rfl Try.underlying22 (by kernel_rfl) rfl (by decide) (by omega) (.slice A m c) L [s] _ _ _ (fun k => k ≠ N ∧ k ≠ B) (fun _ => False) rfl rfl (hT.out.alloc _).r (C_lit w2 w2.heap.size s rfl) (fun _ _ h => h) (fun _ h => h.elim) (hT.out.alloc _).fresh (hT.out.alloc _).below (hT.out.alloc _).size (by have := hm.out; omega) ?_; intro v1 w5 hr5 hb5 hg5 hat5; obtain ⟨A1, m1, c1, rfl, hm1⟩ := R_sl hr5; have R5 := (hT.out.alloc _).after hg5; have c6a := (R5 0 _ rfl).1; have c6b := (R5 0 _ rfl).2; have F := Aside0.mk ((hT.out.alloc _).fin hne hr5 hg5 hat5 (by omega) (hown2.alloc _) hput.out hwn hf); have hm1I : (m1 : Int) = (m : Int) + 1 := (by rw [hm1, hm.out]; simp); clear hm1; clear R5 hr5 hb5 hg5 hat5)
  go_ret2
  exact ⟨by rw [← hm.out]; first | rfl | simp, F.out⟩
end Go.Proofs.Ytfgpcoocbblkiaa.St
