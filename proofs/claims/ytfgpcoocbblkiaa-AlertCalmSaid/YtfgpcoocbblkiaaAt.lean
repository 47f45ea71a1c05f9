/- What a watch (alert.Watch) does: in plain words. No conditions but bounds. -/
import Derived.Test.YtfgpcoocbblkiaaOb
import Derived.Test.YtfgpcoocbblkiaaXAlx1
import Derived.Deep.LoopGhost
import Derived.Deep.QuietTactic
import Derived.BigQuiet
import Derived.RegionTactic
import Derived.BigRegion
namespace Go.Proofs.Ytfgpcoocbblkiaa.At
open Go.RowKit Go.Proofs.YtfgpcoocbblkiaaW.PrintWords Go.Proofs.YtfgpcoocbblkiaaW.PrintLast
open Go.Proofs.Ytfgpcoocbblkiaa.Ob Go.Proofs.Ytfgpcoocbblkiaa.XAl
set_option linter.unusedSimpArgs false
set_option linter.unusedVariables false

theorem R_sl {α : Type} {d : Kd α} {e base : Nat} {ok : Nat → Prop} {w : World} {v : Value} {xs : List α} (h : d.R e w base ok v xs) : ∃ A m c, v = .slice A m c := by
  obtain ⟨A, c, h⟩ := Kd.R_slice h
  exact ⟨A, _, c, h⟩
theorem only_of_grown {W w1 : World} {row : Option Nat} (hg : W.grownBy w1 row) : Only (fun k => some k = row) W w1 := ⟨hg.os, hg.tape, hg.output, hg.size, fun k hk hs => hg.block k hk hs⟩
theorem R_only {α : Type} {d : Kd α} {e base : Nat} {ok S : Nat → Prop} {w w1 : World} {v : Value} {xs : List α} (h : d.R e w base ok v xs) (k : Only S w w1) (hs : ∀ k, ok k → k < w.heap.size → ¬ S k) : d.R e w1 base ok v xs :=
  Kd.R_step h (fun i hi hlt => k.block i hlt (hs i hi hlt))
/-- What was done to new blocks alone. -/
theorem Only.fresh {F S : Nat → Prop} {w a b : World} (h : Only F w a) (k : Only S a b) (hS : ∀ i, S i → w.heap.size ≤ i) : Only F w b :=
  ⟨k.os.trans h.os, k.tape.trans h.tape, k.output.trans h.output, Nat.le_trans h.size k.size, fun i hi hf => (k.block i (Nat.lt_of_lt_of_le hi h.size) fun e => by have := hS i e; omega).trans (h.block i hi hf)⟩

/-- How many of 1000 failed, if that can be told. -/
def share (sp fa : Nat) : Option Nat := if sp = 0 then none else if sp < fa ∨ 1099511627776 < sp then none else some (1000 * fa / sp)
set_option maxHeartbeats 4000000 in
set_option maxRecDepth 1000000 in
theorem share_none (A B C : Option Addr) (n1 c1 n2 c2 n3 c3 : Nat) (b1 b2 b3 b4 : Bool) (sp fa : Nat) (su : Int) (w : World) (ho : share sp fa = none) :
    Calls Try.prog 52 #[.agg #[.slice A n1 c1, .bool b1, .int .u64 (sp : Int), .bool b2, .int .u64 (fa : Int), .bool b3, .int .u64 su, .bool b4, .slice B n2 c2, .slice C n3 c3]] w fun r w' => (∃ e : Int, e ≠ 0 ∧ r = .returned (.tuple #[.int .i64 0, .int .i64 e])) ∧ Only (fun _ => False) w w' := by
  unfold share at ho
  go_enter Try.func52, Try.ntmps52
  by_cases h0 : sp = 0
  · subst h0
    clear ho
    have hx := Aside0.mk ((Only.refl (fun _ => False) w).alloc (.cells #[.slice A n1 c1, .bool b1, .int .u64 0, .bool b2, .int .u64 (fa : Int), .bool b3, .int .u64 su, .bool b4, .slice B n2 c2, .slice C n3 c3] 73))
    go_wp2
    go_ret2
    exact ⟨⟨30, by decide, rfl⟩, hx.out⟩
  · have h0I : ¬ (sp : Int) = 0 := by omega
    rw [if_neg h0] at ho
    have hx := Aside0.mk ((Only.refl (fun _ => False) w).alloc (.cells #[.slice A n1 c1, .bool b1, .int .u64 (sp : Int), .bool b2, .int .u64 (fa : Int), .bool b3, .int .u64 su, .bool b4, .slice B n2 c2, .slice C n3 c3] 73))
    by_cases h1 : sp < fa
    · clear ho
      have h1I : (sp : Int) < (fa : Int) := by omega
      go_wp2
      go_ret2
      exact ⟨⟨1, by decide, rfl⟩, hx.out⟩
    · have h1I : ¬ (sp : Int) < (fa : Int) := by omega
      by_cases h2 : 1099511627776 < sp
      · clear ho
        have h2I : (1099511627776 : Int) < (sp : Int) := by omega
        go_wp2
        go_ret2
        exact ⟨⟨1, by decide, rfl⟩, hx.out⟩
      · rw [if_neg (by omega)] at ho
        cases ho
set_option maxHeartbeats 4000000 in
set_option maxRecDepth 1000000 in
theorem share_some (A B C : Option Addr) (n1 c1 n2 c2 n3 c3 : Nat) (b1 b2 b3 b4 : Bool) (sp fa : Nat) (su : Int) (w : World) (q : Nat) (ho : share sp fa = some q) :
    Calls Try.prog 52 #[.agg #[.slice A n1 c1, .bool b1, .int .u64 (sp : Int), .bool b2, .int .u64 (fa : Int), .bool b3, .int .u64 su, .bool b4, .slice B n2 c2, .slice C n3 c3]] w fun r w' => r = .returned (.tuple #[.int .i64 (q : Int), .int .i64 0]) ∧ Only (fun _ => False) w w' := by
  unfold share at ho
  have h0 : ¬ sp = 0 := fun e => by rw [if_pos e] at ho; cases ho
  rw [if_neg h0] at ho
  have h12 : ¬ (sp < fa ∨ 1099511627776 < sp) := fun e => by rw [if_pos e] at ho; cases ho
  rw [if_neg h12] at ho
  obtain rfl := Option.some.inj ho
  clear ho
  have h0I : ¬ (sp : Int) = 0 := by omega
  have h1I : ¬ (sp : Int) < (fa : Int) := by omega
  have h2I : ¬ (1099511627776 : Int) < (sp : Int) := by omega
  have h1 : ¬ sp < fa := by omega
  have hx := Aside0.mk ((Only.refl (fun _ => False) w).alloc (.cells #[.slice A n1 c1, .bool b1, .int .u64 (sp : Int), .bool b2, .int .u64 (fa : Int), .bool b3, .int .u64 su, .bool b4, .slice B n2 c2, .slice C n3 c3] 73))
  have hb : fa ≤ 1099511627776 := by omega
  have hq : 1000 * fa / sp ≤ 1000 * fa := Nat.div_le_self _ _
  have hd : Int.tdiv (1000 * (fa : Int)) (sp : Int) = ((1000 * fa / sp : Nat) : Int) := by
    rw [Int.tdiv_eq_ediv_of_nonneg (by omega), show (1000 * (fa : Int)) = ((1000 * fa : Nat) : Int) by omega]; rfl
  have hd2 : (1000 * (fa : Int)) / (sp : Int) = ((1000 * fa / sp : Nat) : Int) := by
    rw [show (1000 * (fa : Int)) = ((1000 * fa : Nat) : Int) by omega]; rfl
  clear h12
  generalize 1000 * fa / sp = q at hq hd hd2 ⊢
  go_enter Try.func52, Try.ntmps52
  go_wp2
  go_ret2
  exact ⟨rfl, hx.out⟩
theorem row_walk (a sp fa : Int) (w : World) : Calls Try.prog 33 #[.agg #[.int .u64 a, .int .u64 sp, .int .u64 fa]] w fun r w' => (∃ A B C c1 c2 c3, r = .returned (.agg #[.slice A 0 c1, .bool false, .int .u64 sp, .bool false, .int .u64 fa, .bool false, .int .u64 0, .bool false, .slice B 0 c2, .slice C 0 c3])) ∧ Only (fun _ => False) w w' := by
  refine (tallyroomlaw35_Row.calls a sp fa _ _ _ _ _ _ _ _ _ _ w rfl).mono ?_
  rintro r w' ⟨v0, v8, v9, rfl, h0, h8, h9, hb⟩
  obtain ⟨A, c1, rfl⟩ := Kd.R_slice h0
  obtain ⟨B, c2, rfl⟩ := Kd.R_slice h8
  obtain ⟨C, c3, rfl⟩ := Kd.R_slice h9
  exact ⟨⟨A, B, C, c1, c2, c3, rfl⟩, Only.of_below hb (fun k hk _ => hk)⟩

/-- A watch: its rule, its state, how many windows in a row, its events. -/
structure Wt where
  lim : Nat
  fo : Nat
  ca : Nat
  st : Nat
  row : Nat
  ev : List S78
structure Wf (g : Wt) : Prop where
  lim : g.lim ≤ 1000
  fo : 1 ≤ g.fo ∧ g.fo ≤ 1000
  ca : 1 ≤ g.ca ∧ g.ca ≤ 1000
  st : g.st = 0 ∨ g.st = 1 ∨ g.st = 2
  row : g.row ≤ 1000000
  len : g.ev.length ≤ 1000000
structure IsW (w : World) (base N : Nat) (b : Option Nat) (nm : ByteArray) (g : Wt) : Prop where
  ev : ∃ v, Row w N [.string nm, .int .i64 (g.lim : Int), .int .i64 (g.fo : Int), .int .i64 (g.ca : Int), .int .i64 (g.st : Int), .int .i64 (g.row : Int), v] ∧ Kd.R k78 78 w base (fun k => k ≠ N) v g.ev ∧ v.ownBlock = b
  wn : base ≤ N
theorem IsW.lt {w : World} {base N : Nat} {b : Option Nat} {nm : ByteArray} {g : Wt} (h : IsW w base N b nm g) : N < w.heap.size ∧ ∀ k, b = some k → k < w.heap.size ∧ base ≤ k ∧ k ≠ N := by
  obtain ⟨v, h1, h2, rfl⟩ := h.ev
  have h3 := Kd.R_bound h2
  exact ⟨h1.lt (by simp), fun k hk => ⟨(h3.1 k hk).2.2.1, (h3.1 k hk).2.1, (h3.1 k hk).1⟩⟩
theorem IsW.only {w w' : World} {base N : Nat} {b : Option Nat} {nm : ByteArray} {g : Wt} (h : IsW w base N b nm g) {S : Nat → Prop} (k : Only S w w') (h1 : ¬ S N) (h2 : ∀ k, b = some k → ¬ S k) : IsW w' base N b nm g := by
  obtain ⟨v, h3, h4, rfl⟩ := h.ev
  refine ⟨⟨v, h3.only k h1, ?_, rfl⟩, h.wn⟩
  obtain ⟨h0, inner, ho, hr⟩ := h4
  refine ⟨h0, inner, own_move ho (fun j hj => k.block j (own_lt ho j hj) (h2 j hj)), hr.imp_ (fun p c hp => ?_)⟩
  rw [k78_openM hp]; exact k78_mkM _ _ _ p

/-- To ring, or to be quiet. -/
def turned (g : Wt) (s : Nat) (window : Int) : Wt := { g with st := s, row := 0, ev := g.ev ++ [⟨window, decide (s = 2)⟩] }
def see (g : Wt) (window : Int) (o : Option Nat) : Wt :=
  match o with
  | none => g
  | some n =>
    if decide (g.lim ≤ n) = decide (g.st = 2) then { g with row := 0, st := if g.st = 2 then 2 else 0 }
    else if g.st = 2 then (if g.row + 1 = g.ca then turned g 0 window else { g with row := g.row + 1 })
    else (if g.row + 1 = g.fo then turned g 2 window else { g with row := g.row + 1, st := 1 })
theorem K_M78 {W : World} {base : Nat} {okp : Nat → Prop} (x : S78) (cs : List Value) (h : k78.K W x cs) : k78.M W base okp x cs := by
  rw [k78_open h]; exact k78_mkM W base okp x
theorem C_lit (W : World) (b : Nat) (p : Int) (q : Bool) (hb : W.heap.size = b) : Kd.C k78 (W.alloc (.cells #[.int .u64 p, .bool q] 78)) (some ⟨b, 0, none⟩) 1 [⟨p, q⟩] := by
  subst hb
  have h := Row.new W [.int .u64 p, .bool q] 78
  refine ⟨rfl, by omega, fun _ => ⟨_, rfl, fun j x hx => ?_⟩⟩
  have hj : j = 0 := by
    have := (List.getElem?_eq_some_iff.1 hx).1
    simp at this; exact this
  subst hj
  obtain rfl : (⟨p, q⟩ : S78) = x := Option.some.inj hx
  refine ⟨_, rfl, k78_mk _ ⟨p, q⟩, fun i u hu => ?_⟩
  have := (h i u hu).1
  rw [Nat.zero_mul, Nat.zero_add]
  unfold Addr.add
  split
  · rename_i h0; rw [h0] at this; exact this
  · simpa using this
/-- Before the append, state and row are written. -/
structure Tw (w W : World) (base N : Nat) (nm : ByteArray) (g : Wt) (s : Int) (v : Value) : Prop where
  head : Row W N [.string nm, .int .i64 (g.lim : Int), .int .i64 (g.fo : Int), .int .i64 (g.ca : Int), .int .i64 s, .int .i64 0, v]
  r : Kd.R k78 78 W base (fun k => k ≠ N) v g.ev
  o : Only (fun k => k = N) w W
  hb : base ≤ w.heap.size
  wn : base ≤ N
  lt : N < w.heap.size
theorem tw_before {w : World} {base N : Nat} {nm : ByteArray} {g : Wt} {v : Value} (hr : Row w N [.string nm, .int .i64 (g.lim : Int), .int .i64 (g.fo : Int), .int .i64 (g.ca : Int), .int .i64 (g.st : Int), .int .i64 (g.row : Int), v]) (he : Kd.R k78 78 w base (fun k => k ≠ N) v g.ev) (s : Int) (hb : base ≤ w.heap.size) (hn : base ≤ N) :
    Tw w ((w.setCell ⟨N, 4, none⟩ (.int .i64 s)).setCell ⟨N, 5, none⟩ (.int .i64 0)) base N nm g s v := by
  have k := ((Only.refl (fun k => k = N) w).setCell ⟨N, 4, none⟩ (.int .i64 s) rfl).setCell ⟨N, 5, none⟩ (.int .i64 0) rfl
  exact ⟨(hr.set 4 _).set 5 _, R_only he k (fun _ h _ => h), k, hb, hn, hr.lt (by simp)⟩
theorem Tw.alloc {w W : World} {base N : Nat} {nm : ByteArray} {g : Wt} {s : Int} {v : Value} (h : Tw w W base N nm g s v) (o : Obj) : Tw w (W.alloc o) base N nm g s v :=
  ⟨h.head.alloc o, R_only h.r ((Only.refl (fun _ => False) W).alloc o) (fun _ _ _ => id), h.o.alloc o, h.hb, h.wn, h.lt⟩
theorem Tw.fresh {w W : World} {base N : Nat} {nm : ByteArray} {g : Wt} {s : Int} {v : Value} (h : Tw w W base N nm g s v) : ∀ k, W.heap.size ≤ k → k ≠ N := fun k hk => by have := h.lt; have := h.o.size; omega
theorem Tw.below {w W : World} {base N : Nat} {nm : ByteArray} {g : Wt} {s : Int} {v : Value} (h : Tw w W base N nm g s v) : Below base w W := h.o.below (by rintro k rfl; exact h.wn) h.hb
theorem Tw.size {w W : World} {base N : Nat} {nm : ByteArray} {g : Wt} {s : Int} {v : Value} (h : Tw w W base N nm g s v) : base ≤ W.heap.size := Nat.le_trans h.hb h.o.size
theorem Tw.after {w W w5 : World} {base N : Nat} {nm : ByteArray} {g : Wt} {s : Int} {v : Value} (h : Tw w W base N nm g s v) (hg : W.grownBy w5 v.ownBlock) : Row w5 N [.string nm, .int .i64 (g.lim : Int), .int .i64 (g.fo : Int), .int .i64 (g.ca : Int), .int .i64 s, .int .i64 0, v] :=
  h.head.only (only_of_grown hg) (fun e => h.r.1 N e.symm rfl)
theorem Tw.fin {w W w5 : World} {base N : Nat} {nm : ByteArray} {g : Wt} {s : Nat} {window : Int} {q : Bool} {v v1 : Value} (h : Tw w W base N nm g (s : Int) v) (hr5 : Kd.R k78 78 w5 base (fun k => k ≠ N) v1 (g.ev ++ [⟨window, q⟩])) (hg : W.grownBy w5 v.ownBlock) (hat : v1.ownBlock = v.ownBlock ∨ ∃ b, v1.ownBlock = some b ∧ W.heap.size ≤ b) (hq : q = decide (s = 2)) :
    (∃ b', (b' = v.ownBlock ∨ ∃ k, b' = some k ∧ w.heap.size ≤ k) ∧ IsW (w5.setCell ⟨N, 6, none⟩ v1) base N b' nm (turned g s window)) ∧ Only (fun k => k = N ∨ some k = v.ownBlock) w (w5.setCell ⟨N, 6, none⟩ v1) := by
  have R5 := (h.after hg).set 6 v1
  refine ⟨⟨v1.ownBlock, ?_, ⟨v1, R5, ?_, rfl⟩, h.wn⟩, ?_⟩
  · rcases hat with e | ⟨k, e, hk⟩
    · exact .inl e
    · exact .inr ⟨k, e, Nat.le_trans h.o.size hk⟩
  · subst hq
    exact R_only hr5 ((Only.refl (fun k => k = N) w5).setCell ⟨N, 6, none⟩ v1 rfl) (fun _ h _ => h)
  · exact ((h.o.mono fun _ e => .inl e).trans ((only_of_grown hg).mono fun _ e => .inr e)).setCell ⟨N, 6, none⟩ v1 (.inl rfl)
set_option maxHeartbeats 8000000 in
set_option maxRecDepth 1000000 in
theorem turn_walk (base N : Nat) (b : Option Nat) (nm : ByteArray) (g : Wt) (s : Nat) (window : Int) (w : World) (hg : IsW w base N b nm g) (hw : Wf g) (hs : s = 0 ∨ s = 2) (hb : base ≤ w.heap.size) :
    Calls Try.prog 53 #[.pointer (some ⟨N, 0, none⟩), .int .i64 (s : Int), .int .u64 window] w fun r w' => r = .returned (.tuple #[]) ∧ (∃ b', (b' = b ∨ ∃ k, b' = some k ∧ w.heap.size ≤ k) ∧ IsW w' base N b' nm (turned g s window)) ∧ Only (fun k => k = N ∨ some k = b) w w' := by
  obtain ⟨v, hr, he, rfl⟩ := hg.ev
  have c4a := (hr 4 _ rfl).1
  have c4b := (hr 4 _ rfl).2
  have c5a := (hr 5 _ rfl).1
  have c5b := (hr 5 _ rfl).2
  have c6a := (hr 6 _ rfl).1
  have c6b := (hr 6 _ rfl).2
  rcases hs with rfl | rfl
  · go_enter Try.func53, Try.ntmps53
    obtain ⟨W, hW⟩ : ∃ W, W = (w.setCell ⟨N, 4, none⟩ (.int .i64 0)).setCell ⟨N, 5, none⟩ (.int .i64 0) := ⟨_, rfl⟩
    have hT := Aside0.mk (tw_before hr he 0 hb hg.wn)
    go_wp2_with ((with_reducible refine gate_builtin (b := .append) (xs := #[.tmp 17, .tmp 22]) rfl ?_); at_builtin; (refine Kd.R_append_rows k78 (w0 := w) base rfl (.tmp 17) (.tmp 22) 75 78 (.agg #[(.int .u64 0), (.bool false)]) 16 rfl Try.underlying75 (by kernel_rfl) rfl (by decide) (by omega) v g.ev [⟨window, false⟩] _ _ _ (fun k => k ≠ N) (fun _ => False) rfl rfl (hT.out.alloc _).r (C_lit ((w.setCell ⟨N, 4, none⟩ (.int .i64 0)).setCell ⟨N, 5, none⟩ (.int .i64 0)) w.heap.size window false (by simp [World.setCell])) K_M78 (fun _ h => h.elim) (hT.out.alloc _).fresh (hT.out.alloc _).below (hT.out.alloc _).size (by have := hw.len; omega) ?_; intro v1 w5 hr5 hb5 hg5 hat5; obtain ⟨A1, m1, c1, rfl⟩ := R_sl hr5; have R5 := (hT.out.alloc _).after hg5; have c6a := (R5 6 _ rfl).1; have c6b := (R5 6 _ rfl).2; have F := Aside0.mk ((hT.out.alloc _).fin (s := 0) hr5 hg5 hat5 rfl); clear R5 hr5 hb5 hg5 hat5))
    go_end0
    exact ⟨rfl, F.out⟩
  · go_enter Try.func53, Try.ntmps53
    obtain ⟨W, hW⟩ : ∃ W, W = (w.setCell ⟨N, 4, none⟩ (.int .i64 2)).setCell ⟨N, 5, none⟩ (.int .i64 0) := ⟨_, rfl⟩
    have hT := Aside0.mk (tw_before hr he 2 hb hg.wn)
    go_wp2_with ((with_reducible refine gate_builtin (b := .append) (xs := #[.tmp 17, .tmp 22]) rfl ?_); at_builtin; (refine Kd.R_append_rows k78 (w0 := w) base rfl (.tmp 17) (.tmp 22) 75 78 (.agg #[(.int .u64 0), (.bool false)]) 16 rfl Try.underlying75 (by kernel_rfl) rfl (by decide) (by omega) v g.ev [⟨window, true⟩] _ _ _ (fun k => k ≠ N) (fun _ => False) rfl rfl (hT.out.alloc _).r (C_lit ((w.setCell ⟨N, 4, none⟩ (.int .i64 2)).setCell ⟨N, 5, none⟩ (.int .i64 0)) w.heap.size window true (by simp [World.setCell])) K_M78 (fun _ h => h.elim) (hT.out.alloc _).fresh (hT.out.alloc _).below (hT.out.alloc _).size (by have := hw.len; omega) ?_; intro v1 w5 hr5 hb5 hg5 hat5; obtain ⟨A1, m1, c1, rfl⟩ := R_sl hr5; have R5 := (hT.out.alloc _).after hg5; have c6a := (R5 6 _ rfl).1; have c6b := (R5 6 _ rfl).2; have F := Aside0.mk ((hT.out.alloc _).fin (s := 2) hr5 hg5 hat5 rfl); clear R5 hr5 hb5 hg5 hat5))
    go_end0
    exact ⟨rfl, F.out⟩
theorem IsW.cells {w : World} {base N : Nat} {b : Option Nat} {nm : ByteArray} {g : Wt} (h : IsW w base N b nm g) :
    w.cell? ⟨N, 1, none⟩ = some (.int .i64 (g.lim : Int)) ∧ w.cell? ⟨N, 2, none⟩ = some (.int .i64 (g.fo : Int)) ∧ w.cell? ⟨N, 3, none⟩ = some (.int .i64 (g.ca : Int)) ∧ (w.cell? ⟨N, 4, none⟩ = some (.int .i64 (g.st : Int)) ∧ w.frozen? ⟨N, 4, none⟩ = false) ∧ (w.cell? ⟨N, 5, none⟩ = some (.int .i64 (g.row : Int)) ∧ w.frozen? ⟨N, 5, none⟩ = false) := by
  obtain ⟨v, hr, _, _⟩ := h.ev
  exact ⟨(hr 1 _ rfl).1, (hr 2 _ rfl).1, (hr 3 _ rfl).1, hr 4 _ rfl, hr 5 _ rfl⟩
theorem IsW.putRow {w : World} {base N : Nat} {b : Option Nat} {nm : ByteArray} {g : Wt} (h : IsW w base N b nm g) (r : Nat) : IsW (w.setCell ⟨N, 5, none⟩ (.int .i64 (r : Int))) base N b nm { g with row := r } := by
  obtain ⟨v, hr, he, rfl⟩ := h.ev
  exact ⟨⟨v, hr.set 5 _, R_only he ((Only.refl (fun k => k = N) w).setCell ⟨N, 5, none⟩ _ rfl) (fun _ h _ => h), rfl⟩, h.wn⟩
theorem IsW.putSt {w : World} {base N : Nat} {b : Option Nat} {nm : ByteArray} {g : Wt} (h : IsW w base N b nm g) (r : Nat) : IsW (w.setCell ⟨N, 4, none⟩ (.int .i64 (r : Int))) base N b nm { g with st := r } := by
  obtain ⟨v, hr, he, rfl⟩ := h.ev
  exact ⟨⟨v, hr.set 4 _, R_only he ((Only.refl (fun k => k = N) w).setCell ⟨N, 4, none⟩ _ rfl) (fun _ h _ => h), rfl⟩, h.wn⟩
theorem IsW.drewN {w : World} {base N : Nat} {b : Option Nat} {nm : ByteArray} {g : Wt} (h : IsW w base N b nm g) (m : Nat) : IsW (w.drewN m) base N b nm g := h.only ((Only.refl (fun _ => False) w).drewN m) id (fun _ _ => id)
/-- What a call of See leaves. -/
def Saw (w w' : World) (base N : Nat) (b : Option Nat) (nm : ByteArray) (g' : Wt) : Prop := (∃ b', (b' = b ∨ ∃ k, b' = some k ∧ w.heap.size ≤ k) ∧ IsW w' base N b' nm g') ∧ Only (fun k => k = N ∨ some k = b) w w'
theorem Saw.of {w w' : World} {base N : Nat} {b : Option Nat} {nm : ByteArray} {g' : Wt} (h : IsW w' base N b nm g') (k : Only (fun k => k = N) w w') : Saw w w' base N b nm g' := ⟨⟨b, .inl rfl, h⟩, k.mono fun _ e => .inl e⟩
theorem Saw.then {w w1 w' : World} {base N : Nat} {b : Option Nat} {nm : ByteArray} {g' : Wt} (k : Only (fun k => k = N) w w1) (h : Saw w1 w' base N b nm g') : Saw w w' base N b nm g' := by
  obtain ⟨⟨b', hb, h1⟩, h2⟩ := h
  exact ⟨⟨b', hb.imp id fun ⟨k', e, hk⟩ => ⟨k', e, Nat.le_trans k.size hk⟩, h1⟩, (k.mono fun _ e => .inl e).trans h2⟩
/-- The watch within a call: nothing but its own cells is other. -/
structure Kq (w W : World) (base N : Nat) (b : Option Nat) (nm : ByteArray) (g : Wt) : Prop where
  i : IsW W base N b nm g
  o : Only (fun k => k = N) w W
theorem Kq.drewN {w W : World} {base N : Nat} {b : Option Nat} {nm : ByteArray} {g : Wt} (h : Kq w W base N b nm g) (m : Nat) : Kq w (W.drewN m) base N b nm g := ⟨h.i.drewN m, h.o.drewN m⟩
theorem Kq.putRow {w W : World} {base N : Nat} {b : Option Nat} {nm : ByteArray} {g : Wt} (h : Kq w W base N b nm g) (r : Nat) : Kq w (W.setCell ⟨N, 5, none⟩ (.int .i64 (r : Int))) base N b nm ⟨g.lim, g.fo, g.ca, g.st, r, g.ev⟩ := ⟨h.i.putRow r, h.o.setCell _ _ rfl⟩
theorem Kq.putSt {w W : World} {base N : Nat} {b : Option Nat} {nm : ByteArray} {g : Wt} (h : Kq w W base N b nm g) (r : Nat) : Kq w (W.setCell ⟨N, 4, none⟩ (.int .i64 (r : Int))) base N b nm ⟨g.lim, g.fo, g.ca, r, g.row, g.ev⟩ := ⟨h.i.putSt r, h.o.setCell _ _ rfl⟩
theorem Kq.saw {w W : World} {base N : Nat} {b : Option Nat} {nm : ByteArray} {g : Wt} (h : Kq w W base N b nm g) : Saw w W base N b nm g := Saw.of h.i h.o
theorem Saw.st {w W : World} {base N : Nat} {b : Option Nat} {nm : ByteArray} {g : Wt} (h : Saw w W base N b nm g) : W.cell? ⟨N, 4, none⟩ = some (.int .i64 (g.st : Int)) := by
  obtain ⟨⟨b', _, h1⟩, _⟩ := h
  exact h1.cells.2.2.2.1.1
theorem Kq.turn {w W : World} {base N : Nat} {b : Option Nat} {nm : ByteArray} {g : Wt} (h : Kq w W base N b nm g) (s : Nat) (window : Int) (hb : base ≤ w.heap.size) (hw : Wf g) (hs : s = 0 ∨ s = 2) :
    Calls Try.prog 53 #[.pointer (some ⟨N, 0, none⟩), .int .i64 (s : Int), .int .u64 window] W fun r w' => r = .returned (.tuple #[]) ∧ Saw w w' base N b nm (turned g s window) := by
  refine (turn_walk base N b nm g s window W h.i hw hs (Nat.le_trans hb h.o.size)).mono ?_
  rintro r w' ⟨rfl, h1, h2⟩
  exact ⟨rfl, Saw.then h.o ⟨h1, h2⟩⟩
set_option maxHeartbeats 8000000 in
set_option maxRecDepth 1000000 in
theorem see_walk (base N : Nat) (b : Option Nat) (nm : ByteArray) (g : Wt) (window : Int) (A B C : Option Addr) (n1 c1 n2 c2 n3 c3 : Nat) (b1 b2 b3 b4 : Bool) (sp fa : Nat) (su : Int) (w : World) (o : Option Nat) (ho : share sp fa = o) (hg : IsW w base N b nm g) (hw : Wf g) (hb : base ≤ w.heap.size) :
    Calls Try.prog 32 #[.pointer (some ⟨N, 0, none⟩), .int .u64 window, .agg #[.slice A n1 c1, .bool b1, .int .u64 (sp : Int), .bool b2, .int .u64 (fa : Int), .bool b3, .int .u64 su, .bool b4, .slice B n2 c2, .slice C n3 c3]] w fun r w' => r = .returned (.tuple #[.int .i64 ((see g window o).st : Int), .int .i64 0]) ∧ Saw w w' base N b nm (see g window o) := by
  have HG := Aside0.mk hg
  have HO := Aside0.mk ho
  have HW := Aside0.mk hw
  have HB := Aside0.mk hb
  have hx := Aside0.mk ((Only.refl (fun _ => False) w).alloc (.cells #[.slice A n1 c1, .bool b1, .int .u64 (sp : Int), .bool b2, .int .u64 (fa : Int), .bool b3, .int .u64 su, .bool b4, .slice B n2 c2, .slice C n3 c3] 73))
  clear ho hg hw hb
  cases o with
  | none =>
    go_enter Try.func32, Try.ntmps32
    go_wp2_with (go_at_call 52; refine (share_none A B C n1 c1 n2 c2 n3 c3 b1 b2 b3 b4 sp fa su _ HO.out).mono ?_; rintro r w1 ⟨⟨e, he, rfl⟩, ho⟩; have K := Aside0.mk (And.intro (HG.out.only (hx.out.trans ho) id (fun _ _ => id)) (hx.out.trans ho)); have c4 := K.out.1.cells.2.2.2.1.1; clear ho)
    go_ret2
    exact ⟨rfl, Saw.of K.out.1 (K.out.2.mono fun _ e => e.elim)⟩
  | some n =>
    obtain ⟨lim, fo, ca, st, row, ev⟩ := g
    have hrow : row ≤ 1000000 := HW.out.row
    have hst := HW.out.st
    simp only at hst
    have hn : n ≤ 10000000000000000 := by
      have := HO.out
      unfold share at this
      split at this
      · cases this
      · split at this
        · cases this
        · obtain rfl := Option.some.inj this
          have := Nat.div_le_self (1000 * fa) sp
          omega
    by_cases hh : lim ≤ n
    · have hhI : (lim : Int) ≤ (n : Int) := by omega
      by_cases hs2 : st = 2
      · subst hs2
        clear hst
        have hn2 := hh
        have hsee := Aside0.mk (show see ⟨lim, fo, ca, 2, row, ev⟩ window (some n) = ⟨lim, fo, ca, 2, 0, ev⟩ by simp [see, hh])
        go_enter Try.func32, Try.ntmps32
        go_wp2_with (go_at_call 52; refine (share_some A B C n1 c1 n2 c2 n3 c3 b1 b2 b3 b4 sp fa su _ n HO.out).mono ?_; rintro r w1 ⟨rfl, ho⟩; have K := Aside0.mk (Kq.mk (HG.out.only (hx.out.trans ho) id (fun _ _ => id)) ((hx.out.trans ho).mono fun _ e => e.elim)); obtain ⟨e1, e2, e3, ⟨e4, e4f⟩, e5, e5f⟩ := K.out.i.cells; simp only at e1 e2 e3 e4 e5; clear ho)
        go_quiet (fail)
        go_wp2
        go_ret2
        exact ⟨by rw [hsee.out]; rfl, by rw [hsee.out]; exact ((K.out.drewN _).putRow 0).saw⟩
      · rcases (show st = 0 ∨ st = 1 by omega) with hs01 | hs01
        · subst hs01
          clear hst hs2
          by_cases hf : row + 1 = fo
          · subst hf
            have hwf := Aside0.mk (show Wf ⟨lim, row + 1, ca, 0, row + 1, ev⟩ from ⟨HW.out.lim, HW.out.fo, HW.out.ca, by simp, by have := HW.out.fo; simp only at this ⊢; omega, HW.out.len⟩)
            have hsee := Aside0.mk (show see ⟨lim, row + 1, ca, 0, row, ev⟩ window (some n) = turned ⟨lim, row + 1, ca, 0, row + 1, ev⟩ 2 window by simp [see, hh, turned])
            go_enter Try.func32, Try.ntmps32
            go_wp2_with (go_at_call 52; refine (share_some A B C n1 c1 n2 c2 n3 c3 b1 b2 b3 b4 sp fa su _ n HO.out).mono ?_; rintro r w1 ⟨rfl, ho⟩; have K := Aside0.mk (Kq.mk (HG.out.only (hx.out.trans ho) id (fun _ _ => id)) ((hx.out.trans ho).mono fun _ e => e.elim)); obtain ⟨e1, e2, e3, ⟨e4, e4f⟩, e5, e5f⟩ := K.out.i.cells; simp only at e1 e2 e3 e4 e5; clear ho)
            go_quiet (fail)
            go_wp2
            go_quiet (fail)
            go_wp2
            go_quiet (fail)
            go_wp2_with (go_at_call 53; refine (Kq.turn (g := ⟨lim, row + 1, ca, 0, row + 1, ev⟩) (by first | exact ((K.out.drewN _).putRow (row + 1)).drewN _ | exact (((K.out.drewN _).putRow (row + 1)).drewN _).drewN _ | exact (K.out.drewN _).putRow (row + 1)) 2 window HB.out hwf.out (by decide)).mono ?_; rintro r w2 ⟨rfl, hS⟩; have s4 := hS.st; replace hS := Aside0.mk hS)
            go_ret2
            exact ⟨by rw [hsee.out]; rfl, by rw [hsee.out]; exact hS.out⟩
          · have hfI : ¬ (row : Int) + 1 = (fo : Int) := by omega
            have hsee := Aside0.mk (show see ⟨lim, fo, ca, 0, row, ev⟩ window (some n) = ⟨lim, fo, ca, 1, row + 1, ev⟩ by simp [see, hh, hf])
            go_enter Try.func32, Try.ntmps32
            go_wp2_with (go_at_call 52; refine (share_some A B C n1 c1 n2 c2 n3 c3 b1 b2 b3 b4 sp fa su _ n HO.out).mono ?_; rintro r w1 ⟨rfl, ho⟩; have K := Aside0.mk (Kq.mk (HG.out.only (hx.out.trans ho) id (fun _ _ => id)) ((hx.out.trans ho).mono fun _ e => e.elim)); obtain ⟨e1, e2, e3, ⟨e4, e4f⟩, e5, e5f⟩ := K.out.i.cells; simp only at e1 e2 e3 e4 e5; clear ho)
            go_quiet (fail)
            go_wp2
            go_quiet (fail)
            go_wp2
            go_quiet (fail)
            go_wp2
            go_ret2
            exact ⟨by rw [hsee.out]; rfl, by rw [hsee.out]; first | exact ((((K.out.drewN _).putRow (row + 1)).drewN _).putSt 1).saw | exact (((((K.out.drewN _).putRow (row + 1)).drewN _).drewN _).putSt 1).saw⟩
        · subst hs01
          clear hst hs2
          by_cases hf : row + 1 = fo
          · subst hf
            have hwf := Aside0.mk (show Wf ⟨lim, row + 1, ca, 1, row + 1, ev⟩ from ⟨HW.out.lim, HW.out.fo, HW.out.ca, by simp, by have := HW.out.fo; simp only at this ⊢; omega, HW.out.len⟩)
            have hsee := Aside0.mk (show see ⟨lim, row + 1, ca, 1, row, ev⟩ window (some n) = turned ⟨lim, row + 1, ca, 1, row + 1, ev⟩ 2 window by simp [see, hh, turned])
            go_enter Try.func32, Try.ntmps32
            go_wp2_with (go_at_call 52; refine (share_some A B C n1 c1 n2 c2 n3 c3 b1 b2 b3 b4 sp fa su _ n HO.out).mono ?_; rintro r w1 ⟨rfl, ho⟩; have K := Aside0.mk (Kq.mk (HG.out.only (hx.out.trans ho) id (fun _ _ => id)) ((hx.out.trans ho).mono fun _ e => e.elim)); obtain ⟨e1, e2, e3, ⟨e4, e4f⟩, e5, e5f⟩ := K.out.i.cells; simp only at e1 e2 e3 e4 e5; clear ho)
            go_quiet (fail)
            go_wp2
            go_quiet (fail)
            go_wp2
            go_quiet (fail)
            go_wp2_with (go_at_call 53; refine (Kq.turn (g := ⟨lim, row + 1, ca, 1, row + 1, ev⟩) (by first | exact ((K.out.drewN _).putRow (row + 1)).drewN _ | exact (((K.out.drewN _).putRow (row + 1)).drewN _).drewN _ | exact (K.out.drewN _).putRow (row + 1)) 2 window HB.out hwf.out (by decide)).mono ?_; rintro r w2 ⟨rfl, hS⟩; have s4 := hS.st; replace hS := Aside0.mk hS)
            go_ret2
            exact ⟨by rw [hsee.out]; rfl, by rw [hsee.out]; exact hS.out⟩
          · have hfI : ¬ (row : Int) + 1 = (fo : Int) := by omega
            have hsee := Aside0.mk (show see ⟨lim, fo, ca, 1, row, ev⟩ window (some n) = ⟨lim, fo, ca, 1, row + 1, ev⟩ by simp [see, hh, hf])
            go_enter Try.func32, Try.ntmps32
            go_wp2_with (go_at_call 52; refine (share_some A B C n1 c1 n2 c2 n3 c3 b1 b2 b3 b4 sp fa su _ n HO.out).mono ?_; rintro r w1 ⟨rfl, ho⟩; have K := Aside0.mk (Kq.mk (HG.out.only (hx.out.trans ho) id (fun _ _ => id)) ((hx.out.trans ho).mono fun _ e => e.elim)); obtain ⟨e1, e2, e3, ⟨e4, e4f⟩, e5, e5f⟩ := K.out.i.cells; simp only at e1 e2 e3 e4 e5; clear ho)
            go_quiet (fail)
            go_wp2
            go_quiet (fail)
            go_wp2
            go_quiet (fail)
            go_wp2
            go_ret2
            exact ⟨by rw [hsee.out]; rfl, by rw [hsee.out]; first | exact ((((K.out.drewN _).putRow (row + 1)).drewN _).putSt 1).saw | exact (((((K.out.drewN _).putRow (row + 1)).drewN _).drewN _).putSt 1).saw⟩
    · have hhI : ¬ (lim : Int) ≤ (n : Int) := by omega
      by_cases hs2 : st = 2
      · subst hs2
        clear hst
        by_cases hf : row + 1 = ca
        · subst hf
          have hwf := Aside0.mk (show Wf ⟨lim, fo, row + 1, 2, row + 1, ev⟩ from ⟨HW.out.lim, HW.out.fo, HW.out.ca, by simp, by have := HW.out.ca; simp only at this ⊢; omega, HW.out.len⟩)
          have hsee := Aside0.mk (show see ⟨lim, fo, row + 1, 2, row, ev⟩ window (some n) = turned ⟨lim, fo, row + 1, 2, row + 1, ev⟩ 0 window by simp [see, hh, turned])
          go_enter Try.func32, Try.ntmps32
          go_wp2_with (go_at_call 52; refine (share_some A B C n1 c1 n2 c2 n3 c3 b1 b2 b3 b4 sp fa su _ n HO.out).mono ?_; rintro r w1 ⟨rfl, ho⟩; have K := Aside0.mk (Kq.mk (HG.out.only (hx.out.trans ho) id (fun _ _ => id)) ((hx.out.trans ho).mono fun _ e => e.elim)); obtain ⟨e1, e2, e3, ⟨e4, e4f⟩, e5, e5f⟩ := K.out.i.cells; simp only at e1 e2 e3 e4 e5; clear ho)
          go_quiet (fail)
          go_wp2
          go_quiet (fail)
          go_wp2_with (go_at_call 53; refine (Kq.turn (g := ⟨lim, fo, row + 1, 2, row + 1, ev⟩) (by first | exact ((K.out.drewN _).putRow (row + 1)).drewN _ | exact (((K.out.drewN _).putRow (row + 1)).drewN _).drewN _ | exact (K.out.drewN _).putRow (row + 1)) 0 window HB.out hwf.out (by decide)).mono ?_; rintro r w2 ⟨rfl, hS⟩; have s4 := hS.st; replace hS := Aside0.mk hS)
          go_ret2
          exact ⟨by rw [hsee.out]; rfl, by rw [hsee.out]; exact hS.out⟩
        · have hfI : ¬ (row : Int) + 1 = (ca : Int) := by omega
          have hsee := Aside0.mk (show see ⟨lim, fo, ca, 2, row, ev⟩ window (some n) = ⟨lim, fo, ca, 2, row + 1, ev⟩ by simp [see, hh, hf])
          go_enter Try.func32, Try.ntmps32
          go_wp2_with (go_at_call 52; refine (share_some A B C n1 c1 n2 c2 n3 c3 b1 b2 b3 b4 sp fa su _ n HO.out).mono ?_; rintro r w1 ⟨rfl, ho⟩; have K := Aside0.mk (Kq.mk (HG.out.only (hx.out.trans ho) id (fun _ _ => id)) ((hx.out.trans ho).mono fun _ e => e.elim)); obtain ⟨e1, e2, e3, ⟨e4, e4f⟩, e5, e5f⟩ := K.out.i.cells; simp only at e1 e2 e3 e4 e5; clear ho)
          go_quiet (fail)
          go_wp2
          go_quiet (fail)
          go_wp2
          go_quiet (fail)
          go_wp2
          go_ret2
          exact ⟨by rw [hsee.out]; rfl, by rw [hsee.out]; first | exact (((K.out.drewN _).putRow (row + 1)).drewN _).saw | exact ((((K.out.drewN _).putRow (row + 1)).drewN _).drewN _).saw⟩
      · rcases (show st = 0 ∨ st = 1 by omega) with hs01 | hs01
        · subst hs01
          clear hst hs2
          have hn2 := hh
          have hsee := Aside0.mk (show see ⟨lim, fo, ca, 0, row, ev⟩ window (some n) = ⟨lim, fo, ca, 0, 0, ev⟩ by simp [see, hh])
          go_enter Try.func32, Try.ntmps32
          go_wp2_with (go_at_call 52; refine (share_some A B C n1 c1 n2 c2 n3 c3 b1 b2 b3 b4 sp fa su _ n HO.out).mono ?_; rintro r w1 ⟨rfl, ho⟩; have K := Aside0.mk (Kq.mk (HG.out.only (hx.out.trans ho) id (fun _ _ => id)) ((hx.out.trans ho).mono fun _ e => e.elim)); obtain ⟨e1, e2, e3, ⟨e4, e4f⟩, e5, e5f⟩ := K.out.i.cells; simp only at e1 e2 e3 e4 e5; clear ho)
          go_quiet (fail)
          go_wp2
          go_ret2
          exact ⟨by rw [hsee.out]; rfl, by rw [hsee.out]; exact (((K.out.drewN _).putRow 0).putSt 0).saw⟩
        · subst hs01
          clear hst hs2
          have hn2 := hh
          have hsee := Aside0.mk (show see ⟨lim, fo, ca, 1, row, ev⟩ window (some n) = ⟨lim, fo, ca, 0, 0, ev⟩ by simp [see, hh])
          go_enter Try.func32, Try.ntmps32
          go_wp2_with (go_at_call 52; refine (share_some A B C n1 c1 n2 c2 n3 c3 b1 b2 b3 b4 sp fa su _ n HO.out).mono ?_; rintro r w1 ⟨rfl, ho⟩; have K := Aside0.mk (Kq.mk (HG.out.only (hx.out.trans ho) id (fun _ _ => id)) ((hx.out.trans ho).mono fun _ e => e.elim)); obtain ⟨e1, e2, e3, ⟨e4, e4f⟩, e5, e5f⟩ := K.out.i.cells; simp only at e1 e2 e3 e4 e5; clear ho)
          go_quiet (fail)
          go_wp2
          go_ret2
          exact ⟨by rw [hsee.out]; rfl, by rw [hsee.out]; exact (((K.out.drewN _).putRow 0).putSt 0).saw⟩
end Go.Proofs.Ytfgpcoocbblkiaa.At
