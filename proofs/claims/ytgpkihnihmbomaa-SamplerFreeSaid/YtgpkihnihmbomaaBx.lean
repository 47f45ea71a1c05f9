/- Boxes of a call. No conditions. -/
import Derived.Test.YtgpkihnihmbomaaTwo
import Derived.Test.YtgpkihnihmbomaaWMore
import Derived.Test.YtgpkihnihmbomaaWEqStruct
import Derived.Deep.LoopGhost
import Derived.RegionTactic
import Derived.Deep.WholeRow
import Derived.WalkKit
namespace Go.Proofs.Ytgpkihnihmbomaa.Bx
open Go.RowKit Go.Proofs.YtgpkihnihmbomaaW.PrintWords Go.Proofs.YtgpkihnihmbomaaW.PrintLast
open Go.Proofs.Ytgpkihnihmbomaa.Ob Go.Proofs.Ytgpkihnihmbomaa.Two
/-- Boxes of a call, each at its block; nothing below the call's start is other. -/
structure Bx (w W : World) (L : List (Nat × List Value)) : Prop where
  b : Below w.heap.size w W
  r : ∀ p ∈ L, w.heap.size ≤ p.1 ∧ p.1 < W.heap.size ∧ Row W p.1 p.2
theorem Bx.keep {w W W' : World} {L : List (Nat × List Value)} (h : Bx w W L) (k : Below W.heap.size W W') : Bx w W' L :=
  ⟨h.b.trans (k.mono h.b.size), fun p hp => ⟨(h.r p hp).1, Nat.lt_of_lt_of_le (h.r p hp).2.1 k.size, (h.r p hp).2.2.only (Two.below_only0 k) id⟩⟩
theorem Bx.drewN {w W : World} {L : List (Nat × List Value)} (h : Bx w W L) (n : Nat) : Bx w (W.drewN n) L := h.keep ⟨rfl, rfl, rfl, Nat.le_refl _, fun _ _ => rfl⟩
theorem Bx.drew {w W : World} {L : List (Nat × List Value)} (h : Bx w W L) : Bx w W.drew L := h.keep ⟨rfl, rfl, rfl, Nat.le_refl _, fun _ _ => rfl⟩
theorem Bx.only {w W W' : World} {L : List (Nat × List Value)} {S : Nat → Prop} (h : Bx w W L) (k : Only S W W') (hS : ∀ g, S g → w.heap.size ≤ g) (hL : ∀ p ∈ L, ¬ S p.1) : Bx w W' L :=
  ⟨h.b.trans (k.below hS h.b.size), fun p hp => ⟨(h.r p hp).1, Nat.lt_of_lt_of_le (h.r p hp).2.1 k.size, (h.r p hp).2.2.only k (hL p hp)⟩⟩
theorem size_alloc (W : World) (o : Obj) : (W.alloc o).heap.size = W.heap.size + 1 := by show (W.heap.push _).size = _; simp
theorem Bx.new {w W : World} {L : List (Nat × List Value)} (h : Bx w W L) (cs : List Value) (t : TypeId) : Bx w (W.alloc (.cells cs.toArray t)) ((W.heap.size, cs) :: L) := by
  refine ⟨h.b.alloc h.b.size _, fun p hp => ?_⟩
  rw [size_alloc]
  rcases List.mem_cons.1 hp with rfl | hp
  · exact ⟨h.b.size, Nat.lt_succ_self _, Row.new W cs t⟩
  · have := h.r p hp
    exact ⟨this.1, by omega, this.2.2.alloc _⟩
theorem Bx.start (w : World) : Bx w w [] := ⟨Below.refl _ _, fun p hp => by cases hp⟩
theorem Bx.sub {w W : World} {L L' : List (Nat × List Value)} (h : Bx w W L) (k : ∀ p ∈ L', p ∈ L) : Bx w W L' := ⟨h.b, fun p hp => h.r p (k p hp)⟩
theorem Bx.row {w W : World} {L : List (Nat × List Value)} (h : Bx w W L) {g : Nat} {cs : List Value} (k : (g, cs) ∈ L) : Row W g cs := (h.r _ k).2.2
/-- A struct stored into a box that was made just now. -/
theorem wpList_store_new {P : Program} {ops : Array Oper} {rest : List Oper} {o : Oper} {a : Act} {Q : Exit → Act → World → Prop} (w : World) (hw : Region.wanted o (yielded ops a.tmps) = true) (ty : TypeId) (x y : Operand) (ho : o.op = .store ty x y) (hx : a.eval x = .pointer (some ⟨w.heap.size, 0, none⟩)) (c c' : Array Value) (hy : a.eval y = .agg c')
    (hi : (P.info? ty).map (·.size) = some c'.size) (hs : c.size = c'.size) (h1 : c'.all (·.oneCell') = true)
    (h : wpList P ops Q rest (a.put o.dst undef) (w.alloc (.cells c' ty))) : wpList P ops Q (o :: rest) a (w.alloc (.cells c ty)) := by
  unfold wpList
  rw [if_pos hw]
  refine Or.inl ?_
  unfold Oper.wp execOp
  simp only [ho, hx, hy, Sem.run_bind, run_storeAt_new w ty c c' hi hs h1, Result.andThen_ok, Sem.run_pure]
  exact h
theorem alloc_step {P : Program} {ops : Array Oper} {Q : Exit → Act → World → Prop} {o : Oper} {a : Act} {Kc : Act → World → Prop} {W : World} (hw : Region.wanted o (yielded ops a.tmps) = true) {N : Tmp} (hd : o.dst = some N) {cs : List Value} {t : TypeId}
    (hrun : (execOp a.eval o).run P W = .ok (.value (.pointer (some ⟨W.heap.size, 0, none⟩))) (W.alloc (.cells cs.toArray t)))
    (h : Kc (a.put (some N) (.pointer (some ⟨W.heap.size, 0, none⟩))) (W.alloc (.cells cs.toArray t))) : if Region.wanted o (yielded ops a.tmps) = true then Oper.wp P o a W Kc Q else Kc (a.put (some N) undef) W := by
  rw [← hd] at h ⊢
  exact event_step hw hrun h
theorem Bx.block {w W : World} {L : List (Nat × List Value)} (h : Bx w W L) : Only (fun _ => False) w W := below_only0 h.b
end Go.Proofs.Ytgpkihnihmbomaa.Bx
