/- Two boxes of a call, and nothing below them other. No conditions. -/
import Derived.Test.YtgpkihnihmbomaaOb
import Derived.Laws.Rows
namespace Go.Proofs.Ytgpkihnihmbomaa.Two
set_option linter.unusedVariables false
open Go.RowKit Go.Proofs.Ytgpkihnihmbomaa.Ob
theorem below_only0 {w w' : World} (h : Below w.heap.size w w') : Only (fun _ => False) w w' := Only.of_below h (fun k hk _ => hk)
structure Two (w W : World) (b0 b1 : Nat) (cs0 cs1 : List Value) : Prop where
  r0 : Row W b0 cs0
  r1 : Row W b1 cs1
  b : Below w.heap.size w W
  n0 : w.heap.size ≤ b0
  n1 : w.heap.size ≤ b1
  ne : b0 ≠ b1
section
variable {w W W' : World} {b0 b1 : Nat} {cs0 cs1 : List Value}
theorem Two.keep (h : Two w W b0 b1 cs0 cs1) (k : Below W.heap.size W W') : Two w W' b0 b1 cs0 cs1 :=
  ⟨h.r0.only (below_only0 k) id, h.r1.only (below_only0 k) id, h.b.trans (k.mono h.b.size), h.n0, h.n1, h.ne⟩
theorem Two.drewN (h : Two w W b0 b1 cs0 cs1) (n : Nat) : Two w (W.drewN n) b0 b1 cs0 cs1 := h.keep ⟨rfl, rfl, rfl, Nat.le_refl _, fun _ _ => rfl⟩
theorem Two.drew (h : Two w W b0 b1 cs0 cs1) : Two w W.drew b0 b1 cs0 cs1 := h.keep ⟨rfl, rfl, rfl, Nat.le_refl _, fun _ _ => rfl⟩
theorem Two.of (w : World) (t0 t1 : TypeId) (cs0 cs1 : List Value) : Two w ((w.alloc (.cells cs0.toArray t0)).alloc (.cells cs1.toArray t1)) w.heap.size (w.heap.size + 1) cs0 cs1 := by
  have e : (w.alloc (.cells cs0.toArray t0)).heap.size = w.heap.size + 1 := by show (w.heap.push _).size = _; simp
  refine ⟨(Row.new w cs0 t0).alloc _, ?_, ((Below.refl _ _).alloc (Nat.le_refl _) _).alloc (by rw [e]; omega) _, Nat.le_refl _, by omega, by omega⟩
  have h := Row.new (w.alloc (.cells cs0.toArray t0)) cs1 t1
  rw [e] at h
  exact h
theorem Two.set0 (h : Two w W b0 b1 cs0 cs1) (j : Nat) (v : Value) : Two w (W.setCell ⟨b0, j, none⟩ v) b0 b1 (cs0.set j v) cs1 :=
  ⟨h.r0.set j v, h.r1.far _ _ (fun e => h.ne e), h.b.setCell h.n0 _, h.n0, h.n1, h.ne⟩
theorem Two.set1 (h : Two w W b0 b1 cs0 cs1) (j : Nat) (v : Value) : Two w (W.setCell ⟨b1, j, none⟩ v) b0 b1 cs0 (cs1.set j v) :=
  ⟨h.r0.far _ _ (fun e => h.ne e.symm), h.r1.set j v, h.b.setCell h.n1 _, h.n0, h.n1, h.ne⟩
end
/-- A struct or an array read whole out of a row's cells. -/
theorem loadVar_at {P : Program} (w : World) (g o : Nat) (ty : TypeId) (cs : List Value) (d : TypeDesc) (hr : ∀ j v, cs[j]? = some v → w.cell? ⟨g, o + j, none⟩ = some v)
    (hu : P.underlying ty = some d) (hd : (match d with | .struct _ | .array _ _ => true | _ => false) = true) (hi : (P.info? ty).map (·.size) = some cs.length) :
    (loadVar ty ⟨g, o, none⟩).run P w = .ok (.agg cs.toArray) w := by
  have hl : (loadCells ⟨g, o, none⟩ cs.length).run P w = .ok cs.toArray w :=
    run_loadCells_list (P := P) w ⟨g, o, none⟩ cs (fun j v hv => by
      have hadd : (⟨g, o, none⟩ : Addr).add j = ⟨g, o + j, none⟩ := by unfold Addr.add; split <;> simp_all
      rw [hadd]; exact hr j v hv)
  cases hq : P.info? ty with
  | none => simp [hq] at hi
  | some i =>
    have hs : i.size = cs.length := by simpa [hq] using hi
    have hagg : (isAgg ty).run P w = .ok true w := by
      unfold isAgg
      rw [Sem.run_bind, run_underlying hu w]
      cases d <;> simp_all
    simp [loadVar, Sem.run_bind, hagg, sizeOf, typeInfo, hq, hs, hl]
theorem exec_load_at {P : Program} {o : Oper} {a : Act} {w : World} (ty : TypeId) (x : Operand) (ho : o.op = .load ty x) (g k : Nat) (hx : a.eval x = .pointer (some ⟨g, k, none⟩)) (cs : List Value) (d : TypeDesc)
    (hr : ∀ j v, cs[j]? = some v → w.cell? ⟨g, k + j, none⟩ = some v) (hu : P.underlying ty = some d) (hd : (match d with | .struct _ | .array _ _ => true | _ => false) = true) (hi : (P.info? ty).map (·.size) = some cs.length) :
    (execOp a.eval o).run P w = .ok (.value (.agg cs.toArray)) w := by
  unfold execOp
  simp only [ho, hx, Instr.loadAt, Instr.sureAddr, Sem.run_bind, Sem.run_pure, Result.andThen_ok, loadVar_at w g k ty cs d hr hu hd hi]
theorem row_at0 {w : World} {b : Nat} {cs : List Value} (h : Row w b cs) : ∀ j v, cs[j]? = some v → w.cell? ⟨b, 0 + j, none⟩ = some v := fun j v hv => by rw [Nat.zero_add]; exact (h j v hv).1
theorem wp_load_at {P : Program} {o : Oper} {a : Act} {w : World} {K : Act → World → Prop} {Q : Exit → Act → World → Prop} (ty : TypeId) (x : Operand) (ho : o.op = .load ty x) (g k : Nat) (hx : a.eval x = .pointer (some ⟨g, k, none⟩)) (cs : List Value) (d : TypeDesc)
    (hr : ∀ j v, cs[j]? = some v → w.cell? ⟨g, k + j, none⟩ = some v) (hu : P.underlying ty = some d) (hd : (match d with | .struct _ | .array _ _ => true | _ => false) = true) (hi : (P.info? ty).map (·.size) = some cs.length)
    (h : K (a.put o.dst (.agg cs.toArray)) w) : o.wp P a w K Q := by
  unfold Oper.wp
  rw [exec_load_at ty x ho g k hx cs d hr hu hd hi]
  exact h
theorem wpList_load_at {P : Program} {ops : Array Oper} {rest : List Oper} {o : Oper} {a : Act} {w : World} {Q : Exit → Act → World → Prop} (hw : Region.wanted o (yielded ops a.tmps) = true) (ty : TypeId) (x : Operand) (ho : o.op = .load ty x) (g k : Nat) (hx : a.eval x = .pointer (some ⟨g, k, none⟩)) (cs : List Value) (d : TypeDesc)
    (hr : ∀ j v, cs[j]? = some v → w.cell? ⟨g, k + j, none⟩ = some v) (hu : P.underlying ty = some d) (hd : (match d with | .struct _ | .array _ _ => true | _ => false) = true) (hi : (P.info? ty).map (·.size) = some cs.length)
    (h : wpList P ops Q rest (a.put o.dst (.agg cs.toArray)) w) : wpList P ops Q (o :: rest) a w := by
  unfold wpList
  rw [if_pos hw]
  exact Or.inl (wp_load_at ty x ho g k hx cs d hr hu hd hi h)
/-- A result that lies in cells of a row. -/
theorem results_at {P : Program} {fn : Func} {p : Tmp} {ty : TypeId} (h : fn.results = #[.cell p ty]) (tmps : Array Value) (w : World) (g : Nat) (cs : List Value) (d : TypeDesc)
    (hp : tmps.getD p undef = .pointer (some ⟨g, 0, none⟩)) (hr : Row w g cs) (hu : P.underlying ty = some d) (hd : (match d with | .struct _ | .array _ _ => true | _ => false) = true) (hi : (P.info? ty).map (·.size) = some cs.length) :
    (results fn tmps).run P w = .ok (.agg cs.toArray) w := by
  have hp' : tmps[p]?.getD undef = .pointer (some ⟨g, 0, none⟩) := by simpa using hp
  simp [results, h, hp', asAddr, loadVar_at w g 0 ty cs d (row_at0 hr) hu hd hi]
end Go.Proofs.Ytgpkihnihmbomaa.Two
