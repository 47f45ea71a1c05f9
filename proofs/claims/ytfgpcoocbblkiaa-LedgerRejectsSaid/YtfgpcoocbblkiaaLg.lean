/- What Open of a ledger answers, and the chapter's example. No conditions but bounds. -/
import Derived.Test.YtfgpcoocbblkiaaLf
import Derived.Laws.Rows
import Derived.Deep.WholeRow
import Derived.Test.YtfgpcoocbblkiaaWMore
namespace Go.Proofs.Ytfgpcoocbblkiaa.Le
open Go.RowKit Go.Proofs.YtfgpcoocbblkiaaW.PrintWords Go.Proofs.YtfgpcoocbblkiaaW.PrintLast Go.Proofs.YtfgpcoocbblkiaaW.PrintMore
open Go.Proofs.Ytfgpcoocbblkiaa.Ob Go.Proofs.Ytfgpcoocbblkiaa.XLe
set_option linter.unusedSimpArgs false
set_option linter.unusedVariables false
attribute [local go_sem] max2_int min2_int min_two
/-- A struct or an array read whole out of a row's cells. -/
theorem loadVar_at {P : Program} (w : World) (g o : Nat) (ty : TypeId) (cs : List Value) (d : TypeDesc) (hr : ∀ j v, cs[j]? = some v → w.cell? ⟨g, o + j, none⟩ = some v)
    (hu : P.underlying ty = some d) (hd : (match d with | .struct _ | .array _ _ => true | _ => false) = true) (hi : (P.info? ty).map (·.size) = some cs.length) :
    (loadVar ty ⟨g, o, none⟩).run P w = .ok (.agg cs.toArray) w := by
  have hl : (loadCells ⟨g, o, none⟩ cs.length).run P w = .ok cs.toArray w :=
    run_loadCells_list (P := P) w ⟨g, o, none⟩ cs (fun j v hv => by
      have hadd : (⟨g, o, none⟩ : Addr).add j = ⟨g, o + j, none⟩ := by unfold Addr.add; split <;> simp_all
      rw [hadd]; exact hr j v hv)
  cases hq : P.info? ty with
  | none => simp [hq] at hi
  | some i =>
    have hs : i.size = cs.length := by simpa [hq] using hi
    have hagg : (isAgg ty).run P w = .ok true w := by
      unfold isAgg
      rw [Sem.run_bind, run_underlying hu w]
      cases d <;> simp_all
    simp [loadVar, Sem.run_bind, hagg, sizeOf, typeInfo, hq, hs, hl]
theorem exec_load_at {P : Program} {o : Oper} {a : Act} {w : World} (ty : TypeId) (x : Operand) (ho : o.op = .load ty x) (g k : Nat) (hx : a.eval x = .pointer (some ⟨g, k, none⟩)) (cs : List Value) (d : TypeDesc)
    (hr : ∀ j v, cs[j]? = some v → w.cell? ⟨g, k + j, none⟩ = some v) (hu : P.underlying ty = some d) (hd : (match d with | .struct _ | .array _ _ => true | _ => false) = true) (hi : (P.info? ty).map (·.size) = some cs.length) :
    (execOp a.eval o).run P w = .ok (.value (.agg cs.toArray)) w := by
  unfold execOp
  simp only [ho, hx, Instr.loadAt, Instr.sureAddr, Sem.run_bind, Sem.run_pure, Result.andThen_ok, loadVar_at w g k ty cs d hr hu hd hi]
theorem row_at0 {w : World} {b : Nat} {cs : List Value} (h : Row w b cs) : ∀ j v, cs[j]? = some v → w.cell? ⟨b, 0 + j, none⟩ = some v := fun j v hv => by rw [Nat.zero_add]; exact (h j v hv).1
theorem told_T (w : World) (rec cnt rest a b c d e f : Nat) (hs : cnt + a + b + c + d + e + f ≤ 100000) (T : Nat) (hT : cnt + a + b + c + d + e + f = T) (v : Value) (hv : v = .agg #[.int .u64 0, .int .u64 0, .int .u64 0, .int .u64 0, .int .u64 (rec : Int), .int .u64 (cnt : Int), .int .u64 0, .int .u64 0, .int .u64 0, .int .u64 0, .int .u64 (rest : Int), .int .u64 0, .int .u64 0, .int .u64 (a : Int), .int .u64 (b : Int), .int .u64 (c : Int), .int .u64 (d : Int), .int .u64 (e : Int), .int .u64 (f : Int)]) :
    Calls Try.prog 26 #[v] w fun r w' => r = .returned (.agg #[.int .u64 (T : Int), .bool false]) ∧ Only (fun _ => False) w w' := by
  subst hv hT; exact told_walk w rec cnt rest a b c d e f hs
set_option maxHeartbeats 400000 in
set_option maxRecDepth 1000000 in
theorem open_lo (w : World) (rec cnt rest a b c d e f : Nat) (hs : cnt + a + b + c + d + e + f ≤ 100000) (hrec : rec ≤ 100000) (T : Nat) (hT : cnt + a + b + c + d + e + f = T) (z : Nat) (h : rec < T ∧ z = 0) :
    Calls Try.prog 28 #[.agg #[.int .u64 0, .int .u64 0, .int .u64 0, .int .u64 0, .int .u64 (rec : Int), .int .u64 (cnt : Int), .int .u64 0, .int .u64 0, .int .u64 0, .int .u64 0, .int .u64 (rest : Int), .int .u64 0, .int .u64 0, .int .u64 (a : Int), .int .u64 (b : Int), .int .u64 (c : Int), .int .u64 (d : Int), .int .u64 (e : Int), .int .u64 (f : Int)]] w fun r w' => r = .returned (.int .u64 (z : Int)) ∧ Only (fun _ => False) w w' := by
  have hT' := Aside0.mk (fun W => told_T W rec cnt rest a b c d e f hs T hT _ rfl)
  obtain ⟨h, rfl⟩ := h
  have hI : (rec : Int) < (T : Int) := by omega
  have hJ : ¬ (T : Int) < (rec : Int) := by omega
  clear hT hs
  go_enter Try.func28, Try.ntmps28
  go_wp2_with (first | (refine wpList_load_row rfl 50 _ rfl w.heap.size rfl 50 #[.int .u64 0, .int .u64 0, .int .u64 0, .int .u64 0, .int .u64 (rec : Int), .int .u64 (cnt : Int), .int .u64 0, .int .u64 0, .int .u64 0, .int .u64 0, .int .u64 (rest : Int), .int .u64 0, .int .u64 0, .int .u64 (a : Int), .int .u64 (b : Int), .int .u64 (c : Int), .int .u64 (d : Int), .int .u64 (e : Int), .int .u64 (f : Int)] (0, 0) _ (blk_new w _) Try.underlying50 rfl (by kernel_rfl) ?_) | (go_at_call 26; (with_reducible refine (hT'.out _).mono ?_); rintro r w2 ⟨rfl, ho2⟩; have c4 := ((((Row.new w [.int .u64 0, .int .u64 0, .int .u64 0, .int .u64 0, .int .u64 (rec : Int), .int .u64 (cnt : Int), .int .u64 0, .int .u64 0, .int .u64 0, .int .u64 0, .int .u64 (rest : Int), .int .u64 0, .int .u64 0, .int .u64 (a : Int), .int .u64 (b : Int), .int .u64 (c : Int), .int .u64 (d : Int), .int .u64 (e : Int), .int .u64 (f : Int)] 50).only ho2 id) 4 _ rfl).1); have ho := Aside0.mk (((Only.refl (fun _ => False) w).alloc (.cells #[.int .u64 0, .int .u64 0, .int .u64 0, .int .u64 0, .int .u64 (rec : Int), .int .u64 (cnt : Int), .int .u64 0, .int .u64 0, .int .u64 0, .int .u64 0, .int .u64 (rest : Int), .int .u64 0, .int .u64 0, .int .u64 (a : Int), .int .u64 (b : Int), .int .u64 (c : Int), .int .u64 (d : Int), .int .u64 (e : Int), .int .u64 (f : Int)] 50)).trans ho2); have hlt := (Row.lt ((Row.new w [.int .u64 0, .int .u64 0, .int .u64 0, .int .u64 0, .int .u64 (rec : Int), .int .u64 (cnt : Int), .int .u64 0, .int .u64 0, .int .u64 0, .int .u64 0, .int .u64 (rest : Int), .int .u64 0, .int .u64 0, .int .u64 (a : Int), .int .u64 (b : Int), .int .u64 (c : Int), .int .u64 (d : Int), .int .u64 (e : Int), .int .u64 (f : Int)] 50).only ho2 id) (by simp)); clear ho2))
  go_ret
  exact ⟨by first | rfl | (simp; done) | (have := hz.out; rw [show (z : Int) = (rec : Int) - (T : Int) by omega]; rfl), ho.out.alloc _⟩
set_option maxHeartbeats 400000 in
set_option maxRecDepth 1000000 in
theorem open_eq (w : World) (rec cnt rest a b c d e f : Nat) (hs : cnt + a + b + c + d + e + f ≤ 100000) (hrec : rec ≤ 100000) (T : Nat) (hT : cnt + a + b + c + d + e + f = T) (z : Nat) (h : rec = T ∧ z = 0) :
    Calls Try.prog 28 #[.agg #[.int .u64 0, .int .u64 0, .int .u64 0, .int .u64 0, .int .u64 (rec : Int), .int .u64 (cnt : Int), .int .u64 0, .int .u64 0, .int .u64 0, .int .u64 0, .int .u64 (rest : Int), .int .u64 0, .int .u64 0, .int .u64 (a : Int), .int .u64 (b : Int), .int .u64 (c : Int), .int .u64 (d : Int), .int .u64 (e : Int), .int .u64 (f : Int)]] w fun r w' => r = .returned (.int .u64 (z : Int)) ∧ Only (fun _ => False) w w' := by
  have hT' := Aside0.mk (fun W => told_T W rec cnt rest a b c d e f hs T hT _ rfl)
  obtain ⟨rfl, rfl⟩ := h
  clear hT hs
  go_enter Try.func28, Try.ntmps28
  go_wp2_with (first | (refine wpList_load_row rfl 50 _ rfl w.heap.size rfl 50 #[.int .u64 0, .int .u64 0, .int .u64 0, .int .u64 0, .int .u64 (rec : Int), .int .u64 (cnt : Int), .int .u64 0, .int .u64 0, .int .u64 0, .int .u64 0, .int .u64 (rest : Int), .int .u64 0, .int .u64 0, .int .u64 (a : Int), .int .u64 (b : Int), .int .u64 (c : Int), .int .u64 (d : Int), .int .u64 (e : Int), .int .u64 (f : Int)] (0, 0) _ (blk_new w _) Try.underlying50 rfl (by kernel_rfl) ?_) | (go_at_call 26; (with_reducible refine (hT'.out _).mono ?_); rintro r w2 ⟨rfl, ho2⟩; have c4 := ((((Row.new w [.int .u64 0, .int .u64 0, .int .u64 0, .int .u64 0, .int .u64 (rec : Int), .int .u64 (cnt : Int), .int .u64 0, .int .u64 0, .int .u64 0, .int .u64 0, .int .u64 (rest : Int), .int .u64 0, .int .u64 0, .int .u64 (a : Int), .int .u64 (b : Int), .int .u64 (c : Int), .int .u64 (d : Int), .int .u64 (e : Int), .int .u64 (f : Int)] 50).only ho2 id) 4 _ rfl).1); have ho := Aside0.mk (((Only.refl (fun _ => False) w).alloc (.cells #[.int .u64 0, .int .u64 0, .int .u64 0, .int .u64 0, .int .u64 (rec : Int), .int .u64 (cnt : Int), .int .u64 0, .int .u64 0, .int .u64 0, .int .u64 0, .int .u64 (rest : Int), .int .u64 0, .int .u64 0, .int .u64 (a : Int), .int .u64 (b : Int), .int .u64 (c : Int), .int .u64 (d : Int), .int .u64 (e : Int), .int .u64 (f : Int)] 50)).trans ho2); have hlt := (Row.lt ((Row.new w [.int .u64 0, .int .u64 0, .int .u64 0, .int .u64 0, .int .u64 (rec : Int), .int .u64 (cnt : Int), .int .u64 0, .int .u64 0, .int .u64 0, .int .u64 0, .int .u64 (rest : Int), .int .u64 0, .int .u64 0, .int .u64 (a : Int), .int .u64 (b : Int), .int .u64 (c : Int), .int .u64 (d : Int), .int .u64 (e : Int), .int .u64 (f : Int)] 50).only ho2 id) (by simp)); clear ho2))
  go_ret
  exact ⟨by first | rfl | (simp; done) | (have := hz.out; rw [show (z : Int) = (rec : Int) - (T : Int) by omega]; rfl), ho.out.alloc _⟩
set_option maxHeartbeats 400000 in
set_option maxRecDepth 1000000 in
theorem open_hi (w : World) (rec cnt rest a b c d e f : Nat) (hs : cnt + a + b + c + d + e + f ≤ 100000) (hrec : rec ≤ 100000) (T : Nat) (hT : cnt + a + b + c + d + e + f = T) (z : Nat) (h : T < rec ∧ rec = T + z) :
    Calls Try.prog 28 #[.agg #[.int .u64 0, .int .u64 0, .int .u64 0, .int .u64 0, .int .u64 (rec : Int), .int .u64 (cnt : Int), .int .u64 0, .int .u64 0, .int .u64 0, .int .u64 0, .int .u64 (rest : Int), .int .u64 0, .int .u64 0, .int .u64 (a : Int), .int .u64 (b : Int), .int .u64 (c : Int), .int .u64 (d : Int), .int .u64 (e : Int), .int .u64 (f : Int)]] w fun r w' => r = .returned (.int .u64 (z : Int)) ∧ Only (fun _ => False) w w' := by
  have hT' := Aside0.mk (fun W => told_T W rec cnt rest a b c d e f hs T hT _ rfl)
  obtain ⟨h, hz⟩ := h
  have hI : ¬ (rec : Int) < (T : Int) := by omega
  have hJ : (T : Int) < (rec : Int) := by omega
  replace hz := Aside0.mk hz
  clear hT hs
  go_enter Try.func28, Try.ntmps28
  go_wp2_with (first | (refine wpList_load_row rfl 50 _ rfl w.heap.size rfl 50 #[.int .u64 0, .int .u64 0, .int .u64 0, .int .u64 0, .int .u64 (rec : Int), .int .u64 (cnt : Int), .int .u64 0, .int .u64 0, .int .u64 0, .int .u64 0, .int .u64 (rest : Int), .int .u64 0, .int .u64 0, .int .u64 (a : Int), .int .u64 (b : Int), .int .u64 (c : Int), .int .u64 (d : Int), .int .u64 (e : Int), .int .u64 (f : Int)] (0, 0) _ (blk_new w _) Try.underlying50 rfl (by kernel_rfl) ?_) | (go_at_call 26; (with_reducible refine (hT'.out _).mono ?_); rintro r w2 ⟨rfl, ho2⟩; have c4 := ((((Row.new w [.int .u64 0, .int .u64 0, .int .u64 0, .int .u64 0, .int .u64 (rec : Int), .int .u64 (cnt : Int), .int .u64 0, .int .u64 0, .int .u64 0, .int .u64 0, .int .u64 (rest : Int), .int .u64 0, .int .u64 0, .int .u64 (a : Int), .int .u64 (b : Int), .int .u64 (c : Int), .int .u64 (d : Int), .int .u64 (e : Int), .int .u64 (f : Int)] 50).only ho2 id) 4 _ rfl).1); have ho := Aside0.mk (((Only.refl (fun _ => False) w).alloc (.cells #[.int .u64 0, .int .u64 0, .int .u64 0, .int .u64 0, .int .u64 (rec : Int), .int .u64 (cnt : Int), .int .u64 0, .int .u64 0, .int .u64 0, .int .u64 0, .int .u64 (rest : Int), .int .u64 0, .int .u64 0, .int .u64 (a : Int), .int .u64 (b : Int), .int .u64 (c : Int), .int .u64 (d : Int), .int .u64 (e : Int), .int .u64 (f : Int)] 50)).trans ho2); have hlt := (Row.lt ((Row.new w [.int .u64 0, .int .u64 0, .int .u64 0, .int .u64 0, .int .u64 (rec : Int), .int .u64 (cnt : Int), .int .u64 0, .int .u64 0, .int .u64 0, .int .u64 0, .int .u64 (rest : Int), .int .u64 0, .int .u64 0, .int .u64 (a : Int), .int .u64 (b : Int), .int .u64 (c : Int), .int .u64 (d : Int), .int .u64 (e : Int), .int .u64 (f : Int)] 50).only ho2 id) (by simp)); clear ho2))
  go_ret
  exact ⟨by first | rfl | (simp; done) | (have := hz.out; rw [show (z : Int) = (rec : Int) - (T : Int) by omega]; rfl), ho.out.alloc _⟩
theorem open_walk (w : World) (rec cnt rest a b c d e f : Nat) (hs : cnt + a + b + c + d + e + f ≤ 100000) (hrec : rec ≤ 100000) (T : Nat) (hT : cnt + a + b + c + d + e + f = T) (z : Nat) (hz : rec - min rec T = z) :
    Calls Try.prog 28 #[.agg #[.int .u64 0, .int .u64 0, .int .u64 0, .int .u64 0, .int .u64 (rec : Int), .int .u64 (cnt : Int), .int .u64 0, .int .u64 0, .int .u64 0, .int .u64 0, .int .u64 (rest : Int), .int .u64 0, .int .u64 0, .int .u64 (a : Int), .int .u64 (b : Int), .int .u64 (c : Int), .int .u64 (d : Int), .int .u64 (e : Int), .int .u64 (f : Int)]] w fun r w' => r = .returned (.int .u64 (z : Int)) ∧ Only (fun _ => False) w w' := by
  rcases Nat.lt_trichotomy rec T with h | h | h
  · exact open_lo w rec cnt rest a b c d e f hs hrec T hT z ⟨h, by omega⟩
  · exact open_eq w rec cnt rest a b c d e f hs hrec T hT z ⟨h, by omega⟩
  · exact open_hi w rec cnt rest a b c d e f hs hrec T hT z ⟨h, by omega⟩
theorem wp_load_at {P : Program} {o : Oper} {a : Act} {w : World} {K : Act → World → Prop} {Q : Exit → Act → World → Prop} (ty : TypeId) (x : Operand) (ho : o.op = .load ty x) (g k : Nat) (hx : a.eval x = .pointer (some ⟨g, k, none⟩)) (cs : List Value) (d : TypeDesc)
    (hr : ∀ j v, cs[j]? = some v → w.cell? ⟨g, k + j, none⟩ = some v) (hu : P.underlying ty = some d) (hd : (match d with | .struct _ | .array _ _ => true | _ => false) = true) (hi : (P.info? ty).map (·.size) = some cs.length)
    (h : K (a.put o.dst (.agg cs.toArray)) w) : o.wp P a w K Q := by
  unfold Oper.wp
  rw [exec_load_at ty x ho g k hx cs d hr hu hd hi]
  exact h
theorem wpList_load_at {P : Program} {ops : Array Oper} {rest : List Oper} {o : Oper} {a : Act} {w : World} {Q : Exit → Act → World → Prop} (hw : Region.wanted o (yielded ops a.tmps) = true) (ty : TypeId) (x : Operand) (ho : o.op = .load ty x) (g k : Nat) (hx : a.eval x = .pointer (some ⟨g, k, none⟩)) (cs : List Value) (d : TypeDesc)
    (hr : ∀ j v, cs[j]? = some v → w.cell? ⟨g, k + j, none⟩ = some v) (hu : P.underlying ty = some d) (hd : (match d with | .struct _ | .array _ _ => true | _ => false) = true) (hi : (P.info? ty).map (·.size) = some cs.length)
    (h : wpList P ops Q rest (a.put o.dst (.agg cs.toArray)) w) : wpList P ops Q (o :: rest) a w := by
  unfold wpList
  rw [if_pos hw]
  exact Or.inl (wp_load_at ty x ho g k hx cs d hr hu hd hi h)
theorem wpList_store_fresh {P : Program} {ops : Array Oper} {rest : List Oper} {o : Oper} {a : Act} {Q : Exit → Act → World → Prop} (w : World) (hw : Region.wanted o (yielded ops a.tmps) = true) (ty : TypeId) (x y : Operand) (ho : o.op = .store ty x y) (hx : a.eval x = .pointer (some ⟨w.heap.size, 0, none⟩)) (c c' : Array Value) (hy : a.eval y = .agg c')
    (hi : (P.info? ty).map (·.size) = some c'.size) (hs : c.size = c'.size) (h1 : c'.all (·.oneCell') = true)
    (h : wpList P ops Q rest (a.put o.dst undef) (w.alloc (.cells c' ty))) : wpList P ops Q (o :: rest) a (w.alloc (.cells c ty)) := by
  unfold wpList
  rw [if_pos hw]
  refine Or.inl ?_
  unfold Oper.wp execOp
  simp only [ho, hx, hy, Sem.run_bind, run_storeAt_new w ty c c' hi hs h1, Result.andThen_ok, Sem.run_pure]
  exact h
set_option maxHeartbeats 4000000 in
set_option maxRecDepth 1000000 in
theorem alive_walk (w : World) : Calls Try.prog 24 #[] w fun r w' => r = .returned (.bool true) ∧ Only (fun _ => False) w w' := by
  have hr := Aside0.mk (show Row (w.alloc (.cells #[.int .u64 0, .int .u64 0, .int .u64 0, .int .u64 0, .int .u64 ((3 : Nat) : Int), .int .u64 ((1 : Nat) : Int), .int .u64 0, .int .u64 0, .int .u64 0, .int .u64 0, .int .u64 ((0 : Nat) : Int), .int .u64 0, .int .u64 0, .int .u64 ((0 : Nat) : Int), .int .u64 ((0 : Nat) : Int), .int .u64 ((0 : Nat) : Int), .int .u64 ((0 : Nat) : Int), .int .u64 ((0 : Nat) : Int), .int .u64 ((0 : Nat) : Int)] 50)) w.heap.size (lcells 3 1 0 [0, 0, 0, 0, 0, 0]) from Row.new w [.int .u64 0, .int .u64 0, .int .u64 0, .int .u64 0, .int .u64 ((3 : Nat) : Int), .int .u64 ((1 : Nat) : Int), .int .u64 0, .int .u64 0, .int .u64 0, .int .u64 0, .int .u64 ((0 : Nat) : Int), .int .u64 0, .int .u64 0, .int .u64 ((0 : Nat) : Int), .int .u64 ((0 : Nat) : Int), .int .u64 ((0 : Nat) : Int), .int .u64 ((0 : Nat) : Int), .int .u64 ((0 : Nat) : Int), .int .u64 ((0 : Nat) : Int)] 50)
  have ho := Aside0.mk ((Only.refl (fun _ => False) w).alloc (.cells #[.int .u64 0, .int .u64 0, .int .u64 0, .int .u64 0, .int .u64 ((3 : Nat) : Int), .int .u64 ((1 : Nat) : Int), .int .u64 0, .int .u64 0, .int .u64 0, .int .u64 0, .int .u64 ((0 : Nat) : Int), .int .u64 0, .int .u64 0, .int .u64 ((0 : Nat) : Int), .int .u64 ((0 : Nat) : Int), .int .u64 ((0 : Nat) : Int), .int .u64 ((0 : Nat) : Int), .int .u64 ((0 : Nat) : Int), .int .u64 ((0 : Nat) : Int)] 50))
  go_enter Try.func24, Try.ntmps24
  go_wp2_with (first
    | (refine wpList_store_fresh w (by rfl) 50 _ _ rfl rfl _ #[.int .u64 0, .int .u64 0, .int .u64 0, .int .u64 0, .int .u64 ((3 : Nat) : Int), .int .u64 ((1 : Nat) : Int), .int .u64 0, .int .u64 0, .int .u64 0, .int .u64 0, .int .u64 ((0 : Nat) : Int), .int .u64 0, .int .u64 0, .int .u64 ((0 : Nat) : Int), .int .u64 ((0 : Nat) : Int), .int .u64 ((0 : Nat) : Int), .int .u64 ((0 : Nat) : Int), .int .u64 ((0 : Nat) : Int), .int .u64 ((0 : Nat) : Int)] rfl (by kernel_rfl) rfl (by kernel_rfl) ?_)
    | (refine wpList_load_at (by rfl) 50 _ rfl w.heap.size 0 rfl [.int .u64 0, .int .u64 0, .int .u64 0, .int .u64 0, .int .u64 ((3 : Nat) : Int), .int .u64 ((1 : Nat) : Int), .int .u64 0, .int .u64 0, .int .u64 0, .int .u64 0, .int .u64 ((0 : Nat) : Int), .int .u64 0, .int .u64 0, .int .u64 ((0 : Nat) : Int), .int .u64 ((1 : Nat) : Int), .int .u64 ((0 : Nat) : Int), .int .u64 ((0 : Nat) : Int), .int .u64 ((0 : Nat) : Int), .int .u64 ((0 : Nat) : Int)] _ (row_at0 hr.out) Try.underlying50 rfl (by kernel_rfl) ?_)
    | (go_at_call 25; (with_reducible refine (reject_no _ w.heap.size 1 rfl).mono ?_); rintro r w4 ⟨rfl, ho2⟩; replace hr := Aside0.mk (hr.out.only ho2 id); replace ho := Aside0.mk (ho.out.trans ho2); clear ho2)
    | (go_at_call 25; refine (reject_yes _ w.heap.size 51 1 3 1 0 [0, 0, 0, 0, 0, 0] rfl (by decide) hr.out rfl 0 rfl (by omega)).mono ?_; rintro r w1 ⟨rfl, hr1, ho1⟩; replace hr := Aside0.mk (show Row w1 w.heap.size [.int .u64 0, .int .u64 0, .int .u64 0, .int .u64 0, .int .u64 ((3 : Nat) : Int), .int .u64 ((1 : Nat) : Int), .int .u64 0, .int .u64 0, .int .u64 0, .int .u64 0, .int .u64 ((0 : Nat) : Int), .int .u64 0, .int .u64 0, .int .u64 ((0 : Nat) : Int), .int .u64 ((1 : Nat) : Int), .int .u64 ((0 : Nat) : Int), .int .u64 ((0 : Nat) : Int), .int .u64 ((0 : Nat) : Int), .int .u64 ((0 : Nat) : Int)] from hr1); replace ho := Aside0.mk (fresh ho.out ho1 (fun k e => by omega)); clear hr1 ho1)
    | (go_at_call 28; refine (open_walk _ 3 1 0 0 1 0 0 0 0 (by decide) (by decide) 2 rfl 1 rfl).mono ?_; rintro r w2 ⟨rfl, ho2⟩; replace hr := Aside0.mk (hr.out.only ho2 id); replace ho := Aside0.mk (ho.out.trans ho2); clear ho2)
    | (go_at_call 27; refine (clean_walk _ 3 1 0 0 1 0 0 0 0).mono ?_; rintro r w3 ⟨rfl, ho2⟩; replace hr := Aside0.mk (hr.out.only ho2 id); replace ho := Aside0.mk (ho.out.trans ho2); clear ho2))

  go_ret
  exact ⟨by first | rfl | simp, ho.out⟩
end Go.Proofs.Ytfgpcoocbblkiaa.Le
