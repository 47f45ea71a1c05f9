/- Which policies are looked at (Far), and the program's policy of a document's (Of), walked. No conditions but bounds. -/
import Derived.Test.YtgpkihnihmbomaaPs
namespace Go.Proofs.Ytgpkihnihmbomaa.Pt
open Go.RowKit Go.Proofs.YtgpkihnihmbomaaW.PrintWords Go.Proofs.YtgpkihnihmbomaaW.PrintLast
open Go.Proofs.Ytgpkihnihmbomaa.Ob Go.Proofs.Ytgpkihnihmbomaa.Two Go.Proofs.Ytgpkihnihmbomaa.Bx
set_option linter.unusedSimpArgs false
set_option linter.unusedVariables false
/-- Is a policy more than is looked at? -/
def far : Nat → Pol → Nat → Bool
  | 0, _, _ => false
  | d + 1, p, deep => decide (deep > 12 ∨ p.kids.length > 70 ∨ p.key.size > 200 ∨ p.op.size > 200 ∨ p.vs.size > 5000) || p.kids.any fun q => far d q (deep + 1)
/-- Of all policies of one: the key is short. -/
def keys : Nat → Pol → Prop
  | 0, _ => True
  | d + 1, p => p.key.size ≤ 200 ∧ p.kids.length ≤ 70 ∧ ∀ q ∈ p.kids, keys d q
theorem foldl_max_le (l : List Nat) (m : Nat) (h : ∀ x ∈ l, x ≤ m) : l.foldl max 0 ≤ m := by
  induction l with
  | nil => simp
  | cons a r ih =>
    rw [List.foldl_cons, foldl_max]
    have h1 := h a (List.mem_cons_self ..)
    have h2 := ih (fun x hx => h x (List.mem_cons_of_mem _ hx))
    omega
theorem far_near : ∀ (d : Nat) (p : Pol) (deep : Nat), far d p deep = false → deep ≤ 13 → dp d p + deep ≤ 13 ∧ keys d p
  | 0, p, deep, _, h => ⟨by unfold dp; omega, trivial⟩
  | d + 1, p, deep, hf, h => by
    unfold far at hf
    rw [Bool.or_eq_false_iff, decide_eq_false_iff_not, List.any_eq_false] at hf
    obtain ⟨h1, h2⟩ := hf
    have hk : ∀ q ∈ p.kids, dp d q + (deep + 1) ≤ 13 ∧ keys d q := fun q hq => far_near d q (deep + 1) (by simpa using h2 q hq) (by omega)
    refine ⟨?_, by omega, by omega, fun q hq => (hk q hq).2⟩
    have : (p.kids.map (dp d)).foldl max 0 ≤ 12 - deep := foldl_max_le _ _ (fun x hx => by
      obtain ⟨q, hq, rfl⟩ := List.mem_map.1 hx
      have := (hk q hq).1
      omega)
    unfold dp
    omega
set_option maxHeartbeats 8000000 in
set_option maxRecDepth 1000000 in
theorem far_w : ∀ (d : Nat) (p : Pol) (deep : Nat) (dI : Int) (cs : List Value) (w : World) (b : Bool), dI = (deep : Int) → deep ≤ 1000 → (kp 43 d).K w p cs → far d p deep = b →
    Calls Try.prog 22 #[.agg cs.toArray, .int .i64 dI] w fun e w' => e = .returned (.bool b) ∧ Below w.heap.size w w' := by
  intro d
  induction d with
  | zero => intro p deep dI cs w b _ _ hK; exact (kp_no hK).elim
  | succ d ih =>
    intro p deep dI cs w b hdI hdeep hK hb
    obtain ⟨A, c, rfl, hc, hC⟩ := kp_open hK
    clear hK
    replace ih := Aside0.mk ih
    show Calls Try.prog 22 #[.agg #[.string p.op, .string p.key, .int .i64 p.vk, .int .i64 p.vn, .string p.vs, .int .u64 p.n, .slice A p.kids.length c], .int .i64 dI] w _
    have hT := Aside0.mk ((Bx.start w).new [.string p.op, .string p.key, .int .i64 p.vk, .int .i64 p.vn, .string p.vs, .int .u64 p.n, .slice A p.kids.length c] 43)
    subst hdI
    have hfar := Aside0.mk (show far (d + 1) p deep = (decide (deep > 12 ∨ p.kids.length > 70 ∨ p.key.size > 200 ∨ p.op.size > 200 ∨ p.vs.size > 5000) || p.kids.any fun q => far d q (deep + 1)) from rfl)
    obtain ⟨n, hn⟩ : ∃ n, p.kids.length = n := ⟨_, rfl⟩
    rw [hn] at hC hT hfar ⊢
    replace hC := Aside0.mk hC
    replace hb := Aside0.mk hb
    obtain ⟨y0, z0⟩ := hT.out.row (List.mem_cons_self ..) 0 _ rfl
    obtain ⟨y1, z1⟩ := hT.out.row (List.mem_cons_self ..) 1 _ rfl
    obtain ⟨y4, z4⟩ := hT.out.row (List.mem_cons_self ..) 4 _ rfl
    obtain ⟨y6, z6⟩ := hT.out.row (List.mem_cons_self ..) 6 _ rfl
    by_cases g0 : deep > 12
    · have gI0 : (deep : Int) > 12 := by omega
      have e1 : far (d + 1) p deep = true := by rw [hfar.out, decide_eq_true (by omega)]; rfl
      have hb' := hb.out
      rw [e1] at hb'
      subst hb'
      clear e1 hfar
      go_enter Try.func22, Try.ntmps22
      go_wp2
      go_ret
      exact ⟨by first | rfl | simp, hT.out.b⟩
    have gI0 : (deep : Int) ≤ 12 := by omega
    have gJ0 : ¬ (deep : Int) > 12 := by omega
    by_cases g1 : n > 70
    · have gI1 : (n : Int) > 70 := by omega
      have e1 : far (d + 1) p deep = true := by rw [hfar.out, decide_eq_true (by omega)]; rfl
      have hb' := hb.out
      rw [e1] at hb'
      subst hb'
      clear e1 hfar
      go_enter Try.func22, Try.ntmps22
      go_wp2
      go_ret
      exact ⟨by first | rfl | simp, hT.out.b⟩
    have gI1 : (n : Int) ≤ 70 := by omega
    have gJ1 : ¬ (n : Int) > 70 := by omega
    by_cases g2 : p.key.size > 200
    · have gI2 : (p.key.size : Int) > 200 := by omega
      have e1 : far (d + 1) p deep = true := by rw [hfar.out, decide_eq_true (by omega)]; rfl
      have hb' := hb.out
      rw [e1] at hb'
      subst hb'
      clear e1 hfar
      go_enter Try.func22, Try.ntmps22
      go_wp2
      go_ret
      exact ⟨by first | rfl | simp, hT.out.b⟩
    have gI2 : (p.key.size : Int) ≤ 200 := by omega
    have gJ2 : ¬ (p.key.size : Int) > 200 := by omega
    by_cases g3 : p.op.size > 200
    · have gI3 : (p.op.size : Int) > 200 := by omega
      have e1 : far (d + 1) p deep = true := by rw [hfar.out, decide_eq_true (by omega)]; rfl
      have hb' := hb.out
      rw [e1] at hb'
      subst hb'
      clear e1 hfar
      go_enter Try.func22, Try.ntmps22
      go_wp2
      go_ret
      exact ⟨by first | rfl | simp, hT.out.b⟩
    have gI3 : (p.op.size : Int) ≤ 200 := by omega
    have gJ3 : ¬ (p.op.size : Int) > 200 := by omega
    by_cases g4 : p.vs.size > 5000
    · have gI4 : (p.vs.size : Int) > 5000 := by omega
      have e1 : far (d + 1) p deep = true := by rw [hfar.out, decide_eq_true (by omega)]; rfl
      have hb' := hb.out
      rw [e1] at hb'
      subst hb'
      clear e1 hfar
      go_enter Try.func22, Try.ntmps22
      go_wp2
      go_ret
      exact ⟨by first | rfl | simp, hT.out.b⟩
    have gI4 : (p.vs.size : Int) ≤ 5000 := by omega
    have gJ4 : ¬ (p.vs.size : Int) > 5000 := by omega
    have e0 : decide (deep > 12 ∨ n > 70 ∨ p.key.size > 200 ∨ p.op.size > 200 ∨ p.vs.size > 5000) = false := decide_eq_false (by omega)
    rw [e0, Bool.false_or] at hfar
    clear e0 g0 g1 g2 g3 g4
    go_enter Try.func22, Try.ntmps22
    go_wp2
    clear y0 z0 y1 z1 y4 z4 y6 z6 gI2 gI3 gI4 gJ0 gJ1 gJ2 gJ3 gJ4
    go_loopg [5] (n + 1) (fun kq v5 wr => ∃ (j : Nat), v5 = .int .i64 (j : Int) ∧ j ≤ n ∧ n - j < kq ∧ Aside0 (∀ i, i < j → ∀ h : i < p.kids.length, far d p.kids[i] (deep + 1) = false) ∧ Aside0 (Bx w wr [(w.heap.size, [.string p.op, .string p.key, .int .i64 p.vk, .int .i64 p.vn, .string p.vs, .int .u64 p.n, .slice A n c])]))
    case atStart => exact ⟨0, rfl, Nat.zero_le _, by omega, ⟨fun i h => absurd h (by omega)⟩, hT⟩
    case round =>
      clear hT
      obtain ⟨j, rfl, hj, hk, hA, hT⟩ := hrel
      obtain ⟨k1, rfl⟩ : ∃ m, gk = m + 1 := ⟨gk - 1, by omega⟩
      obtain ⟨y6, z6⟩ := hT.out.row (List.mem_cons_self ..) 6 _ rfl
      have hj0 : (0 : Int) ≤ (j : Int) := by omega
      by_cases hjn : j < n
      · have hjnI : (j : Int) < (n : Int) := by omega
        have hjl : j < p.kids.length := by omega
        cases d with
        | zero => exact absurd hjl (by rw [kp_none hC.out]; simp)
        | succ d' =>
          obtain ⟨ad, A6, c6, rfl, x0, x1, x2, x3, x4, x5, x6, l6, g6⟩ := kp_at (Kd.C_below hC.out hT.out.b) j hjl hjn
          have hA2 : far (d' + 1) p.kids[j] (deep + 1) = false → ∀ i, i < j + 1 → ∀ h : i < p.kids.length, far (d' + 1) p.kids[i] (deep + 1) = false := fun h0 i hi h => by
            by_cases e : i = j
            · subst e; exact h0
            · exact hA.out i (by omega) h
          have hE : far (d' + 1) p.kids[j] (deep + 1) = true → p.kids.any (fun q => far (d' + 1) q (deep + 1)) = true := fun h0 => List.any_eq_true.2 ⟨_, List.getElem_mem hjl, h0⟩
          generalize hq : p.kids[j] = q at x0 x1 x2 x3 x4 x5 x6 l6 g6 hA2 hE
          have hKq := Aside0.mk (kp_mk (e := 43) wr q l6 g6)
          clear hq g6 l6
          cases hok : far (d' + 1) q (deep + 1) with
          | true =>
            have e1 := hE hok
            have hb' := hb.out
            rw [hfar.out, e1] at hb'
            subst hb'
            replace hok := Aside0.mk hok
            clear hA2 hE e1 hfar hA
            go_wp2_with (go_at_call 22; refine (ih.out q (deep + 1) _ [.string q.op, .string q.key, .int .i64 q.vk, .int .i64 q.vn, .string q.vs, .int .u64 q.n, .slice A6 q.kids.length c6] _ true (by omega) (by omega) hKq.out hok.out).mono ?_; rintro e w2 ⟨rfl, hb2⟩; replace hT := Aside0.mk (hT.out.keep hb2); clear hb2)
            go_ret
            exact ⟨rfl, hT.out.b⟩
          | false =>
            have hA3 := Aside0.mk (hA2 hok)
            replace hok := Aside0.mk hok
            clear hA2 hE hA
            go_wp2_with (go_at_call 22; refine (ih.out q (deep + 1) _ [.string q.op, .string q.key, .int .i64 q.vk, .int .i64 q.vn, .string q.vs, .int .u64 q.n, .slice A6 q.kids.length c6] _ false (by omega) (by omega) hKq.out hok.out).mono ?_; rintro e w2 ⟨rfl, hb2⟩; replace hT := Aside0.mk (hT.out.keep hb2); clear hb2)
            go_roundg k1
            case measure => omega
            case rel => exact ⟨j + 1, rfl, by omega, by omega, hA3, hT⟩
      · obtain rfl : j = n := by omega
        have e1 : p.kids.any (fun q => far d q (deep + 1)) = false := by
          rw [List.any_eq_false]
          intro q hq
          obtain ⟨i, hi, rfl⟩ := List.getElem_of_mem hq
          rw [hA.out i (by omega) hi]; simp
        have hb' := hb.out
        rw [hfar.out, e1] at hb'
        subst hb'
        clear e1 hfar hA hk
        go_wp2
        go_ret
        exact ⟨rfl, hT.out.b⟩
/-- The boxes of Of and its own row. -/
structure OfS (w W : World) (d : Nat) (p : Pol) (A : Option Addr) (n c : Nat) (V : Value) (l : List Pol) : Prop where
  t : Bx w W [(w.heap.size, [.string p.op, .string p.key, .int .i64 p.vk, .int .i64 p.vn, .string p.vs, .int .u64 p.n, .slice A n c]), (w.heap.size + 1, [.string ⟨#[]⟩, .string ⟨#[]⟩, .int .i64 0, .int .i64 0, .string ⟨#[]⟩, .int .u64 0, .slice none 0 0]), (w.heap.size + 2, [.string p.op, .string p.key, .int .i64 p.vk, .int .i64 p.vn, .string p.vs, .int .u64 p.n, V])]
  r : (kp 53 d).R 53 W (w.heap.size + 3) (fun _ => True) V l
  h3 : w.heap.size + 3 ≤ W.heap.size
theorem OfS.keep {w W W' : World} {d : Nat} {p : Pol} {A : Option Addr} {n c : Nat} {V : Value} {l : List Pol} (h : OfS w W d p A n c V l) (k : Below W.heap.size W W') : OfS w W' d p A n c V l :=
  ⟨h.t.keep k, Kd.R_below h.r k, Nat.le_trans h.h3 k.size⟩
theorem OfS.drew {w W : World} {d : Nat} {p : Pol} {A : Option Addr} {n c : Nat} {V : Value} {l : List Pol} (h : OfS w W d p A n c V l) : OfS w W.drew d p A n c V l := h.keep ⟨rfl, rfl, rfl, Nat.le_refl _, fun _ _ => rfl⟩
/-- Behind the append: the new row is not yet in its box. -/
theorem OfS.put {w W W1 : World} {d : Nat} {p : Pol} {A : Option Addr} {n c : Nat} {V V1 : Value} {l l1 : List Pol} (h : OfS w W d p A n c V l) (hr : (kp 53 d).R 53 W1 (w.heap.size + 3) (fun _ => True) V1 l1) (hb : Below (w.heap.size + 3) W W1) :
    OfS w (W1.setCell ⟨w.heap.size + 2, 6, none⟩ V1) d p A n c V1 l1 := by
  have k : Only (fun j => w.heap.size + 3 ≤ j) W W1 := ⟨hb.os, hb.tape, hb.output, hb.size, fun j _ hj => hb.block j (by omega)⟩
  have k2 := (Only.refl (fun j => j = w.heap.size + 2) W1).setCell ⟨w.heap.size + 2, 6, none⟩ V1 rfl
  have ks : (W1.setCell ⟨w.heap.size + 2, 6, none⟩ V1).heap.size = W1.heap.size := by simp [World.setCell]
  have hs := hb.size
  have h3 := h.h3
  refine ⟨⟨(h.t.b.trans (hb.mono (by omega))).setCell (Nat.le_add_right _ _) _, fun q hq => ?_⟩, Kd.R_mono (Kd.R_far (p := ⟨w.heap.size + 2, 6, none⟩) (Kd.R_bound hr) (fun j hj => by have := hj.2.1; show j ≠ w.heap.size + 2; omega) V1) (fun _ _ => trivial), by rw [ks]; omega⟩
  rw [ks]
  simp only [List.mem_cons, List.not_mem_nil, or_false] at hq
  have h1 := h.t.r (w.heap.size, [.string p.op, .string p.key, .int .i64 p.vk, .int .i64 p.vn, .string p.vs, .int .u64 p.n, .slice A n c]) (by simp)
  have h2 := h.t.r (w.heap.size + 1, [.string ⟨#[]⟩, .string ⟨#[]⟩, .int .i64 0, .int .i64 0, .string ⟨#[]⟩, .int .u64 0, .slice none 0 0]) (by simp)
  have h4 := h.t.r (w.heap.size + 2, [.string p.op, .string p.key, .int .i64 p.vk, .int .i64 p.vn, .string p.vs, .int .u64 p.n, V]) (by simp)
  rcases hq with rfl | rfl | rfl
  · exact ⟨Nat.le_refl _, by show w.heap.size < _; omega, (h1.2.2.only k (by show ¬ w.heap.size + 3 ≤ w.heap.size; omega)).only k2 (by show ¬ w.heap.size = _; omega)⟩
  · exact ⟨by show w.heap.size ≤ w.heap.size + 1; omega, by show w.heap.size + 1 < _; omega, (h2.2.2.only k (by show ¬ w.heap.size + 3 ≤ w.heap.size + 1; omega)).only k2 (by show ¬ w.heap.size + 1 = _; omega)⟩
  · exact ⟨by show w.heap.size ≤ w.heap.size + 2; omega, by show w.heap.size + 2 < _; omega, (h4.2.2.only k (by show ¬ w.heap.size + 3 ≤ w.heap.size + 2; omega)).set 6 V1⟩
theorem OfS.row3 {w W W1 : World} {d : Nat} {p : Pol} {A : Option Addr} {n c : Nat} {V : Value} {l : List Pol} (h : OfS w W d p A n c V l) (hb : Below (w.heap.size + 3) W W1) : Row W1 (w.heap.size + 2) [.string p.op, .string p.key, .int .i64 p.vk, .int .i64 p.vn, .string p.vs, .int .u64 p.n, V] :=
  (h.t.row (g := w.heap.size + 2) (by simp)).only (S := fun j => w.heap.size + 3 ≤ j) ⟨hb.os, hb.tape, hb.output, hb.size, fun j _ hj => hb.block j (by omega)⟩ (by show ¬ w.heap.size + 3 ≤ w.heap.size + 2; omega)
theorem cellB {w w' : World} {a : Addr} {v : Value} (hb : Below w.heap.size w w') (h : w.cell? a = some v) : w'.cell? a = some v := by
  have h3 := hb.block _ (World.block_lt_of_cell? w _ h)
  unfold World.cell? at h ⊢
  rw [h3]; exact h
theorem kp_openM {e d : Nat} {w : World} {base : Nat} {ok : Nat → Prop} {x : Pol} {cs : List Value} (h : (kp e (d + 1)).M w base ok x cs) : ∃ v, cs = [.string x.op, .string x.key, .int .i64 x.vk, .int .i64 x.vn, .string x.vs, .int .u64 x.n, v] := by
  obtain ⟨_, _, rfl, rfl, ⟨_, _, rfl, rfl, ⟨_, _, rfl, rfl, ⟨_, _, rfl, rfl, ⟨_, _, rfl, rfl, ⟨_, _, rfl, rfl, ⟨v, rfl, g⟩⟩⟩⟩⟩⟩⟩ := h
  exact ⟨v, rfl⟩
/-- Own rows of what came last lie behind what stood there. -/
theorem Kd.M_base {α : Type} {d : Kd α} {w : World} {base base' : Nat} {ok : Nat → Prop} {x : α} {cs : List Value} (hb : base' ≤ base) (h : d.M w base ok x cs) : d.M w base' (fun k => base ≤ k) x cs :=
  d.M_lower hb (d.M_mono (fun _ hk => hk.2.1) (d.M_bound h))
theorem R_kept {α : Type} {d : Kd α} {e base : Nat} {S : Nat → Prop} {w w1 : World} {v : Value} {xs : List α} (h : d.R e w base (fun _ => True) v xs) (k : Only S w w1) (hs : ∀ i, base ≤ i → ¬ S i) : d.R e w1 base (fun _ => True) v xs :=
  Kd.R_mono (Kd.R_step (Kd.R_bound h) (fun i hi hlt => k.block i hlt (hs i hi.2.1))) (fun _ _ => trivial)
theorem info53' : (Try.prog.info? 53).map (fun i => (i.zero, i.size, i.bytes)) = some (some (.agg #[.string ⟨#[]⟩, .string ⟨#[]⟩, .int .i64 0, .int .i64 0, .string ⟨#[]⟩, .int .u64 0, .slice none 0 0]), 7, 96) := by kernel_rfl
set_option maxHeartbeats 8000000 in
set_option maxRecDepth 1000000 in
theorem of_w : ∀ (d : Nat) (p : Pol) (cs : List Value) (w : World), keys d p → (kp 43 d).K w p cs →
    Calls Try.prog 25 #[.agg cs.toArray] w fun e w' => ∃ cs', e = .returned (.agg cs'.toArray) ∧ (kp 53 d).M w' w.heap.size (fun _ => True) p cs' ∧ Below w.heap.size w w' := by
  intro d
  induction d with
  | zero => intro p cs w _ hK; exact (kp_no hK).elim
  | succ d ih =>
    intro p cs w hky hK
    obtain ⟨A, c, rfl, hc, hC⟩ := kp_open hK
    clear hK
    replace ih := Aside0.mk ih
    show Calls Try.prog 25 #[.agg #[.string p.op, .string p.key, .int .i64 p.vk, .int .i64 p.vn, .string p.vs, .int .u64 p.n, .slice A p.kids.length c]] w _
    obtain ⟨n, hn⟩ : ∃ n, p.kids.length = n := ⟨_, rfl⟩
    have hn70 : n ≤ 70 := by rw [← hn]; exact hky.2.1
    rw [hn] at hC ⊢
    replace hC := Aside0.mk hC
    replace hky := Aside0.mk hky.2.2
    have hT1 := (Bx.start w).new [.string p.op, .string p.key, .int .i64 p.vk, .int .i64 p.vn, .string p.vs, .int .u64 p.n, .slice A n c] 43
    have e1 := size_alloc w (.cells #[.string p.op, .string p.key, .int .i64 p.vk, .int .i64 p.vn, .string p.vs, .int .u64 p.n, .slice A n c] 43)
    have hT2 := hT1.new [.string ⟨#[]⟩, .string ⟨#[]⟩, .int .i64 0, .int .i64 0, .string ⟨#[]⟩, .int .u64 0, .slice none 0 0] 53
    have e2 := size_alloc (w.alloc (.cells #[.string p.op, .string p.key, .int .i64 p.vk, .int .i64 p.vn, .string p.vs, .int .u64 p.n, .slice A n c] 43)) (.cells #[.string ⟨#[]⟩, .string ⟨#[]⟩, .int .i64 0, .int .i64 0, .string ⟨#[]⟩, .int .u64 0, .slice none 0 0] 53)
    have hT3 := hT2.new [.string p.op, .string p.key, .int .i64 p.vk, .int .i64 p.vn, .string p.vs, .int .u64 p.n, .slice none 0 0] 53
    have e3 := size_alloc ((w.alloc (.cells #[.string p.op, .string p.key, .int .i64 p.vk, .int .i64 p.vn, .string p.vs, .int .u64 p.n, .slice A n c] 43)).alloc (.cells #[.string ⟨#[]⟩, .string ⟨#[]⟩, .int .i64 0, .int .i64 0, .string ⟨#[]⟩, .int .u64 0, .slice none 0 0] 53)) (.cells #[.string p.op, .string p.key, .int .i64 p.vk, .int .i64 p.vn, .string p.vs, .int .u64 p.n, .slice none 0 0] 53)
    have hS : OfS w (((w.alloc (.cells #[.string p.op, .string p.key, .int .i64 p.vk, .int .i64 p.vn, .string p.vs, .int .u64 p.n, .slice A n c] 43)).alloc (.cells #[.string ⟨#[]⟩, .string ⟨#[]⟩, .int .i64 0, .int .i64 0, .string ⟨#[]⟩, .int .u64 0, .slice none 0 0] 53)).alloc (.cells #[.string p.op, .string p.key, .int .i64 p.vk, .int .i64 p.vn, .string p.vs, .int .u64 p.n, .slice none 0 0] 53)) d p A n c (.slice none 0 0) [] :=
      ⟨hT3.sub (fun q hq => by
        simp only [List.mem_cons, List.not_mem_nil, or_false] at hq ⊢
        rcases hq with rfl | rfl | rfl
        · exact .inr (.inr rfl)
        · exact .inr (.inl (by show _ = (World.heap (World.alloc w (.cells #[.string p.op, .string p.key, .int .i64 p.vk, .int .i64 p.vn, .string p.vs, .int .u64 p.n, .slice A n c] 43)) |>.size, _); rw [e1]))
        · exact .inl (by show _ = (World.heap (World.alloc (World.alloc w (.cells #[.string p.op, .string p.key, .int .i64 p.vk, .int .i64 p.vn, .string p.vs, .int .u64 p.n, .slice A n c] 43)) (.cells #[.string ⟨#[]⟩, .string ⟨#[]⟩, .int .i64 0, .int .i64 0, .string ⟨#[]⟩, .int .u64 0, .slice none 0 0] 53)) |>.size, _); rw [e2, e1])), Kd.R_nil _ _ _ _ _, by rw [e3, e2, e1]; omega⟩
    replace hS := Aside0.mk hS
    clear hT1 hT2 hT3 e1 e2 e3
    obtain ⟨y0, z0⟩ := hS.out.t.row (g := w.heap.size) (cs := [.string p.op, .string p.key, .int .i64 p.vk, .int .i64 p.vn, .string p.vs, .int .u64 p.n, .slice A n c]) (by simp) 0 _ rfl
    go_enter Try.func25, Try.ntmps25
    go_wp2
    go_loopg [4] (n + 1) (fun kq v4 wr => ∃ (j : Nat) (V : Value), v4 = .int .i64 (j : Int) ∧ j ≤ n ∧ n - j < kq ∧ Aside0 (OfS w wr d p A n c V (p.kids.take j)))
    case atStart => exact ⟨0, _, rfl, Nat.zero_le _, by omega, hS⟩
    case round =>
      clear hS y0 z0
      obtain ⟨j, V, rfl, hj, hk, hS⟩ := hrel
      obtain ⟨k1, rfl⟩ : ∃ m, gk = m + 1 := ⟨gk - 1, by omega⟩
      obtain ⟨y6, z6⟩ := hS.out.t.row (g := w.heap.size) (cs := [.string p.op, .string p.key, .int .i64 p.vk, .int .i64 p.vn, .string p.vs, .int .u64 p.n, .slice A n c]) (by simp) 6 _ rfl
      have hj0 : (0 : Int) ≤ (j : Int) := by omega
      by_cases hjn : j < n
      · have hjnI : (j : Int) < (n : Int) := by omega
        have hjl : j < p.kids.length := by omega
        cases d with
        | zero => exact absurd hjl (by rw [kp_none hC.out]; simp)
        | succ d' =>
          obtain ⟨ad, A6, c6, rfl, x0, x1, x2, x3, x4, x5, x6, l6, g6⟩ := kp_at (Kd.C_below hC.out hS.out.t.b) j hjl hjn
          have hkq := Aside0.mk (hky.out _ (List.getElem_mem hjl))
          have htk := Aside0.mk (show p.kids.take (j + 1) = p.kids.take j ++ [p.kids[j]] from List.take_succ_eq_append_getElem hjl)
          generalize hq : p.kids[j] = q at x0 x1 x2 x3 x4 x5 x6 l6 g6 hkq htk
          have hKq := Aside0.mk (kp_mk (e := 43) wr q l6 g6)
          have hbl : ((p.kids.take j).length + 1) * 96 ≤ 140737488355328 := by rw [List.length_take]; omega
          replace hbl := Aside0.mk hbl
          clear hq g6 l6
          go_wp2
          have hS := (⟨hS.out.drew, x0, x1, x2, x3, x4, x5, x6⟩ : (fun W => OfS w W (d' + 1) p (some ad) n c V (p.kids.take j) ∧ W.cell? (ad.add (j * 7)) = some (.string q.op) ∧ W.cell? ⟨(ad.add (j * 7)).block, (ad.add (j * 7)).off + 1, none⟩ = some (.string q.key) ∧ W.cell? ⟨(ad.add (j * 7)).block, (ad.add (j * 7)).off + 2, none⟩ = some (.int .i64 q.vk) ∧ W.cell? ⟨(ad.add (j * 7)).block, (ad.add (j * 7)).off + 3, none⟩ = some (.int .i64 q.vn) ∧ W.cell? ⟨(ad.add (j * 7)).block, (ad.add (j * 7)).off + 4, none⟩ = some (.string q.vs) ∧ W.cell? ⟨(ad.add (j * 7)).block, (ad.add (j * 7)).off + 5, none⟩ = some (.int .u64 q.n) ∧ W.cell? ⟨(ad.add (j * 7)).block, (ad.add (j * 7)).off + 6, none⟩ = some (.slice A6 q.kids.length c6)) wr.drew)
          refine start_ (n := 12) (S := fun W => OfS w W (d' + 1) p (some ad) n c V (p.kids.take j) ∧ W.cell? (ad.add (j * 7)) = some (.string q.op) ∧ W.cell? ⟨(ad.add (j * 7)).block, (ad.add (j * 7)).off + 1, none⟩ = some (.string q.key) ∧ W.cell? ⟨(ad.add (j * 7)).block, (ad.add (j * 7)).off + 2, none⟩ = some (.int .i64 q.vk) ∧ W.cell? ⟨(ad.add (j * 7)).block, (ad.add (j * 7)).off + 3, none⟩ = some (.int .i64 q.vn) ∧ W.cell? ⟨(ad.add (j * 7)).block, (ad.add (j * 7)).off + 4, none⟩ = some (.string q.vs) ∧ W.cell? ⟨(ad.add (j * 7)).block, (ad.add (j * 7)).off + 5, none⟩ = some (.int .u64 q.n) ∧ W.cell? ⟨(ad.add (j * 7)).block, (ad.add (j * 7)).off + 6, none⟩ = some (.slice A6 q.kids.length c6)) (ds := [9, 11]) #[false, false, false, false, false, false, false, false, false, false, false, false] (by kernel_rfl) rfl rfl hS (fun hHeld => ?_)
          clear hS
          refine pure_ (i := 0) (N := some 21) (v := ?_) (a' := ?_) #[true, false, false, false, false, false, false, false, false, false, false, false] rfl rfl (by kernel_rfl) (fun _ _ _ h => h) (Or.inl ⟨by rfl, ?_⟩) ?_ ?_
          rotate_left
          · intro w'
            go_simp
            with_reducible rfl
          rotate_left
          · simp only [Act.put, List.setIfInBounds_toArray, List.set_cons_zero, List.set_cons_succ, i64_w, i32_w]
            rfl
          refine pure_ (i := 2) (N := some 23) (v := ?_) (a' := ?_) #[true, false, true, false, false, false, false, false, false, false, false, false] rfl rfl (by kernel_rfl) (fun _ _ _ h => h) (Or.inl ⟨by rfl, ?_⟩) ?_ ?_
          rotate_left
          · intro w'
            go_simp
            with_reducible rfl
          rotate_left
          · simp only [Act.put, List.setIfInBounds_toArray, List.set_cons_zero, List.set_cons_succ, i64_w, i32_w]
            rfl
          refine pure_ (i := 4) (N := some 25) (v := ?_) (a' := ?_) #[true, false, true, false, true, false, false, false, false, false, false, false] rfl rfl (by kernel_rfl) (fun _ _ _ h => h) (Or.inl ⟨by rfl, ?_⟩) ?_ ?_
          rotate_left
          · intro w'
            go_simp
            with_reducible rfl
          rotate_left
          · simp only [Act.put, List.setIfInBounds_toArray, List.set_cons_zero, List.set_cons_succ, i64_w, i32_w]
            rfl
          refine take_ (i := 1) (N := some 22) (v := ?_) (a' := ?_) #[true, true, true, false, true, false, false, false, false, false, false, false] rfl rfl (by kernel_rfl) (fun _ _ _ h => h) (Or.inl ⟨by rfl, ?_⟩) hHeld ?_ ?_
          rotate_left
          · rintro w' ⟨h, x0, x1, x2, x3, x4, x5, x6⟩
            have hq := (h.t.row (g := w.heap.size + 2) (cs := [.string p.op, .string p.key, .int .i64 p.vk, .int .i64 p.vn, .string p.vs, .int .u64 p.n, V]) (by simp) 6 _ rfl).1
            go_simp
            with_reducible rfl
          rotate_left
          · simp only [Act.put, List.setIfInBounds_toArray, List.set_cons_zero, List.set_cons_succ, i64_w, i32_w]
            rfl
          refine take_ (i := 3) (N := some 24) (v := ?_) (a' := ?_) #[true, true, true, true, true, false, false, false, false, false, false, false] rfl rfl (by kernel_rfl) (fun _ _ _ h => h) (Or.inl ⟨by rfl, ?_⟩) hHeld ?_ ?_
          rotate_left
          · rintro w' ⟨h, x0, x1, x2, x3, x4, x5, x6⟩
            have hq := (h.t.row (g := w.heap.size) (cs := [.string p.op, .string p.key, .int .i64 p.vk, .int .i64 p.vn, .string p.vs, .int .u64 p.n, .slice (some ad) n c]) (by simp) 6 _ rfl).1
            go_simp
            with_reducible rfl
          rotate_left
          · simp only [Act.put, List.setIfInBounds_toArray, List.set_cons_zero, List.set_cons_succ, i64_w, i32_w]
            rfl
          refine pure_ (i := 5) (N := some 26) (v := ?_) (a' := ?_) #[true, true, true, true, true, true, false, false, false, false, false, false] rfl rfl (by kernel_rfl) (fun _ _ _ h => h) (Or.inl ⟨by rfl, ?_⟩) ?_ ?_
          rotate_left
          · intro w'
            go_simp
            with_reducible rfl
          rotate_left
          · simp only [Act.put, List.setIfInBounds_toArray, List.set_cons_zero, List.set_cons_succ, i64_w, i32_w]
            rfl
          refine take_ (i := 6) (N := some 27) (v := ?_) (a' := ?_) #[true, true, true, true, true, true, true, false, false, false, false, false] rfl rfl (by kernel_rfl) (fun _ _ _ h => h) (Or.inl ⟨by rfl, ?_⟩) hHeld ?_ ?_
          rotate_left
          · rintro w' ⟨h, x0, x1, x2, x3, x4, x5, x6⟩
            go_simp
            with_reducible rfl
          rotate_left
          · simp only [Act.put, List.setIfInBounds_toArray, List.set_cons_zero, List.set_cons_succ, i64_w, i32_w]
            rfl
          refine one_ (i := 7) (N := some 28) #[true, true, true, true, true, true, true, true, false, false, false, false] rfl rfl (by kernel_rfl) (by decide) (fun K hK => ?_)
          refine goes_ Try.func25 (by kernel_rfl) rfl #[.agg #[.string q.op, .string q.key, .int .i64 q.vk, .int .i64 q.vn, .string q.vs, .int .u64 q.n, .slice A6 q.kids.length c6]] (by rfl) rfl rfl (by (try simp only [List.map_toArray, List.map_cons, List.map_nil]); first | done | rfl) ?_
          refine (ih.out q [.string q.op, .string q.key, .int .i64 q.vk, .int .i64 q.vn, .string q.vs, .int .u64 q.n, .slice A6 q.kids.length c6] _ hkq.out ((kp 43 (d' + 1)).K_below (below_drew (Below.refl _ _)) hKq.out)).mono ?_
          rintro e w7 ⟨cs7, rfl, hM7, hb7⟩
          obtain ⟨v7, hcs7⟩ := kp_openM hM7
          subst hcs7
          have hH7 := Aside0.mk (show OfS w w7 (d' + 1) p (some ad) n c V (p.kids.take j) ∧ wr.heap.size ≤ w7.heap.size from ⟨hHeld.1.keep hb7, hb7.size⟩)
          replace hM7 := Aside0.mk hM7
          have hS7 := Aside0.mk (⟨hHeld.1.keep hb7, cellB hb7 hHeld.2.1, cellB hb7 hHeld.2.2.1, cellB hb7 hHeld.2.2.2.1, cellB hb7 hHeld.2.2.2.2.1, cellB hb7 hHeld.2.2.2.2.2.1, cellB hb7 hHeld.2.2.2.2.2.2.1, cellB hb7 hHeld.2.2.2.2.2.2.2⟩ : (fun W => OfS w W (d' + 1) p (some ad) n c V (p.kids.take j) ∧ W.cell? (ad.add (j * 7)) = some (.string q.op) ∧ W.cell? ⟨(ad.add (j * 7)).block, (ad.add (j * 7)).off + 1, none⟩ = some (.string q.key) ∧ W.cell? ⟨(ad.add (j * 7)).block, (ad.add (j * 7)).off + 2, none⟩ = some (.int .i64 q.vk) ∧ W.cell? ⟨(ad.add (j * 7)).block, (ad.add (j * 7)).off + 3, none⟩ = some (.int .i64 q.vn) ∧ W.cell? ⟨(ad.add (j * 7)).block, (ad.add (j * 7)).off + 4, none⟩ = some (.string q.vs) ∧ W.cell? ⟨(ad.add (j * 7)).block, (ad.add (j * 7)).off + 5, none⟩ = some (.int .u64 q.n) ∧ W.cell? ⟨(ad.add (j * 7)).block, (ad.add (j * 7)).off + 6, none⟩ = some (.slice A6 q.kids.length c6)) w7)
          clear hb7
          refine ⟨_, rfl, ?_⟩
          refine hK.out _ _ (hS7.out) (fun hHeld => ?_)
          clear hK K
          refine norm_ (a' := ?_) ?_ ?_
          rotate_left
          · show Act.put _ (some 28) _ = _
            simp only [Act.put, List.setIfInBounds_toArray, List.set_cons_zero, List.set_cons_succ, i64_w, i32_w]
            rfl
          refine one_ (i := 8) (N := some 29) #[true, true, true, true, true, true, true, true, true, false, false, false] rfl rfl (by kernel_rfl) (by decide) (fun K hK => ?_)
          refine event_step (by rfl) (v := .slice (some ⟨w7.heap.size, 0, none⟩) 1 1) (w1 := w7.alloc (.cells #[.string q.op, .string q.key, .int .i64 q.vk, .int .i64 q.vn, .string q.vs, .int .u64 q.n, v7] 53)) ?_ ?_
          · first | (go_simp; done) | (go_simp; rfl)
          refine hK.out _ _ (⟨hHeld.1.keep (below_alloc (Below.refl _ _) _), cellB (below_alloc (Below.refl _ _) _) hHeld.2.1, cellB (below_alloc (Below.refl _ _) _) hHeld.2.2.1, cellB (below_alloc (Below.refl _ _) _) hHeld.2.2.2.1, cellB (below_alloc (Below.refl _ _) _) hHeld.2.2.2.2.1, cellB (below_alloc (Below.refl _ _) _) hHeld.2.2.2.2.2.1, cellB (below_alloc (Below.refl _ _) _) hHeld.2.2.2.2.2.2.1, cellB (below_alloc (Below.refl _ _) _) hHeld.2.2.2.2.2.2.2⟩) (fun hHeld => ?_)
          clear hK K
          refine norm_ (a' := ?_) ?_ ?_
          rotate_left
          · show Act.put _ (some 29) _ = _
            simp only [Act.put, List.setIfInBounds_toArray, List.set_cons_zero, List.set_cons_succ, i64_w, i32_w]
            rfl
          refine last_ (i := 9) (N := some 30) #[true, true, true, true, true, true, true, true, true, true, false, false] rfl rfl (by kernel_rfl) (by decide) (fun K hK => ?_)
          refine Kd.R_append_step (kp 53 (d' + 1)) (w0 := w7) (w.heap.size + 3) (by rfl) (.tmp 22) (.tmp 29) 51 53 _ 96 rfl Try.underlying51 info53' rfl (by rw [kp_sz]; decide) (by decide) V (p.kids.take j) q [.string q.op, .string q.key, .int .i64 q.vk, .int .i64 q.vn, .string q.vs, .int .u64 q.n, v7] (fun _ => True) (fun k => wr.heap.size ≤ k) rfl rfl (Kd.M_base (hS.out.h3) hM7.out) (fun k hk => ⟨trivial, fun e => by have := Kd.R_lt hS.out.r k e.symm; omega⟩) (fun _ _ => trivial) hH7.out.1.r ((Below.refl _ w7)) hH7.out.1.h3 hbl.out ?_
          intro v9 w9 hr9 hb9 hg9 hat9
          clear hg9 hat9
          rw [← htk.out] at hr9
          obtain ⟨A9, c9, e9⟩ := Kd.R_slice hr9
          obtain ⟨m9, hm9⟩ : ∃ m9, (List.take (j + 1) p.kids).length = m9 := ⟨_, rfl⟩
          rw [hm9] at e9
          subst e9
          clear hm9
          have ⟨u6, u6f⟩ := hH7.out.1.row3 hb9 6 _ rfl
          have hEnd := Aside0.mk (hH7.out.1.put hr9 hb9)
          clear hr9 hb9
          refine hK.out _ _ ?_
          clear hK K
          refine norm_ (a' := ?_) ?_ ?_
          rotate_left
          · show Act.put _ (some 30) _ = _
            simp only [Act.put, List.setIfInBounds_toArray, List.set_cons_zero, List.set_cons_succ, i64_w, i32_w]
            rfl
          refine pure_ (i := 10) (N := some 31) (v := ?_) (a' := ?_) #[true, true, true, true, true, true, true, true, true, true, true, false] rfl rfl (by kernel_rfl) (fun _ _ _ h => h) (Or.inl ⟨by rfl, ?_⟩) ?_ ?_
          rotate_left
          · intro w'
            go_simp
            with_reducible rfl
          rotate_left
          · simp only [Act.put, List.setIfInBounds_toArray, List.set_cons_zero, List.set_cons_succ, i64_w, i32_w]
            rfl
          refine last_ (i := 11) (N := none) #[true, true, true, true, true, true, true, true, true, true, true, true] rfl rfl (by kernel_rfl) (by decide) (fun K hK => ?_)
          refine skip_ (w1 := ?_) (by rfl) rfl ?_ ?_
          rotate_left
          · go_simp
            rfl
          refine hK.out _ _ ?_
          clear hK K
          refine done_ (by kernel_rfl) ?_
          go_wp2
          go_roundg k1
          case measure => omega
          case rel => exact ⟨j + 1, _, by first | rfl | simp, by omega, by omega, hEnd⟩
      · obtain rfl : j = n := by omega
        have hall := Aside0.mk (show p.kids.take j = p.kids from List.take_of_length_le (by omega))
        have hR := hS.out.r
        rw [hall.out] at hR
        obtain ⟨A9, c9, rfl⟩ := Kd.R_slice hR
        replace hR := Aside0.mk hR
        have hB := Aside0.mk hS.out.t
        have hB3 := Aside0.mk hS.out.h3
        obtain ⟨v0, _⟩ := hB.out.row (g := w.heap.size + 2) (cs := [.string p.op, .string p.key, .int .i64 p.vk, .int .i64 p.vn, .string p.vs, .int .u64 p.n, .slice A9 p.kids.length c9]) (by simp) 0 _ rfl
        obtain ⟨v1, _⟩ := hB.out.row (g := w.heap.size + 2) (cs := [.string p.op, .string p.key, .int .i64 p.vk, .int .i64 p.vn, .string p.vs, .int .u64 p.n, .slice A9 p.kids.length c9]) (by simp) 1 _ rfl
        obtain ⟨v2, _⟩ := hB.out.row (g := w.heap.size + 2) (cs := [.string p.op, .string p.key, .int .i64 p.vk, .int .i64 p.vn, .string p.vs, .int .u64 p.n, .slice A9 p.kids.length c9]) (by simp) 2 _ rfl
        obtain ⟨v3, _⟩ := hB.out.row (g := w.heap.size + 2) (cs := [.string p.op, .string p.key, .int .i64 p.vk, .int .i64 p.vn, .string p.vs, .int .u64 p.n, .slice A9 p.kids.length c9]) (by simp) 3 _ rfl
        obtain ⟨v4, _⟩ := hB.out.row (g := w.heap.size + 2) (cs := [.string p.op, .string p.key, .int .i64 p.vk, .int .i64 p.vn, .string p.vs, .int .u64 p.n, .slice A9 p.kids.length c9]) (by simp) 4 _ rfl
        obtain ⟨v5, _⟩ := hB.out.row (g := w.heap.size + 2) (cs := [.string p.op, .string p.key, .int .i64 p.vk, .int .i64 p.vn, .string p.vs, .int .u64 p.n, .slice A9 p.kids.length c9]) (by simp) 5 _ rfl
        obtain ⟨v6, _⟩ := hB.out.row (g := w.heap.size + 2) (cs := [.string p.op, .string p.key, .int .i64 p.vk, .int .i64 p.vn, .string p.vs, .int .u64 p.n, .slice A9 p.kids.length c9]) (by simp) 6 _ rfl
        obtain ⟨a0, b0⟩ := hB.out.row (g := w.heap.size + 1) (cs := [.string ⟨#[]⟩, .string ⟨#[]⟩, .int .i64 0, .int .i64 0, .string ⟨#[]⟩, .int .u64 0, .slice none 0 0]) (by simp) 0 _ rfl
        obtain ⟨a1, b1⟩ := hB.out.row (g := w.heap.size + 1) (cs := [.string ⟨#[]⟩, .string ⟨#[]⟩, .int .i64 0, .int .i64 0, .string ⟨#[]⟩, .int .u64 0, .slice none 0 0]) (by simp) 1 _ rfl
        obtain ⟨a2, b2⟩ := hB.out.row (g := w.heap.size + 1) (cs := [.string ⟨#[]⟩, .string ⟨#[]⟩, .int .i64 0, .int .i64 0, .string ⟨#[]⟩, .int .u64 0, .slice none 0 0]) (by simp) 2 _ rfl
        obtain ⟨a3, b3⟩ := hB.out.row (g := w.heap.size + 1) (cs := [.string ⟨#[]⟩, .string ⟨#[]⟩, .int .i64 0, .int .i64 0, .string ⟨#[]⟩, .int .u64 0, .slice none 0 0]) (by simp) 3 _ rfl
        obtain ⟨a4, b4⟩ := hB.out.row (g := w.heap.size + 1) (cs := [.string ⟨#[]⟩, .string ⟨#[]⟩, .int .i64 0, .int .i64 0, .string ⟨#[]⟩, .int .u64 0, .slice none 0 0]) (by simp) 4 _ rfl
        obtain ⟨a5, b5⟩ := hB.out.row (g := w.heap.size + 1) (cs := [.string ⟨#[]⟩, .string ⟨#[]⟩, .int .i64 0, .int .i64 0, .string ⟨#[]⟩, .int .u64 0, .slice none 0 0]) (by simp) 5 _ rfl
        obtain ⟨a6, b6⟩ := hB.out.row (g := w.heap.size + 1) (cs := [.string ⟨#[]⟩, .string ⟨#[]⟩, .int .i64 0, .int .i64 0, .string ⟨#[]⟩, .int .u64 0, .slice none 0 0]) (by simp) 6 _ rfl
        clear hS hk
        go_wp2
        have hrow := (((((((hB.out.row (g := w.heap.size + 1) (cs := [.string ⟨#[]⟩, .string ⟨#[]⟩, .int .i64 0, .int .i64 0, .string ⟨#[]⟩, .int .u64 0, .slice none 0 0]) (by simp)).set 0 (.string p.op)).set 1 (.string p.key)).set 2 (.int .i64 p.vk)).set 3 (.int .i64 p.vn)).set 4 (.string p.vs)).set 5 (.int .u64 p.n)).set 6 (.slice A9 p.kids.length c9)
        rw [hn] at hrow
        have k : Only (fun i => i = w.heap.size + 1) wr (((((((wr.setCell ⟨w.heap.size + 1, 0, none⟩ (.string p.op)).setCell ⟨w.heap.size + 1, 1, none⟩ (.string p.key)).setCell ⟨w.heap.size + 1, 2, none⟩ (.int .i64 p.vk)).setCell ⟨w.heap.size + 1, 3, none⟩ (.int .i64 p.vn)).setCell ⟨w.heap.size + 1, 4, none⟩ (.string p.vs)).setCell ⟨w.heap.size + 1, 5, none⟩ (.int .u64 p.n)).setCell ⟨w.heap.size + 1, 6, none⟩ (.slice A9 j c9)) :=
          ((((((((Only.refl (fun i => i = w.heap.size + 1) wr).setCell ⟨w.heap.size + 1, 0, none⟩ _ rfl).setCell ⟨w.heap.size + 1, 1, none⟩ _ rfl).setCell ⟨w.heap.size + 1, 2, none⟩ _ rfl).setCell ⟨w.heap.size + 1, 3, none⟩ _ rfl).setCell ⟨w.heap.size + 1, 4, none⟩ _ rfl).setCell ⟨w.heap.size + 1, 5, none⟩ _ rfl).setCell ⟨w.heap.size + 1, 6, none⟩ _ rfl)
        have hRf := R_kept hR.out k (fun i hi => by omega)
        rw [hn] at hRf
        refine bodyPost_ret (results_at rfl _ _ (w.heap.size + 1) [.string p.op, .string p.key, .int .i64 p.vk, .int .i64 p.vn, .string p.vs, .int .u64 p.n, .slice A9 j c9] _ rfl hrow Try.underlying53 rfl (by kernel_rfl)) rfl ?_
        exact ⟨_, rfl, kp_mkM _ _ _ p (Kd.R_lower hRf (by omega)), hB.out.b.trans (k.below (B := w.heap.size) (fun i e => by have e : i = w.heap.size + 1 := e; omega) hB.out.b.size)⟩
end Go.Proofs.Ytgpkihnihmbomaa.Pt
