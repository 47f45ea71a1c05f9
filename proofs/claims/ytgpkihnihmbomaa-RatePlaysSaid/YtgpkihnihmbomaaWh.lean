/- WmarkPlays, walked: what any clock tells behind each of any acts. No conditions but bounds. -/
import Derived.Test.YtgpkihnihmbomaaWg
import Derived.Test.YtgpkihnihmbomaaWs
import Derived.Deep.RegionWith
namespace Go.Proofs.Ytgpkihnihmbomaa.Wm
open Go.RowKit Go.Proofs.YtgpkihnihmbomaaW.PrintWords Go.Proofs.YtgpkihnihmbomaaW.PrintLast
open Go.Proofs.Ytgpkihnihmbomaa.Ob Go.Proofs.Ytgpkihnihmbomaa.XWp
set_option linter.unusedSimpArgs false
set_option linter.unusedVariables false

theorem runs_wf (n late idle : Nat) (hn : 1 ≤ n ∧ n ≤ 16) (hl : late ≤ 4611686018427387904) (hd : idle ≤ 4611686018427387904) (l : List S80) (hg : ∀ a ∈ l, GoodA n a) (hlen : l.length < 1000) : Wf (runs n late idle l) := by
  generalize hm : l.length = m
  induction m generalizing l with
  | zero => rw [List.eq_nil_of_length_eq_zero hm]; exact wf_new n late idle hn hl hd
  | succ m ih =>
    rcases List.eq_nil_or_concat l with rfl | ⟨r, a, rfl⟩
    · cases hm
    · rw [List.concat_eq_append] at hg hm hlen ⊢
      have hr : r.length = m := by simpa using hm
      have h1 := ih r (fun x hx => hg x (List.mem_append_left _ hx)) (by omega) hr
      have h2 := knows_runs n late idle r (fun x hx => hg x (List.mem_append_left _ hx))
      rw [runs_snoc]
      refine move_wf ?_
      unfold pre
      split
      · exact ticked_wf h1 (by have := h2.now; omega)
      · have := hg a (by simp)
        unfold GoodA at this
        exact saw_wf h1 _ _ (by omega)
/-- Kept: a row of the call's own, where only other blocks were turned. -/
theorem R_only {α : Type} {d : Kd α} {e base : Nat} {ok S : Nat → Prop} {w w1 : World} {v : Value} {xs : List α} (h : d.R e w base ok v xs) (k : Only S w w1) (hs : ∀ k, ok k → k < w.heap.size → ¬ S k) : d.R e w1 base ok v xs :=
  Kd.R_step h (fun i hi hlt => k.block i hlt (hs i hi hlt))
theorem only_of_grown {W w1 : World} {row : Option Nat} (hg : W.grownBy w1 row) : Only (fun k => some k = row) W w1 := ⟨hg.os, hg.tape, hg.output, hg.size, fun k hk hs => hg.block k hk hs⟩
/-- A row of one. -/
theorem C_of_row {W : World} {b : Nat} {p q : Int} (h : Row W b [.int .i64 p, .int .u64 q]) : Kd.C k80 W (some ⟨b, 0, none⟩) 1 [⟨p, q⟩] := by
  refine ⟨rfl, by omega, fun _ => ⟨_, rfl, fun j x hx => ?_⟩⟩
  have hj : j = 0 := by
    have := (List.getElem?_eq_some_iff.1 hx).1
    simp at this; exact this
  subst hj
  obtain rfl : (⟨p, q⟩ : S80) = x := Option.some.inj hx
  exact ⟨_, rfl, k80_mk W ⟨p, q⟩, fun i u hu => by
    have := (h i u hu).1
    rw [Nat.zero_mul, Nat.zero_add]
    unfold Addr.add
    split
    · rename_i h0; rw [h0] at this; exact this
    · simpa using this⟩
theorem only_grown {S : Nat → Prop} {w W w1 : World} {row : Option Nat} (h : Only S w W) (hg : W.grownBy w1 row) (hr : ∀ b, row = some b → w.heap.size ≤ b) : Only S w w1 :=
  ⟨hg.os.trans h.os, hg.tape.trans h.tape, hg.output.trans h.output, Nat.le_trans h.size hg.size, fun k hk hs => (hg.block k (Nat.lt_of_lt_of_le hk h.size) (fun e => by have := hr k e.symm; omega)).trans (h.block k hk hs)⟩

/-- The clock and the acts put down, between two rounds. -/
structure Pi (w wr : World) (N M n late idle : Nat) (v : Value) (dl : List S80) (i : Nat) : Prop where
  c : IsClock wr N M (runs n late idle dl)
  o : Only (fun _ => False) w wr
  r : Kd.R k80 80 wr w.heap.size (fun k => k ≠ N ∧ k ≠ M) v dl
  good : ∀ a ∈ dl, GoodA n a
  len : dl.length ≤ i
  wn : w.heap.size ≤ N
  wm : w.heap.size ≤ M
/-- .. and, within a round, the act that is looked at. -/
structure Pk (w wr : World) (N M X : Nat) (g : Ck) (v : Value) (dl : List S80) (p q : Int) : Prop where
  c : IsClock wr N M g
  o : Only (fun _ => False) w wr
  r : Kd.R k80 80 wr w.heap.size (fun k => k ≠ N ∧ k ≠ M ∧ k ≠ X) v dl
  rx : Row wr X [.int .i64 p, .int .u64 q]
  wn : w.heap.size ≤ N
  wm : w.heap.size ≤ M
  wx : w.heap.size ≤ X
  nx : N ≠ X
  mx : M ≠ X
  mh : M < wr.heap.size
theorem Pk.drewN {w wr : World} {N M X : Nat} {g : Ck} {v : Value} {dl : List S80} {p q : Int} (h : Pk w wr N M X g v dl p q) (m : Nat) : Pk w (wr.drewN m) N M X g v dl p q :=
  ⟨h.c.only ((Only.refl (fun _ => False) wr).drewN m) id id, h.o.drewN m, R_only h.r ((Only.refl (fun _ => False) wr).drewN m) (fun _ _ _ => id), h.rx.drewN m, h.wn, h.wm, h.wx, h.nx, h.mx, h.mh⟩
theorem Pk.only {w wr w' : World} {N M X : Nat} {g g' : Ck} {v : Value} {dl : List S80} {p q : Int} (h : Pk w wr N M X g v dl p q) (k : Only (fun k => k = N ∨ k = M) wr w') (hc : IsClock w' N M g') : Pk w w' N M X g' v dl p q :=
  ⟨hc, Only.fresh h.o k (by rintro j (rfl | rfl); exact h.wn; exact h.wm), R_only h.r k (fun j hj _ e => by rcases e with e | e; exact hj.1 e; exact hj.2.1 e), h.rx.only k (fun e => by rcases e with e | e; exact h.nx e.symm; exact h.mx e.symm), h.wn, h.wm, h.wx, h.nx, h.mx, Nat.lt_of_lt_of_le h.mh k.size⟩
theorem Pk.new {w wr : World} {N M n late idle i : Nat} {v : Value} {dl : List S80} (h : Pi w wr N M n late idle v dl i) (hm : 0 < n) (p q : Int) : Pk w (wr.alloc (.cells #[.int .i64 p, .int .u64 q] 80)) N M wr.heap.size (runs n late idle dl) v dl p q := by
  have h1 : N < wr.heap.size := h.c.head.lt (by simp)
  have h2 : M < wr.heap.size := h.c.rows.lt (by rw [cells_length, (knows_runs n late idle dl h.good).len]; omega)
  have k := (Only.refl (fun _ => False) wr).alloc (.cells #[.int .i64 p, .int .u64 q] 80)
  refine ⟨h.c.only k id id, h.o.alloc _, R_only (Kd.R_mono (Kd.R_bound h.r) (fun j hj => ⟨hj.1.1, hj.1.2, by have := hj.2.2.1; omega⟩)) k (fun _ _ _ => id), Row.new wr _ 80, h.wn, h.wm, h.o.size, by omega, by omega, Nat.lt_of_lt_of_le h2 k.size⟩
theorem Pk.store {w wr : World} {N M X : Nat} {g : Ck} {v : Value} {dl : List S80} {p q : Int} (h : Pk w wr N M X g v dl p q) (p' : Int) : Pk w (wr.setCell ⟨X, 0, none⟩ (.int .i64 p')) N M X g v dl p' q := by
  have k := (Only.refl (fun k => k = X) wr).setCell ⟨X, 0, none⟩ (.int .i64 p') rfl
  exact ⟨h.c.only k (fun e => h.nx e) (fun e => h.mx e), Only.fresh h.o k (by rintro j rfl; exact h.wx), R_only h.r k (fun j hj _ e => hj.2.2 e), h.rx.set 0 _, h.wn, h.wm, h.wx, h.nx, h.mx, Nat.lt_of_lt_of_le h.mh k.size⟩
theorem pk_tick {w wr : World} {N M X : Nat} {g : Ck} {v : Value} {dl : List S80} {p q : Int} (h : Pk w wr N M X g v dl p q) (hw : Wf g) (hn : g.now + 1 < 4611686018427387904) :
    Calls Try.prog 38 #[.pointer (some ⟨N, 0, none⟩)] wr fun r w' => r = .returned (.int .i64 0) ∧ Pk w w' N M X (tick g) v dl p q :=
  (tick_walk N M g wr h.c hw hn).mono (by rintro r w' ⟨rfl, hc, ho⟩; exact ⟨rfl, h.only (ho.mono fun _ e => .inl e) hc⟩)
theorem pk_see {w wr : World} {N M X : Nat} {g : Ck} {v : Value} {dl : List S80} {p q : Int} (h : Pk w wr N M X g v dl p q) (hw : Wf g) (s e : Nat) (hs : s < g.l.length) (he : e ≤ 4611686018427387904) :
    Calls Try.prog 36 #[.pointer (some ⟨N, 0, none⟩), .int .i64 (s : Int), .int .u64 (e : Int)] wr fun r w' => r = .returned (.int .i64 0) ∧ Pk w w' N M X (see g s e) v dl p q :=
  (see_walk N M g s e wr h.c hw hs he).mono (by rintro r w' ⟨rfl, hc, ho⟩; exact ⟨rfl, h.only ho hc⟩)
theorem pk_idle {w wr : World} {N M X : Nat} {g : Ck} {v : Value} {dl : List S80} {p q : Int} (h : Pk w wr N M X g v dl p q) (hw : Wf g) (s : Nat) (hs : s < g.l.length) :
    Calls Try.prog 42 #[.pointer (some ⟨N, 0, none⟩), .int .i64 (s : Int)] wr fun r w' => r = .returned (.bool (rests g.idle g.now (g.l.getD s (0, 0)).2)) ∧ Pk w w' N M X g v dl p q :=
  (idle_walk N M g s wr h.c hw hs).mono (by rintro r w' ⟨rfl, ho⟩; exact ⟨rfl, h.only (ho.mono fun _ e => e.elim) (h.c.only ho id id)⟩)
theorem pk_ref {w wr : World} {N M X n late idle : Nat} {g : Ck} {A : Option Addr} {m c : Nat} {dl : List S80} {p q : Int} (h : Pk w wr N M X g (.slice A m c) dl p q) (hk : Knows n late idle dl g) (hl : dl.length < 1000) (s : Nat) (hs : s < n) :
    Calls Try.prog 43 #[.slice A m c, .int .i64 (s : Int), .int .u64 (idle : Int)] wr fun r w' => r = .returned (.bool (rests g.idle g.now (g.l.getD s (0, 0)).2)) ∧ Pk w w' N M X g (.slice A m c) dl p q := by
  obtain ⟨rfl, h1, h2⟩ := Kd.R_reads' h.r
  exact (tallyroomref13_Idle.calls 1001 A c dl s idle _ wr h2 h1 (idle_f hk (by omega) s hs 1001 (by omega))).mono (by rintro r w' ⟨rfl, m, rfl⟩; exact ⟨rfl, h.drewN m⟩)
theorem pk_global {w wr : World} {N M X n late idle : Nat} {g : Ck} {A : Option Addr} {m c : Nat} {dl : List S80} {p q : Int} (h : Pk w wr N M X g (.slice A m c) dl p q) (hg : ∀ a ∈ dl, GoodA n a) (he : g = runs n late idle dl) (hl : dl.length < 1000) (hn : n < 1000) :
    Calls Try.prog 39 #[.slice A m c, .int .i64 (n : Int), .int .u64 (late : Int), .int .u64 (idle : Int)] wr fun r w' => r = .returned (.int .u64 (g.mark : Int)) ∧ Pk w w' N M X g (.slice A m c) dl p q := by
  obtain ⟨rfl, h1, h2⟩ := Kd.R_reads' h.r
  refine (tallyroomref13_Global.calls 4000 A c dl n late idle _ wr h2 h1 (global_f n late idle dl hg (by omega) (by omega) 4000 (by omega))).mono ?_
  rintro r w' ⟨rfl, m, rfl⟩
  exact ⟨by rw [he], h.drewN m⟩
/-- The literal that is appended, and what the append leaves. -/
theorem Pk.own {w wr : World} {N M X : Nat} {g : Ck} {v : Value} {dl : List S80} {p q : Int} (h : Pk w wr N M X g v dl p q) (o : Obj) : Kd.R k80 80 (wr.alloc o) w.heap.size (fun k => k ≠ N ∧ k ≠ M ∧ k ≠ X) v dl :=
  R_only h.r ((Only.refl (fun _ => False) wr).alloc o) (fun _ _ _ => id)
theorem Pk.put {w wr w5 : World} {N M X : Nat} {g : Ck} {v v1 : Value} {dl dl' : List S80} {p q : Int} {o : Obj} (h : Pk w wr N M X g v dl p q) (hg : (wr.alloc o).grownBy w5 v.ownBlock) (hr : Kd.R k80 80 w5 w.heap.size (fun k => k ≠ N ∧ k ≠ M ∧ k ≠ X) v1 dl') : Pk w w5 N M X g v1 dl' p q := by
  have k := ((Only.refl (fun k => some k = v.ownBlock) wr).alloc o).trans (only_of_grown hg)
  have hv := Kd.R_bound h.r
  exact ⟨h.c.only k (fun e => (hv.1 _ e.symm).1.1 rfl) (fun e => (hv.1 _ e.symm).1.2.1 rfl), Only.fresh h.o k (fun j e => (hv.1 _ e.symm).2.1), hr, h.rx.only k (fun e => (hv.1 _ e.symm).1.2.2 rfl), h.wn, h.wm, h.wx, h.nx, h.mx, Nat.lt_of_lt_of_le h.mh k.size⟩
theorem Pk.done {w wr : World} {N M X n late idle i : Nat} {v : Value} {dl : List S80} {p q : Int} (h : Pk w wr N M X (runs n late idle dl) v dl p q) (hg : ∀ a ∈ dl, GoodA n a) (hl : dl.length ≤ i) : Pi w wr N M n late idle v dl i :=
  ⟨h.c, h.o, Kd.R_mono h.r (fun _ hk => ⟨hk.1, hk.2.1⟩), hg, hl, h.wn, h.wm⟩
theorem Pk.below {w wr : World} {N M X : Nat} {g : Ck} {v : Value} {dl : List S80} {p q : Int} (h : Pk w wr N M X g v dl p q) (o : Obj) : Below w.heap.size w (wr.alloc o) := (h.o.alloc o).below (fun _ e => e.elim) (Nat.le_refl _)
theorem Pk.fresh' {w wr : World} {N M X : Nat} {g : Ck} {v : Value} {dl : List S80} {p q : Int} (h : Pk w wr N M X g v dl p q) (o : Obj) {k : Nat} (hk : (wr.alloc o).heap.size ≤ k) : k ≠ N ∧ k ≠ M ∧ k ≠ X := by
  have h1 : N < wr.heap.size := h.c.head.lt (by simp)
  have h3 : X < wr.heap.size := h.rx.lt (by simp)
  have e : (wr.alloc o).heap.size = wr.heap.size + 1 := by show (wr.heap.push _).size = _; simp
  have h2 : M < wr.heap.size := h.mh
  omega
theorem K_M {W : World} {base : Nat} {okp : Nat → Prop} (x : S80) (cs : List Value) (h : k80.K W x cs) : k80.M W base okp x cs := by
  rw [k80_open h]; exact k80_mkM W base okp x
theorem C_lit (W : World) (b : Nat) (p q : Int) (hb : W.heap.size = b) : Kd.C k80 (W.alloc (.cells #[.int .i64 p, .int .u64 q] 80)) (some ⟨b, 0, none⟩) 1 [⟨p, q⟩] := hb ▸ C_of_row (Row.new W [.int .i64 p, .int .u64 q] 80)

/-- Behind an act: all that the rest of a round asks. -/
structure Pt (w wr : World) (N M X n late idle : Nat) (A : Option Addr) (m c : Nat) (i : Nat) (mk : Nat) (z p q : Int) (g : Ck) (dl : List S80) : Prop where
  k : Pk w wr N M X g (.slice A m c) dl p q
  eq : g = runs n late idle dl
  good : ∀ a ∈ dl, GoodA n a
  len : dl.length ≤ i
  mark : g.mark = mk
  now : (g.now : Int) = z
theorem Pt.of {w wr : World} {N M X n late idle i : Nat} {v : Value} {z p q : Int} {g : Ck} {dl : List S80} (h : Pk w wr N M X g v dl p q) (he : g = runs n late idle dl) (hg : ∀ a ∈ dl, GoodA n a) (hl : dl.length ≤ i) (hz : (g.now : Int) = z) :
    ∃ A m c mk, v = .slice A m c ∧ ∃ g dl, Pt w wr N M X n late idle A m c i mk z p q g dl := by
  obtain ⟨A, c, rfl⟩ := Kd.R_slice h.r
  exact ⟨A, _, c, _, rfl, g, dl, h, he, hg, hl, rfl, hz⟩
section
variable {w wr w' : World} {N M X n late idle i m c mk : Nat} {A : Option Addr} {z p q : Int} {g : Ck} {dl : List S80}
theorem Pt.with (h : Pt w wr N M X n late idle A m c i mk z p q g dl) (k : Pk w w' N M X g (.slice A m c) dl p q) : Pt w w' N M X n late idle A m c i mk z p q g dl := ⟨k, h.eq, h.good, h.len, h.mark, h.now⟩
theorem Pt.kn (h : Pt w wr N M X n late idle A m c i mk z p q g dl) : Knows n late idle dl g := h.eq ▸ knows_runs n late idle dl h.good
theorem Pt.wf (h : Pt w wr N M X n late idle A m c i mk z p q g dl) (hn : 1 ≤ n ∧ n ≤ 16) (hl : late ≤ 4611686018427387904) (hd : idle ≤ 4611686018427387904) (hi : i < 1000) : Wf g := h.eq ▸ runs_wf n late idle hn hl hd dl h.good (by have := h.len; omega)
theorem pt_global (h : Pt w wr N M X n late idle A m c i mk z p q g dl) (hi : i < 1000) (hn : n < 1000) :
    Calls Try.prog 39 #[.slice A m c, .int .i64 (n : Int), .int .u64 (late : Int), .int .u64 (idle : Int)] wr fun r w' => r = .returned (.int .u64 (mk : Int)) ∧ Pt w w' N M X n late idle A m c i mk z p q g dl :=
  (pk_global h.k h.good h.eq (by have := h.len; omega) hn).mono (by rintro r w' ⟨rfl, k⟩; exact ⟨by rw [h.mark], h.with k⟩)
theorem pt_mark (h : Pt w wr N M X n late idle A m c i mk z p q g dl) (nd : Nat) : Calls Try.prog 37 #[.pointer (some ⟨N, 0, none⟩)] (wr.drewN nd) fun r w' => r = .returned (.int .u64 (mk : Int)) ∧ w' = wr.drewN nd := by
  have := mark_walk N M g (wr.drewN nd) (h.k.drewN nd).c
  rwa [h.mark] at this
theorem pt_now (h : Pt w wr N M X n late idle A m c i mk z p q g dl) (nd : Nat) : Calls Try.prog 40 #[.pointer (some ⟨N, 0, none⟩)] (wr.drewN nd) fun r w' => r = .returned (.int .u64 z) ∧ w' = wr.drewN nd := by
  have := now_walk N M g (wr.drewN nd) (h.k.drewN nd).c
  rwa [h.now] at this
theorem pt_late (h : Pt w wr N M X n late idle A m c i mk z p q g dl) (nd e : Nat) : Calls Try.prog 41 #[.pointer (some ⟨N, 0, none⟩), .int .u64 (e : Int)] (wr.drewN nd) fun r w' => r = .returned (.bool (decide (e < mk))) ∧ w' = wr.drewN nd := by
  have := late_walk N M g (wr.drewN nd) e (h.k.drewN nd).c
  rwa [h.mark] at this
theorem Pt.drewN (h : Pt w wr N M X n late idle A m c i mk z p q g dl) (nd : Nat) : Pt w (wr.drewN nd) N M X n late idle A m c i mk z p q g dl := h.with (h.k.drewN nd)
theorem pt_out (h : Pt w wr N M X n late idle A m c i mk z p q g dl) (s : Int) (hs : s < 0 ∨ (n : Int) ≤ s) : Calls Try.prog 42 #[.pointer (some ⟨N, 0, none⟩), .int .i64 s] wr fun r w' => r = .returned (.bool false) ∧ w' = wr :=
  idle_out N M g s wr h.k.c (by rw [h.kn.len]; exact hs)
theorem pt_idle (h : Pt w wr N M X n late idle A m c i mk z p q g dl) (hw : Wf g) (s : Nat) (hs : s < n) (b : Bool) (hb : rests g.idle g.now (g.l.getD s (0, 0)).2 = b) :
    Calls Try.prog 42 #[.pointer (some ⟨N, 0, none⟩), .int .i64 (s : Int)] wr fun r w' => r = .returned (.bool b) ∧ Pt w w' N M X n late idle A m c i mk z p q g dl :=
  (pk_idle h.k hw s (by rw [h.kn.len]; exact hs)).mono (by rintro r w' ⟨rfl, k⟩; exact ⟨by rw [hb], h.with k⟩)
theorem pt_ref (h : Pt w wr N M X n late idle A m c i mk z p q g dl) (hi : i < 1000) (s : Nat) (hs : s < n) (b : Bool) (hb : rests g.idle g.now (g.l.getD s (0, 0)).2 = b) :
    Calls Try.prog 43 #[.slice A m c, .int .i64 (s : Int), .int .u64 (idle : Int)] wr fun r w' => r = .returned (.bool b) ∧ Pt w w' N M X n late idle A m c i mk z p q g dl :=
  (pk_ref h.k h.kn (by have := h.len; omega) s hs).mono (by rintro r w' ⟨rfl, k⟩; exact ⟨by rw [hb], h.with k⟩)
theorem Pt.done (h : Pt w wr N M X n late idle A m c i mk z p q g dl) : Pi w wr N M n late idle (.slice A m c) dl i := (h.eq ▸ h.k : Pk w wr N M X (runs n late idle dl) (.slice A m c) dl p q).done h.good h.len
end

set_option maxHeartbeats 8000000 in
set_option maxRecDepth 1000000 in
theorem plays_law (n late idle : Nat) (A0 : Option Addr) (c0 n0 : Nat) (P Q : Nat → Int) (w : World) (hn : 1 ≤ n ∧ n ≤ 16) (hl : late ≤ 4611686018427387904) (hd : idle ≤ 4611686018427387904) (h40 : n0 ≤ 40) (hr0 : Acts w A0 n0 P Q) (hq0 : ∀ i, i < n0 → 0 ≤ Q i ∧ Q i < 18446744073709551616) :
    Calls Try.prog 11 #[.int .i64 (n : Int), .int .u64 (late : Int), .int .u64 (idle : Int), .slice A0 n0 c0] w fun r w' => r = .returned (.bool true) ∧ Below w.heap.size w w' := by
  have HR0 := Aside0.mk hr0
  have HQ0 := Aside0.mk hq0
  clear hr0 hq0
  have h1 : ¬ (n0 : Int) > 40 := by omega
  have h2 : ¬ (n : Int) < 1 := by omega
  have h3 : ¬ (n : Int) > 16 := by omega
  have h4 : ¬ (late : Int) > 4611686018427387904 := by omega
  have h5 : ¬ (idle : Int) > 4611686018427387904 := by omega
  go_enter Try.func11, Try.ntmps11
  go_wp2_with (first
    | (go_at_call 34; refine (alive_walk _).mono ?_; rintro r w1 ⟨rfl, ho⟩)
    | (go_at_call 35; refine (new_walk n late idle _ hn hl hd).mono ?_))
  rintro r w2 ⟨N, M, rfl, hN, hM, hN1, hM1, hg, ho2⟩
  have hsz := ho.size
  have G := Aside0.mk (show Pi w w2 N M n late idle (.slice none 0 0) [] 0 from ⟨hg, ho.trans ho2, Kd.R_nil _ _ _ _ _, by simp, by simp, by omega, by omega⟩)
  clear hg ho ho2 hN hM hN1 hM1 hsz
  go_wp2
  go_loopg [11, 12, 13] (n0 + 1) (fun kq v11 v12 v13 wr => ∃ (i tk : Nat) (dl : List S80), v12 = .int .u64 (tk : Int) ∧ tk ≤ 1000 ∧ Aside0 ((runs n late idle dl).now = tk) ∧ v13 = .int .i64 (i : Int) ∧ i ≤ n0 ∧ n0 - i < kq ∧ Aside0 (Pi w wr N M n late idle v11 dl i))
  case atStart => exact ⟨0, 0, [], rfl, by omega, ⟨rfl⟩, rfl, by omega, by omega, G⟩
  case round =>
    clear G
    obtain ⟨i, tk, dl, rfl, htk, htn, rfl, hi, hk, HG⟩ := hrel
    obtain ⟨k1, rfl⟩ : ∃ m, gk = m + 1 := ⟨gk - 1, by omega⟩
    have hbw := Aside0.mk (HG.out.o.below (fun _ h => h.elim) (Nat.le_refl _))
    have hwf := Aside0.mk (runs_wf n late idle hn hl hd dl HG.out.good (by have := HG.out.len; omega))
    have hkn := Aside0.mk (knows_runs n late idle dl HG.out.good)
    by_cases hil : i < n0
    · have hil' : (i : Int) < (n0 : Int) := by omega
      have hi0 : (0 : Int) ≤ (i : Int) := by omega
      obtain ⟨ad, eA, hx0, hx1⟩ := HR0.out _ hbw.out i hil
      cases eA
      have hp1 := HQ0.out i hil
      generalize P i = p0 at hx0
      generalize Q i = p1 at hx1 hp1
      obtain ⟨X, hX⟩ : ∃ X, wr.heap.size = X := ⟨_, rfl⟩
      obtain ⟨e, he⟩ : ∃ e : Nat, p1 = (e : Int) := ⟨p1.toNat, by omega⟩
      subst he
      have HK := Aside0.mk (Pk.new HG.out (by omega) p0 (e : Int))
      rw [hX] at HK
      have htk2 := Aside0.mk (show tk ≤ i by have := hkn.out.now; have := HG.out.len; have := htn.out; omega)
      by_cases hneg : p0 < 0
      · have hga := Aside0.mk (show GoodA n ⟨-1, (e : Int)⟩ from .inl ⟨rfl, hp1.1, hp1.2⟩)
        have hact := Aside0.mk (show tick (runs n late idle dl) = runs n late idle (dl ++ [⟨-1, (e : Int)⟩]) by rw [runs_snoc]; rfl)
        have hnw := Aside0.mk (show ((tick (runs n late idle dl)).now : Int) = (tk : Int) + 1 by have e1 := (move_same (ticked (runs n late idle dl))).2.2.2; have e2 : (ticked (runs n late idle dl)).now = (runs n late idle dl).now + 1 := rfl; have := htn.out; unfold tick; omega)
        go_wp2_with (first
          | (go_at_call 38; refine (pk_tick HK.out hwf.out (by have := hkn.out.now; have := HG.out.len; omega)).mono ?_; rintro r w3 ⟨rfl, H3⟩; have f0 := H3.rx 0 _ rfl; have f0a := f0.1; have f0b := f0.2; have f1a := (H3.rx 1 _ rfl).1; clear f0; replace H3 := Aside0.mk (H3.store (-1)); clear HK)
          | ((with_reducible refine gate_builtin (b := .append) (xs := #[.tmp 69, .tmp 71]) rfl ?_); at_builtin; refine Kd.R_append_rows k80 (w0 := w) w.heap.size rfl (.tmp 69) (.tmp 71) 75 80 (.agg #[(.int .i64 0), (.int .u64 0)]) 16 rfl Try.underlying75 info80 rfl (by decide) (by omega) u11 dl [⟨-1, (e : Int)⟩] _ _ _ (fun k => k ≠ N ∧ k ≠ M ∧ k ≠ X) (fun _ => False) rfl rfl (H3.out.own _) (C_lit (w3.setCell ⟨X, 0, none⟩ (.int .i64 (-1))) w3.heap.size (-1) (e : Int) (by simp [World.setCell])) K_M (fun _ h => h.elim) (fun k hk => H3.out.fresh' _ hk) (H3.out.below _) (below_size (H3.out.below _)) (by have := HG.out.len; omega) ?_; intro v1 w5 hr hb hg hat; obtain ⟨A1, m1, c1, mk, rfl, g1, dl1, H5⟩ := Pt.of (i := i + 1) (H3.out.put hg hr) hact.out (by intro a ha; rcases List.mem_append.1 ha with ha | ha; exact HG.out.good a ha; rw [List.mem_singleton.1 ha]; exact hga.out) (by have := HG.out.len; simp; omega) hnw.out; have x1 := (H5.k.rx 1 _ rfl).1; replace H5 := Aside0.mk H5; clear hr hb hg hat H3 f0a f0b f1a)
          | (go_at_call 39; refine (pt_global H5.out (by omega) (by omega)).mono ?_; rintro r w6 ⟨rfl, H6⟩; have x1 := (H6.k.rx 1 _ rfl).1; replace H6 := Aside0.mk H6; clear H5))
        go_quiet (first | (go_at_call 37; exact Calls.quiet_of_same (pt_mark H6.out _)) | (go_at_call 40; exact Calls.quiet_of_same (pt_now H6.out _)) | (go_at_call 41; exact Calls.quiet_of_same (pt_late H6.out _ _)))
        go_wp2
        go_loopg [17] (n + 3) (fun kq v17 wq => ∃ (s : Int), v17 = .int .i64 s ∧ -1 ≤ s ∧ s ≤ (n : Int) + 1 ∧ (n : Int) + 1 - s < kq ∧ Aside0 (Pt w wq N M X n late idle A1 m1 c1 (i + 1) mk ((tk : Int) + 1) (-1) (e : Int) g1 dl1))
        case atStart => exact ⟨-1, rfl, by omega, by omega, by omega, ⟨H6.out.drewN _⟩⟩
        case round =>
          obtain ⟨s, rfl, hs0, hs1, hk2, HT⟩ := hrel
          obtain ⟨k2, rfl⟩ : ∃ z, gk = z + 1 := ⟨gk - 1, by omega⟩
          clear H6
          by_cases hsn : s ≤ (n : Int)
          · by_cases hs2 : 0 ≤ s
            · by_cases hs3 : s < (n : Int)
              · obtain ⟨t, rfl⟩ : ∃ t : Nat, s = (t : Int) := ⟨s.toNat, by omega⟩
                have htn2 : t < n := by omega
                obtain ⟨b, hb⟩ : ∃ b, rests g1.idle g1.now (g1.l.getD t (0, 0)).2 = b := ⟨_, rfl⟩
                replace hb := Aside0.mk hb
                have hwf2 := Aside0.mk (HT.out.wf hn hl hd (by omega))
                go_wp2_with (first
                  | (go_at_call 42; refine (pt_idle HT.out hwf2.out t htn2 b hb.out).mono ?_; rintro r w7 ⟨rfl, H7⟩; replace H7 := Aside0.mk H7; clear HT)
                  | (go_at_call 43; refine (pt_ref H7.out (by omega) t htn2 b hb.out).mono ?_; rintro r w8 ⟨rfl, H8⟩; replace H8 := Aside0.mk H8; clear H7))
                go_roundg k2
                case measure => omega
                case rel => exact ⟨(t : Int) + 1, rfl, by omega, by omega, by omega, H8⟩
              · go_wp2_with (go_at_call 42; refine (pt_out HT.out s (.inr (by omega))).mono ?_; rintro r w7 ⟨rfl, rfl⟩)
                go_roundg k2
                case measure => omega
                case rel => exact ⟨s + 1, rfl, by omega, by omega, by omega, HT⟩
            · go_wp2_with (go_at_call 42; refine (pt_out HT.out s (.inl (by omega))).mono ?_; rintro r w7 ⟨rfl, rfl⟩)
              go_roundg k2
              case measure => omega
              case rel => exact ⟨s + 1, rfl, by omega, by omega, by omega, HT⟩
          · go_wp2
            go_roundg k1
            case measure => omega
            case rel => exact ⟨i + 1, tk + 1, dl1, rfl, by have := htk2.out; omega, ⟨by have := HT.out.now; have := HT.out.eq; subst this; omega⟩, rfl, by omega, by omega, ⟨HT.out.done⟩⟩
      · obtain ⟨s, hs⟩ : ∃ s : Nat, p0 = (s : Int) := ⟨p0.toNat, by omega⟩
        subst hs
        clear hneg
        have x0 := (HK.out.rx 0 _ rfl).1
        have x1 := (HK.out.rx 1 _ rfl).1
        by_cases hsn : s < n
        · have hsI : ¬ (n : Int) ≤ (s : Int) := by omega
          by_cases hee : e ≤ 4611686018427387904
          · have heI : ¬ (4611686018427387904 : Int) < (e : Int) := by omega
            have hga := Aside0.mk (show GoodA n ⟨(s : Int), (e : Int)⟩ from .inr ⟨by simp only; omega, by simp only; omega, by simp only; omega, by simp only; omega⟩)
            have hact := Aside0.mk (show see (runs n late idle dl) s e = runs n late idle (dl ++ [⟨(s : Int), (e : Int)⟩]) by rw [runs_snoc]; show Wm.move (saw _ s e) = Wm.move (pre _ _); unfold pre; rw [if_neg (by simp only; omega)]; rfl)
            have hnw := Aside0.mk (show ((see (runs n late idle dl) s e).now : Int) = (tk : Int) by have e1 := (move_same (saw (runs n late idle dl) s e)).2.2.2; have e2 : (saw (runs n late idle dl) s e).now = (runs n late idle dl).now := rfl; have := htn.out; unfold see; omega)
            go_wp2_with (first
              | (go_at_call 36; refine (pk_see HK.out hwf.out s e (by rw [hkn.out.len]; exact hsn) hee).mono ?_; rintro r w3 ⟨rfl, H3⟩; have x0 := (H3.rx 0 _ rfl).1; have x1 := (H3.rx 1 _ rfl).1; replace H3 := Aside0.mk H3; clear HK)
              | ((with_reducible refine gate_builtin (b := .append) (xs := #[.tmp 94, .tmp 96]) rfl ?_); at_builtin; refine Kd.R_append_rows k80 (w0 := w) w.heap.size rfl (.tmp 94) (.tmp 96) 75 80 (.agg #[(.int .i64 0), (.int .u64 0)]) 16 rfl Try.underlying75 info80 rfl (by decide) (by omega) u11 dl [⟨(s : Int), (e : Int)⟩] _ _ _ (fun k => k ≠ N ∧ k ≠ M ∧ k ≠ X) (fun _ => False) rfl rfl (H3.out.own _) (C_lit w3 w3.heap.size (s : Int) (e : Int) rfl) K_M (fun _ h => h.elim) (fun k hk => H3.out.fresh' _ hk) (H3.out.below _) (below_size (H3.out.below _)) (by have := HG.out.len; omega) ?_; intro v1 w5 hr hb hg hat; obtain ⟨A1, m1, c1, mk, rfl, g1, dl1, H5⟩ := Pt.of (i := i + 1) (H3.out.put hg hr) hact.out (by intro a ha; rcases List.mem_append.1 ha with ha | ha; exact HG.out.good a ha; rw [List.mem_singleton.1 ha]; exact hga.out) (by have := HG.out.len; simp; omega) hnw.out; have x1 := (H5.k.rx 1 _ rfl).1; replace H5 := Aside0.mk H5; clear hr hb hg hat H3 x0)
              | (go_at_call 39; refine (pt_global H5.out (by omega) (by omega)).mono ?_; rintro r w6 ⟨rfl, H6⟩; have x1 := (H6.k.rx 1 _ rfl).1; replace H6 := Aside0.mk H6; clear H5))
            go_quiet (first | (go_at_call 37; exact Calls.quiet_of_same (pt_mark H6.out _)) | (go_at_call 40; exact Calls.quiet_of_same (pt_now H6.out _)) | (go_at_call 41; exact Calls.quiet_of_same (pt_late H6.out _ _)))
            go_wp2
            go_loopg [17] (n + 3) (fun kq v17 wq => ∃ (y : Int), v17 = .int .i64 y ∧ -1 ≤ y ∧ y ≤ (n : Int) + 1 ∧ (n : Int) + 1 - y < kq ∧ Aside0 (Pt w wq N M X n late idle A1 m1 c1 (i + 1) mk (tk : Int) (s : Int) (e : Int) g1 dl1))
            case atStart => exact ⟨-1, rfl, by omega, by omega, by omega, ⟨H6.out.drewN _⟩⟩
            case round =>
              obtain ⟨y, rfl, hs0, hs1, hk2, HT⟩ := hrel
              obtain ⟨k2, rfl⟩ : ∃ z, gk = z + 1 := ⟨gk - 1, by omega⟩
              clear H6
              by_cases hyn : y ≤ (n : Int)
              · by_cases hs2 : 0 ≤ y
                · by_cases hs3 : y < (n : Int)
                  · obtain ⟨t, rfl⟩ : ∃ t : Nat, y = (t : Int) := ⟨y.toNat, by omega⟩
                    have htn2 : t < n := by omega
                    obtain ⟨b, hb⟩ : ∃ b, rests g1.idle g1.now (g1.l.getD t (0, 0)).2 = b := ⟨_, rfl⟩
                    replace hb := Aside0.mk hb
                    have hwf2 := Aside0.mk (HT.out.wf hn hl hd (by omega))
                    go_wp2_with (first
                      | (go_at_call 42; refine (pt_idle HT.out hwf2.out t htn2 b hb.out).mono ?_; rintro r w7 ⟨rfl, H7⟩; replace H7 := Aside0.mk H7; clear HT)
                      | (go_at_call 43; refine (pt_ref H7.out (by omega) t htn2 b hb.out).mono ?_; rintro r w8 ⟨rfl, H8⟩; replace H8 := Aside0.mk H8; clear H7))
                    go_roundg k2
                    case measure => omega
                    case rel => exact ⟨(t : Int) + 1, rfl, by omega, by omega, by omega, H8⟩
                  · go_wp2_with (go_at_call 42; refine (pt_out HT.out y (.inr (by omega))).mono ?_; rintro r w7 ⟨rfl, rfl⟩)
                    go_roundg k2
                    case measure => omega
                    case rel => exact ⟨y + 1, rfl, by omega, by omega, by omega, HT⟩
                · go_wp2_with (go_at_call 42; refine (pt_out HT.out y (.inl (by omega))).mono ?_; rintro r w7 ⟨rfl, rfl⟩)
                  go_roundg k2
                  case measure => omega
                  case rel => exact ⟨y + 1, rfl, by omega, by omega, by omega, HT⟩
              · go_wp2
                go_roundg k1
                case measure => omega
                case rel => exact ⟨i + 1, tk, dl1, rfl, by have := htk2.out; omega, ⟨by have := HT.out.now; have := HT.out.eq; subst this; omega⟩, rfl, by omega, by omega, ⟨HT.out.done⟩⟩
          · have heI : (4611686018427387904 : Int) < (e : Int) := by omega
            go_wp2_with (go_at_call 36; refine (see_bad N M _ (s : Int) (e : Int) _ HK.out.c (.inr (.inr heI))).mono ?_; rintro r w3 ⟨rfl, rfl⟩)
            go_roundg k1
            case measure => omega
            case rel => exact ⟨i + 1, tk, dl, rfl, by omega, htn, rfl, by omega, by omega, ⟨HK.out.done HG.out.good (by have := HG.out.len; omega)⟩⟩
        · have hsI : (n : Int) ≤ (s : Int) := by omega
          go_wp2_with (go_at_call 36; refine (see_bad N M _ (s : Int) (e : Int) _ HK.out.c (.inr (.inl (by rw [hkn.out.len]; omega)))).mono ?_; rintro r w3 ⟨rfl, rfl⟩)
          go_roundg k1
          case measure => omega
          case rel => exact ⟨i + 1, tk, dl, rfl, by omega, htn, rfl, by omega, by omega, ⟨HK.out.done HG.out.good (by have := HG.out.len; omega)⟩⟩
    · go_wp2
      go_ret
      exact ⟨rfl, hbw.out⟩

theorem plays_far (n late idle : Int) (A0 : Option Addr) (c0 n0 : Nat) (w : World) (h40 : 40 < n0) :
    Calls Try.prog 11 #[.int .i64 n, .int .u64 late, .int .u64 idle, .slice A0 n0 c0] w fun r w' => r = .returned (.bool true) ∧ Below w.heap.size w w' := by
  have h1 : (n0 : Int) > 40 := by omega
  go_enter Try.func11, Try.ntmps11
  go_wp2_with (go_at_call 34; refine (alive_walk _).mono ?_; rintro r w1 ⟨rfl, ho⟩)
  go_ret
  exact ⟨rfl, ho.below (fun _ h => h.elim) (Nat.le_refl _)⟩
theorem plays_bad (n late idle : Int) (A0 : Option Addr) (c0 n0 : Nat) (w : World) (h40 : n0 ≤ 40) (hb : n < 1 ∨ 16 < n ∨ 4611686018427387904 < late ∨ 4611686018427387904 < idle) :
    Calls Try.prog 11 #[.int .i64 n, .int .u64 late, .int .u64 idle, .slice A0 n0 c0] w fun r w' => r = .returned (.bool true) ∧ Below w.heap.size w w' := by
  have h1 : ¬ (n0 : Int) > 40 := by omega
  have HB := Aside0.mk hb
  go_enter Try.func11, Try.ntmps11
  by_cases b1 : n < 1
  · clear hb
    go_wp2_with (first
      | (go_at_call 34; refine (alive_walk _).mono ?_; rintro r w1 ⟨rfl, ho⟩)
      | (go_at_call 35; refine (new_bad n late idle _ HB.out).mono ?_; rintro r w2 ⟨rfl, rfl⟩))
    go_ret
    exact ⟨rfl, ho.below (fun _ h => h.elim) (Nat.le_refl _)⟩
  · by_cases b2 : n > 16
    · clear hb
      go_wp2_with (first
        | (go_at_call 34; refine (alive_walk _).mono ?_; rintro r w1 ⟨rfl, ho⟩)
        | (go_at_call 35; refine (new_bad n late idle _ HB.out).mono ?_; rintro r w2 ⟨rfl, rfl⟩))
      go_ret
      exact ⟨rfl, ho.below (fun _ h => h.elim) (Nat.le_refl _)⟩
    · by_cases b3 : late > 4611686018427387904
      · clear hb
        go_wp2_with (first
          | (go_at_call 34; refine (alive_walk _).mono ?_; rintro r w1 ⟨rfl, ho⟩)
          | (go_at_call 35; refine (new_bad n late idle _ HB.out).mono ?_; rintro r w2 ⟨rfl, rfl⟩))
        go_ret
        exact ⟨rfl, ho.below (fun _ h => h.elim) (Nat.le_refl _)⟩
      · have b4 : idle > 4611686018427387904 := by omega
        clear hb
        go_wp2_with (first
          | (go_at_call 34; refine (alive_walk _).mono ?_; rintro r w1 ⟨rfl, ho⟩)
          | (go_at_call 35; refine (new_bad n late idle _ HB.out).mono ?_; rintro r w2 ⟨rfl, rfl⟩))
        go_ret
        exact ⟨rfl, ho.below (fun _ h => h.elim) (Nat.le_refl _)⟩
end Go.Proofs.Ytgpkihnihmbomaa.Wm
