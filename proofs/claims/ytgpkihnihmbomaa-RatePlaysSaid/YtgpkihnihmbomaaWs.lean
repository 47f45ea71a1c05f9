/- What stands between two rounds of WmarkRises: plain laws. No conditions. -/
import Derived.Test.YtgpkihnihmbomaaWq
namespace Go.Proofs.Ytgpkihnihmbomaa.Wm
open Go.RowKit Go.Proofs.YtgpkihnihmbomaaW.PrintWords Go.Proofs.YtgpkihnihmbomaaW.PrintLast
open Go.Proofs.Ytgpkihnihmbomaa.Ob

theorem info22 : (Try.prog.info? 22).map (fun i => (i.zero, i.size, i.bytes)) = some (some (.int .u64 0), 1, 8) := by kernel_rfl
theorem made_zero22 (n : Nat) : madeCells #[.int .u64 0] (n * 1) = (List.replicate n (Value.int .u64 0)).toArray := by
  apply Array.ext
  · rw [size_madeCells]; simp
  · intro i h1 h2
    simp [madeCells, Nat.mod_one]
theorem make_u64 (n : Nat) (w : World) (hn : n ≤ 1000) : Sem.run Try.prog (Instr.makeSlice 66 (.int .i64 (n : Int)) (.int .i64 (n : Int))) w = .ok (.slice (some ⟨w.heap.size, 0, none⟩) n n) (w.alloc (.cells (List.replicate n (Value.int .u64 0)).toArray 22)) := by
  obtain ⟨i, hi, hz, hs, hb⟩ : ∃ i, Try.prog.info? 22 = some i ∧ i.zero = some (.int .u64 0) ∧ i.size = 1 ∧ i.bytes = 8 := by
    have h := info22
    cases e : Try.prog.info? 22 with
    | none => rw [e] at h; cases h
    | some i =>
      rw [e] at h
      simp only [Option.map_some, Option.some.injEq, Prod.mk.injEq] at h
      exact ⟨i, rfl, h.1, h.2.1, h.2.2⟩
  have := run_make (P := Try.prog) w 66 22 i _ Try.underlying66 hi hz .i64 .i64 (n : Int) (n : Int) (by omega) (Int.le_refl _) (by rw [hb]; omega) (by omega)
  rw [Int.toNat_natCast, hs, show (Value.int .u64 0).cells = #[.int .u64 0] from rfl, made_zero22] at this
  exact this
/-- The endsOf, as cells. -/
def ecells (g : Ck) : List Value := (endsOf g).map fun e : Nat => Value.int .u64 (e : Int)
theorem ecells_at (g : Ck) (s : Nat) (hs : s < g.l.length) : (ecells g)[s]? = some (.int .u64 (((endsOf g).getD s 0 : Nat) : Int)) := by
  have h : s < (endsOf g).length := by simpa [endsOf] using hs
  unfold ecells
  rw [List.getElem?_map, List.getD_eq_getElem?_getD, List.getElem?_eq_getElem h]; rfl
theorem ecells_new (n l d : Nat) : ecells ⟨List.replicate n (0, 0), l, d, 0, 0⟩ = List.replicate n (Value.int .u64 0) := by simp [ecells, endsOf]
theorem ecells_see (g : Ck) (s e : Nat) : ecells (see g s e) = (ecells g).set s (.int .u64 ((max ((endsOf g).getD s 0) e : Nat) : Int)) := by
  have e2 : endsOf (see g s e) = endsOf (saw g s e) := by show endsOf (Wm.move (saw g s e)) = _; unfold endsOf; rw [(move_l (saw g s e)).1]
  unfold ecells
  rw [e2, endsOf_saw, List.map_set]
theorem ecells_tick (g : Ck) : ecells (tick g) = ecells g := by
  have e2 : endsOf (tick g) = endsOf g := by show endsOf (Wm.move (ticked g)) = _; unfold endsOf; rw [(move_l (ticked g)).1]; rfl
  unfold ecells; rw [e2]
theorem _root_.Go.Proofs.Ytgpkihnihmbomaa.Ob.Only.setCell_new {w a : World} (h : Only (fun _ => False) w a) (p : Addr) (v : Value) (hp : w.heap.size ≤ p.block) : Only (fun _ => False) w (a.setCell p v) :=
  Only.fresh h ((Only.refl (fun k => k = p.block) a).setCell p v rfl) (by rintro j rfl; exact hp)
/-- What stands between two rounds. -/
structure Ri (w wr : World) (N M K n lt d i : Nat) (g : Ck) : Prop where
  c : IsClock wr N M g
  r : Row wr K (ecells g)
  o : Only (fun _ => False) w wr
  wf : Wf g
  ev : Even g
  n : g.l.length = n
  late : g.late = lt
  idle : g.idle = d
  now : g.now ≤ i
  kn : K ≠ N
  km : K ≠ M
  wn : w.heap.size ≤ N
  wm : w.heap.size ≤ M
  wk : w.heap.size ≤ K
theorem ri_see {w wr w3 : World} {N M K n lt d i : Nat} {g : Ck} (h : Ri w wr N M K n lt d i g) (s e : Nat) (hs : s < n) (he : e ≤ 4611686018427387904) (hg : IsClock w3 N M (see g s e)) (ho : Only (fun k => k = N ∨ k = M) wr w3) :
    (w3.cell? ⟨K, s, none⟩ = some (.int .u64 (((endsOf g).getD s 0 : Nat) : Int)) ∧ w3.frozen? ⟨K, s, none⟩ = false) ∧
    Ri w (w3.setCell ⟨K, s, none⟩ (.int .u64 ((max ((endsOf g).getD s 0) e : Nat) : Int))) N M K n lt d (i + 1) (see g s e) ∧
    ¬ (see g s e).mark < g.mark ∧ (d = 0 → e ≤ (endsOf g).getD s 0 → (see g s e).mark = g.mark) := by
  have hsn : s < g.l.length := by rw [h.n]; exact hs
  have R := h.r.only ho (by rintro (e | e); exact h.kn e; exact h.km e)
  have hm := move_l (saw g s e)
  refine ⟨R _ _ (ecells_at g s hsn), ⟨?_, ?_, (Only.fresh h.o ho (by rintro j (rfl | rfl); exact h.wn; exact h.wm)).setCell_new _ _ h.wk, move_wf (saw_wf h.wf s e he), see_even h.wf.some h.ev s e, ?_, hm.2.1.trans h.late, hm.2.2.1.trans h.idle, ?_, h.kn, h.km, h.wn, h.wm, h.wk⟩, ?_, fun h0 hle => see_same h.wf.some h.ev s e hsn (h.idle.trans h0) hle⟩
  · exact ⟨hg.ne, hg.head.far _ _ h.kn, hg.rows.far _ _ h.km⟩
  · rw [ecells_see]; exact R.set s _
  · have e1 : (see g s e).l = (saw g s e).l := hm.1
    rw [e1]
    simpa [saw] using h.n
  · have e1 : (see g s e).now = (saw g s e).now := hm.2.2.2.1
    have e2 : (saw g s e).now = g.now := rfl
    have := h.now
    omega
  · have e1 : g.mark ≤ (see g s e).mark := hm.2.2.2.2
    omega
theorem lo_next {m h q s : Nat} {L : List Nat} (hl : IsLo m (h :: L.take s)) (hs : s < L.length) (hq : L.getD s 0 = q) : IsLo (min m q) (h :: L.take (s + 1)) := by
  have hq' : L[s] = q := by rw [← hq, List.getD_eq_getElem?_getD, List.getElem?_eq_getElem hs]; rfl
  rw [List.take_succ_eq_append_getElem hs, hq']
  refine ⟨fun x hx => ?_, ?_⟩
  · rw [← List.cons_append] at hx
    rcases List.mem_append.1 hx with hx | hx
    · have := hl.1 x hx; omega
    · have := List.mem_singleton.1 hx; omega
  · rw [← List.cons_append]
    by_cases hmq : m ≤ q
    · rw [show min m q = m by omega]; exact List.mem_append_left _ hl.2
    · rw [show min m q = q by omega]; exact List.mem_append_right _ (by simp)
theorem lo_end {m n : Nat} {L : List Nat} (hn : L.length = n) (h1 : 1 ≤ n) (hl : IsLo m (L.getD 0 0 :: L.take n)) : IsLo m L := by
  rw [← hn, List.take_length] at hl
  have h0 : L.getD 0 0 ∈ L := by
    rw [List.getD_eq_getElem?_getD, List.getElem?_eq_getElem (by omega)]
    exact List.getElem_mem _
  refine ⟨fun x hx => hl.1 x (by simp [hx]), ?_⟩
  rcases List.mem_cons.1 hl.2 with h | h
  · rw [h]; exact h0
  · exact h
/-- The acts, as they stand in memory, whatever was made since. -/
def Acts (w : World) (A0 : Option Addr) (n0 : Nat) (P Q : Nat → Int) : Prop := ∀ W, Below w.heap.size w W → ∀ i, i < n0 → ∃ ad, A0 = some ad ∧ W.cell? (ad.add (i * 2)) = some (.int .i64 (P i)) ∧ W.cell? ⟨(ad.add (i * 2)).block, (ad.add (i * 2)).off + 1, none⟩ = some (.int .u64 (Q i))

set_option maxHeartbeats 8000000 in
set_option maxRecDepth 1000000 in
theorem rises_law (x lt d : Nat) (A0 : Option Addr) (c0 : Nat) (n0 : Nat) (P Q : Nat → Int) (w : World) (hx : x ≤ 255) (hlt : lt ≤ 65535) (hd : d ≤ 255) (hr0 : Acts w A0 n0 P Q) (hl0 : ∀ i, i < n0 → 0 ≤ Q i) :
    Calls Try.prog 10 #[.int .u8 (x : Int), .int .u16 (lt : Int), .int .u8 (d : Int), .slice A0 n0 c0] w fun r w' => r = .returned (.bool true) ∧ Below w.heap.size w w' := by
  have HR0 := Aside0.mk hr0
  clear hr0
  have HL0 := Aside0.mk hl0
  clear hl0
  by_cases h100 : (n0 : Int) > 100
  · go_enter Try.func10, Try.ntmps10
    go_wp2_with (go_at_call 34; refine (alive_walk _).mono ?_; rintro r w1 ⟨rfl, ho⟩)
    go_ret
    exact ⟨rfl, ho.below (fun _ h => h.elim) (Nat.le_refl _)⟩
  · obtain ⟨n, hnx, hn1, hn2⟩ : ∃ n : Nat, 1 + (x : Int) % 16 = (n : Int) ∧ 1 ≤ n ∧ n ≤ 16 := ⟨1 + x % 16, by omega, by omega, by omega⟩
    have km := fun W => make_u64 n W (by omega)
    go_enter Try.func10, Try.ntmps10
    go_wp2_with (first
      | (go_at_call 34; refine (alive_walk _).mono ?_; rintro r w1 ⟨rfl, ho⟩)
      | (go_at_call 35; refine (new_walk n lt d _ ⟨hn1, hn2⟩ (by omega) (by omega)).mono ?_))
    rintro r w2 ⟨N, M, rfl, hN, hM, hN1, hM1, hg, ho2⟩
    have hsz := ho.size
    have hsz2 := ho2.size
    have G : Ri w (w2.alloc (.cells (List.replicate n (Value.int .u64 0)).toArray 22)) N M w2.heap.size n lt d 0 ⟨List.replicate n (0, 0), lt, d, 0, 0⟩ := by
      have R := Row.new w2 (List.replicate n (Value.int .u64 0)) 22
      rw [← ecells_new n lt d] at R
      refine ⟨⟨hg.ne, hg.head.alloc _, hg.rows.alloc _⟩, ?_, (ho.trans ho2).alloc _, wf_new n lt d ⟨hn1, hn2⟩ (by omega) (by omega), fun _ => ?_, by simp, rfl, rfl, Nat.le_refl _, by omega, by omega, by omega, by omega, by omega⟩
      · rw [ecells_new] at R ⊢; exact R
      · have e : (endsOf ⟨List.replicate n (0, 0), lt, d, 0, 0⟩).map (less lt) = List.replicate n 0 := by simp [endsOf, less]
        show IsLo 0 _
        rw [e]
        exact ⟨fun x hx => Nat.zero_le _, by simp; omega⟩
    have G' := Aside0.mk G
    generalize hC : (List.replicate n (Value.int .u64 0)).toArray = C at km G'
    clear hg ho ho2 hN hM hN1 hM1 hsz hsz2 G hC
    obtain ⟨K, hK⟩ : ∃ K, w2.heap.size = K := ⟨_, rfl⟩
    go_wp2
    rw [hK] at G'
    go_loopg [13, 14] (n0 + 1) (fun kq v13 v14 wr => ∃ (i : Nat) (g : Ck), v13 = .int .u64 (g.mark : Int) ∧ v14 = .int .i64 (i : Int) ∧ i ≤ n0 ∧ n0 - i < kq ∧ Aside0 (Ri w wr N M K n lt d i g))
    case atStart => exact ⟨0, _, rfl, rfl, by omega, by omega, G'⟩
    case round =>
      clear G' km
      obtain ⟨i, g, rfl, rfl, hi, hk, HG⟩ := hrel
      obtain ⟨k1, rfl⟩ : ∃ m, gk = m + 1 := ⟨gk - 1, by omega⟩
      have hbw := Aside0.mk (HG.out.o.below (fun _ h => h.elim) (Nat.le_refl _))
      by_cases hil : i < n0
      · have hil' : (i : Int) < (n0 : Int) := by omega
        have hi0 : (0 : Int) ≤ (i : Int) := by omega
        obtain ⟨ad, eA, hx0, hx1⟩ := HR0.out _ hbw.out i hil
        cases eA
        have hp1 := HL0.out i hil
        generalize P i = p0 at hx0
        generalize Q i = p1 at hx1 hp1
        by_cases hneg : p0 < 0
        · go_wp2_with (first
            | (go_at_call 38; refine (tick_walk N M g _ HG.out.c HG.out.wf (by have := HG.out.now; omega)).mono ?_))
          rintro r w3 ⟨rfl, hg3, ho3⟩
          have hmk : ¬ (tick g).mark < g.mark := by have := (move_l (ticked g)).2.2.2.2; show ¬ (Wm.move (ticked g)).mark < g.mark; have e : (ticked g).mark = g.mark := rfl; omega
          have G3 := Aside0.mk (show Ri w w3 N M K n lt d (i + 1) (tick g) from ⟨hg3, by rw [ecells_tick]; exact HG.out.r.only ho3 (fun e => HG.out.kn e), Only.fresh HG.out.o ho3 (by rintro j rfl; exact HG.out.wn), move_wf (ticked_wf HG.out.wf (by have := HG.out.now; omega)), tick_even HG.out.wf.some HG.out.ev, (congrArg List.length (move_l (ticked g)).1).trans HG.out.n, ((move_l (ticked g)).2.1).trans HG.out.late, ((move_l (ticked g)).2.2.1).trans HG.out.idle, by have := (move_l (ticked g)).2.2.2.1; have e2 : (ticked g).now = g.now + 1 := rfl; have := HG.out.now; show (Wm.move (ticked g)).now ≤ i + 1; omega, HG.out.kn, HG.out.km, HG.out.wn, HG.out.wm, HG.out.wk⟩)
          clear hg3 ho3
          go_wp2_with (go_at_call 37; refine (mark_walk N M _ _ G3.out.c).mono ?_; rintro r w4 ⟨rfl, rfl⟩)
          go_roundg k1
          case measure => omega
          case rel => exact ⟨i + 1, tick g, rfl, rfl, by omega, by omega, G3⟩
        · obtain ⟨a, ha⟩ : ∃ a : Nat, p0 = (a : Int) := ⟨p0.toNat, by omega⟩
          obtain ⟨b, hb⟩ : ∃ b : Nat, p1 = (b : Int) := ⟨p1.toNat, by omega⟩
          subst ha hb
          obtain ⟨s, hs1, hs2⟩ : ∃ s : Nat, s = a % n ∧ s < n := ⟨a % n, rfl, Nat.mod_lt _ (by omega)⟩
          obtain ⟨e, he1, he2⟩ : ∃ e : Nat, e = b % 4611686018427387904 ∧ e < 4611686018427387904 := ⟨_, rfl, Nat.mod_lt _ (by decide)⟩
          have hs3 : (a : Int) % (n : Int) = (s : Int) := by rw [hs1]; omega
          have hs4 : Int.tmod (a : Int) (n : Int) = (s : Int) := by rw [Int.tmod_eq_emod_of_nonneg (by omega)]; exact hs3
          have he3 : (b : Int) % 4611686018427387904 = (e : Int) := by rw [he1]; omega
          have he4 : Int.tmod (b : Int) 4611686018427387904 = (e : Int) := by rw [Int.tmod_eq_emod_of_nonneg (by omega)]; exact he3
          have hn0 : ¬ (n : Int) = 0 := by omega
          have hn0' : ¬ n = 0 := by omega
          clear hs1 he1
          have hsn : s < g.l.length := by rw [HG.out.n]; exact hs2
          have he62 : e ≤ 4611686018427387904 := by omega
          go_wp2_with (first
            | (go_at_call 36; refine (see_walk N M g s e _ HG.out.c HG.out.wf hsn he62).mono ?_))
          rintro r w3 rfl hg3 ho3
          obtain ⟨⟨F0, F1⟩, F2, F3, F4⟩ := ri_see HG.out s e hs2 he62 hg3 ho3
          generalize (endsOf g).getD s 0 = q at F0 F1 F2 F4
          by_cases hd0 : d = 0
          · subst hd0
            rcases Nat.lt_trichotomy q e with hx | hx | hx
            · have hx1 : ¬ e ≤ q := by omega
              have hx2 : ¬ e < q := by omega
              rw [show max q e = e by omega] at F2
              have F := Aside0.mk (And.intro F2 hg3)
              clear F2 hg3 ho3 F4
              go_wp2_with (first
                | (go_at_call 37; refine (mark_walk N M _ _ F.out.2).mono ?_; rintro r w4 ⟨rfl, rfl⟩)
                | (go_at_call 37; refine (mark_walk N M _ _ F.out.1.c).mono ?_; rintro r w4 ⟨rfl, rfl⟩))
              go_roundg k1
              case measure => omega
              case rel => exact ⟨i + 1, see g s e, (by first | rfl | rw [hsame]), rfl, by omega, by omega, ⟨F.out.1⟩⟩
            · subst hx
              have hsame := F4 rfl (Nat.le_refl _)
              rw [show max q q = q by omega] at F2
              have F := Aside0.mk (And.intro F2 hg3)
              clear F2 hg3 ho3 F4
              go_wp2_with (first
                | (go_at_call 37; refine (mark_walk N M _ _ F.out.2).mono ?_; rintro r w4 ⟨rfl, rfl⟩)
                | (go_at_call 37; refine (mark_walk N M _ _ F.out.1.c).mono ?_; rintro r w4 ⟨rfl, rfl⟩))
              go_roundg k1
              case measure => omega
              case rel => exact ⟨i + 1, see g s _, (by first | rfl | rw [hsame]), rfl, by omega, by omega, ⟨F.out.1⟩⟩
            · have hx1 : e ≤ q := by omega
              have hx3 : ¬ q < e := by omega
              have hsame := F4 rfl hx1
              rw [show max q e = q by omega] at F2
              have F := Aside0.mk (And.intro F2 hg3)
              clear F2 hg3 ho3 F4
              go_wp2_with (first
                | (go_at_call 37; refine (mark_walk N M _ _ F.out.2).mono ?_; rintro r w4 ⟨rfl, rfl⟩)
                | (go_at_call 37; refine (mark_walk N M _ _ F.out.1.c).mono ?_; rintro r w4 ⟨rfl, rfl⟩))
              go_roundg k1
              case measure => omega
              case rel => exact ⟨i + 1, see g s e, (by first | rfl | rw [hsame]), rfl, by omega, by omega, ⟨F.out.1⟩⟩
          · have hd1 : ¬ (d : Int) = 0 := by omega
            clear F4
            rcases Nat.lt_trichotomy q e with hx | hx | hx
            · have hx2 : ¬ e < q := by omega
              rw [show max q e = e by omega] at F2
              have F := Aside0.mk (And.intro F2 hg3)
              clear F2 hg3 ho3
              go_wp2_with (first
                | (go_at_call 37; refine (mark_walk N M _ _ F.out.2).mono ?_; rintro r w4 ⟨rfl, rfl⟩)
                | (go_at_call 37; refine (mark_walk N M _ _ F.out.1.c).mono ?_; rintro r w4 ⟨rfl, rfl⟩))
              go_roundg k1
              case measure => omega
              case rel => exact ⟨i + 1, see g s e, (by first | rfl | rw [hsame]), rfl, by omega, by omega, ⟨F.out.1⟩⟩
            · subst hx
              rw [show max q q = q by omega] at F2
              have F := Aside0.mk (And.intro F2 hg3)
              clear F2 hg3 ho3
              go_wp2_with (first
                | (go_at_call 37; refine (mark_walk N M _ _ F.out.2).mono ?_; rintro r w4 ⟨rfl, rfl⟩)
                | (go_at_call 37; refine (mark_walk N M _ _ F.out.1.c).mono ?_; rintro r w4 ⟨rfl, rfl⟩))
              go_roundg k1
              case measure => omega
              case rel => exact ⟨i + 1, see g s _, (by first | rfl | rw [hsame]), rfl, by omega, by omega, ⟨F.out.1⟩⟩
            · have hx3 : ¬ q < e := by omega
              rw [show max q e = q by omega] at F2
              have F := Aside0.mk (And.intro F2 hg3)
              clear F2 hg3 ho3
              go_wp2_with (first
                | (go_at_call 37; refine (mark_walk N M _ _ F.out.2).mono ?_; rintro r w4 ⟨rfl, rfl⟩)
                | (go_at_call 37; refine (mark_walk N M _ _ F.out.1.c).mono ?_; rintro r w4 ⟨rfl, rfl⟩))
              go_roundg k1
              case measure => omega
              case rel => exact ⟨i + 1, see g s e, (by first | rfl | rw [hsame]), rfl, by omega, by omega, ⟨F.out.1⟩⟩
      · obtain rfl : i = n0 := by omega
        have hne : 0 < g.l.length := HG.out.wf.some
        have HE := Aside0.mk (show ∀ s, s < n → wr.cell? ⟨K, s, none⟩ = some (.int .u64 (((endsOf g).getD s 0 : Nat) : Int)) from fun s hs => (HG.out.r _ _ (ecells_at g s (by rw [HG.out.n]; exact hs))).1)
        have k0 := HE.out 0 (by omega)
        have HL := Aside0.mk (show (endsOf g).length = n by rw [← HG.out.n]; simp [endsOf])
        have hfin := Aside0.mk (show d = 0 → IsLo g.mark ((endsOf g).map (less lt)) by intro h0; have := HG.out.ev (HG.out.idle.trans h0); rw [HG.out.late] at this; exact this)
        generalize endsOf g = L at k0 HE HL hfin
        have hmkb := HG.out.wf.mark
        generalize hmk : g.mark = mk at hfin hmkb
        have hmw : IntKind.u64.wrap (mk : Int) = (mk : Int) := IntWalk.u64_in _ (by omega)
        go_wp2
        go_loopg [17, 18] (n + 1) (fun kq v17 v18 wq => ∃ (s m : Nat), v17 = .int .u64 (m : Int) ∧ v18 = .int .i64 (s : Int) ∧ s ≤ n ∧ n - s < kq ∧ Aside0 (IsLo m (L.getD 0 0 :: L.take s) ∧ wq = wr))
        case atStart => exact ⟨0, _, rfl, rfl, by omega, by omega, ⟨⟨by simp, by simp⟩, rfl⟩⟩
        case round =>
          obtain ⟨s, m, rfl, rfl, hs, hk2, HM⟩ := hrel
          obtain ⟨k2, rfl⟩ : ∃ z, gk = z + 1 := ⟨gk - 1, by omega⟩
          obtain ⟨hlo, rfl⟩ := HM.out
          clear HM
          by_cases hsn : s < n
          · have hsn' : (s : Int) < (n : Int) := by omega
            have ks := HE.out s hsn
            have hnx1 := fun q (hq : L.getD s 0 = q) => lo_next hlo (by rw [HL.out]; exact hsn) hq
            generalize hq : L.getD s 0 = q at ks hnx1
            have hnx3 := hnx1 q rfl
            clear hnx1 hlo
            rcases Nat.lt_trichotomy q m with hx | hx | hx
            · have hx1 : ¬ m < q := by omega
              rw [show min m q = q by omega] at hnx3
              have hnx2 := Aside0.mk hnx3
              clear hnx3
              go_wp2
              go_roundg k2
              case measure => omega
              case rel => exact ⟨s + 1, _, rfl, rfl, by omega, by omega, ⟨⟨hnx2.out, rfl⟩⟩⟩
            · subst hx
              rw [show min q q = q by omega] at hnx3
              have hnx2 := Aside0.mk hnx3
              clear hnx3
              go_wp2
              go_roundg k2
              case measure => omega
              case rel => exact ⟨s + 1, _, rfl, rfl, by omega, by omega, ⟨⟨hnx2.out, rfl⟩⟩⟩
            · have hx1 : ¬ q < m := by omega
              rw [show min m q = m by omega] at hnx3
              have hnx2 := Aside0.mk hnx3
              clear hnx3
              go_wp2
              go_roundg k2
              case measure => omega
              case rel => exact ⟨s + 1, _, rfl, rfl, by omega, by omega, ⟨⟨hnx2.out, rfl⟩⟩⟩
          · obtain rfl : s = n := by omega
            have hlo2 := lo_end HL.out hn1 hlo
            clear hlo
            by_cases hd0 : d = 0
            · have he := (hfin.out hd0).one (hlo2.less lt)
              subst hd0
              clear hlo2
              unfold less at he
              by_cases hml : lt < m
              · have he2 : (m : Int) - (lt : Int) = (mk : Int) := by omega
                clear he
                go_wp2
                go_ret
                exact ⟨rfl, hbw.out⟩
              · obtain rfl : mk = 0 := by omega
                clear he
                go_wp2
                go_ret
                exact ⟨rfl, hbw.out⟩
            · have hd1 : ¬ (d : Int) = 0 := by omega
              clear hlo2
              go_wp2
              go_ret
              exact ⟨rfl, hbw.out⟩
end Go.Proofs.Ytgpkihnihmbomaa.Wm
