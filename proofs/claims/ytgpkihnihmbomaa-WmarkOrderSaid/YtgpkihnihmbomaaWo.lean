/- WmarkOrder, walked: the order plays no part. No conditions but bounds. -/
import Derived.Test.YtgpkihnihmbomaaWs
import Derived.Deep.RegionWith
namespace Go.Proofs.Ytgpkihnihmbomaa.Wm
open Go.RowKit Go.Proofs.YtgpkihnihmbomaaW.PrintWords Go.Proofs.YtgpkihnihmbomaaW.PrintLast
open Go.Proofs.Ytgpkihnihmbomaa.Ob
set_option linter.unusedSimpArgs false
set_option linter.unusedVariables false

/-- The greatest of what was said by each source, of some acts. -/
def Top (L : List Nat) (n : Nat) (sv : Nat → Option (Nat × Nat)) (J : Nat → Prop) : Prop :=
  L.length = n ∧ ∀ s, s < n → (∀ j v, J j → sv j = some (s, v) → v ≤ L.getD s 0) ∧ (L.getD s 0 = 0 ∨ ∃ j, J j ∧ sv j = some (s, L.getD s 0))
theorem Top.one {L L' : List Nat} {n : Nat} {sv : Nat → Option (Nat × Nat)} {J : Nat → Prop} (h : Top L n sv J) (h' : Top L' n sv J) : L = L' := by
  apply List.ext_getElem (h.1.trans h'.1.symm)
  intro s h1 h2
  have e1 : L.getD s 0 = L[s] := by rw [List.getD_eq_getElem?_getD, List.getElem?_eq_getElem h1]; rfl
  have e2 : L'.getD s 0 = L'[s] := by rw [List.getD_eq_getElem?_getD, List.getElem?_eq_getElem h2]; rfl
  have a := h.2 s (by rw [← h.1]; exact h1)
  have b := h'.2 s (by rw [← h.1]; exact h1)
  rw [e1] at a
  rw [e2] at b
  have x : L[s] ≤ L'[s] := by
    rcases a.2 with h0 | ⟨j, hj, hv⟩
    · omega
    · exact b.1 j _ hj hv
  have y : L'[s] ≤ L[s] := by
    rcases b.2 with h0 | ⟨j, hj, hv⟩
    · omega
    · exact a.1 j _ hj hv
  omega
theorem Top.same {L : List Nat} {n : Nat} {sv : Nat → Option (Nat × Nat)} {J K : Nat → Prop} (h : Top L n sv J) (hJ : ∀ j, J j ↔ K j) : Top L n sv K := by
  have : J = K := funext fun j => propext (hJ j)
  rw [← this]; exact h
theorem Top.skip {L : List Nat} {n : Nat} {sv : Nat → Option (Nat × Nat)} {J : Nat → Prop} (h : Top L n sv J) (j0 : Nat) (hs : sv j0 = none) : Top L n sv (fun j => J j ∨ j = j0) :=
  by
  refine ⟨h.1, fun s hn => ⟨fun j v hj hv => ?_, ?_⟩⟩
  · rcases hj with hj | rfl
    · exact (h.2 s hn).1 j v hj hv
    · rw [hs] at hv; cases hv
  · rcases (h.2 s hn).2 with h0 | ⟨j, hj, hv⟩
    · exact .inl h0
    · exact .inr ⟨j, .inl hj, hv⟩
theorem Top.put {L : List Nat} {n : Nat} {sv : Nat → Option (Nat × Nat)} {J : Nat → Prop} (h : Top L n sv J) (j0 s v : Nat) (hs : sv j0 = some (s, v)) (hsn : s < n) : Top (L.set s (max (L.getD s 0) v)) n sv (fun j => J j ∨ j = j0) := by
  refine ⟨by rw [List.length_set]; exact h.1, fun t ht => ?_⟩
  have hl : s < L.length := by rw [h.1]; exact hsn
  by_cases e : t = s
  · subst e
    have eg : (L.set t (max (L.getD t 0) v)).getD t 0 = max (L.getD t 0) v := by rw [List.getD_eq_getElem?_getD, List.getElem?_set_self hl]; rfl
    rw [eg]
    have a := h.2 t ht
    refine ⟨fun j u hj hu => ?_, ?_⟩
    · rcases hj with hj | rfl
      · have := a.1 j u hj hu; omega
      · rw [hs] at hu; cases hu; omega
    · by_cases hm : L.getD t 0 ≤ v
      · rw [show max (L.getD t 0) v = v by omega]
        exact .inr ⟨j0, .inr rfl, hs⟩
      · rw [show max (L.getD t 0) v = L.getD t 0 by omega]
        rcases a.2 with h0 | ⟨j, hj, hv⟩
        · exact .inl h0
        · exact .inr ⟨j, .inl hj, hv⟩
  · have eg : (L.set s (max (L.getD s 0) v)).getD t 0 = L.getD t 0 := by rw [List.getD_eq_getElem?_getD, List.getElem?_set_ne (fun h => e h.symm), ← List.getD_eq_getElem?_getD]
    rw [eg]
    have a := h.2 t ht
    refine ⟨fun j u hj hu => ?_, ?_⟩
    · rcases hj with hj | rfl
      · exact a.1 j u hj hu
      · rw [hs] at hu; cases hu; exact absurd rfl e
    · rcases a.2 with h0 | ⟨j, hj, hv⟩
      · exact .inl h0
      · exact .inr ⟨j, .inl hj, hv⟩
theorem top_start (n l d : Nat) (sv : Nat → Option (Nat × Nat)) (J : Nat → Prop) (hJ : ∀ j, ¬ J j) : Top (endsOf ⟨List.replicate n (0, 0), l, d, 0, 0⟩) n sv J := by
  refine ⟨by simp [endsOf], fun s hs => ⟨fun j v hj => absurd hj (hJ j), .inl ?_⟩⟩
  simp [endsOf, List.getD_eq_getElem?_getD, List.getElem?_replicate]
  split <;> rfl
/-- What an act says: its source, and its end. -/
def says (n : Nat) (P Q : Nat → Int) (j : Nat) : Option (Nat × Nat) := if 0 ≤ P j then some ((P j).toNat % n, (Q j).toNat % 4611686018427387904) else none
theorem endsOf_see (g : Ck) (s e : Nat) : endsOf (see g s e) = (endsOf g).set s (max ((endsOf g).getD s 0) e) := by
  have e2 : endsOf (see g s e) = endsOf (saw g s e) := by show endsOf (Wm.move (saw g s e)) = _; unfold endsOf; rw [(move_l (saw g s e)).1]
  rw [e2, endsOf_saw]
/-- One clock among others. -/
structure Oc (wr : World) (N M n lt : Nat) (sv : Nat → Option (Nat × Nat)) (J : Nat → Prop) (g : Ck) : Prop where
  c : IsClock wr N M g
  wf : Wf g
  ev : Even g
  hn : g.l.length = n
  late : g.late = lt
  idle : g.idle = 0
  now : g.now = 0
  top : Top (endsOf g) n sv J
theorem Oc.only {wr wq : World} {N M n lt : Nat} {sv : Nat → Option (Nat × Nat)} {J : Nat → Prop} {g : Ck} (h : Oc wr N M n lt sv J g) {S : Nat → Prop} (k : Only S wr wq) (h1 : ¬ S N) (h2 : ¬ S M) : Oc wq N M n lt sv J g :=
  ⟨h.c.only k h1 h2, h.wf, h.ev, h.hn, h.late, h.idle, h.now, h.top⟩
theorem Oc.skip {wr : World} {N M n lt : Nat} {sv : Nat → Option (Nat × Nat)} {J : Nat → Prop} {g : Ck} (h : Oc wr N M n lt sv J g) (j0 : Nat) (hs : sv j0 = none) : Oc wr N M n lt sv (fun j => J j ∨ j = j0) g :=
  ⟨h.c, h.wf, h.ev, h.hn, h.late, h.idle, h.now, h.top.skip j0 hs⟩
theorem Oc.put {wr wq : World} {N M n lt : Nat} {sv : Nat → Option (Nat × Nat)} {J : Nat → Prop} {g : Ck} (h : Oc wr N M n lt sv J g) (j0 s e : Nat) (hs : sv j0 = some (s, e)) (hsn : s < n) (he : e ≤ 4611686018427387904) (hc : IsClock wq N M (see g s e)) : Oc wq N M n lt sv (fun j => J j ∨ j = j0) (see g s e) := by
  have hm := move_l (saw g s e)
  refine ⟨hc, move_wf (saw_wf h.wf s e he), see_even h.wf.some h.ev s e, ?_, hm.2.1.trans h.late, hm.2.2.1.trans h.idle, hm.2.2.2.1.trans h.now, ?_⟩
  · have e1 : (see g s e).l = (saw g s e).l := hm.1
    rw [e1]; simpa [saw] using h.hn
  · rw [endsOf_see]; exact h.top.put j0 s e hs hsn
theorem Oc.same {wr : World} {N M n lt : Nat} {sv : Nat → Option (Nat × Nat)} {J K : Nat → Prop} {g : Ck} (h : Oc wr N M n lt sv J g) (hJ : ∀ j, J j ↔ K j) : Oc wr N M n lt sv K g :=
  ⟨h.c, h.wf, h.ev, h.hn, h.late, h.idle, h.now, h.top.same hJ⟩
/-- A greater lateness makes the mark no greater. -/
theorem Oc.later {wr wq : World} {N M N' M' n lt lu : Nat} {sv : Nat → Option (Nat × Nat)} {J : Nat → Prop} {g k : Ck} (h : Oc wr N M n lt sv J g) (h' : Oc wq N' M' n lu sv J k) (hl : lt ≤ lu) : k.mark ≤ g.mark := by
  have a := h.ev h.idle
  have b := h'.ev h'.idle
  rw [h.late] at a
  rw [h'.late, h'.top.one h.top] at b
  refine b.mono a (by simp) fun i h1 h2 => ?_
  simp only [List.getElem_map]
  unfold less; omega
theorem Oc.mark {wr wq : World} {N M N' M' n lt : Nat} {sv : Nat → Option (Nat × Nat)} {J : Nat → Prop} {g k : Ck} (h : Oc wr N M n lt sv J g) (h' : Oc wq N' M' n lt sv J k) : g.mark = k.mark :=
  Nat.le_antisymm (h'.later h (Nat.le_refl _)) (h.later h' (Nat.le_refl _))
theorem oc_new {w2 : World} {N M : Nat} (n lt : Nat) (sv : Nat → Option (Nat × Nat)) (J : Nat → Prop) (hJ : ∀ j, ¬ J j) (hn : 1 ≤ n ∧ n ≤ 16) (hl : lt ≤ 4611686018427387904) (hg : IsClock w2 N M ⟨List.replicate n (0, 0), lt, 0, 0, 0⟩) : Oc w2 N M n lt sv J ⟨List.replicate n (0, 0), lt, 0, 0, 0⟩ := by
  refine ⟨hg, wf_new n lt 0 hn hl (by omega), fun _ => ?_, by simp, rfl, rfl, rfl, top_start n lt 0 sv J hJ⟩
  have e : (endsOf ⟨List.replicate n (0, 0), lt, 0, 0, 0⟩).map (less lt) = List.replicate n 0 := by simp [endsOf, less]
  show IsLo 0 _
  rw [e]
  exact ⟨fun x hx => Nat.zero_le _, by simp; omega⟩
theorem says_none {n : Nat} {P Q : Nat → Int} {j : Nat} (h : P j < 0) : says n P Q j = none := by unfold says; rw [if_neg (by omega)]
theorem says_some {n : Nat} {P Q : Nat → Int} {j : Nat} (hn : 1 ≤ n) (h : ¬ P j < 0) (hq : 0 ≤ Q j) : ∃ u v s e : Nat, P j = (u : Int) ∧ Q j = (v : Int) ∧ says n P Q j = some (s, e) ∧ s < n ∧ e ≤ 4611686018427387904 ∧
    (u : Int) % (n : Int) = (s : Int) ∧ Int.tmod (u : Int) (n : Int) = (s : Int) ∧ u % n = s ∧ (v : Int) % 4611686018427387904 = (e : Int) ∧ Int.tmod (v : Int) 4611686018427387904 = (e : Int) ∧ v % 4611686018427387904 = e := by
  obtain ⟨u, hu⟩ : ∃ u : Nat, P j = (u : Int) := ⟨(P j).toNat, by omega⟩
  obtain ⟨v, hv⟩ : ∃ v : Nat, Q j = (v : Int) := ⟨(Q j).toNat, by omega⟩
  have hm := Nat.mod_lt v (show 0 < 4611686018427387904 by decide)
  refine ⟨u, v, u % n, v % 4611686018427387904, hu, hv, ?_, Nat.mod_lt _ (by omega), by omega, by omega, ?_, rfl, by omega, ?_, rfl⟩
  · unfold says; rw [if_pos (by omega), hu, hv]; rfl
  · rw [Int.tmod_eq_emod_of_nonneg (by omega)]; omega
  · rw [Int.tmod_eq_emod_of_nonneg (by omega)]; omega
/-- Three clocks, between two rounds. -/
structure Oi (w wr : World) (N1 M1 N2 M2 N3 M3 n lt lu : Nat) (sv : Nat → Option (Nat × Nat)) (J K L : Nat → Prop) (a b c : Ck) : Prop where
  a : Oc wr N1 M1 n lt sv J a
  b : Oc wr N2 M2 n lt sv K b
  c : Oc wr N3 M3 n lu sv L c
  o : Only (fun _ => False) w wr

set_option maxHeartbeats 8000000 in
set_option maxRecDepth 1000000 in
theorem order_law (x lt mo by' : Nat) (A0 : Option Addr) (c0 : Nat) (n0 : Nat) (P Q : Nat → Int) (w : World) (hx : x ≤ 255) (hlt : lt ≤ 65535) (hmo : mo ≤ 255) (hby : by' ≤ 255) (hr0 : Acts w A0 n0 P Q) (hl0 : ∀ i, i < n0 → 0 ≤ Q i) :
    Calls Try.prog 9 #[.int .u8 (x : Int), .int .u16 (lt : Int), .int .u8 (mo : Int), .slice A0 n0 c0, .int .u8 (by' : Int)] w fun r w' => r = .returned (.bool true) ∧ Below w.heap.size w w' := by
  have HR0 := Aside0.mk hr0
  clear hr0
  have HL0 := Aside0.mk hl0
  clear hl0
  by_cases h60 : (n0 : Int) > 60
  · go_enter Try.func9, Try.ntmps9
    go_wp2_with (go_at_call 34; refine (alive_walk _).mono ?_; rintro r w1 ⟨rfl, ho⟩)
    go_ret
    exact ⟨rfl, ho.below (fun _ h => h.elim) (Nat.le_refl _)⟩
  · obtain ⟨n, hnx, hn1, hn2⟩ : ∃ n : Nat, 1 + (x : Int) % 16 = (n : Int) ∧ 1 ≤ n ∧ n ≤ 16 := ⟨1 + x % 16, by omega, by omega, by omega⟩
    obtain ⟨lu, hlu⟩ : ∃ lu : Nat, (lt : Int) + (mo : Int) = (lu : Int) := ⟨lt + mo, by omega⟩
    go_enter Try.func9, Try.ntmps9
    go_wp2_with (first
      | (go_at_call 34; refine (alive_walk _).mono ?_; rintro r w1 ⟨rfl, ho⟩)
      | (go_at_call 35; refine (new_walk n lt 0 _ ⟨hn1, hn2⟩ (by omega) (by omega)).mono ?_))
    rintro r w2 ⟨N1, M1, rfl, hN1, hM1, hN1', hM1', hg1, ho1⟩
    have hsz1 := ho.size
    have G1 := Aside0.mk (And.intro hg1 (ho.trans ho1))
    clear hg1 ho ho1
    go_wp2_with (go_at_call 35; refine (new_walk n lt 0 _ ⟨hn1, hn2⟩ (by omega) (by omega)).mono ?_)
    rintro r w3 ⟨N2, M2, rfl, hN2, hM2, hN2', hM2', hg2, ho2⟩
    have hsz2 := ho2.size
    have G2 := Aside0.mk (And.intro (G1.out.1.only ho2 id id) (And.intro hg2 (G1.out.2.trans ho2)))
    clear hg2 ho2 G1
    go_wp2_with (go_at_call 35; refine (new_walk n lu 0 _ ⟨hn1, hn2⟩ (by omega) (by omega)).mono ?_)
    rintro r w4 ⟨N3, M3, rfl, hN3, hM3, hN3', hM3', hg3, ho3⟩
    have hsz3 := ho3.size
    have hord : (w.heap.size ≤ N1 ∧ w.heap.size ≤ M1 ∧ w.heap.size ≤ N2 ∧ w.heap.size ≤ M2 ∧ w.heap.size ≤ N3 ∧ w.heap.size ≤ M3) ∧ (N1 ≠ N2 ∧ N1 ≠ M2 ∧ M1 ≠ N2 ∧ M1 ≠ M2) ∧ (N1 ≠ N3 ∧ N1 ≠ M3 ∧ M1 ≠ N3 ∧ M1 ≠ M3) ∧ (N2 ≠ N3 ∧ N2 ≠ M3 ∧ M2 ≠ N3 ∧ M2 ≠ M3) := by omega
    have G := Aside0.mk (show Oi w w4 N1 M1 N2 M2 N3 M3 n lt lu (says n P Q) (fun j => j < 0) (fun j => ∃ i', i' < 0 ∧ j = (n0 - 1 - i' + by') % n0) (fun j => j < 0) _ _ _ from ⟨oc_new n lt _ _ (by simp) ⟨hn1, hn2⟩ (by omega) (G2.out.1.only ho3 id id), oc_new n lt _ _ (by simp) ⟨hn1, hn2⟩ (by omega) (G2.out.2.1.only ho3 id id), oc_new n lu _ _ (by simp) ⟨hn1, hn2⟩ (by omega) hg3, G2.out.2.2.trans ho3⟩)
    clear hg3 ho3 G2 hN1 hM1 hN1' hM1' hN2 hM2 hN2' hM2' hN3 hM3 hN3' hM3' hsz1 hsz2 hsz3
    replace hord := Aside0.mk hord
    go_wp2
    go_loopg [18] (n0 + 1) (fun kq v18 wr => ∃ (i : Nat) (a b c : Ck), v18 = .int .i64 (i : Int) ∧ i ≤ n0 ∧ n0 - i < kq ∧ Aside0 (Oi w wr N1 M1 N2 M2 N3 M3 n lt lu (says n P Q) (fun j => j < i) (fun j => ∃ i', i' < i ∧ j = (n0 - 1 - i' + by') % n0) (fun j => j < i) a b c))
    case atStart => exact ⟨0, _, _, _, rfl, by omega, by omega, G⟩
    case round =>
      clear G
      obtain ⟨i, a, b, c, rfl, hi, hk, HG⟩ := hrel
      obtain ⟨k1, rfl⟩ : ∃ m, gk = m + 1 := ⟨gk - 1, by omega⟩
      have hbw := Aside0.mk (HG.out.o.below (fun _ h => h.elim) (Nat.le_refl _))
      by_cases hil : i < n0
      · have hil' : (i : Int) < (n0 : Int) := by omega
        obtain ⟨ad, eA, hx0, hx1⟩ := HR0.out _ hbw.out i hil
        cases eA
        have hπ2 : (n0 - 1 - i + by') % n0 < n0 := Nat.mod_lt _ (by omega)
        obtain ⟨ad', eA, hy0, hy1⟩ := HR0.out (wr.alloc (.cells #[.int .i64 (P i), .int .u64 (Q i)] 80)) (hbw.out.alloc hbw.out.size _) _ hπ2
        obtain rfl : ad = ad' := Option.some.inj eA
        have hx2 := HL0.out i hil
        have hy2 := HL0.out _ hπ2
        have hn0 : ¬ (n0 : Int) = 0 := by omega
        have hbd1 : 0 ≤ ((n0 : Int) - 1 - (i : Int) + (by' : Int)) % (n0 : Int) := Int.emod_nonneg _ hn0
        have hbd2 : ((n0 : Int) - 1 - (i : Int) + (by' : Int)) % (n0 : Int) < (n0 : Int) := Int.emod_lt_of_pos _ (by omega)
        have hbd1 : 0 ≤ ((n0 : Int) - 1 - (i : Int) + (by' : Int)) % (n0 : Int) := Int.emod_nonneg _ hn0
        have hbd2 : ((n0 : Int) - 1 - (i : Int) + (by' : Int)) % (n0 : Int) < (n0 : Int) := Int.emod_lt_of_pos _ (by omega)
        have hbd1 : 0 ≤ ((n0 : Int) - 1 - (i : Int) + (by' : Int)) % (n0 : Int) := Int.emod_nonneg _ hn0
        have hnz : ¬ n = 0 := by omega
        have hnz' : ¬ (n : Int) = 0 := by omega
        have hbd2 : ((n0 : Int) - 1 - (i : Int) + (by' : Int)) % (n0 : Int) < (n0 : Int) := Int.emod_lt_of_pos _ (by omega)
        have hbd1 : 0 ≤ ((n0 : Int) - 1 - (i : Int) + (by' : Int)) % (n0 : Int) := Int.emod_nonneg _ hn0
        have hnz : ¬ n = 0 := by omega
        have hnz' : ¬ (n : Int) = 0 := by omega
        have hbd2 : ((n0 : Int) - 1 - (i : Int) + (by' : Int)) % (n0 : Int) < (n0 : Int) := Int.emod_lt_of_pos _ (by omega)
        have hbd1 : 0 ≤ ((n0 : Int) - 1 - (i : Int) + (by' : Int)) % (n0 : Int) := Int.emod_nonneg _ hn0
        have hnz : ¬ n = 0 := by omega
        have hnz' : ¬ (n : Int) = 0 := by omega
        have hbd2 : ((n0 : Int) - 1 - (i : Int) + (by' : Int)) % (n0 : Int) < (n0 : Int) := Int.emod_lt_of_pos _ (by omega)
        have hblk : N1 < wr.heap.size ∧ M1 < wr.heap.size ∧ N2 < wr.heap.size ∧ M2 < wr.heap.size ∧ N3 < wr.heap.size ∧ M3 < wr.heap.size := by
          have e := HG.out
          exact ⟨e.a.c.head.lt (by simp), e.a.c.rows.lt (by rw [cells_length, e.a.hn]; omega), e.b.c.head.lt (by simp), e.b.c.rows.lt (by rw [cells_length, e.b.hn]; omega), e.c.c.head.lt (by simp), e.c.c.rows.lt (by rw [cells_length, e.c.hn]; omega)⟩
        have hblk := Aside0.mk hblk
        have SX := Aside0.mk (fun h => says_none (n := n) (P := P) (Q := Q) (j := i) h)
        have SX2 := Aside0.mk (fun h => says_some (n := n) (P := P) (Q := Q) (j := i) hn1 h hx2)
        have SY := Aside0.mk (fun h => says_none (n := n) (P := P) (Q := Q) (j := (n0 - 1 - i + by') % n0) h)
        have SY2 := Aside0.mk (fun h => says_some (n := n) (P := P) (Q := Q) (j := (n0 - 1 - i + by') % n0) hn1 h hy2)
        clear hx2 hy2
        generalize P i = px at hx0 hy0 hy1 SX SX2
        generalize Q i = qx at hx1 hy0 hy1 SX SX2
        generalize P ((n0 - 1 - i + by') % n0) = py at hy0 SY SY2
        generalize Q ((n0 - 1 - i + by') % n0) = qy at hy1 SY SY2
        obtain ⟨X, hX⟩ : ∃ X, wr.heap.size = X := ⟨_, rfl⟩
        obtain ⟨Y, hY⟩ : ∃ Y, X + 1 = Y := ⟨_, rfl⟩
        have hXYb : (N1 < X ∧ M1 < X ∧ N2 < X ∧ M2 < X ∧ N3 < X ∧ M3 < X) ∧ X < Y ∧ w.heap.size ≤ X ∧ w.heap.size ≤ Y := by have := hblk.out; have := HG.out.o.size; omega
        replace hXYb := Aside0.mk hXYb
        have MK : ∀ px qx py qy : Int, Aside0 (Row ((wr.alloc (.cells #[.int .i64 px, .int .u64 qx] 80)).alloc (.cells #[.int .i64 py, .int .u64 qy] 80)) X [.int .i64 px, .int .u64 qx] ∧ Row ((wr.alloc (.cells #[.int .i64 px, .int .u64 qx] 80)).alloc (.cells #[.int .i64 py, .int .u64 qy] 80)) Y [.int .i64 py, .int .u64 qy] ∧ Oi w ((wr.alloc (.cells #[.int .i64 px, .int .u64 qx] 80)).alloc (.cells #[.int .i64 py, .int .u64 qy] 80)) N1 M1 N2 M2 N3 M3 n lt lu (says n P Q) (fun j => j < i) (fun j => ∃ i', i' < i ∧ j = (n0 - 1 - i' + by') % n0) (fun j => j < i) a b c) := fun px qx py qy => ⟨by
          have k : Only (fun _ => False) wr ((wr.alloc (.cells #[.int .i64 px, .int .u64 qx] 80)).alloc (.cells #[.int .i64 py, .int .u64 qy] 80)) := ((Only.refl _ wr).alloc _).alloc _
          have e : (wr.alloc (.cells #[.int .i64 px, .int .u64 qx] 80)).heap.size = Y := by rw [← hY, ← hX]; show (wr.heap.push _).size = _; simp
          have r1 := (Row.new wr [.int .i64 px, .int .u64 qx] 80).alloc (.cells #[.int .i64 py, .int .u64 qy] 80)
          have r2 := Row.new (wr.alloc (.cells #[.int .i64 px, .int .u64 qx] 80)) [.int .i64 py, .int .u64 qy] 80
          rw [hX] at r1
          rw [e] at r2
          exact ⟨r1, r2, HG.out.a.only k id id, HG.out.b.only k id id, HG.out.c.only k id id, HG.out.o.trans k⟩⟩
        by_cases hpx : px < 0
        · have hsx := SX.out hpx
          have hpx' : ¬ (0 : Int) ≤ px := by omega
          have hsx := Aside0.mk hsx
          clear SX SX2
          by_cases hpy : py < 0
          · have hpy' : ¬ (0 : Int) ≤ py := by omega
            have hsy := Aside0.mk (SY.out (by omega))
            clear SY SY2
            have HW0 := MK px qx py qy
            have x0c := (HW0.out.1 0 _ rfl).1
            have y0c := (HW0.out.2.1 0 _ rfl).1
            clear MK
            have hmk : ¬ a.mark < c.mark := by have := HW0.out.2.2.a.later HW0.out.2.2.c (show lt ≤ lu by omega); omega
            have FIN := Aside0.mk (show Oi w _ N1 M1 N2 M2 N3 M3 n lt lu (says n P Q) (fun j => j < i + 1) (fun j => ∃ i', i' < i + 1 ∧ j = (n0 - 1 - i' + by') % n0) (fun j => j < i + 1) a b c from Oi.mk ((HW0.out.2.2.a.skip i hsx.out).same (fun j => by omega)) ((HW0.out.2.2.b.skip ((n0 - 1 - i + by') % n0) hsy.out).same (fun j => ⟨fun h => by rcases h with ⟨i', h1, h2⟩ | h; exact ⟨i', by omega, h2⟩; exact ⟨i, by omega, h⟩, fun ⟨i', h1, h2⟩ => by by_cases hi' : i' < i; exact .inl ⟨i', hi', h2⟩; exact .inr (by rw [h2, show i' = i by omega])⟩)) ((HW0.out.2.2.c.skip i hsx.out).same (fun j => by omega)) HW0.out.2.2.o)
            go_wp2_with (first
              | (go_at_call 37; refine (mark_walk N3 M3 _ _ FIN.out.c.c).mono ?_; rintro r w8 ⟨rfl, rfl⟩)
              | (go_at_call 37; refine (mark_walk N1 M1 _ _ FIN.out.a.c).mono ?_; rintro r w8 ⟨rfl, rfl⟩))
            go_roundg k1
            case measure => omega
            case rel => exact ⟨i + 1, a, b, c, rfl, by omega, by omega, FIN⟩
          · obtain ⟨u2, v2, s2, e2, rfl, rfl, hsy, hsn2, hee2, q1, q2, q3, q4, q5, q6⟩ := SY2.out (by omega)
            have hsn2' := Aside0.mk hsn2
            clear SY SY2 hpy hsn2
            have HW0 := MK px qx (u2 : Int) (v2 : Int)
            have x0c := (HW0.out.1 0 _ rfl).1
            have y0c := (HW0.out.2.1 0 _ rfl).1
            clear MK
            go_wp2
            generalize (wr.alloc (.cells #[.int .i64 px, .int .u64 qx] 80)).alloc (.cells #[.int .i64 (u2 : Int), .int .u64 (v2 : Int)] 80) = W0 at HW0 x0c y0c ⊢
            have hS : (W0.drew).cell? ⟨Y, 0, none⟩ = some (.int .i64 (u2 : Int)) ∧ (W0.drew).cell? ⟨Y, 1, none⟩ = some (.int .u64 (v2 : Int)) := ⟨(HW0.out.2.1 0 _ rfl).1, (HW0.out.2.1 1 _ rfl).1⟩
            refine start_ (n := 9) (S := fun w' => w'.cell? ⟨Y, 0, none⟩ = some (.int .i64 (u2 : Int)) ∧ w'.cell? ⟨Y, 1, none⟩ = some (.int .u64 (v2 : Int))) (ds := []) #[false, false, false, false, false, false, false, false, false] (by kernel_rfl) rfl rfl hS (fun hHeld => ?_)
            clear hS
            refine pure_ (i := 0) (N := some 104) (v := ?_) (a' := ?_) #[true, false, false, false, false, false, false, false, false] rfl rfl (by kernel_rfl) (fun _ _ _ h => h) (Or.inl ⟨by rfl, ?_⟩) ?_ ?_
            rotate_left
            · intro w'
              go_simp
              with_reducible rfl
            rotate_left
            · simp only [Act.put, List.setIfInBounds_toArray, List.set_cons_zero, List.set_cons_succ, i64_w, i32_w]
              rfl
            refine pure_ (i := 1) (N := some 105) (v := ?_) (a' := ?_) #[true, true, false, false, false, false, false, false, false] rfl rfl (by kernel_rfl) (fun _ _ _ h => h) (Or.inl ⟨by rfl, ?_⟩) ?_ ?_
            rotate_left
            · intro w'
              go_simp
              with_reducible rfl
            rotate_left
            · simp only [Act.put, List.setIfInBounds_toArray, List.set_cons_zero, List.set_cons_succ, i64_w, i32_w]
              rfl
            refine take_ (i := 2) (N := some 106) (v := ?_) (a' := ?_) #[true, true, true, false, false, false, false, false, false] rfl rfl (by kernel_rfl) (fun _ _ _ h => h) (Or.inl ⟨by rfl, ?_⟩) hHeld ?_ ?_
            rotate_left
            · rintro w' ⟨s0, s1⟩
              go_simp
              with_reducible rfl
            rotate_left
            · simp only [Act.put, List.setIfInBounds_toArray, List.set_cons_zero, List.set_cons_succ, i64_w, i32_w]
              rfl
            refine pure_ (i := 3) (N := some 107) (v := ?_) (a' := ?_) #[true, true, true, true, false, false, false, false, false] rfl rfl (by kernel_rfl) (fun _ _ _ h => h) (Or.inl ⟨by rfl, ?_⟩) ?_ ?_
            rotate_left
            · intro w'
              go_simp
              with_reducible rfl
            rotate_left
            · simp only [Act.put, List.setIfInBounds_toArray, List.set_cons_zero, List.set_cons_succ, i64_w, i32_w]
              rfl
            refine pure_ (i := 4) (N := some 108) (v := ?_) (a' := ?_) #[true, true, true, true, true, false, false, false, false] rfl rfl (by kernel_rfl) (fun _ _ _ h => h) (Or.inl ⟨by rfl, ?_⟩) ?_ ?_
            rotate_left
            · intro w'
              go_simp
              with_reducible rfl
            rotate_left
            · simp only [Act.put, List.setIfInBounds_toArray, List.set_cons_zero, List.set_cons_succ, i64_w, i32_w]
              rfl
            refine pure_ (i := 5) (N := some 109) (v := ?_) (a' := ?_) #[true, true, true, true, true, true, false, false, false] rfl rfl (by kernel_rfl) (fun _ _ _ h => h) (Or.inl ⟨by rfl, ?_⟩) ?_ ?_
            rotate_left
            · intro w'
              go_simp
              with_reducible rfl
            rotate_left
            · simp only [Act.put, List.setIfInBounds_toArray, List.set_cons_zero, List.set_cons_succ, i64_w, i32_w]
              rfl
            refine take_ (i := 6) (N := some 110) (v := ?_) (a' := ?_) #[true, true, true, true, true, true, true, false, false] rfl rfl (by kernel_rfl) (fun _ _ _ h => h) (Or.inl ⟨by rfl, ?_⟩) hHeld ?_ ?_
            rotate_left
            · rintro w' ⟨s0, s1⟩
              go_simp
              with_reducible rfl
            rotate_left
            · simp only [Act.put, List.setIfInBounds_toArray, List.set_cons_zero, List.set_cons_succ, i64_w, i32_w]
              rfl
            refine pure_ (i := 7) (N := some 111) (v := ?_) (a' := ?_) #[true, true, true, true, true, true, true, true, false] rfl rfl (by kernel_rfl) (fun _ _ _ h => h) (Or.inl ⟨by rfl, ?_⟩) ?_ ?_
            rotate_left
            · intro w'
              go_simp
              with_reducible rfl
            rotate_left
            · simp only [Act.put, List.setIfInBounds_toArray, List.set_cons_zero, List.set_cons_succ, i64_w, i32_w]
              rfl
            refine one_ (i := 8) (N := some 112) #[true, true, true, true, true, true, true, true, true] rfl rfl (by kernel_rfl) (by decide) (fun K hK => ?_)
            refine goes_ Try.func36 (by kernel_rfl) rfl #[.pointer (some ⟨N2, 0, none⟩), .int .i64 (s2 : Int), .int .u64 (e2 : Int)] (by rfl) rfl rfl (by (try simp only [List.map_toArray, List.map_cons, List.map_nil]); first | done | rfl) ?_
            refine (see_walk N2 M2 b s2 e2 _ HW0.out.2.2.b.c.drew HW0.out.2.2.b.wf (by rw [HW0.out.2.2.b.hn]; exact hsn2'.out) hee2).mono ?_
            rintro r w7 ⟨rfl, hc5, ho5⟩
            refine ⟨_, rfl, ?_⟩
            have HW3 := Aside0.mk (And.intro (HW0.out.1.drew.only ho5 (by rintro (e_ | e_) <;> (have := hord.out; have := hXYb.out; omega))) (And.intro (HW0.out.2.1.drew.only ho5 (by rintro (e_ | e_) <;> (have := hord.out; have := hXYb.out; omega))) (Oi.mk (HW0.out.2.2.a.only ((Only.refl (fun k => k = N2 ∨ k = M2) W0).drew.trans ho5) (by rintro (e_ | e_) <;> (have := hord.out; have := hXYb.out; omega)) (by rintro (e_ | e_) <;> (have := hord.out; have := hXYb.out; omega))) (HW0.out.2.2.b.put ((n0 - 1 - i + by') % n0) s2 e2 hsy hsn2'.out hee2 hc5) (HW0.out.2.2.c.only ((Only.refl (fun k => k = N2 ∨ k = M2) W0).drew.trans ho5) (by rintro (e_ | e_) <;> (have := hord.out; have := hXYb.out; omega)) (by rintro (e_ | e_) <;> (have := hord.out; have := hXYb.out; omega))) (Only.fresh HW0.out.2.2.o.drew ho5 (by rintro j_ (rfl | rfl) <;> (have := hord.out; omega))))))
            refine hK.out _ _ ⟨(HW3.out.2.1 0 _ rfl).1, (HW3.out.2.1 1 _ rfl).1⟩ (fun hHeld => ?_)
            have x0c := (HW3.out.1 0 _ rfl).1
            have y0c := (HW3.out.2.1 0 _ rfl).1
            clear hK K hc5 ho5 hHeld
            refine norm_ (a' := ?_) ?_ ?_
            rotate_left
            · show Act.put _ (some 112) _ = _
              simp only [Act.put, List.setIfInBounds_toArray, List.set_cons_zero, List.set_cons_succ, i64_w, i32_w]
              rfl
            refine done_ (by kernel_rfl) ?_
            have hmk : ¬ a.mark < c.mark := by have := HW3.out.2.2.a.later HW3.out.2.2.c (show lt ≤ lu by omega); omega
            have FIN := Aside0.mk (show Oi w _ N1 M1 N2 M2 N3 M3 n lt lu (says n P Q) (fun j => j < i + 1) (fun j => ∃ i', i' < i + 1 ∧ j = (n0 - 1 - i' + by') % n0) (fun j => j < i + 1) a (see b s2 e2) c from Oi.mk ((HW3.out.2.2.a.skip i hsx.out).same (fun j => by omega)) (HW3.out.2.2.b.same (fun j => ⟨fun h => by rcases h with ⟨i', h1, h2⟩ | h; exact ⟨i', by omega, h2⟩; exact ⟨i, by omega, h⟩, fun ⟨i', h1, h2⟩ => by by_cases hi' : i' < i; exact .inl ⟨i', hi', h2⟩; exact .inr (by rw [h2, show i' = i by omega])⟩)) ((HW3.out.2.2.c.skip i hsx.out).same (fun j => by omega)) HW3.out.2.2.o)
            go_wp2_with (first
              | (go_at_call 37; refine (mark_walk N3 M3 _ _ FIN.out.c.c).mono ?_; rintro r w8 ⟨rfl, rfl⟩)
              | (go_at_call 37; refine (mark_walk N1 M1 _ _ FIN.out.a.c).mono ?_; rintro r w8 ⟨rfl, rfl⟩))
            go_roundg k1
            case measure => omega
            case rel => exact ⟨i + 1, a, (see b s2 e2), c, rfl, by omega, by omega, FIN⟩
        · obtain ⟨u, v, s, e, rfl, rfl, hsx, hsn, hee, m1, m2, m3, m4, m5, m6⟩ := SX2.out hpx
          have hsn' := Aside0.mk hsn
          clear SX SX2 hpx hsn
          have HW0 := MK (u : Int) (v : Int) py qy
          have x0c := (HW0.out.1 0 _ rfl).1
          have y0c := (HW0.out.2.1 0 _ rfl).1
          clear MK
          go_wp2
          generalize (wr.alloc (.cells #[.int .i64 (u : Int), .int .u64 (v : Int)] 80)).alloc (.cells #[.int .i64 py, .int .u64 qy] 80) = W0 at HW0 x0c y0c ⊢
          have hS : (W0.drew).cell? ⟨X, 0, none⟩ = some (.int .i64 (u : Int)) ∧ (W0.drew).cell? ⟨X, 1, none⟩ = some (.int .u64 (v : Int)) := ⟨(HW0.out.1 0 _ rfl).1, (HW0.out.1 1 _ rfl).1⟩
          refine start_ (n := 9) (S := fun w' => w'.cell? ⟨X, 0, none⟩ = some (.int .i64 (u : Int)) ∧ w'.cell? ⟨X, 1, none⟩ = some (.int .u64 (v : Int))) (ds := []) #[false, false, false, false, false, false, false, false, false] (by kernel_rfl) rfl rfl hS (fun hHeld => ?_)
          clear hS
          refine pure_ (i := 0) (N := some 83) (v := ?_) (a' := ?_) #[true, false, false, false, false, false, false, false, false] rfl rfl (by kernel_rfl) (fun _ _ _ h => h) (Or.inl ⟨by rfl, ?_⟩) ?_ ?_
          rotate_left
          · intro w'
            go_simp
            with_reducible rfl
          rotate_left
          · simp only [Act.put, List.setIfInBounds_toArray, List.set_cons_zero, List.set_cons_succ, i64_w, i32_w]
            rfl
          refine pure_ (i := 1) (N := some 84) (v := ?_) (a' := ?_) #[true, true, false, false, false, false, false, false, false] rfl rfl (by kernel_rfl) (fun _ _ _ h => h) (Or.inl ⟨by rfl, ?_⟩) ?_ ?_
          rotate_left
          · intro w'
            go_simp
            with_reducible rfl
          rotate_left
          · simp only [Act.put, List.setIfInBounds_toArray, List.set_cons_zero, List.set_cons_succ, i64_w, i32_w]
            rfl
          refine take_ (i := 2) (N := some 85) (v := ?_) (a' := ?_) #[true, true, true, false, false, false, false, false, false] rfl rfl (by kernel_rfl) (fun _ _ _ h => h) (Or.inl ⟨by rfl, ?_⟩) hHeld ?_ ?_
          rotate_left
          · rintro w' ⟨s0, s1⟩
            go_simp
            with_reducible rfl
          rotate_left
          · simp only [Act.put, List.setIfInBounds_toArray, List.set_cons_zero, List.set_cons_succ, i64_w, i32_w]
            rfl
          refine pure_ (i := 3) (N := some 86) (v := ?_) (a' := ?_) #[true, true, true, true, false, false, false, false, false] rfl rfl (by kernel_rfl) (fun _ _ _ h => h) (Or.inl ⟨by rfl, ?_⟩) ?_ ?_
          rotate_left
          · intro w'
            go_simp
            with_reducible rfl
          rotate_left
          · simp only [Act.put, List.setIfInBounds_toArray, List.set_cons_zero, List.set_cons_succ, i64_w, i32_w]
            rfl
          refine pure_ (i := 4) (N := some 87) (v := ?_) (a' := ?_) #[true, true, true, true, true, false, false, false, false] rfl rfl (by kernel_rfl) (fun _ _ _ h => h) (Or.inl ⟨by rfl, ?_⟩) ?_ ?_
          rotate_left
          · intro w'
            go_simp
            with_reducible rfl
          rotate_left
          · simp only [Act.put, List.setIfInBounds_toArray, List.set_cons_zero, List.set_cons_succ, i64_w, i32_w]
            rfl
          refine pure_ (i := 5) (N := some 88) (v := ?_) (a' := ?_) #[true, true, true, true, true, true, false, false, false] rfl rfl (by kernel_rfl) (fun _ _ _ h => h) (Or.inl ⟨by rfl, ?_⟩) ?_ ?_
          rotate_left
          · intro w'
            go_simp
            with_reducible rfl
          rotate_left
          · simp only [Act.put, List.setIfInBounds_toArray, List.set_cons_zero, List.set_cons_succ, i64_w, i32_w]
            rfl
          refine take_ (i := 6) (N := some 89) (v := ?_) (a' := ?_) #[true, true, true, true, true, true, true, false, false] rfl rfl (by kernel_rfl) (fun _ _ _ h => h) (Or.inl ⟨by rfl, ?_⟩) hHeld ?_ ?_
          rotate_left
          · rintro w' ⟨s0, s1⟩
            go_simp
            with_reducible rfl
          rotate_left
          · simp only [Act.put, List.setIfInBounds_toArray, List.set_cons_zero, List.set_cons_succ, i64_w, i32_w]
            rfl
          refine pure_ (i := 7) (N := some 90) (v := ?_) (a' := ?_) #[true, true, true, true, true, true, true, true, false] rfl rfl (by kernel_rfl) (fun _ _ _ h => h) (Or.inl ⟨by rfl, ?_⟩) ?_ ?_
          rotate_left
          · intro w'
            go_simp
            with_reducible rfl
          rotate_left
          · simp only [Act.put, List.setIfInBounds_toArray, List.set_cons_zero, List.set_cons_succ, i64_w, i32_w]
            rfl
          refine one_ (i := 8) (N := some 91) #[true, true, true, true, true, true, true, true, true] rfl rfl (by kernel_rfl) (by decide) (fun K hK => ?_)
          refine goes_ Try.func36 (by kernel_rfl) rfl #[.pointer (some ⟨N1, 0, none⟩), .int .i64 (s : Int), .int .u64 (e : Int)] (by rfl) rfl rfl (by (try simp only [List.map_toArray, List.map_cons, List.map_nil]); first | done | rfl) ?_
          refine (see_walk N1 M1 a s e _ HW0.out.2.2.a.c.drew HW0.out.2.2.a.wf (by rw [HW0.out.2.2.a.hn]; exact hsn'.out) hee).mono ?_
          rintro r w5 ⟨rfl, hc5, ho5⟩
          refine ⟨_, rfl, ?_⟩
          have HW1 := Aside0.mk (And.intro (HW0.out.1.drew.only ho5 (by rintro (e_ | e_) <;> (have := hord.out; have := hXYb.out; omega))) (And.intro (HW0.out.2.1.drew.only ho5 (by rintro (e_ | e_) <;> (have := hord.out; have := hXYb.out; omega))) (Oi.mk (HW0.out.2.2.a.put i s e hsx hsn'.out hee hc5) (HW0.out.2.2.b.only ((Only.refl (fun k => k = N1 ∨ k = M1) W0).drew.trans ho5) (by rintro (e_ | e_) <;> (have := hord.out; have := hXYb.out; omega)) (by rintro (e_ | e_) <;> (have := hord.out; have := hXYb.out; omega))) (HW0.out.2.2.c.only ((Only.refl (fun k => k = N1 ∨ k = M1) W0).drew.trans ho5) (by rintro (e_ | e_) <;> (have := hord.out; have := hXYb.out; omega)) (by rintro (e_ | e_) <;> (have := hord.out; have := hXYb.out; omega))) (Only.fresh HW0.out.2.2.o.drew ho5 (by rintro j_ (rfl | rfl) <;> (have := hord.out; omega))))))
          refine hK.out _ _ ⟨(HW1.out.1 0 _ rfl).1, (HW1.out.1 1 _ rfl).1⟩ (fun hHeld => ?_)
          have x0c := (HW1.out.1 0 _ rfl).1
          have y0c := (HW1.out.2.1 0 _ rfl).1
          clear hK K hc5 ho5 hHeld
          refine norm_ (a' := ?_) ?_ ?_
          rotate_left
          · show Act.put _ (some 91) _ = _
            simp only [Act.put, List.setIfInBounds_toArray, List.set_cons_zero, List.set_cons_succ, i64_w, i32_w]
            rfl
          refine done_ (by kernel_rfl) ?_
          go_wp2
          have hS : (w5.drew).cell? ⟨X, 0, none⟩ = some (.int .i64 (u : Int)) ∧ (w5.drew).cell? ⟨X, 1, none⟩ = some (.int .u64 (v : Int)) := ⟨(HW1.out.1 0 _ rfl).1, (HW1.out.1 1 _ rfl).1⟩
          refine start_ (n := 9) (S := fun w' => w'.cell? ⟨X, 0, none⟩ = some (.int .i64 (u : Int)) ∧ w'.cell? ⟨X, 1, none⟩ = some (.int .u64 (v : Int))) (ds := []) #[false, false, false, false, false, false, false, false, false] (by kernel_rfl) rfl rfl hS (fun hHeld => ?_)
          clear hS
          refine pure_ (i := 0) (N := some 92) (v := ?_) (a' := ?_) #[true, false, false, false, false, false, false, false, false] rfl rfl (by kernel_rfl) (fun _ _ _ h => h) (Or.inl ⟨by rfl, ?_⟩) ?_ ?_
          rotate_left
          · intro w'
            go_simp
            with_reducible rfl
          rotate_left
          · simp only [Act.put, List.setIfInBounds_toArray, List.set_cons_zero, List.set_cons_succ, i64_w, i32_w]
            rfl
          refine pure_ (i := 1) (N := some 93) (v := ?_) (a' := ?_) #[true, true, false, false, false, false, false, false, false] rfl rfl (by kernel_rfl) (fun _ _ _ h => h) (Or.inl ⟨by rfl, ?_⟩) ?_ ?_
          rotate_left
          · intro w'
            go_simp
            with_reducible rfl
          rotate_left
          · simp only [Act.put, List.setIfInBounds_toArray, List.set_cons_zero, List.set_cons_succ, i64_w, i32_w]
            rfl
          refine take_ (i := 2) (N := some 94) (v := ?_) (a' := ?_) #[true, true, true, false, false, false, false, false, false] rfl rfl (by kernel_rfl) (fun _ _ _ h => h) (Or.inl ⟨by rfl, ?_⟩) hHeld ?_ ?_
          rotate_left
          · rintro w' ⟨s0, s1⟩
            go_simp
            with_reducible rfl
          rotate_left
          · simp only [Act.put, List.setIfInBounds_toArray, List.set_cons_zero, List.set_cons_succ, i64_w, i32_w]
            rfl
          refine pure_ (i := 3) (N := some 95) (v := ?_) (a' := ?_) #[true, true, true, true, false, false, false, false, false] rfl rfl (by kernel_rfl) (fun _ _ _ h => h) (Or.inl ⟨by rfl, ?_⟩) ?_ ?_
          rotate_left
          · intro w'
            go_simp
            with_reducible rfl
          rotate_left
          · simp only [Act.put, List.setIfInBounds_toArray, List.set_cons_zero, List.set_cons_succ, i64_w, i32_w]
            rfl
          refine pure_ (i := 4) (N := some 96) (v := ?_) (a' := ?_) #[true, true, true, true, true, false, false, false, false] rfl rfl (by kernel_rfl) (fun _ _ _ h => h) (Or.inl ⟨by rfl, ?_⟩) ?_ ?_
          rotate_left
          · intro w'
            go_simp
            with_reducible rfl
          rotate_left
          · simp only [Act.put, List.setIfInBounds_toArray, List.set_cons_zero, List.set_cons_succ, i64_w, i32_w]
            rfl
          refine pure_ (i := 5) (N := some 97) (v := ?_) (a' := ?_) #[true, true, true, true, true, true, false, false, false] rfl rfl (by kernel_rfl) (fun _ _ _ h => h) (Or.inl ⟨by rfl, ?_⟩) ?_ ?_
          rotate_left
          · intro w'
            go_simp
            with_reducible rfl
          rotate_left
          · simp only [Act.put, List.setIfInBounds_toArray, List.set_cons_zero, List.set_cons_succ, i64_w, i32_w]
            rfl
          refine take_ (i := 6) (N := some 98) (v := ?_) (a' := ?_) #[true, true, true, true, true, true, true, false, false] rfl rfl (by kernel_rfl) (fun _ _ _ h => h) (Or.inl ⟨by rfl, ?_⟩) hHeld ?_ ?_
          rotate_left
          · rintro w' ⟨s0, s1⟩
            go_simp
            with_reducible rfl
          rotate_left
          · simp only [Act.put, List.setIfInBounds_toArray, List.set_cons_zero, List.set_cons_succ, i64_w, i32_w]
            rfl
          refine pure_ (i := 7) (N := some 99) (v := ?_) (a' := ?_) #[true, true, true, true, true, true, true, true, false] rfl rfl (by kernel_rfl) (fun _ _ _ h => h) (Or.inl ⟨by rfl, ?_⟩) ?_ ?_
          rotate_left
          · intro w'
            go_simp
            with_reducible rfl
          rotate_left
          · simp only [Act.put, List.setIfInBounds_toArray, List.set_cons_zero, List.set_cons_succ, i64_w, i32_w]
            rfl
          refine one_ (i := 8) (N := some 100) #[true, true, true, true, true, true, true, true, true] rfl rfl (by kernel_rfl) (by decide) (fun K hK => ?_)
          refine goes_ Try.func36 (by kernel_rfl) rfl #[.pointer (some ⟨N3, 0, none⟩), .int .i64 (s : Int), .int .u64 (e : Int)] (by rfl) rfl rfl (by (try simp only [List.map_toArray, List.map_cons, List.map_nil]); first | done | rfl) ?_
          refine (see_walk N3 M3 c s e _ HW1.out.2.2.c.c.drew HW1.out.2.2.c.wf (by rw [HW1.out.2.2.c.hn]; exact hsn'.out) hee).mono ?_
          rintro r w6 ⟨rfl, hc5, ho5⟩
          refine ⟨_, rfl, ?_⟩
          have HW2 := Aside0.mk (And.intro (HW1.out.1.drew.only ho5 (by rintro (e_ | e_) <;> (have := hord.out; have := hXYb.out; omega))) (And.intro (HW1.out.2.1.drew.only ho5 (by rintro (e_ | e_) <;> (have := hord.out; have := hXYb.out; omega))) (Oi.mk (HW1.out.2.2.a.only ((Only.refl (fun k => k = N3 ∨ k = M3) w5).drew.trans ho5) (by rintro (e_ | e_) <;> (have := hord.out; have := hXYb.out; omega)) (by rintro (e_ | e_) <;> (have := hord.out; have := hXYb.out; omega))) (HW1.out.2.2.b.only ((Only.refl (fun k => k = N3 ∨ k = M3) w5).drew.trans ho5) (by rintro (e_ | e_) <;> (have := hord.out; have := hXYb.out; omega)) (by rintro (e_ | e_) <;> (have := hord.out; have := hXYb.out; omega))) (HW1.out.2.2.c.put i s e hsx hsn'.out hee hc5) (Only.fresh HW1.out.2.2.o.drew ho5 (by rintro j_ (rfl | rfl) <;> (have := hord.out; omega))))))
          refine hK.out _ _ ⟨(HW2.out.1 0 _ rfl).1, (HW2.out.1 1 _ rfl).1⟩ (fun hHeld => ?_)
          have x0c := (HW2.out.1 0 _ rfl).1
          have y0c := (HW2.out.2.1 0 _ rfl).1
          clear hK K hc5 ho5 hHeld
          refine norm_ (a' := ?_) ?_ ?_
          rotate_left
          · show Act.put _ (some 100) _ = _
            simp only [Act.put, List.setIfInBounds_toArray, List.set_cons_zero, List.set_cons_succ, i64_w, i32_w]
            rfl
          refine done_ (by kernel_rfl) ?_
          by_cases hpy : py < 0
          · have hpy' : ¬ (0 : Int) ≤ py := by omega
            have hsy := Aside0.mk (SY.out (by omega))
            clear SY SY2
            have hmk : ¬ (see a s e).mark < (see c s e).mark := by have := HW2.out.2.2.a.later HW2.out.2.2.c (show lt ≤ lu by omega); omega
            have FIN := Aside0.mk (show Oi w _ N1 M1 N2 M2 N3 M3 n lt lu (says n P Q) (fun j => j < i + 1) (fun j => ∃ i', i' < i + 1 ∧ j = (n0 - 1 - i' + by') % n0) (fun j => j < i + 1) (see a s e) b (see c s e) from Oi.mk (HW2.out.2.2.a.same (fun j => by omega)) ((HW2.out.2.2.b.skip ((n0 - 1 - i + by') % n0) hsy.out).same (fun j => ⟨fun h => by rcases h with ⟨i', h1, h2⟩ | h; exact ⟨i', by omega, h2⟩; exact ⟨i, by omega, h⟩, fun ⟨i', h1, h2⟩ => by by_cases hi' : i' < i; exact .inl ⟨i', hi', h2⟩; exact .inr (by rw [h2, show i' = i by omega])⟩)) (HW2.out.2.2.c.same (fun j => by omega)) HW2.out.2.2.o)
            go_wp2_with (first
              | (go_at_call 37; refine (mark_walk N3 M3 _ _ FIN.out.c.c).mono ?_; rintro r w8 ⟨rfl, rfl⟩)
              | (go_at_call 37; refine (mark_walk N1 M1 _ _ FIN.out.a.c).mono ?_; rintro r w8 ⟨rfl, rfl⟩))
            go_roundg k1
            case measure => omega
            case rel => exact ⟨i + 1, (see a s e), b, (see c s e), rfl, by omega, by omega, FIN⟩
          · obtain ⟨u2, v2, s2, e2, rfl, rfl, hsy, hsn2, hee2, q1, q2, q3, q4, q5, q6⟩ := SY2.out (by omega)
            have hsn2' := Aside0.mk hsn2
            clear SY SY2 hpy hsn2
            go_wp2
            have hS : (w6.drew).cell? ⟨Y, 0, none⟩ = some (.int .i64 (u2 : Int)) ∧ (w6.drew).cell? ⟨Y, 1, none⟩ = some (.int .u64 (v2 : Int)) := ⟨(HW2.out.2.1 0 _ rfl).1, (HW2.out.2.1 1 _ rfl).1⟩
            refine start_ (n := 9) (S := fun w' => w'.cell? ⟨Y, 0, none⟩ = some (.int .i64 (u2 : Int)) ∧ w'.cell? ⟨Y, 1, none⟩ = some (.int .u64 (v2 : Int))) (ds := []) #[false, false, false, false, false, false, false, false, false] (by kernel_rfl) rfl rfl hS (fun hHeld => ?_)
            clear hS
            refine pure_ (i := 0) (N := some 104) (v := ?_) (a' := ?_) #[true, false, false, false, false, false, false, false, false] rfl rfl (by kernel_rfl) (fun _ _ _ h => h) (Or.inl ⟨by rfl, ?_⟩) ?_ ?_
            rotate_left
            · intro w'
              go_simp
              with_reducible rfl
            rotate_left
            · simp only [Act.put, List.setIfInBounds_toArray, List.set_cons_zero, List.set_cons_succ, i64_w, i32_w]
              rfl
            refine pure_ (i := 1) (N := some 105) (v := ?_) (a' := ?_) #[true, true, false, false, false, false, false, false, false] rfl rfl (by kernel_rfl) (fun _ _ _ h => h) (Or.inl ⟨by rfl, ?_⟩) ?_ ?_
            rotate_left
            · intro w'
              go_simp
              with_reducible rfl
            rotate_left
            · simp only [Act.put, List.setIfInBounds_toArray, List.set_cons_zero, List.set_cons_succ, i64_w, i32_w]
              rfl
            refine take_ (i := 2) (N := some 106) (v := ?_) (a' := ?_) #[true, true, true, false, false, false, false, false, false] rfl rfl (by kernel_rfl) (fun _ _ _ h => h) (Or.inl ⟨by rfl, ?_⟩) hHeld ?_ ?_
            rotate_left
            · rintro w' ⟨s0, s1⟩
              go_simp
              with_reducible rfl
            rotate_left
            · simp only [Act.put, List.setIfInBounds_toArray, List.set_cons_zero, List.set_cons_succ, i64_w, i32_w]
              rfl
            refine pure_ (i := 3) (N := some 107) (v := ?_) (a' := ?_) #[true, true, true, true, false, false, false, false, false] rfl rfl (by kernel_rfl) (fun _ _ _ h => h) (Or.inl ⟨by rfl, ?_⟩) ?_ ?_
            rotate_left
            · intro w'
              go_simp
              with_reducible rfl
            rotate_left
            · simp only [Act.put, List.setIfInBounds_toArray, List.set_cons_zero, List.set_cons_succ, i64_w, i32_w]
              rfl
            refine pure_ (i := 4) (N := some 108) (v := ?_) (a' := ?_) #[true, true, true, true, true, false, false, false, false] rfl rfl (by kernel_rfl) (fun _ _ _ h => h) (Or.inl ⟨by rfl, ?_⟩) ?_ ?_
            rotate_left
            · intro w'
              go_simp
              with_reducible rfl
            rotate_left
            · simp only [Act.put, List.setIfInBounds_toArray, List.set_cons_zero, List.set_cons_succ, i64_w, i32_w]
              rfl
            refine pure_ (i := 5) (N := some 109) (v := ?_) (a' := ?_) #[true, true, true, true, true, true, false, false, false] rfl rfl (by kernel_rfl) (fun _ _ _ h => h) (Or.inl ⟨by rfl, ?_⟩) ?_ ?_
            rotate_left
            · intro w'
              go_simp
              with_reducible rfl
            rotate_left
            · simp only [Act.put, List.setIfInBounds_toArray, List.set_cons_zero, List.set_cons_succ, i64_w, i32_w]
              rfl
            refine take_ (i := 6) (N := some 110) (v := ?_) (a' := ?_) #[true, true, true, true, true, true, true, false, false] rfl rfl (by kernel_rfl) (fun _ _ _ h => h) (Or.inl ⟨by rfl, ?_⟩) hHeld ?_ ?_
            rotate_left
            · rintro w' ⟨s0, s1⟩
              go_simp
              with_reducible rfl
            rotate_left
            · simp only [Act.put, List.setIfInBounds_toArray, List.set_cons_zero, List.set_cons_succ, i64_w, i32_w]
              rfl
            refine pure_ (i := 7) (N := some 111) (v := ?_) (a' := ?_) #[true, true, true, true, true, true, true, true, false] rfl rfl (by kernel_rfl) (fun _ _ _ h => h) (Or.inl ⟨by rfl, ?_⟩) ?_ ?_
            rotate_left
            · intro w'
              go_simp
              with_reducible rfl
            rotate_left
            · simp only [Act.put, List.setIfInBounds_toArray, List.set_cons_zero, List.set_cons_succ, i64_w, i32_w]
              rfl
            refine one_ (i := 8) (N := some 112) #[true, true, true, true, true, true, true, true, true] rfl rfl (by kernel_rfl) (by decide) (fun K hK => ?_)
            refine goes_ Try.func36 (by kernel_rfl) rfl #[.pointer (some ⟨N2, 0, none⟩), .int .i64 (s2 : Int), .int .u64 (e2 : Int)] (by rfl) rfl rfl (by (try simp only [List.map_toArray, List.map_cons, List.map_nil]); first | done | rfl) ?_
            refine (see_walk N2 M2 b s2 e2 _ HW2.out.2.2.b.c.drew HW2.out.2.2.b.wf (by rw [HW2.out.2.2.b.hn]; exact hsn2'.out) hee2).mono ?_
            rintro r w7 ⟨rfl, hc5, ho5⟩
            refine ⟨_, rfl, ?_⟩
            have HW3 := Aside0.mk (And.intro (HW2.out.1.drew.only ho5 (by rintro (e_ | e_) <;> (have := hord.out; have := hXYb.out; omega))) (And.intro (HW2.out.2.1.drew.only ho5 (by rintro (e_ | e_) <;> (have := hord.out; have := hXYb.out; omega))) (Oi.mk (HW2.out.2.2.a.only ((Only.refl (fun k => k = N2 ∨ k = M2) w6).drew.trans ho5) (by rintro (e_ | e_) <;> (have := hord.out; have := hXYb.out; omega)) (by rintro (e_ | e_) <;> (have := hord.out; have := hXYb.out; omega))) (HW2.out.2.2.b.put ((n0 - 1 - i + by') % n0) s2 e2 hsy hsn2'.out hee2 hc5) (HW2.out.2.2.c.only ((Only.refl (fun k => k = N2 ∨ k = M2) w6).drew.trans ho5) (by rintro (e_ | e_) <;> (have := hord.out; have := hXYb.out; omega)) (by rintro (e_ | e_) <;> (have := hord.out; have := hXYb.out; omega))) (Only.fresh HW2.out.2.2.o.drew ho5 (by rintro j_ (rfl | rfl) <;> (have := hord.out; omega))))))
            refine hK.out _ _ ⟨(HW3.out.2.1 0 _ rfl).1, (HW3.out.2.1 1 _ rfl).1⟩ (fun hHeld => ?_)
            have x0c := (HW3.out.1 0 _ rfl).1
            have y0c := (HW3.out.2.1 0 _ rfl).1
            clear hK K hc5 ho5 hHeld
            refine norm_ (a' := ?_) ?_ ?_
            rotate_left
            · show Act.put _ (some 112) _ = _
              simp only [Act.put, List.setIfInBounds_toArray, List.set_cons_zero, List.set_cons_succ, i64_w, i32_w]
              rfl
            refine done_ (by kernel_rfl) ?_
            have hmk : ¬ (see a s e).mark < (see c s e).mark := by have := HW3.out.2.2.a.later HW3.out.2.2.c (show lt ≤ lu by omega); omega
            have FIN := Aside0.mk (show Oi w _ N1 M1 N2 M2 N3 M3 n lt lu (says n P Q) (fun j => j < i + 1) (fun j => ∃ i', i' < i + 1 ∧ j = (n0 - 1 - i' + by') % n0) (fun j => j < i + 1) (see a s e) (see b s2 e2) (see c s e) from Oi.mk (HW3.out.2.2.a.same (fun j => by omega)) (HW3.out.2.2.b.same (fun j => ⟨fun h => by rcases h with ⟨i', h1, h2⟩ | h; exact ⟨i', by omega, h2⟩; exact ⟨i, by omega, h⟩, fun ⟨i', h1, h2⟩ => by by_cases hi' : i' < i; exact .inl ⟨i', hi', h2⟩; exact .inr (by rw [h2, show i' = i by omega])⟩)) (HW3.out.2.2.c.same (fun j => by omega)) HW3.out.2.2.o)
            go_wp2_with (first
              | (go_at_call 37; refine (mark_walk N3 M3 _ _ FIN.out.c.c).mono ?_; rintro r w8 ⟨rfl, rfl⟩)
              | (go_at_call 37; refine (mark_walk N1 M1 _ _ FIN.out.a.c).mono ?_; rintro r w8 ⟨rfl, rfl⟩))
            go_roundg k1
            case measure => omega
            case rel => exact ⟨i + 1, (see a s e), (see b s2 e2), (see c s e), rfl, by omega, by omega, FIN⟩
      · obtain rfl : i = n0 := by omega
        have hJ : ∀ j, (∃ i', i' < i ∧ j = (i - 1 - i' + by') % i) ↔ j < i := fun j => ⟨fun ⟨i', h1, h2⟩ => by rw [h2]; exact Nat.mod_lt _ (by omega), fun hj => by
          have h1 := Nat.div_add_mod (i - 1 + by' - j) i
          have h2 := Nat.mod_lt (i - 1 + by' - j) (show 0 < i by omega)
          refine ⟨(i - 1 + by' - j) % i, h2, ?_⟩
          generalize (i - 1 + by' - j) % i = r at h1 h2
          have h3 : i - 1 - r + by' = j + i * ((i - 1 + by' - j) / i) := by
            generalize i * ((i - 1 + by' - j) / i) = z at h1
            omega
          rw [h3, Nat.add_mul_mod_self_left, Nat.mod_eq_of_lt hj]⟩
        have heq : a.mark = b.mark := HG.out.a.mark (HG.out.b.same hJ)
        clear hJ
        go_wp2_with (first
          | (go_at_call 37; refine (mark_walk N1 M1 _ _ HG.out.a.c).mono ?_; rintro r w8 ⟨rfl, rfl⟩)
          | (go_at_call 37; refine (mark_walk N2 M2 _ _ HG.out.b.c).mono ?_; rintro r w8 ⟨rfl, rfl⟩))
        go_ret
        exact ⟨by first | rfl | (rw [heq]; simp), hbw.out⟩
end Go.Proofs.Ytgpkihnihmbomaa.Wm
