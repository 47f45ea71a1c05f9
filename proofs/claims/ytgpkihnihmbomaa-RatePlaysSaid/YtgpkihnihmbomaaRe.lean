/- RatePlays, walked: who passes any gate. No conditions but bounds. -/
import Derived.Test.YtgpkihnihmbomaaRd
import Derived.Test.YtgpkihnihmbomaaWh
namespace Go.Proofs.Ytgpkihnihmbomaa.Ra
open Go.RowKit Go.Proofs.YtgpkihnihmbomaaW.PrintWords Go.Proofs.YtgpkihnihmbomaaW.PrintLast
open Go.Proofs.Ytgpkihnihmbomaa.Ob Go.Proofs.Ytgpkihnihmbomaa.XRq
set_option linter.unusedSimpArgs false
set_option linter.unusedVariables false

theorem and_one (x : Int) : ∃ b : Nat, b ≤ 1 ∧ bits .and .i64 x 1 = (b : Int) := by
  refine ⟨((BitVec.ofInt 64 x) &&& (BitVec.ofInt 64 1)).toNat, ?_, ?_⟩
  · rw [BitVec.toNat_and]; exact Nat.and_le_right
  · have h : ((BitVec.ofInt 64 x) &&& (BitVec.ofInt 64 1)).toNat ≤ 1 := by rw [BitVec.toNat_and]; exact Nat.and_le_right
    simp only [bits]
    show IntKind.i64.wrap (((BitVec.ofInt 64 x) &&& (BitVec.ofInt 64 1)).toNat : Int) = _
    rw [IntKind.wrap_i64]; omega
def zcells (l : List S33) : List Value := l.flatMap fun p => [.int .i64 p.f0, .int .u64 p.f1]
theorem zcells_length (l : List S33) : (zcells l).length = 2 * l.length := by
  induction l with
  | nil => rfl
  | cons p r ih => simp only [zcells, List.flatMap_cons, List.length_append, List.length_cons, List.length_nil] at *; omega
theorem zcells_at (l : List S33) (i : Nat) (h : i < l.length) : (zcells l)[i * 2]? = some (.int .i64 (l[i]).f0) ∧ (zcells l)[i * 2 + 1]? = some (.int .u64 (l[i]).f1) := by
  induction l generalizing i with
  | nil => exact absurd h (by simp)
  | cons p r ih =>
    cases i with
    | zero => exact ⟨rfl, rfl⟩
    | succ i =>
      have := ih i (by simpa using h)
      rw [show (i + 1) * 2 = i * 2 + 1 + 1 by omega]
      simp only [zcells, List.flatMap_cons, List.getElem_cons_succ] at *
      exact this
theorem zcells_set (l : List S33) (i : Nat) (v : Int) (h : i < l.length) : (zcells l).set (i * 2) (.int .i64 v) = zcells (l.set i ⟨v, (l[i]).f1⟩) := by
  induction l generalizing i with
  | nil => exact absurd h (by simp)
  | cons p r ih =>
    cases i with
    | zero => rfl
    | succ i =>
      have := ih i (by simpa using h)
      rw [show (i + 1) * 2 = i * 2 + 1 + 1 by omega]
      simp only [zcells, List.flatMap_cons, List.cons_append, List.nil_append, List.set_cons_succ, List.getElem_cons_succ] at *
      rw [this]
theorem C_of_rows {W : World} {b : Nat} {Z : List S33} (h : Row W b (zcells Z)) (m : Nat) (hm : m ≤ Z.length) (hz : Z.length ≤ 1000) : Kd.C k33 W (some ⟨b, 0, none⟩) (Z.take m).length (Z.take m) := by
  refine ⟨rfl, by rw [List.length_take]; omega, fun _ => ⟨_, rfl, fun j x hx => ?_⟩⟩
  have hj : j < m := by have := (List.getElem?_eq_some_iff.1 hx).1; rw [List.length_take] at this; omega
  have hjz : j < Z.length := by omega
  obtain rfl : Z[j] = x := by rw [List.getElem?_take_of_lt hj, List.getElem?_eq_getElem hjz] at hx; exact Option.some.inj hx
  obtain ⟨e1, e2⟩ := zcells_at Z j hjz
  refine ⟨_, rfl, k33_mk W Z[j], fun i u hu => ?_⟩
  have e : W.cell? ⟨b, j * 2 + i, none⟩ = some u := by
    match i, hu with
    | 0, hu => obtain rfl := Option.some.inj hu; exact (h _ _ e1).1
    | 1, hu => obtain rfl := Option.some.inj hu; exact (h _ _ e2).1
    | i + 2, hu => cases hu
  show W.cell? ((⟨b, 0, none⟩ : Addr).add (j * 2 + i)) = some u
  unfold Addr.add
  split
  · rename_i h0; rw [h0] at e; exact e
  · simpa using e
/-- What came in, as a row that is read. -/
theorem C_of_acts {w W : World} {A0 : Option Addr} {n0 : Nat} {P Q : Nat → Int} (h : Wm.Acts w A0 n0 P Q) (hb : Below w.heap.size w W) (hn : n0 ≤ 1000) : Kd.C k33 W A0 n0 ((List.range n0).map fun i => ⟨P i, Q i⟩) := by
  refine ⟨by simp, by omega, fun hpos => ?_⟩
  obtain ⟨ad, rfl, _, _⟩ := h W hb 0 hpos
  refine ⟨ad, rfl, fun j x hx => ?_⟩
  have hj : j < n0 := by have := (List.getElem?_eq_some_iff.1 hx).1; simpa using this
  obtain rfl : (⟨P j, Q j⟩ : S33) = x := by
    rw [List.getElem?_map, List.getElem?_range hj] at hx; exact Option.some.inj hx
  obtain ⟨ad', e, h0, h1⟩ := h W hb j hj
  cases e
  refine ⟨_, rfl, k33_mk W ⟨P j, Q j⟩, fun i u hu => ?_⟩
  match i, hu with
  | 0, hu => obtain rfl := Option.some.inj hu; exact h0
  | 1, hu => obtain rfl := Option.some.inj hu; rw [← add_field _ _ 1 (by omega)] at h1; exact h1
  | i + 2, hu => cases hu
/-- An own row, as cells. -/
theorem Row_of_R {W : World} {base : Nat} {ok : Nat → Prop} {v : Value} {Z : List S33} (h : Kd.R k33 33 W base ok v Z) : ∃ A b c, v = .slice A Z.length c ∧ Z.length ≤ c ∧ (0 < Z.length → A = some ⟨b, 0, none⟩ ∧ base ≤ b ∧ b < W.heap.size ∧ ok b) ∧ Row W b (zcells Z) := by
  obtain ⟨h0, inner, ho, hr⟩ := h
  have hin : inner = zcells Z := by
    have hl : inner.length = Z.length * 2 := hr.1
    apply List.ext_getElem?
    intro q
    by_cases hq : q < inner.length
    · have hj : q / 2 < Z.length := by omega
      have hm := k33_openM (hr.2 (q / 2) _ (List.getElem?_eq_getElem hj))
      obtain ⟨e1, e2⟩ := zcells_at Z (q / 2) hj
      have hk : k33.sz = 2 := rfl
      rw [hk] at hm
      have hx : ∀ r, r < 2 → inner[q / 2 * 2 + r]? = [Value.int .i64 (Z[q / 2]).f0, .int .u64 (Z[q / 2]).f1][r]? := fun r hr => by
        rw [← hm, List.getElem?_take_of_lt hr, List.getElem?_drop]
      rcases Nat.mod_two_eq_zero_or_one q with h2 | h2
      · have := hx 0 (by omega)
        rw [show q / 2 * 2 + 0 = q by omega] at this
        rw [show q / 2 * 2 = q by omega] at e1
        rw [this, e1]; rfl
      · have := hx 1 (by omega)
        rw [show q / 2 * 2 + 1 = q by omega] at this e2
        rw [this, e2]; rfl
    · rw [List.getElem?_eq_none (by omega), List.getElem?_eq_none (by rw [zcells_length]; omega)]
  subst hin
  obtain ⟨hl, h1 | ⟨g, cap, cur, rfl, hg, hh, hc1, hc2, hc3, hc4⟩⟩ := ho
  · have : Z = [] := List.eq_nil_of_length_eq_zero h1.2
    subst this
    exact ⟨none, 0, 0, h1.1, Nat.le_refl _, fun h => absurd h (by simp), fun i v hv => by simp [zcells] at hv⟩
  · refine ⟨_, g, cap, rfl, hc1, fun _ => ⟨rfl, hg, (Array.getElem?_eq_some_iff.1 hh).1, h0 g rfl⟩, fun i v hv => ?_⟩
    have hk : k33.sz = 2 := rfl
    rw [← hc4, hk] at hv
    have hi : i < Z.length * 2 := by
      have := (List.getElem?_eq_some_iff.1 hv).1
      rw [List.length_take] at this
      exact Nat.lt_of_lt_of_le this (Nat.min_le_left _ _)
    rw [List.getElem?_take_of_lt hi] at hv
    unfold World.cell? World.frozen?
    simp only [hh]
    exact ⟨by simpa using hv, by simp⟩
theorem K_M33 {W : World} {base : Nat} {okp : Nat → Prop} (x : S33) (cs : List Value) (h : k33.K W x cs) : k33.M W base okp x cs := by
  rw [k33_open h]; exact k33_mkM W base okp x
theorem R_empty (W : World) (base : Nat) (hb : base ≤ W.heap.size) : Kd.R k33 33 (W.alloc (.cells #[] 33)) base (fun _ => True) (.slice (some ⟨W.heap.size, 0, none⟩) 0 0) [] := by
  refine ⟨fun _ _ => trivial, [], ?_, Reps.none _ _⟩
  exact World.ownsRow_lit (base := base) (e := 33) (size := 2) W #[] 0 hb (by decide) rfl
/-- The gate and the acts; and, within a round, the act that is looked at. -/
structure Gx (w wr : World) (N B b most : Nat) (L Z : List S33) : Prop where
  g : IsGate2 wr N B most L.length (fun k => min (cnt L (k : Int)) most) (fun k => decide (0 < cnt L (k : Int))) (known L (firsts L))
  o : Only (fun _ => False) w wr
  r : Row wr b (zcells Z)
  wf : ∀ a ∈ Z, 0 ≤ a.f1 ∧ a.f1 < 18446744073709551616
  wn : w.heap.size ≤ N
  wb : w.heap.size ≤ B
  wz : 0 < Z.length → w.heap.size ≤ b ∧ N ≠ b ∧ B ≠ b
  len : L.length ≤ 1000
  most_ : most ≤ 65536
  zlen : Z.length ≤ 100
section
variable {w wr w' : World} {N B b X most : Nat} {L Z : List S33}
theorem Gx.keep (h : Gx w wr N B b most L Z) (k : Only (fun _ => False) wr w') : Gx w w' N B b most L Z :=
  ⟨h.g.keep k id id, h.o.trans k, h.r.only k id, h.wf, h.wn, h.wb, h.wz, h.len, h.most_, h.zlen⟩
theorem Gx.drewN (h : Gx w wr N B b most L Z) (m : Nat) : Gx w (wr.drewN m) N B b most L Z := h.keep ((Only.refl _ wr).drewN m)
theorem Gx.far (h : Gx w wr N B b most L Z) (p : Addr) (v : Value) (h1 : p.block ≠ N) (h2 : p.block ≠ B) (h3 : p.block ≠ b) (h4 : w.heap.size ≤ p.block) : Gx w (wr.setCell p v) N B b most L Z := by
  have k := (Only.refl (fun k => k = p.block) wr).setCell p v rfl
  exact ⟨h.g.keep k (fun e => h1 e.symm) (fun e => h2 e.symm), fresh h.o k (by rintro j rfl; exact h4), h.r.far _ _ h3, h.wf, h.wn, h.wb, h.wz, h.len, h.most_, h.zlen⟩
theorem Gx.store (h : Gx w wr N B b most L Z) (i : Nat) (hi : i < Z.length) (v : Int) : Gx w (wr.setCell ⟨b, i * 2, none⟩ (.int .i64 v)) N B b most L (Z.set i ⟨v, (Z[i]).f1⟩) := by
  have hz := h.wz (by omega)
  have k := (Only.refl (fun k => k = b) wr).setCell ⟨b, i * 2, none⟩ (.int .i64 v) rfl
  refine ⟨h.g.keep k (fun e => hz.2.1 e) (fun e => hz.2.2 e), fresh h.o k (by rintro j rfl; exact hz.1), ?_, ?_, h.wn, h.wb, fun _ => hz, h.len, h.most_, by simpa using h.zlen⟩
  · rw [← zcells_set Z i v hi]; exact h.r.set _ _
  · intro a ha
    rcases List.mem_or_eq_of_mem_set ha with ha | rfl
    · exact h.wf a ha
    · exact h.wf Z[i] (List.getElem_mem hi)
theorem gx_asked (h : Gx w wr N B b most L Z) (m c nd : Nat) (k : Int) (hm : m ≤ Z.length) (hc : m ≤ c) :
    Calls Try.prog 19 #[.slice (some ⟨b, 0, none⟩) m c, .int .u64 k] (wr.drewN nd) fun r w' => r = .returned (.int .i64 ((cnt (Z.take m) k : Nat) : Int)) ∧ ∃ j, w' = wr.drewN j := by
  have hl : (Z.take m).length = m := by rw [List.length_take]; omega
  have hC := C_of_rows (h.drewN nd).r m hm (by have := h.zlen; omega)
  have := tallyroomref23_Asked.calls 1001 (some ⟨b, 0, none⟩) c (Z.take m) k _ (wr.drewN nd) hC (by omega) (asked_f (Z.take m) k (by have := h.zlen; omega))
  rw [hl] at this
  refine this.mono ?_
  rintro r w' ⟨rfl, j, rfl⟩
  exact ⟨rfl, nd + j, by rw [World.drewN_drewN]⟩
theorem gx_asked' (h : Gx w wr N B b most L Z) (m c nd : Nat) (k : Int) (z : Nat) (hm : m ≤ Z.length) (hc : m ≤ c) (hz : cnt (Z.take m) k = z) :
    Calls Try.prog 19 #[.slice (some ⟨b, 0, none⟩) m c, .int .u64 k] (wr.drewN nd) fun r w' => r = .returned (.int .i64 (z : Int)) ∧ ∃ j, w' = wr.drewN j := by
  subst hz; exact gx_asked h m c nd k hm hc
theorem gx_passed (h : Gx w wr N B b most L Z) (k : Nat) (z : Int) (hk : k < 18446744073709551616) (hz : ((min (cnt L (k : Int)) most : Nat) : Int) = z) :
    Calls Try.prog 17 #[.pointer (some ⟨N, 0, none⟩), .int .u64 (k : Int)] wr fun r w' => r = .returned (.int .i64 z) ∧ w' = wr := by
  have := passed_walk N B most L.length _ _ k wr h.g.old hk
  rw [← hz]; exact this
theorem gx_len (h : Gx w wr N B b most L Z) (s : Nat) (hs : known L (firsts L) = s) : Calls Try.prog 20 #[.pointer (some ⟨N, 0, none⟩)] wr fun r w' => r = .returned (.int .i64 (s : Int)) ∧ w' = wr :=
  hs ▸ len_walk N B most L.length _ _ _ wr h.g
theorem gx_pass (h : Gx w wr N B b most L Z) (k q : Nat) (hk : k < 18446744073709551616) (hq : cnt L (k : Int) = q) (hz : 0 < Z.length) (hL : L.length < 1000) :
    Calls Try.prog 16 #[.pointer (some ⟨N, 0, none⟩), .int .u64 (k : Int)] wr fun r w' => r = .returned (.bool (decide (q < most))) ∧ Gx w w' N B b most (L ++ [⟨0, (k : Int)⟩]) Z ∧ Only (fun j => j = B) wr w' := by
  have h1 := known_ask L ⟨0, (k : Int)⟩ (show (0 : Int) ≠ 1 by decide)
  refine (pass2_walk N B most L.length _ _ _ _ k wr h.g hk h.most_ (by omega) ⟨h1⟩).mono ?_
  rintro r w' ⟨rfl, hg, ho⟩
  refine ⟨?_, ⟨?_, fresh h.o ho (by rintro j rfl; exact h.wb), h.r.only ho (fun e => (h.wz hz).2.2 e.symm), h.wf, h.wn, h.wb, h.wz, by simp; omega, h.most_, h.zlen⟩, ho⟩
  · rw [hq]
    congr 2
    exact decide_eq_decide.mpr (by omega)
  · refine hg.same (by simp) (fun j hj => ?_) rfl
    unfold at'
    by_cases e : j = k
    · subst e
      have hc : cnt (L ++ [⟨0, (j : Int)⟩]) (j : Int) = cnt L (j : Int) + 1 := by rw [cnt_snoc]; unfold cstep; rw [if_pos rfl, if_neg (show ¬ (0 : Int) = 1 by decide)]
      rw [if_pos rfl, if_pos rfl, hc]
      exact ⟨by split <;> omega, by simp⟩
    · have hc : cnt (L ++ [⟨0, (k : Int)⟩]) (j : Int) = cnt L (j : Int) := cnt_other L _ _ (by simp only; omega)
      rw [if_neg e, if_neg e, hc]
      exact ⟨rfl, rfl⟩
theorem gx_forget (h : Gx w wr N B b most L Z) (k q : Nat) (hk : k < 18446744073709551616) (hq : cnt L (k : Int) = q) (hz : 0 < Z.length) (hL : L.length < 1000) :
    Calls Try.prog 18 #[.pointer (some ⟨N, 0, none⟩), .int .u64 (k : Int)] wr fun r w' => r = .returned (.bool (decide (0 < q))) ∧ Gx w w' N B b most (L ++ [⟨1, (k : Int)⟩]) Z ∧ Only (fun j => j = B) wr w' := by
  have h1 := known_forget L ⟨1, (k : Int)⟩ rfl
  refine (forget2_walk N B most L.length _ _ _ _ k wr h.g hk ⟨h1⟩).mono ?_
  rintro r w' ⟨rfl, hg, ho⟩
  refine ⟨by rw [hq], ⟨?_, fresh h.o ho (by rintro j rfl; exact h.wb), h.r.only ho (fun e => (h.wz hz).2.2 e.symm), h.wf, h.wn, h.wb, h.wz, by simp; omega, h.most_, h.zlen⟩, ho⟩
  refine hg.same (by simp) (fun j hj => ?_) rfl
  unfold at'
  by_cases e : j = k
  · subst e
    have hc : cnt (L ++ [⟨1, (j : Int)⟩]) (j : Int) = 0 := by rw [cnt_snoc]; unfold cstep; rw [if_pos rfl, if_pos rfl]
    rw [if_pos rfl, if_pos rfl, hc]
    exact ⟨by omega, by simp⟩
  · have hc : cnt (L ++ [⟨1, (k : Int)⟩]) (j : Int) = cnt L (j : Int) := cnt_other L _ _ (by simp only; omega)
    rw [if_neg e, if_neg e, hc]
    exact ⟨rfl, rfl⟩
end

/-- Is it there for the first time, and known, of those that were looked at? -/
def fresh' (L : List S33) (m : Nat) (q : Int) (j : Nat) : Bool := decide (0 < m) && decide (∀ i, i < j → ∀ a, L[i]? = some a → a.f1 ≠ q)
theorem fresh_zero (L : List S33) (m : Nat) (q : Int) : fresh' L m q 0 = decide (0 < m) := by
  unfold fresh'; rw [decide_eq_true (show ∀ i, i < 0 → ∀ a, L[i]? = some a → a.f1 ≠ q from fun i h => absurd h (by omega)), Bool.and_true]
theorem fresh_next (L : List S33) (m : Nat) (q : Int) (j : Nat) (h : j < L.length) : fresh' L m q (j + 1) = (fresh' L m q j && !decide ((L[j]).f1 = q)) := by
  unfold fresh'
  rw [Bool.and_assoc]
  congr 1
  by_cases hall : ∀ i, i < j → ∀ a, L[i]? = some a → a.f1 ≠ q
  · rw [decide_eq_true hall, Bool.true_and]
    by_cases e : (L[j]).f1 = q
    · rw [decide_eq_true e, decide_eq_false]
      · rfl
      · intro hn; exact hn j (by omega) _ (List.getElem?_eq_getElem h) e
    · rw [decide_eq_false e, decide_eq_true]
      · rfl
      · intro i hi a ha
        by_cases hij : i < j
        · exact hall i hij a ha
        · obtain rfl : i = j := by omega
          rw [List.getElem?_eq_getElem h] at ha
          cases ha; exact e
  · rw [decide_eq_false hall, Bool.false_and, decide_eq_false]
    intro hn; exact hall fun i hi => hn i (by omega)
theorem known_step (L : List S33) (k m : Nat) (q : Int) (h : k < L.length) (hq : (L[k]).f1 = q) (hm : cnt L q = m) : known L (firsts (L.take (k + 1))) = known L (firsts (L.take k)) + if fresh' L m q k then 1 else 0 := by
  subst hq hm; exact known_next L k h
theorem make_gate {w w1 w3 : World} {N B b most : Nat} {Z : List S33} {A : Option Addr} (ho : Only (fun _ => False) w w1) (h1 : w1.heap.size ≤ N) (h2 : w1.heap.size ≤ B) (hg : IsGate2 w3 N B most 0 (fun _ => 0) (fun _ => false) 0) (k : Only (fun _ => False) w1 w3)
    (hw : ∀ a ∈ Z, 0 ≤ a.f1 ∧ a.f1 < 18446744073709551616) (hl : Z.length ≤ 100) (hm : most ≤ 65536) (hb : 0 < Z.length → A = some ⟨b, 0, none⟩ ∧ w.heap.size ≤ b ∧ b < w1.heap.size ∧ True) (hr : Row w1 b (zcells Z)) : Gx w w3 N B b most [] Z := by
  refine ⟨hg.same (Nat.le_refl _) (fun k _ => ⟨by simp [cnt], by simp [cnt]⟩) rfl, ho.trans k, hr.only k id, hw, Nat.le_trans ho.size h1, Nat.le_trans ho.size h2, fun hz => ?_, by simp, hm, hl⟩
  obtain ⟨_, h3, h4, _⟩ := hb hz
  exact ⟨h3, by omega, by omega⟩

set_option maxHeartbeats 8000000 in
set_option maxRecDepth 1000000 in
theorem plays_law (most : Nat) (A0 : Option Addr) (c0 n0 : Nat) (P Q : Nat → Int) (w : World) (hm : most ≤ 65536) (h100 : n0 ≤ 100) (hr0 : Wm.Acts w A0 n0 P Q) (hq0 : ∀ i, i < n0 → 0 ≤ Q i ∧ Q i < 18446744073709551616) :
    Calls Try.prog 4 #[.int .i64 (most : Int), .slice A0 n0 c0] w fun r w' => r = .returned (.bool true) ∧ Below w.heap.size w w' := by
  have HR0 := Aside0.mk hr0
  have HQ0 := Aside0.mk hq0
  clear hr0 hq0
  have h1 : ¬ (n0 : Int) > 100 := by omega
  have h2 : ¬ (most : Int) < 0 := by omega
  have h3 : ¬ (most : Int) > 65536 := by omega
  go_enter Try.func4, Try.ntmps4
  go_wp2_with (first
    | (go_at_call 14; refine (alive_walk _).mono ?_; rintro r w1 ⟨rfl, ho⟩)
    | ((with_reducible refine gate_builtin (b := .append) (xs := #[.tmp 20, .tmp 21]) rfl ?_); at_builtin; refine Kd.R_append_rows k33 (w0 := w) w.heap.size rfl (.tmp 20) (.tmp 21) 31 33 (.agg #[(.int .i64 0), (.int .u64 0)]) 16 rfl Try.underlying31 (by kernel_rfl) rfl (by decide) (by omega) _ [] ((List.range n0).map fun i => ⟨P i, Q i⟩) _ _ _ (fun _ => True) (fun _ => False) rfl rfl (R_empty w1 w.heap.size ho.size) (C_of_acts HR0.out ((ho.alloc _).below (fun _ e => e.elim) (Nat.le_refl _)) (by omega)) K_M33 (fun _ h => h.elim) (fun _ _ => trivial) ((ho.alloc _).below (fun _ e => e.elim) (Nat.le_refl _)) (ho.alloc _).size (by simp; omega) ?_; intro v1 w5 hr hb hg hat))
  have hoo : Only (fun _ => False) w w5 := Only.of_below hb (fun k hk _ => hk)
  obtain ⟨Z, hZ⟩ : ∃ Z : List S33, ((List.range n0).map fun i => (⟨P i, Q i⟩ : S33)) = Z := ⟨_, rfl⟩
  have hZl : Z.length = n0 := by rw [← hZ]; simp
  have hZw : ∀ a ∈ Z, 0 ≤ a.f1 ∧ a.f1 < 18446744073709551616 := by
    intro a ha
    rw [← hZ] at ha
    obtain ⟨i, hi, rfl⟩ := List.mem_map.1 ha
    exact HQ0.out i (List.mem_range.1 hi)
  rw [List.nil_append, hZ] at hr
  obtain ⟨A, b, c, rfl, hc, hb2, hrow⟩ := Row_of_R hr
  rw [hZl] at hc
  have hcI : (n0 : Int) ≤ (c : Int) := by omega
  clear hr hb hg hat ho HR0 HQ0 hZ
  have G0 := Aside0.mk (And.intro hoo (And.intro hb2 (And.intro hrow hZw)))
  clear hoo hb2 hrow hZw
  go_wp2_with (go_at_call 15; refine (new2_walk most _ hm).mono ?_)
  rintro r w6 ⟨N, B, rfl, hN, hB, hN1, hB1, hg, ho⟩
  have G := Aside0.mk (make_gate (A := A) G0.out.1 hN hB hg ho G0.out.2.2.2 (by omega) hm G0.out.2.1 G0.out.2.2.1)
  have hA := Aside0.mk (fun h => (G0.out.2.1 h).1)
  clear G0 hN hB hN1 hB1 hg ho
  rw [hZl] at hA
  try rw [hZl]
  go_wp2
  go_loopg [7] (n0 + 1) (fun kq v7 wr => ∃ (i : Nat) (Z : List S33), v7 = .int .i64 (i : Int) ∧ i ≤ n0 ∧ n0 - i < kq ∧ Z.length = n0 ∧ Aside0 (Gx w wr N B b most (Z.take i) Z))
  case atStart => exact ⟨0, Z, rfl, by omega, by omega, hZl, ⟨by rw [List.take_zero]; exact G.out⟩⟩
  case round =>
    clear G hZl
    clear Z
    obtain ⟨i, Z, rfl, hi, hk, hZl, HG⟩ := hrel
    obtain ⟨k1, rfl⟩ : ∃ m, gk = m + 1 := ⟨gk - 1, by omega⟩
    have hbw := Aside0.mk (HG.out.o.below (fun _ h => h.elim) (Nat.le_refl _))
    by_cases hil : i < n0
    · have hil' : (i : Int) < (n0 : Int) := by omega
      have hi0 : (0 : Int) ≤ (i : Int) := by omega
      obtain rfl := hA.out (by omega)
      obtain ⟨e1, e2⟩ := zcells_at Z i (by omega)
      have d1 := HG.out.r _ _ e1
      have d1a := d1.1
      have d1b := d1.2
      have d2 := (HG.out.r _ _ e2).1
      have hq := HG.out.wf _ (List.getElem_mem (show i < Z.length by omega))
      obtain ⟨kk, hkk, hkb⟩ := and_one (Z[i]'(by omega)).f0
      have HS := Aside0.mk (fun W (h : Gx w W N B b most (Z.take i) Z) => Gx.store h i (show i < Z.length by omega) (kk : Int))
      generalize (Z[i]'(by omega)).f0 = p0 at d1a hkb
      generalize (Z[i]'(by omega)).f1 = q0 at d2 hq HS
      obtain ⟨q, rfl⟩ : ∃ q : Nat, q0 = (q : Int) := ⟨q0.toNat, by omega⟩
      obtain ⟨X, hX⟩ : ∃ X, wr.heap.size = X := ⟨_, rfl⟩
      have hcI2 : (i : Int) ≤ (c : Int) := by omega
      have hbX : b < wr.heap.size := HG.out.r.lt (by rw [zcells_length]; omega)
      have hbX2 : b < X := by omega
      have hXb : b ≠ X := by omega
      have hXb' : X ≠ b := fun e => hXb e.symm
      clear d1 e1 e2
      obtain ⟨Y, hY⟩ : ∃ Y : List S33, Z.set i ⟨(kk : Int), (q : Int)⟩ = Y := ⟨_, rfl⟩
      have hYl : Y.length = n0 := by rw [← hY, List.length_set]; exact hZl
      have hYt : Y.take i = Z.take i := by rw [← hY, List.take_set_of_le (Nat.le_refl _)]
      have hYn : Y.take (i + 1) = Z.take i ++ [⟨(kk : Int), (q : Int)⟩] := by rw [List.take_succ_eq_append_getElem (by omega), hYt]; congr 2; subst hY; simp
      have hNX : N < X ∧ B < X := ⟨by have := HG.out.g.head.lt (by simp); omega, by obtain ⟨n', D', _, ho', _⟩ := HG.out.g.own; have := ho'.lt; omega⟩
      have HW := Aside0.mk (show Gx w ((wr.setCell ⟨b, i * 2, none⟩ (.int .i64 (kk : Int))).alloc (.cells #[.int .i64 (kk : Int), .int .u64 (q : Int)] 33)) N B b most (Y.take i) Y ∧ Row ((wr.setCell ⟨b, i * 2, none⟩ (.int .i64 (kk : Int))).alloc (.cells #[.int .i64 (kk : Int), .int .u64 (q : Int)] 33)) X [.int .i64 (kk : Int), .int .u64 (q : Int)] ∧ B ≠ X from ⟨by
        have := HS.out wr HG.out
        rw [hY] at this
        rw [hYt]
        exact this.keep ((Only.refl _ _).alloc _), by
        have := Row.new (wr.setCell ⟨b, i * 2, none⟩ (.int .i64 (kk : Int))) [.int .i64 (kk : Int), .int .u64 (q : Int)] 33
        rwa [show (wr.setCell ⟨b, i * 2, none⟩ (.int .i64 (kk : Int))).heap.size = X by simp [World.setCell, hX]] at this, by omega⟩)
      replace hYn := Aside0.mk hYn
      replace hYt := Aside0.mk hYt
      clear HS HG hY hNX
      go_wp2
      generalize (wr.setCell ⟨b, i * 2, none⟩ (.int .i64 (kk : Int))).alloc (.cells #[.int .i64 (kk : Int), .int .u64 (q : Int)] 33) = w4 at HW ⊢
      have x0 := (HW.out.2.1 0 _ rfl).1
      have x1 := (HW.out.2.1 1 _ rfl).1
      clear d1a d1b d2 hkb hX hbX
      obtain ⟨n, hn⟩ : ∃ n, cnt (Y.take i) (q : Int) = n := ⟨_, rfl⟩
      replace hn := Aside0.mk hn
      have hqn : q < 18446744073709551616 := by omega
      go_quiet (first | (go_at_call 19; exact gx_asked' HW.out.1 i c _ (q : Int) n (by omega) (by omega) hn.out))
      rcases (show kk = 0 ∨ kk = 1 by omega) with rfl | rfl
      · go_wp2_with (go_at_call 16; refine (gx_pass (HW.out.1.drewN _) q n hqn hn.out (by omega) (by rw [List.length_take]; omega)).mono ?_; rintro r w7 ⟨rfl, H7, ho7⟩; have x0 := ((HW.out.2.1.drewN _).only ho7 (fun e => HW.out.2.2 e.symm) 0 _ rfl).1; replace H7 := Aside0.mk (show Gx w w7 N B b most (Y.take (i + 1)) Y ∧ True from ⟨by rw [hYn.out, ← hYt.out]; exact H7, trivial⟩); clear ho7 HW)
        obtain ⟨L, hL⟩ : ∃ L, Y.take (i + 1) = L := ⟨_, rfl⟩
        have hLl : L.length = i + 1 := by rw [← hL, List.length_take]; omega
        replace hL := Aside0.mk hL
        have H := Aside0.mk (hL.out ▸ H7.out.1 : Gx w _ N B b most L Y)
        clear H7
        go_wp2
        go_loopg [10, 11] (i + 2) (fun kq v10 v11 wq => ∃ (k s : Nat), v10 = .int .i64 (s : Int) ∧ v11 = .int .i64 (k : Int) ∧ k ≤ i + 1 ∧ s ≤ k ∧ i + 1 - k < kq ∧ Aside0 (known L (firsts (L.take k)) = s) ∧ Aside0 (Gx w wq N B b most L Y))
        case atStart => exact ⟨0, 0, rfl, rfl, by omega, by omega, by omega, ⟨by simp [known, firsts]⟩, H⟩
        case round =>
          clear H
          obtain ⟨k, s, rfl, rfl, hki, hsk, hk2, hkn, H⟩ := hrel
          obtain ⟨k2, rfl⟩ : ∃ z, gk = z + 1 := ⟨gk - 1, by omega⟩
          by_cases hkk2 : k ≤ i
          · have hkI : (k : Int) ≤ (i : Int) := by omega
            have hkn0 : (k : Int) < (n0 : Int) := by omega
            have hk0 : (0 : Int) ≤ (k : Int) := by omega
            have hYk : k < Y.length := by omega
            obtain ⟨_, f2⟩ := zcells_at Y k hYk
            have f2 := (H.out.r _ _ f2).1
            have hqk := H.out.wf _ (List.getElem_mem hYk)
            have hLk := Aside0.mk (show ∃ h : k < L.length, (L[k]).f1 = (Y[k]).f1 from ⟨by omega, by have e := hL.out; subst e; rw [List.getElem_take]⟩)
            generalize (Y[k]).f1 = qk at f2 hqk hLk
            obtain ⟨qk, rfl⟩ : ∃ q : Nat, qk = (q : Int) := ⟨qk.toNat, by omega⟩
            obtain ⟨m, hm⟩ : ∃ m, cnt (Y.take (i + 1)) (qk : Int) = m := ⟨_, rfl⟩
            replace hm := Aside0.mk hm
            have hmL := Aside0.mk (show cnt L (qk : Int) = m by rw [← hL.out]; exact hm.out)
            have hmb : m ≤ i + 1 := by rw [← hmL.out]; have := cnt_le L (qk : Int); omega
            have hqn : qk < 18446744073709551616 := by omega
            have hcI3 : (i : Int) + 1 ≤ (c : Int) := by omega
            go_wp2
            go_quiet (first | (go_at_call 19; exact gx_asked' H.out (i + 1) c _ (qk : Int) m (by omega) (by omega) hm.out))
            by_cases hmm : most < m
            · have hmmI : (most : Int) < (m : Int) := by omega
              have hpz := Aside0.mk (show ((min (cnt L (qk : Int)) most : Nat) : Int) = (most : Int) by rw [hmL.out]; omega)
              go_wp2_with (go_at_call 17; refine (gx_passed (H.out.drewN _) qk (most : Int) hqn hpz.out).mono ?_; rintro r w8 ⟨rfl, rfl⟩)
              go_loopg [13, 14] (k + 1) (fun kq v13 v14 wq => ∃ (j : Nat), v13 = .bool (fresh' L m (qk : Int) j) ∧ v14 = .int .i64 (j : Int) ∧ j ≤ k ∧ k - j < kq ∧ Aside0 (Gx w wq N B b most L Y))
              case atStart => exact ⟨0, by rw [fresh_zero], rfl, by omega, by omega, ⟨H.out.drewN _⟩⟩
              case round =>
                clear H hpz
                obtain ⟨j, rfl, rfl, hjk, hk3, H⟩ := hrel
                obtain ⟨k3, rfl⟩ : ∃ z, gk = z + 1 := ⟨gk - 1, by omega⟩
                by_cases hjk2 : j < k
                · have hjI : (j : Int) < (k : Int) := by omega
                  have hj0 : (0 : Int) ≤ (j : Int) := by omega
                  have hjn : (j : Int) < (n0 : Int) := by omega
                  have hYj : j < Y.length := by omega
                  have g2 := (H.out.r _ _ (zcells_at Y j hYj).2).1
                  have f2 : wr.cell? ⟨b, k * 2 + 1, none⟩ = some (.int .u64 (qk : Int)) := by
                    obtain ⟨h1, h2⟩ := hLk.out
                    have := (H.out.r _ _ (zcells_at Y k hYk).2).1
                    rw [this, ← h2]; have e := hL.out; subst e; rw [List.getElem_take]
                  have hfn := Aside0.mk (fresh_next L m (qk : Int) j (by omega))
                  have hLj := Aside0.mk (show (L[j]'(by omega)).f1 = (Y[j]).f1 by have e := hL.out; subst e; rw [List.getElem_take])
                  replace hfn := Aside0.mk (hLj.out ▸ hfn.out)
                  clear hLj
                  generalize (Y[j]).f1 = qj at g2 hfn
                  generalize fresh' L m (qk : Int) j = fj at hfn
                  cases fj with
                  | true =>
                    by_cases hqq : qj = (qk : Int)
                    · go_wp2
                      go_quiet (fail)
                      go_wp2
                      go_roundg k3
                      case measure => omega
                      case rel => exact ⟨j + 1, by rw [hfn.out, decide_eq_true hqq]; rfl, rfl, by omega, by omega, ⟨H.out.drewN _⟩⟩
                    · go_wp2
                      go_quiet (fail)
                      go_wp2
                      go_roundg k3
                      case measure => omega
                      case rel => exact ⟨j + 1, by rw [hfn.out, decide_eq_false hqq]; first | rfl | simp [hqq], rfl, by omega, by omega, ⟨H.out.drewN _⟩⟩
                  | false =>
                    go_wp2
                    go_quiet (fail)
                    go_wp2
                    go_roundg k3
                    case measure => omega
                    case rel => exact ⟨j + 1, by rw [hfn.out]; rfl, rfl, by omega, by omega, ⟨H.out.drewN _⟩⟩
                · obtain rfl : j = k := by omega
                  have hst := Aside0.mk (show known L (firsts (L.take (j + 1))) = s + if fresh' L m (qk : Int) j then 1 else 0 by
                    obtain ⟨h1, h2⟩ := hLk.out
                    rw [known_step L j m (qk : Int) h1 h2 hmL.out, hkn.out])
                  generalize fresh' L m (qk : Int) j = fj at hst
                  cases fj with
                  | true =>
                    go_wp2
                    go_roundg k2
                    case measure => omega
                    case rel => exact ⟨j + 1, s + 1, rfl, rfl, by omega, by omega, by omega, ⟨hst.out⟩, H⟩
                  | false =>
                    go_wp2
                    go_roundg k2
                    case measure => omega
                    case rel => exact ⟨j + 1, s, rfl, rfl, by omega, by omega, by omega, ⟨hst.out⟩, H⟩
            · have hmmI : ¬ (most : Int) < (m : Int) := by omega
              have hpz := Aside0.mk (show ((min (cnt L (qk : Int)) most : Nat) : Int) = (m : Int) by rw [hmL.out]; omega)
              go_wp2_with (go_at_call 17; refine (gx_passed (H.out.drewN _) qk (m : Int) hqn hpz.out).mono ?_; rintro r w8 ⟨rfl, rfl⟩)
              go_loopg [13, 14] (k + 1) (fun kq v13 v14 wq => ∃ (j : Nat), v13 = .bool (fresh' L m (qk : Int) j) ∧ v14 = .int .i64 (j : Int) ∧ j ≤ k ∧ k - j < kq ∧ Aside0 (Gx w wq N B b most L Y))
              case atStart => exact ⟨0, by rw [fresh_zero], rfl, by omega, by omega, ⟨H.out.drewN _⟩⟩
              case round =>
                clear H hpz
                obtain ⟨j, rfl, rfl, hjk, hk3, H⟩ := hrel
                obtain ⟨k3, rfl⟩ : ∃ z, gk = z + 1 := ⟨gk - 1, by omega⟩
                by_cases hjk2 : j < k
                · have hjI : (j : Int) < (k : Int) := by omega
                  have hj0 : (0 : Int) ≤ (j : Int) := by omega
                  have hjn : (j : Int) < (n0 : Int) := by omega
                  have hYj : j < Y.length := by omega
                  have g2 := (H.out.r _ _ (zcells_at Y j hYj).2).1
                  have f2 : wr.cell? ⟨b, k * 2 + 1, none⟩ = some (.int .u64 (qk : Int)) := by
                    obtain ⟨h1, h2⟩ := hLk.out
                    have := (H.out.r _ _ (zcells_at Y k hYk).2).1
                    rw [this, ← h2]; have e := hL.out; subst e; rw [List.getElem_take]
                  have hfn := Aside0.mk (fresh_next L m (qk : Int) j (by omega))
                  have hLj := Aside0.mk (show (L[j]'(by omega)).f1 = (Y[j]).f1 by have e := hL.out; subst e; rw [List.getElem_take])
                  replace hfn := Aside0.mk (hLj.out ▸ hfn.out)
                  clear hLj
                  generalize (Y[j]).f1 = qj at g2 hfn
                  generalize fresh' L m (qk : Int) j = fj at hfn
                  cases fj with
                  | true =>
                    by_cases hqq : qj = (qk : Int)
                    · go_wp2
                      go_quiet (fail)
                      go_wp2
                      go_roundg k3
                      case measure => omega
                      case rel => exact ⟨j + 1, by rw [hfn.out, decide_eq_true hqq]; rfl, rfl, by omega, by omega, ⟨H.out.drewN _⟩⟩
                    · go_wp2
                      go_quiet (fail)
                      go_wp2
                      go_roundg k3
                      case measure => omega
                      case rel => exact ⟨j + 1, by rw [hfn.out, decide_eq_false hqq]; first | rfl | simp [hqq], rfl, by omega, by omega, ⟨H.out.drewN _⟩⟩
                  | false =>
                    go_wp2
                    go_quiet (fail)
                    go_wp2
                    go_roundg k3
                    case measure => omega
                    case rel => exact ⟨j + 1, by rw [hfn.out]; rfl, rfl, by omega, by omega, ⟨H.out.drewN _⟩⟩
                · obtain rfl : j = k := by omega
                  have hst := Aside0.mk (show known L (firsts (L.take (j + 1))) = s + if fresh' L m (qk : Int) j then 1 else 0 by
                    obtain ⟨h1, h2⟩ := hLk.out
                    rw [known_step L j m (qk : Int) h1 h2 hmL.out, hkn.out])
                  generalize fresh' L m (qk : Int) j = fj at hst
                  cases fj with
                  | true =>
                    go_wp2
                    go_roundg k2
                    case measure => omega
                    case rel => exact ⟨j + 1, s + 1, rfl, rfl, by omega, by omega, by omega, ⟨hst.out⟩, H⟩
                  | false =>
                    go_wp2
                    go_roundg k2
                    case measure => omega
                    case rel => exact ⟨j + 1, s, rfl, rfl, by omega, by omega, by omega, ⟨hst.out⟩, H⟩
          · obtain rfl : k = i + 1 := by omega
            have hfin := Aside0.mk (show known L (firsts L) = s by have := hkn.out; rwa [List.take_of_length_le (by omega)] at this)
            go_wp2_with (go_at_call 20; refine (gx_len H.out s hfin.out).mono ?_; rintro r w8 ⟨rfl, rfl⟩)
            go_roundg k1
            case measure => omega
            case rel => exact ⟨i + 1, Y, rfl, by omega, by omega, hYl, ⟨hL.out ▸ H.out⟩⟩
      · go_wp2_with (go_at_call 18; refine (gx_forget (HW.out.1.drewN _) q n hqn hn.out (by omega) (by rw [List.length_take]; omega)).mono ?_; rintro r w7 ⟨rfl, H7, ho7⟩; have x0 := ((HW.out.2.1.drewN _).only ho7 (fun e => HW.out.2.2 e.symm) 0 _ rfl).1; replace H7 := Aside0.mk (show Gx w w7 N B b most (Y.take (i + 1)) Y ∧ True from ⟨by rw [hYn.out, ← hYt.out]; exact H7, trivial⟩); clear ho7 HW)
        obtain ⟨L, hL⟩ : ∃ L, Y.take (i + 1) = L := ⟨_, rfl⟩
        have hLl : L.length = i + 1 := by rw [← hL, List.length_take]; omega
        replace hL := Aside0.mk hL
        have H := Aside0.mk (hL.out ▸ H7.out.1 : Gx w _ N B b most L Y)
        clear H7
        go_wp2
        go_loopg [10, 11] (i + 2) (fun kq v10 v11 wq => ∃ (k s : Nat), v10 = .int .i64 (s : Int) ∧ v11 = .int .i64 (k : Int) ∧ k ≤ i + 1 ∧ s ≤ k ∧ i + 1 - k < kq ∧ Aside0 (known L (firsts (L.take k)) = s) ∧ Aside0 (Gx w wq N B b most L Y))
        case atStart => exact ⟨0, 0, rfl, rfl, by omega, by omega, by omega, ⟨by simp [known, firsts]⟩, H⟩
        case round =>
          clear H
          obtain ⟨k, s, rfl, rfl, hki, hsk, hk2, hkn, H⟩ := hrel
          obtain ⟨k2, rfl⟩ : ∃ z, gk = z + 1 := ⟨gk - 1, by omega⟩
          by_cases hkk2 : k ≤ i
          · have hkI : (k : Int) ≤ (i : Int) := by omega
            have hkn0 : (k : Int) < (n0 : Int) := by omega
            have hk0 : (0 : Int) ≤ (k : Int) := by omega
            have hYk : k < Y.length := by omega
            obtain ⟨_, f2⟩ := zcells_at Y k hYk
            have f2 := (H.out.r _ _ f2).1
            have hqk := H.out.wf _ (List.getElem_mem hYk)
            have hLk := Aside0.mk (show ∃ h : k < L.length, (L[k]).f1 = (Y[k]).f1 from ⟨by omega, by have e := hL.out; subst e; rw [List.getElem_take]⟩)
            generalize (Y[k]).f1 = qk at f2 hqk hLk
            obtain ⟨qk, rfl⟩ : ∃ q : Nat, qk = (q : Int) := ⟨qk.toNat, by omega⟩
            obtain ⟨m, hm⟩ : ∃ m, cnt (Y.take (i + 1)) (qk : Int) = m := ⟨_, rfl⟩
            replace hm := Aside0.mk hm
            have hmL := Aside0.mk (show cnt L (qk : Int) = m by rw [← hL.out]; exact hm.out)
            have hmb : m ≤ i + 1 := by rw [← hmL.out]; have := cnt_le L (qk : Int); omega
            have hqn : qk < 18446744073709551616 := by omega
            have hcI3 : (i : Int) + 1 ≤ (c : Int) := by omega
            go_wp2
            go_quiet (first | (go_at_call 19; exact gx_asked' H.out (i + 1) c _ (qk : Int) m (by omega) (by omega) hm.out))
            by_cases hmm : most < m
            · have hmmI : (most : Int) < (m : Int) := by omega
              have hpz := Aside0.mk (show ((min (cnt L (qk : Int)) most : Nat) : Int) = (most : Int) by rw [hmL.out]; omega)
              go_wp2_with (go_at_call 17; refine (gx_passed (H.out.drewN _) qk (most : Int) hqn hpz.out).mono ?_; rintro r w8 ⟨rfl, rfl⟩)
              go_loopg [13, 14] (k + 1) (fun kq v13 v14 wq => ∃ (j : Nat), v13 = .bool (fresh' L m (qk : Int) j) ∧ v14 = .int .i64 (j : Int) ∧ j ≤ k ∧ k - j < kq ∧ Aside0 (Gx w wq N B b most L Y))
              case atStart => exact ⟨0, by rw [fresh_zero], rfl, by omega, by omega, ⟨H.out.drewN _⟩⟩
              case round =>
                clear H hpz
                obtain ⟨j, rfl, rfl, hjk, hk3, H⟩ := hrel
                obtain ⟨k3, rfl⟩ : ∃ z, gk = z + 1 := ⟨gk - 1, by omega⟩
                by_cases hjk2 : j < k
                · have hjI : (j : Int) < (k : Int) := by omega
                  have hj0 : (0 : Int) ≤ (j : Int) := by omega
                  have hjn : (j : Int) < (n0 : Int) := by omega
                  have hYj : j < Y.length := by omega
                  have g2 := (H.out.r _ _ (zcells_at Y j hYj).2).1
                  have f2 : wr.cell? ⟨b, k * 2 + 1, none⟩ = some (.int .u64 (qk : Int)) := by
                    obtain ⟨h1, h2⟩ := hLk.out
                    have := (H.out.r _ _ (zcells_at Y k hYk).2).1
                    rw [this, ← h2]; have e := hL.out; subst e; rw [List.getElem_take]
                  have hfn := Aside0.mk (fresh_next L m (qk : Int) j (by omega))
                  have hLj := Aside0.mk (show (L[j]'(by omega)).f1 = (Y[j]).f1 by have e := hL.out; subst e; rw [List.getElem_take])
                  replace hfn := Aside0.mk (hLj.out ▸ hfn.out)
                  clear hLj
                  generalize (Y[j]).f1 = qj at g2 hfn
                  generalize fresh' L m (qk : Int) j = fj at hfn
                  cases fj with
                  | true =>
                    by_cases hqq : qj = (qk : Int)
                    · go_wp2
                      go_quiet (fail)
                      go_wp2
                      go_roundg k3
                      case measure => omega
                      case rel => exact ⟨j + 1, by rw [hfn.out, decide_eq_true hqq]; rfl, rfl, by omega, by omega, ⟨H.out.drewN _⟩⟩
                    · go_wp2
                      go_quiet (fail)
                      go_wp2
                      go_roundg k3
                      case measure => omega
                      case rel => exact ⟨j + 1, by rw [hfn.out, decide_eq_false hqq]; first | rfl | simp [hqq], rfl, by omega, by omega, ⟨H.out.drewN _⟩⟩
                  | false =>
                    go_wp2
                    go_quiet (fail)
                    go_wp2
                    go_roundg k3
                    case measure => omega
                    case rel => exact ⟨j + 1, by rw [hfn.out]; rfl, rfl, by omega, by omega, ⟨H.out.drewN _⟩⟩
                · obtain rfl : j = k := by omega
                  have hst := Aside0.mk (show known L (firsts (L.take (j + 1))) = s + if fresh' L m (qk : Int) j then 1 else 0 by
                    obtain ⟨h1, h2⟩ := hLk.out
                    rw [known_step L j m (qk : Int) h1 h2 hmL.out, hkn.out])
                  generalize fresh' L m (qk : Int) j = fj at hst
                  cases fj with
                  | true =>
                    go_wp2
                    go_roundg k2
                    case measure => omega
                    case rel => exact ⟨j + 1, s + 1, rfl, rfl, by omega, by omega, by omega, ⟨hst.out⟩, H⟩
                  | false =>
                    go_wp2
                    go_roundg k2
                    case measure => omega
                    case rel => exact ⟨j + 1, s, rfl, rfl, by omega, by omega, by omega, ⟨hst.out⟩, H⟩
            · have hmmI : ¬ (most : Int) < (m : Int) := by omega
              have hpz := Aside0.mk (show ((min (cnt L (qk : Int)) most : Nat) : Int) = (m : Int) by rw [hmL.out]; omega)
              go_wp2_with (go_at_call 17; refine (gx_passed (H.out.drewN _) qk (m : Int) hqn hpz.out).mono ?_; rintro r w8 ⟨rfl, rfl⟩)
              go_loopg [13, 14] (k + 1) (fun kq v13 v14 wq => ∃ (j : Nat), v13 = .bool (fresh' L m (qk : Int) j) ∧ v14 = .int .i64 (j : Int) ∧ j ≤ k ∧ k - j < kq ∧ Aside0 (Gx w wq N B b most L Y))
              case atStart => exact ⟨0, by rw [fresh_zero], rfl, by omega, by omega, ⟨H.out.drewN _⟩⟩
              case round =>
                clear H hpz
                obtain ⟨j, rfl, rfl, hjk, hk3, H⟩ := hrel
                obtain ⟨k3, rfl⟩ : ∃ z, gk = z + 1 := ⟨gk - 1, by omega⟩
                by_cases hjk2 : j < k
                · have hjI : (j : Int) < (k : Int) := by omega
                  have hj0 : (0 : Int) ≤ (j : Int) := by omega
                  have hjn : (j : Int) < (n0 : Int) := by omega
                  have hYj : j < Y.length := by omega
                  have g2 := (H.out.r _ _ (zcells_at Y j hYj).2).1
                  have f2 : wr.cell? ⟨b, k * 2 + 1, none⟩ = some (.int .u64 (qk : Int)) := by
                    obtain ⟨h1, h2⟩ := hLk.out
                    have := (H.out.r _ _ (zcells_at Y k hYk).2).1
                    rw [this, ← h2]; have e := hL.out; subst e; rw [List.getElem_take]
                  have hfn := Aside0.mk (fresh_next L m (qk : Int) j (by omega))
                  have hLj := Aside0.mk (show (L[j]'(by omega)).f1 = (Y[j]).f1 by have e := hL.out; subst e; rw [List.getElem_take])
                  replace hfn := Aside0.mk (hLj.out ▸ hfn.out)
                  clear hLj
                  generalize (Y[j]).f1 = qj at g2 hfn
                  generalize fresh' L m (qk : Int) j = fj at hfn
                  cases fj with
                  | true =>
                    by_cases hqq : qj = (qk : Int)
                    · go_wp2
                      go_quiet (fail)
                      go_wp2
                      go_roundg k3
                      case measure => omega
                      case rel => exact ⟨j + 1, by rw [hfn.out, decide_eq_true hqq]; rfl, rfl, by omega, by omega, ⟨H.out.drewN _⟩⟩
                    · go_wp2
                      go_quiet (fail)
                      go_wp2
                      go_roundg k3
                      case measure => omega
                      case rel => exact ⟨j + 1, by rw [hfn.out, decide_eq_false hqq]; first | rfl | simp [hqq], rfl, by omega, by omega, ⟨H.out.drewN _⟩⟩
                  | false =>
                    go_wp2
                    go_quiet (fail)
                    go_wp2
                    go_roundg k3
                    case measure => omega
                    case rel => exact ⟨j + 1, by rw [hfn.out]; rfl, rfl, by omega, by omega, ⟨H.out.drewN _⟩⟩
                · obtain rfl : j = k := by omega
                  have hst := Aside0.mk (show known L (firsts (L.take (j + 1))) = s + if fresh' L m (qk : Int) j then 1 else 0 by
                    obtain ⟨h1, h2⟩ := hLk.out
                    rw [known_step L j m (qk : Int) h1 h2 hmL.out, hkn.out])
                  generalize fresh' L m (qk : Int) j = fj at hst
                  cases fj with
                  | true =>
                    go_wp2
                    go_roundg k2
                    case measure => omega
                    case rel => exact ⟨j + 1, s + 1, rfl, rfl, by omega, by omega, by omega, ⟨hst.out⟩, H⟩
                  | false =>
                    go_wp2
                    go_roundg k2
                    case measure => omega
                    case rel => exact ⟨j + 1, s, rfl, rfl, by omega, by omega, by omega, ⟨hst.out⟩, H⟩
          · obtain rfl : k = i + 1 := by omega
            have hfin := Aside0.mk (show known L (firsts L) = s by have := hkn.out; rwa [List.take_of_length_le (by omega)] at this)
            go_wp2_with (go_at_call 20; refine (gx_len H.out s hfin.out).mono ?_; rintro r w8 ⟨rfl, rfl⟩)
            go_roundg k1
            case measure => omega
            case rel => exact ⟨i + 1, Y, rfl, by omega, by omega, hYl, ⟨hL.out ▸ H.out⟩⟩
    · go_wp2
      go_ret
      exact ⟨rfl, hbw.out⟩

theorem plays_far (most : Int) (A0 : Option Addr) (c0 n0 : Nat) (w : World) (h100 : 100 < n0) :
    Calls Try.prog 4 #[.int .i64 most, .slice A0 n0 c0] w fun r w' => r = .returned (.bool true) ∧ Below w.heap.size w w' := by
  have h1 : (n0 : Int) > 100 := by omega
  go_enter Try.func4, Try.ntmps4
  go_wp2_with (go_at_call 14; refine (alive_walk _).mono ?_; rintro r w1 ⟨rfl, ho⟩)
  go_ret
  exact ⟨rfl, ho.below (fun _ h => h.elim) (Nat.le_refl _)⟩
set_option maxHeartbeats 8000000 in
set_option maxRecDepth 1000000 in
theorem plays_bad (most : Int) (A0 : Option Addr) (c0 n0 : Nat) (P Q : Nat → Int) (w : World) (hm : most < 0 ∨ 65536 < most) (h100 : n0 ≤ 100) (hr0 : Wm.Acts w A0 n0 P Q) :
    Calls Try.prog 4 #[.int .i64 most, .slice A0 n0 c0] w fun r w' => r = .returned (.bool true) ∧ Below w.heap.size w w' := by
  have HR0 := Aside0.mk hr0
  have HM := Aside0.mk hm
  clear hr0
  have h1 : ¬ (n0 : Int) > 100 := by omega
  by_cases h2 : most < 0
  · clear hm
    go_enter Try.func4, Try.ntmps4
    go_wp2_with (first
      | (go_at_call 14; refine (alive_walk _).mono ?_; rintro r w1 ⟨rfl, ho⟩)
      | ((with_reducible refine gate_builtin (b := .append) (xs := #[.tmp 20, .tmp 21]) rfl ?_); at_builtin; refine Kd.R_append_rows k33 (w0 := w) w.heap.size rfl (.tmp 20) (.tmp 21) 31 33 (.agg #[(.int .i64 0), (.int .u64 0)]) 16 rfl Try.underlying31 (by kernel_rfl) rfl (by decide) (by omega) _ [] ((List.range n0).map fun i => ⟨P i, Q i⟩) _ _ _ (fun _ => True) (fun _ => False) rfl rfl (R_empty w1 w.heap.size ho.size) (C_of_acts HR0.out ((ho.alloc _).below (fun _ e => e.elim) (Nat.le_refl _)) (by omega)) K_M33 (fun _ h => h.elim) (fun _ _ => trivial) ((ho.alloc _).below (fun _ e => e.elim) (Nat.le_refl _)) (ho.alloc _).size (by simp; omega) ?_; intro v1 w5 hr hb hg hat; replace hb := Aside0.mk hb)
      | (go_at_call 15; refine (new_bad most _ HM.out).mono ?_; rintro r w6 ⟨rfl, rfl⟩))
    go_ret
    exact ⟨by first | rfl | simp, hb.out⟩
  · have h3 : most > 65536 := by omega
    clear hm
    go_enter Try.func4, Try.ntmps4
    go_wp2_with (first
      | (go_at_call 14; refine (alive_walk _).mono ?_; rintro r w1 ⟨rfl, ho⟩)
      | ((with_reducible refine gate_builtin (b := .append) (xs := #[.tmp 20, .tmp 21]) rfl ?_); at_builtin; refine Kd.R_append_rows k33 (w0 := w) w.heap.size rfl (.tmp 20) (.tmp 21) 31 33 (.agg #[(.int .i64 0), (.int .u64 0)]) 16 rfl Try.underlying31 (by kernel_rfl) rfl (by decide) (by omega) _ [] ((List.range n0).map fun i => ⟨P i, Q i⟩) _ _ _ (fun _ => True) (fun _ => False) rfl rfl (R_empty w1 w.heap.size ho.size) (C_of_acts HR0.out ((ho.alloc _).below (fun _ e => e.elim) (Nat.le_refl _)) (by omega)) K_M33 (fun _ h => h.elim) (fun _ _ => trivial) ((ho.alloc _).below (fun _ e => e.elim) (Nat.le_refl _)) (ho.alloc _).size (by simp; omega) ?_; intro v1 w5 hr hb hg hat; replace hb := Aside0.mk hb)
      | (go_at_call 15; refine (new_bad most _ HM.out).mono ?_; rintro r w6 ⟨rfl, rfl⟩))
    go_ret
    exact ⟨by first | rfl | simp, hb.out⟩
end Go.Proofs.Ytgpkihnihmbomaa.Ra
