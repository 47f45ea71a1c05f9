/- A watch, more: New, Events, what no watch answers, the example. No conditions but bounds. -/
import Derived.Test.YtfgpcoocbblkiaaAt
namespace Go.Proofs.Ytfgpcoocbblkiaa.At
open Go.RowKit Go.Proofs.YtfgpcoocbblkiaaW.PrintWords Go.Proofs.YtfgpcoocbblkiaaW.PrintLast
open Go.Proofs.Ytfgpcoocbblkiaa.Ob Go.Proofs.Ytfgpcoocbblkiaa.XAl
set_option linter.unusedSimpArgs false
set_option linter.unusedVariables false

/-- What Events hands back. -/
def Told (w w' : World) (l : List S78) (r : Ending) : Prop := ∃ A n c, r = .returned (.slice A n c) ∧ n = l.length ∧ Kd.C k78 w' A n l ∧ Only (fun _ => False) w w'
set_option maxHeartbeats 4000000 in
set_option maxRecDepth 1000000 in
theorem events_walk (base N : Nat) (b : Option Nat) (nm : ByteArray) (g : Wt) (w : World) (hg : IsW w base N b nm g) (hl : g.ev.length ≤ 1000000) :
    Calls Try.prog 34 #[.pointer (some ⟨N, 0, none⟩)] w fun r w' => Told w w' g.ev r := by
  obtain ⟨v, hr, he, _⟩ := hg.ev
  obtain ⟨A, c, rfl, hc, hC⟩ := Kd.R_reads he
  have c6 := (hr 6 _ rfl).1
  have hf : alert_Event.f g.ev = some g.ev := by
    unfold alert_Event.f
    rw [Option.bind_some, if_pos (by simp; omega), List.nil_append]
  go_enter Try.func34, Try.ntmps34
  go_wp2_with (go_at_call 54; refine (alert_Event.calls A c g.ev g.ev _ hC hc hf).mono ?_; rintro r w' ⟨v1, rfl, hR, hB⟩; obtain ⟨A1, c1, rfl, hc1, hC1⟩ := Kd.R_reads hR; have F := Aside0.mk (And.intro hC1 (Only.of_below (S := fun _ => False) hB (fun k hk _ => hk))); clear hR hC1 hB)
  go_ret
  exact ⟨A1, _, c1, rfl, rfl, F.out.1, F.out.2⟩
theorem events_nil (w : World) : Calls Try.prog 34 #[.pointer none] w fun r w' => r = .returned (.slice none 0 0) ∧ w' = w := by
  go_enter Try.func34, Try.ntmps34
  go_wp2
  go_ret
  exact ⟨rfl, rfl⟩
set_option maxHeartbeats 4000000 in
set_option maxRecDepth 1000000 in
theorem see_nil (window : Int) (A B C : Option Addr) (n1 c1 n2 c2 n3 c3 : Nat) (b1 b2 b3 b4 : Bool) (sp fa : Int) (su : Int) (w : World) :
    Calls Try.prog 32 #[.pointer none, .int .u64 window, .agg #[.slice A n1 c1, .bool b1, .int .u64 sp, .bool b2, .int .u64 fa, .bool b3, .int .u64 su, .bool b4, .slice B n2 c2, .slice C n3 c3]] w fun r w' => r = .returned (.tuple #[.int .i64 0, .int .i64 3]) ∧ Only (fun _ => False) w w' := by
  have hx := Aside0.mk ((Only.refl (fun _ => False) w).alloc (.cells #[.slice A n1 c1, .bool b1, .int .u64 sp, .bool b2, .int .u64 fa, .bool b3, .int .u64 su, .bool b4, .slice B n2 c2, .slice C n3 c3] 73))
  go_enter Try.func32, Try.ntmps32
  go_wp2
  go_ret2
  exact ⟨rfl, hx.out⟩
set_option maxHeartbeats 4000000 in
set_option maxRecDepth 1000000 in
theorem new_none (nm : ByteArray) (w : World) : Calls Try.prog 31 #[.agg #[.string nm, .int .i64 0, .int .i64 0, .int .i64 0]] w fun r w' => r = .returned (.tuple #[.pointer none, .int .i64 1]) ∧ Only (fun _ => False) w w' := by
  have hx := Aside0.mk ((Only.refl (fun _ => False) w).alloc (.cells #[.string nm, .int .i64 0, .int .i64 0, .int .i64 0] 64))
  go_enter Try.func31, Try.ntmps31
  go_wp2
  go_ret2
  exact ⟨rfl, hx.out⟩
/-- A watch was made. -/
def Made (w w' : World) (base : Nat) (nm : ByteArray) (g : Wt) (r : Ending) : Prop := ∃ N, r = .returned (.tuple #[.pointer (some ⟨N, 0, none⟩), .int .i64 0]) ∧ w.heap.size ≤ N ∧ IsW w' base N none nm g ∧ Only (fun _ => False) w w'
set_option maxHeartbeats 4000000 in
set_option maxRecDepth 1000000 in
theorem new_walk (base : Nat) (nm : ByteArray) (lim fo ca : Nat) (w : World) (h1 : lim ≤ 1000) (h2 : 1 ≤ fo ∧ fo ≤ 1000) (h3 : 1 ≤ ca ∧ ca ≤ 1000) (hb : base ≤ w.heap.size) :
    Calls Try.prog 31 #[.agg #[.string nm, .int .i64 (lim : Int), .int .i64 (fo : Int), .int .i64 (ca : Int)]] w fun r w' => Made w w' base nm ⟨lim, fo, ca, 0, 0, []⟩ r := by
  have g1 : ¬ (lim : Int) > 1000 := by omega
  have g2 : ¬ (fo : Int) < 1 := by omega
  have g3 : ¬ (fo : Int) > 1000 := by omega
  have g4 : ¬ (ca : Int) < 1 := by omega
  have g5 : ¬ (ca : Int) > 1000 := by omega
  have hx := Aside0.mk ((Only.refl (fun _ => False) w).alloc (.cells #[.string nm, .int .i64 (lim : Int), .int .i64 (fo : Int), .int .i64 (ca : Int)] 64))
  have hsz : (w.alloc (.cells #[.string nm, .int .i64 (lim : Int), .int .i64 (fo : Int), .int .i64 (ca : Int)] 64)).heap.size = w.heap.size + 1 := by show (w.heap.push _).size = _; simp
  have R := Aside0.mk (Row.new (w.alloc (.cells #[.string nm, .int .i64 (lim : Int), .int .i64 (fo : Int), .int .i64 (ca : Int)] 64)) [.string nm, .int .i64 (lim : Int), .int .i64 (fo : Int), .int .i64 (ca : Int), .int .i64 0, .int .i64 0, .slice none 0 0] 124)
  go_enter Try.func31, Try.ntmps31
  go_wp2
  go_ret2
  have R' := R.out
  rw [hsz] at R'
  exact ⟨w.heap.size + 1, rfl, by omega, ⟨⟨.slice none 0 0, by simpa using R', Kd.R_nil _ _ _ _ _, rfl⟩, by omega⟩, hx.out.alloc _⟩
/-- Two watches share nothing. -/
def Apart (N1 : Nat) (b1 : Option Nat) (N2 : Nat) (b2 : Option Nat) : Prop := N1 ≠ N2 ∧ (∀ k, b1 = some k → k ≠ N2) ∧ (∀ k, b2 = some k → k ≠ N1) ∧ (∀ k, b1 = some k → b2 ≠ some k)
theorem Apart.symm {N1 N2 : Nat} {b1 b2 : Option Nat} (h : Apart N1 b1 N2 b2) : Apart N2 b2 N1 b1 := ⟨fun e => h.1 e.symm, h.2.2.1, h.2.1, fun k e1 e2 => h.2.2.2 k e2 e1⟩
theorem IsW.beside {w w' : World} {base N1 N2 : Nat} {b1 b2 : Option Nat} {nm2 : ByteArray} {g2 : Wt} (h : IsW w base N2 b2 nm2 g2) (hp : Apart N1 b1 N2 b2) (k : Only (fun k => k = N1 ∨ some k = b1) w w') : IsW w' base N2 b2 nm2 g2 :=
  h.only k (fun e => by rcases e with e | e; exact hp.1 e.symm; exact hp.2.1 _ e.symm rfl) (fun j hj e => by rcases e with e | e; exact hp.2.2.1 j hj e; exact hp.2.2.2 j e.symm hj)
theorem Apart.next {w : World} {base N1 N2 : Nat} {b1 b1' b2 : Option Nat} {nm2 : ByteArray} {g2 : Wt} (h : IsW w base N2 b2 nm2 g2) (hp : Apart N1 b1 N2 b2) (hb : b1' = b1 ∨ ∃ k, b1' = some k ∧ w.heap.size ≤ k) : Apart N1 b1' N2 b2 := by
  rcases hb with rfl | ⟨k, rfl, hk⟩
  · exact hp
  · have := h.lt
    refine ⟨hp.1, fun j hj => ?_, hp.2.2.1, fun j hj e => ?_⟩
    · cases hj; omega
    · cases hj; have := this.2 k e; omega
theorem Apart.made {w : World} {base N1 N2 : Nat} {b2 : Option Nat} {nm2 : ByteArray} {g2 : Wt} (h : IsW w base N2 b2 nm2 g2) (hN : w.heap.size ≤ N1) : Apart N1 none N2 b2 := by
  have := h.lt
  refine ⟨by omega, ?_, ?_, ?_⟩
  · intro k hk; cases hk
  · intro k hk; have := this.2 k hk; omega
  · intro k hk; cases hk
theorem Saw.only {w w' : World} {base N : Nat} {b : Option Nat} {nm : ByteArray} {g g' : Wt} {w0 : World} (h : Saw w w' base N b nm g') (hg : IsW w base N b nm g) (ho : Only (fun _ => False) w0 w) (hb : w0.heap.size = base) : Only (fun _ => False) w0 w' := by
  refine Only.fresh ho h.2 (fun i e => ?_)
  rcases e with rfl | e
  · rw [hb]; exact hg.wn
  · rw [hb]; exact (hg.lt.2 i e.symm).2.1
theorem see_le (g : Wt) (window : Int) (o : Option Nat) : (see g window o).row ≤ g.row + 1 ∧ (see g window o).ev.length ≤ g.ev.length + 1 := by
  unfold see
  cases o with
  | none => exact ⟨Nat.le_succ _, Nat.le_succ _⟩
  | some n =>
    simp only
    split
    · exact ⟨Nat.zero_le _, by simp only; omega⟩
    · split
      · split
        · simp [turned]
        · simp only; omega
      · split
        · simp [turned]
        · simp only; omega
theorem see_same (g : Wt) (window : Int) (o : Option Nat) : (see g window o).lim = g.lim ∧ (see g window o).fo = g.fo ∧ (see g window o).ca = g.ca := by
  unfold see
  cases o with
  | none => exact ⟨rfl, rfl, rfl⟩
  | some n => simp only; split <;> (try split) <;> (try split) <;> exact ⟨rfl, rfl, rfl⟩
theorem see_st (g : Wt) (window : Int) (o : Option Nat) (h : g.st = 0 ∨ g.st = 1 ∨ g.st = 2) : (see g window o).st = 0 ∨ (see g window o).st = 1 ∨ (see g window o).st = 2 := by
  unfold see
  cases o with
  | none => exact h
  | some n =>
    simp only
    split
    · split <;> simp
    · split
      · split
        · simp [turned]
        · exact h
      · split
        · simp [turned]
        · simp
theorem see_wf {g : Wt} (hw : Wf g) (window : Int) (o : Option Nat) (h1 : g.row < 1000) (h2 : g.ev.length < 1000) : Wf (see g window o) := by
  obtain ⟨e1, e2, e3⟩ := see_same g window o
  have := see_le g window o
  exact ⟨by rw [e1]; exact hw.lim, by rw [e2]; exact hw.fo, by rw [e3]; exact hw.ca, see_st g window o hw.st, by omega, by omega⟩
/-- Events ring and are quiet in turns. -/
def Alt (g : Wt) : Prop := (∀ i, (h : i < g.ev.length) → (g.ev[i]).f1 = decide (i % 2 = 0)) ∧ (g.st = 2 ↔ g.ev.length % 2 = 1)
theorem alt_turn (g : Wt) (h : Alt g) (s : Nat) (window : Int) (hs : s = 0 ∧ g.st = 2 ∨ s = 2 ∧ g.st ≠ 2) (r : Nat) : Alt (turned { g with row := r } s window) := by
  obtain ⟨h1, h2⟩ := h
  refine ⟨fun i hi => ?_, ?_⟩
  · simp only [turned] at hi ⊢
    by_cases hl : i < g.ev.length
    · rw [List.getElem_append_left hl]; exact h1 i hl
    · have : i = g.ev.length := by simp at hi; omega
      subst this
      simp only [List.getElem_append_right (Nat.le_refl _), Nat.sub_self, List.getElem_cons_zero]
      rcases hs with ⟨rfl, hs⟩ | ⟨rfl, hs⟩
      · have := h2.1 hs
        exact decide_eq_decide.mpr (by omega)
      · have : ¬ g.ev.length % 2 = 1 := fun e => hs (h2.2 e)
        exact decide_eq_decide.mpr (by omega)
  · simp only [turned, List.length_append, List.length_singleton]
    rcases hs with ⟨rfl, hs⟩ | ⟨rfl, hs⟩
    · have := h2.1 hs; omega
    · have : ¬ g.ev.length % 2 = 1 := fun e => hs (h2.2 e)
      omega
theorem alt_see (g : Wt) (h : Alt g) (window : Int) (o : Option Nat) : Alt (see g window o) := by
  unfold see
  cases o with
  | none => exact h
  | some n =>
    simp only
    split
    · refine ⟨h.1, ?_⟩
      simp only
      rw [← h.2]
      split
      · rename_i e; simp [e]
      · rename_i e; simp [e]
    · split
      · rename_i e
        split
        · exact alt_turn g h 0 window (.inl ⟨rfl, e⟩) g.row
        · exact h
      · rename_i e
        split
        · exact alt_turn g h 2 window (.inr ⟨rfl, e⟩) g.row
        · exact ⟨h.1, by simp only; rw [← h.2]; simp [e]⟩
theorem see_q0 {g : Wt} {window : Int} {n : Nat} (h : g.st ≠ 2) (hn : ¬ g.lim ≤ n) : see g window (some n) = ⟨g.lim, g.fo, g.ca, 0, 0, g.ev⟩ := by
  unfold see
  simp only [if_neg h, decide_eq_false h, decide_eq_false hn, if_true]
theorem see_q1 {g : Wt} {window : Int} {n : Nat} (h : g.st ≠ 2) (hn : g.lim ≤ n) (hf : ¬ g.row + 1 = g.fo) : see g window (some n) = ⟨g.lim, g.fo, g.ca, 1, g.row + 1, g.ev⟩ := by
  unfold see
  simp only [if_neg h, decide_eq_false h, decide_eq_true hn, Bool.true_eq_false, if_false, if_neg hf]
theorem see_q2 {g : Wt} {window : Int} {n : Nat} (h : g.st ≠ 2) (hn : g.lim ≤ n) (hf : g.row + 1 = g.fo) : see g window (some n) = turned g 2 window := by
  unfold see
  simp only [if_neg h, decide_eq_false h, decide_eq_true hn, Bool.true_eq_false, if_false, if_pos hf]
/-- Where the lower limit has not rung, nor has the higher. -/
structure Lower (a b : Wt) : Prop where
  lim : a.lim ≤ b.lim
  fo : a.fo = b.fo
  pos : 1 ≤ a.fo
  none : a.ev = [] → b.ev = [] ∧ a.st ≠ 2 ∧ b.st ≠ 2 ∧ b.row ≤ a.row ∧ a.row < a.fo
theorem lower_see {a b : Wt} (h : Lower a b) (window : Int) (o : Option Nat) : Lower (see a window o) (see b window o) := by
  obtain ⟨a1, a2, a3⟩ := see_same a window o
  obtain ⟨b1, b2, b3⟩ := see_same b window o
  refine ⟨by rw [a1, b1]; exact h.lim, by rw [a2, b2]; exact h.fo, by rw [a2]; exact h.pos, fun he => ?_⟩
  rw [a2]
  cases o with
  | none => exact h.none he
  | some n =>
    have hn : a.ev = [] := by
      unfold see at he
      simp only at he
      split at he
      · exact he
      · split at he
        · split at he
          · simp [turned] at he
          · exact he
        · split at he
          · simp [turned] at he
          · exact he
    obtain ⟨k1, k2, k3, k4, k5⟩ := h.none hn
    have hl := h.lim
    have hf := h.fo
    have hp := h.pos
    by_cases c1 : a.lim ≤ n
    · by_cases c2 : a.row + 1 = a.fo
      · rw [see_q2 k2 c1 c2] at he; simp [turned] at he
      · rw [see_q1 k2 c1 c2]
        by_cases c3 : b.lim ≤ n
        · rw [see_q1 k3 c3 (by omega)]
          exact ⟨k1, by simp, by simp, by simp only; omega, by simp only; omega⟩
        · rw [see_q0 k3 c3]
          exact ⟨k1, by simp, by simp, by simp only; omega, by simp only; omega⟩
    · have c3 : ¬ b.lim ≤ n := by omega
      rw [see_q0 k2 c1, see_q0 k3 c3]
      exact ⟨k1, by simp, by simp, by simp only; omega, by simp only; omega⟩
/-- What is always below the limit never rings. -/
theorem low_see {g : Wt} (window : Int) (o : Option Nat) (ho : ∀ n, o = some n → n < g.lim) (h : g.ev = [] ∧ g.st ≠ 2) : (see g window o).ev = [] ∧ (see g window o).st ≠ 2 := by
  cases o with
  | none => exact h
  | some n =>
    have := ho n rfl
    rw [see_q0 h.2 (by omega)]
    exact ⟨h.1, by simp⟩

set_option maxHeartbeats 8000000 in
set_option maxRecDepth 1000000 in
theorem alive_walk (w : World) : Calls Try.prog 29 #[] w fun r w' => r = .returned (.bool true) ∧ Only (fun _ => False) w w' := by
  have wf0 : Wf ⟨500, 2, 1, 0, 0, []⟩ := ⟨by decide, by decide, by decide, by decide, by decide, by decide⟩
  have wf1 : Wf ⟨500, 2, 1, 1, 1, []⟩ := ⟨by decide, by decide, by decide, by decide, by decide, by decide⟩
  have e0 : see ⟨500, 2, 1, 0, 0, []⟩ 4 (some 600) = ⟨500, 2, 1, 1, 1, []⟩ := by rw [see_q1 (by decide) (by decide) (by decide)]
  have e1 : see ⟨500, 2, 1, 1, 1, []⟩ 5 (some 600) = ⟨500, 2, 1, 2, 0, [⟨5, true⟩]⟩ := by rw [see_q2 (by decide) (by decide) (by decide)]; rfl
  go_enter Try.func29, Try.ntmps29
  go_wp2_with (go_at_call 31; refine (new_walk w.heap.size _ 500 2 1 _ (by decide) (by decide) (by decide) (Nat.le_refl _)).mono ?_; rintro r w1 ⟨N, rfl, hN, hi, ho⟩; have G := Aside0.mk (And.intro hi ho); clear hi ho)
  go_wp2_with (go_at_call 33; refine (row_walk 4 10 6 _).mono ?_; rintro r w2 ⟨⟨A, B, C, c1, c2, c3, rfl⟩, ho⟩; replace G := Aside0.mk (And.intro (G.out.1.only ho id (fun _ _ => id)) (G.out.2.trans ho)); clear ho)
  go_wp2_with (go_at_call 32; refine (see_walk w.heap.size N none _ _ 4 A B C 0 c1 0 c2 0 c3 false false false false 10 6 0 _ (some 600) rfl G.out.1 wf0 G.out.2.size).mono ?_; rintro r w3 ⟨rfl, hs⟩; have ho := hs.only G.out.1 G.out.2 rfl; rw [e0] at hs; obtain ⟨⟨b1, hb1, hi⟩, _⟩ := hs; replace G := Aside0.mk (And.intro hi ho); clear hi ho hb1)
  go_wp2_with (go_at_call 33; refine (row_walk 5 10 6 _).mono ?_; rintro r w2 ⟨⟨A, B, C, c1, c2, c3, rfl⟩, ho⟩; replace G := Aside0.mk (And.intro (G.out.1.only ho id (fun _ _ => id)) (G.out.2.trans ho)); clear ho)
  go_wp2_with (go_at_call 32; refine (see_walk w.heap.size N b1 _ _ 5 A B C 0 c1 0 c2 0 c3 false false false false 10 6 0 _ (some 600) rfl G.out.1 wf1 G.out.2.size).mono ?_; rintro r w3 ⟨rfl, hs⟩; have ho := hs.only G.out.1 G.out.2 rfl; rw [e1] at hs; obtain ⟨⟨b2, hb1, hi⟩, _⟩ := hs; replace G := Aside0.mk (And.intro hi ho); clear hi ho hb1)
  go_wp2_with (go_at_call 31; refine (new_none _ _).mono ?_; rintro r w4 ⟨rfl, ho⟩; replace G := Aside0.mk (And.intro (G.out.1.only ho id (fun _ _ => id)) (G.out.2.trans ho)); clear ho)
  go_wp2_with (go_at_call 34; refine (events_walk w.heap.size N b2 _ _ _ G.out.1 (by decide)).mono ?_; rintro r w5 ⟨A, n, c, rfl, hn, _, ho⟩; replace G := Aside0.mk (G.out.2.trans ho); clear ho; obtain rfl : n = 1 := hn)
  go_ret
  exact ⟨by first | rfl | simp, G.out⟩
end Go.Proofs.Ytfgpcoocbblkiaa.At
