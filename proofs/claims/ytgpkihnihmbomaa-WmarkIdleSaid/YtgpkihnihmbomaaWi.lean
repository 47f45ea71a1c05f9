/- WmarkIdle, walked: who says nothing for as many ticks is idle. No conditions but bounds. -/
import Derived.Test.YtgpkihnihmbomaaWa
namespace Go.Proofs.Ytgpkihnihmbomaa.Wm
open Go.RowKit Go.Proofs.YtgpkihnihmbomaaW.PrintWords Go.Proofs.YtgpkihnihmbomaaW.PrintLast
open Go.Proofs.Ytgpkihnihmbomaa.Ob

/-- Where there are two sources. -/
theorem move_two (a s b t late idle now m : Nat) : move ⟨[(a, s), (b, t)], late, idle, now, m⟩ =
    ⟨[(a, s), (b, t)], late, idle, now, if rests idle now s = true ∧ rests idle now t = true then m else max m (if rests idle now s then b - min b late else if rests idle now t then a - min a late else min (a - min a late) (b - min b late))⟩ := by
  have hl : least ⟨[(a, s), (b, t)], late, idle, now, m⟩ = step late idle now (step late idle now (0, false) (a, s)) (b, t) := rfl
  unfold move
  rw [hl]
  cases hs : rests idle now s with
  | true =>
    cases ht : rests idle now t with
    | true => simp [step, hs, ht]
    | false => simp [step, hs, ht]
  | false =>
    cases ht : rests idle now t with
    | true => simp [step, hs, ht]
    | false =>
      have e1 : step late idle now (0, false) (a, s) = (a - min a late, true) := by simp [step, hs]
      rw [e1]
      by_cases hlt : b - min b late < a - min a late
      · have e2 : step late idle now (a - min a late, true) (b, t) = (b - min b late, true) := by simp [step, ht, hlt]
        rw [e2, if_pos rfl]
        simp only [Bool.false_eq_true, false_and, if_false]
        rw [show min (a - min a late) (b - min b late) = b - min b late by omega]
      · have e2 : step late idle now (a - min a late, true) (b, t) = (a - min a late, true) := by simp [step, ht, hlt]
        rw [e2, if_pos rfl]
        simp only [Bool.false_eq_true, false_and, if_false]
        rw [show min (a - min a late) (b - min b late) = a - min a late by omega]
theorem rests_eq {idle now s : Nat} (hi : 1 ≤ idle) : rests idle now s = decide (idle ≤ now - s) := by
  unfold rests; rw [decide_eq_true (show 0 < idle by omega), Bool.true_and]

/-- What stands behind i rounds: the second source never said anything. -/
structure Qi (lt n e i : Nat) (g : Ck) : Prop where
  l : ∃ a s, g.l = [(a, s), (0, 0)] ∧ s ≤ i ∧ a ≤ e
  late : g.late = lt
  idle : g.idle = n
  now : g.now = i
  mark : i < n → g.mark = 0
  mark2 : g.mark = 0 ∨ g.mark = e - min e lt
theorem qi_see {lt n e i : Nat} {g : Ck} (h : Qi lt n e i g) (hn : 1 ≤ n) :
    ∃ m, see g 0 e = ⟨[(e, i), (0, 0)], lt, n, i, m⟩ ∧ (i < n → m = 0) ∧ (i = n → m = e - min e lt) := by
  obtain ⟨⟨a, s, hl, hs, ha⟩, h1, h2, h3, h4, h5⟩ := h
  obtain ⟨l, la, id, nw, mk⟩ := g
  simp only at hl h1 h2 h3 h4 h5
  subst hl h1 h2 h3
  have e1 : saw ⟨[(a, s), (0, 0)], la, id, nw, mk⟩ 0 e = ⟨[(e, nw), (0, 0)], la, id, nw, mk⟩ := by
    unfold saw
    simp only [List.getD_cons_zero, List.set_cons_zero]
    rw [show max a e = e by omega]
  unfold see
  rw [e1, move_two, rests_eq hn, rests_eq hn]
  refine ⟨_, rfl, fun h => ?_, fun h => ?_⟩
  · rw [decide_eq_false (show ¬ id ≤ nw - nw by omega), decide_eq_false (show ¬ id ≤ nw - 0 by omega), h4 h]
    simp
  · rw [decide_eq_false (show ¬ id ≤ nw - nw by omega), decide_eq_true (show id ≤ nw - 0 by omega)]
    simp only [Bool.false_eq_true, false_and, if_false, if_true]
    omega
theorem qi_tick {lt n e i m : Nat} (hn : 1 ≤ n) (hm : m = 0) : Qi lt n e (i + 1) (tick ⟨[(e, i), (0, 0)], lt, n, i, m⟩) := by
  subst hm
  unfold tick ticked
  rw [move_two, rests_eq hn, rests_eq hn]
  refine ⟨⟨e, i, rfl, by omega, Nat.le_refl _⟩, rfl, rfl, rfl, fun h => ?_, ?_⟩
  · simp only
    rw [decide_eq_false (show ¬ n ≤ i + 1 - i by omega), decide_eq_false (show ¬ n ≤ i + 1 - 0 by omega)]
    simp
  · simp only
    by_cases c0 : n ≤ i + 1 - i
    · rw [decide_eq_true c0]
      by_cases c1 : n ≤ i + 1 - 0
      · rw [decide_eq_true c1]; simp
      · rw [decide_eq_false c1]; simp
    · rw [decide_eq_false c0]
      by_cases c1 : n ≤ i + 1 - 0
      · rw [decide_eq_true c1]
        simp only [Bool.false_eq_true, false_and, if_false, if_true]
        right; omega
      · rw [decide_eq_false c1]; simp
theorem qi_start (lt n e : Nat) : Qi lt n e 0 ⟨List.replicate 2 (0, 0), lt, n, 0, 0⟩ := ⟨⟨0, 0, rfl, Nat.le_refl _, Nat.zero_le _⟩, rfl, rfl, rfl, fun _ => rfl, .inl rfl⟩
theorem qi_wf {lt n e i : Nat} {g : Ck} (h : Qi lt n e i g) (h1 : lt ≤ 4611686018427387904) (h2 : n ≤ 4611686018427387904) (h3 : i < 4611686018427387904) (h4 : e ≤ 4611686018427387904) : Wf g := by
  obtain ⟨⟨a, s, hl, hs, ha⟩, g1, g2, g3, g4, g5⟩ := h
  refine ⟨by rw [hl]; simp, by rw [hl]; simp, fun p hp => ?_, by omega, by omega, by omega, by omega⟩
  rw [hl] at hp
  simp only [List.mem_cons, List.not_mem_nil, or_false] at hp
  rcases hp with rfl | rfl
  · simp only; omega
  · simp only; omega

theorem idle_is (N M : Nat) (g : Ck) (i : Nat) (b : Bool) (w : World) (hg : IsClock w N M g) (hw : Wf g) (hi : i < g.l.length) (hb : rests g.idle g.now (g.l.getD i (0, 0)).2 = b) :
    Calls Try.prog 42 #[.pointer (some ⟨N, 0, none⟩), .int .i64 (i : Int)] w fun r w' => r = .returned (.bool b) ∧ Only (fun _ => False) w w' := hb ▸ idle_walk N M g i w hg hw hi
theorem qi_end {lt n e m : Nat} (hn : 1 ≤ n) (hm : m = e - min e lt) : see ⟨[(e, n), (0, 0)], lt, n, n, m⟩ 1 0 = ⟨[(e, n), (0, n)], lt, n, n, m⟩ := by
  have e1 : saw ⟨[(e, n), (0, 0)], lt, n, n, m⟩ 1 0 = ⟨[(e, n), (0, n)], lt, n, n, m⟩ := rfl
  unfold see
  rw [e1, move_two, rests_eq hn, decide_eq_false (show ¬ n ≤ n - n by omega)]
  simp only [Bool.false_eq_true, false_and, if_false]
  rw [show max m (min (e - min e lt) (0 - min 0 lt)) = m by omega]

set_option maxHeartbeats 8000000 in
set_option maxRecDepth 1000000 in
theorem idle_law (x e lt : Nat) (w : World) (hx : x ≤ 255) (he : e ≤ 4294967295) (hlt : lt ≤ 65535) :
    Calls Try.prog 13 #[.int .u8 (x : Int), .int .u32 (e : Int), .int .u16 (lt : Int)] w fun r w' => r = .returned (.bool true) ∧ Below w.heap.size w w' := by
  go_enter Try.func13, Try.ntmps13
  go_wp2_with (first
    | (go_at_call 34; refine (alive_walk _).mono ?_; rintro r w1 ⟨rfl, ho⟩)
    | (go_at_call 35; refine (new_walk 2 lt (1 + x) _ (by decide) (by omega) (by omega)).mono ?_))
  rintro r w2 ⟨N, M, rfl, hN, hM, hN1, hM1, hg, ho2⟩
  have hsz := ho.size
  have G := Aside0.mk (And.intro hg (ho.trans ho2))
  clear hg ho ho2
  have hNw : w.heap.size ≤ N := by omega
  have hMw : w.heap.size ≤ M := by omega
  clear hN hM hsz
  go_wp2
  go_loopg [10] (x + 3) (fun kq v10 wr => ∃ (i : Nat) (g : Ck), v10 = .int .u64 (i : Int) ∧ i ≤ 1 + x ∧ 1 + x - i < kq ∧ Aside0 (Qi lt (1 + x) e i g ∧ IsClock wr N M g ∧ Only (fun _ => False) w wr))
  case atStart => exact ⟨0, _, rfl, by omega, by omega, ⟨qi_start lt (1 + x) e, G.out.1, G.out.2⟩⟩
  case round =>
    clear G
    obtain ⟨i, g, rfl, hi, hk, HG⟩ := hrel
    obtain ⟨k1, rfl⟩ : ∃ m, gk = m + 1 := ⟨gk - 1, by omega⟩
    have hwf := Aside0.mk (qi_wf HG.out.1 (by omega) (by omega) (by omega) (by omega))
    obtain ⟨m, hsee, hm1, hm2⟩ := qi_see HG.out.1 (by omega)
    have h2len : g.l.length = 2 := by obtain ⟨a, s, hl, _⟩ := HG.out.1.l; rw [hl]; rfl
    have hwf2 := Aside0.mk (move_wf (saw_wf hwf.out 0 e (by omega)))
    rw [show move (saw g 0 e) = ⟨[(e, i), (0, 0)], lt, 1 + x, i, m⟩ from hsee] at hwf2
    by_cases hlt2 : i < 1 + x
    · have hlt3 : (i : Int) < 1 + (x : Int) := by omega
      have hm0 := hm1 hlt2
      subst hm0
      clear hm1 hm2
      have hr1 : rests (1 + x) i 0 = false := by rw [rests_eq (by omega)]; exact decide_eq_false (by omega)
      go_wp2_with (go_at_call 36; refine (see_walk N M g 0 e _ HG.out.2.1 hwf.out (by omega) (by omega)).mono ?_)
      rintro r w3 ⟨rfl, hg3, ho3⟩
      rw [hsee] at hg3
      have G3 := Aside0.mk (And.intro hg3 (Only.fresh HG.out.2.2 ho3 (by rintro j (rfl | rfl) <;> assumption)))
      clear hg3 ho3 hsee
      go_wp2_with (first
        | (go_at_call 37; refine (mark_walk N M _ _ G3.out.1).mono ?_; rintro r w4 ⟨rfl, rfl⟩)
        | (go_at_call 42; refine (idle_is N M _ 1 false _ G3.out.1 hwf2.out (by simp) hr1).mono ?_))
      rintro r w5 ⟨rfl, ho5⟩
      have G5 := Aside0.mk (And.intro (G3.out.1.only ho5 id id) (G3.out.2.trans ho5))
      clear ho5 G3
      go_wp2_with (go_at_call 38; refine (tick_walk N M _ _ G5.out.1 hwf2.out (by simp only; omega)).mono ?_)
      rintro r w6 ⟨rfl, hg6, ho6⟩
      have G6 := Aside0.mk (And.intro (qi_tick (lt := lt) (e := e) (i := i) (show 1 ≤ 1 + x by omega) rfl) (And.intro hg6 (Only.fresh G5.out.2 ho6 (by rintro j rfl; assumption))))
      clear hg6 ho6
      go_wp2
      go_roundg k1
      case measure => omega
      case rel => exact ⟨i + 1, _, by first | rfl | (congr 1; omega), by omega, by omega, G6⟩
    · have hi2 : i = 1 + x := by omega
      have hm := hm2 hi2
      clear hm1 hm2 hlt2 hi hk
      subst hi2
      have hr1 : rests (1 + x) (1 + x) 0 = true := by rw [rests_eq (by omega)]; exact decide_eq_true (by omega)
      have hr0 : rests (1 + x) (1 + x) (1 + x) = false := by rw [rests_eq (by omega)]; exact decide_eq_false (by omega)
      have hend := qi_end (lt := lt) (e := e) (show 1 ≤ 1 + x by omega) hm
      have hwf3 := Aside0.mk (move_wf (saw_wf hwf2.out 1 0 (by omega)))
      rw [show move (saw ⟨[(e, 1 + x), (0, 0)], lt, 1 + x, 1 + x, m⟩ 1 0) = ⟨[(e, 1 + x), (0, 1 + x)], lt, 1 + x, 1 + x, m⟩ from hend] at hwf3
      by_cases hle : lt < e
      · have hw1 : (e : Int) - (lt : Int) = (m : Int) := by omega
        clear hm
        go_wp2_with (go_at_call 36; refine (see_walk N M g 0 e _ HG.out.2.1 hwf.out (by omega) (by omega)).mono ?_)
        rintro r w3 ⟨rfl, hg3, ho3⟩
        rw [hsee] at hg3
        have G3 := Aside0.mk (And.intro hg3 (Only.fresh HG.out.2.2 ho3 (by rintro j (rfl | rfl) <;> assumption)))
        clear hg3 ho3 hsee
        go_wp2_with (first
          | (go_at_call 42; refine (idle_is N M _ 1 true _ G3.out.1 hwf2.out (by simp) hr1).mono ?_))
        rintro r w4 ⟨rfl, ho4⟩
        have G4 := Aside0.mk (And.intro (G3.out.1.only ho4 id id) (G3.out.2.trans ho4))
        clear G3 ho4
        go_wp2_with (go_at_call 42; refine (idle_is N M _ 0 false _ G4.out.1 hwf2.out (by simp) hr0).mono ?_)
        rintro r w5 ⟨rfl, ho5⟩
        have G5 := Aside0.mk (And.intro (G4.out.1.only ho5 id id) (G4.out.2.trans ho5))
        clear G4 ho5
        go_wp2_with (first
          | (go_at_call 37; refine (mark_walk N M _ _ G5.out.1).mono ?_; rintro r w6 ⟨rfl, rfl⟩)
          | (go_at_call 40; refine (now_walk N M _ _ G5.out.1).mono ?_; rintro r w6 ⟨rfl, rfl⟩)
          | (go_at_call 36; refine (see_walk N M _ 1 0 _ G5.out.1 hwf2.out (by simp) (by omega)).mono ?_))
        rintro r w7 ⟨rfl, hg7, ho7⟩
        rw [hend] at hg7
        have G7 := Aside0.mk (And.intro hg7 (Only.fresh G5.out.2 ho7 (by rintro j (rfl | rfl) <;> assumption)))
        clear hg7 ho7 hend
        go_wp2_with (go_at_call 42; refine (idle_is N M _ 1 false _ G7.out.1 hwf3.out (by simp) hr0).mono ?_)
        rintro r w8 ⟨rfl, ho8⟩
        have G8 := Aside0.mk (And.intro (G7.out.1.only ho8 id id) (G7.out.2.trans ho8))
        clear G7 ho8
        go_wp2_with (go_at_call 37; refine (mark_walk N M _ _ G8.out.1).mono ?_; rintro r w9 ⟨rfl, rfl⟩)
        go_ret
        exact ⟨rfl, G8.out.2.below (fun _ h => h.elim) (Nat.le_refl _)⟩
      · obtain rfl : m = 0 := by omega
        clear hm
        go_wp2_with (go_at_call 36; refine (see_walk N M g 0 e _ HG.out.2.1 hwf.out (by omega) (by omega)).mono ?_)
        rintro r w3 ⟨rfl, hg3, ho3⟩
        rw [hsee] at hg3
        have G3 := Aside0.mk (And.intro hg3 (Only.fresh HG.out.2.2 ho3 (by rintro j (rfl | rfl) <;> assumption)))
        clear hg3 ho3 hsee
        go_wp2_with (first
          | (go_at_call 42; refine (idle_is N M _ 1 true _ G3.out.1 hwf2.out (by simp) hr1).mono ?_))
        rintro r w4 ⟨rfl, ho4⟩
        have G4 := Aside0.mk (And.intro (G3.out.1.only ho4 id id) (G3.out.2.trans ho4))
        clear G3 ho4
        go_wp2_with (go_at_call 42; refine (idle_is N M _ 0 false _ G4.out.1 hwf2.out (by simp) hr0).mono ?_)
        rintro r w5 ⟨rfl, ho5⟩
        have G5 := Aside0.mk (And.intro (G4.out.1.only ho5 id id) (G4.out.2.trans ho5))
        clear G4 ho5
        go_wp2_with (first
          | (go_at_call 37; refine (mark_walk N M _ _ G5.out.1).mono ?_; rintro r w6 ⟨rfl, rfl⟩)
          | (go_at_call 40; refine (now_walk N M _ _ G5.out.1).mono ?_; rintro r w6 ⟨rfl, rfl⟩)
          | (go_at_call 36; refine (see_walk N M _ 1 0 _ G5.out.1 hwf2.out (by simp) (by omega)).mono ?_))
        rintro r w7 ⟨rfl, hg7, ho7⟩
        rw [hend] at hg7
        have G7 := Aside0.mk (And.intro hg7 (Only.fresh G5.out.2 ho7 (by rintro j (rfl | rfl) <;> assumption)))
        clear hg7 ho7 hend
        go_wp2_with (go_at_call 42; refine (idle_is N M _ 1 false _ G7.out.1 hwf3.out (by simp) hr0).mono ?_)
        rintro r w8 ⟨rfl, ho8⟩
        have G8 := Aside0.mk (And.intro (G7.out.1.only ho8 id id) (G7.out.2.trans ho8))
        clear G7 ho8
        go_wp2_with (go_at_call 37; refine (mark_walk N M _ _ G8.out.1).mono ?_; rintro r w9 ⟨rfl, rfl⟩)
        go_ret
        exact ⟨rfl, G8.out.2.below (fun _ h => h.elim) (Nat.le_refl _)⟩
end Go.Proofs.Ytgpkihnihmbomaa.Wm
