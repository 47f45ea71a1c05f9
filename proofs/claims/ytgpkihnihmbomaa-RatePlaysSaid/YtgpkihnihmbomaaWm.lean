/- What a clock (wmark.Clock) does: in plain words. No conditions but bounds. -/
import Derived.Test.YtgpkihnihmbomaaOb
import Derived.Test.YtgpkihnihmbomaaWMore
import Derived.Deep.LoopGhost
import Derived.Deep.QuietTactic
import Derived.BigQuiet
import Derived.RegionTactic
import Derived.BigRegion
namespace Go.Proofs.Ytgpkihnihmbomaa.Wm
open Go.RowKit Go.Proofs.YtgpkihnihmbomaaW.PrintWords Go.Proofs.YtgpkihnihmbomaaW.PrintLast
open Go.Proofs.Ytgpkihnihmbomaa.Ob

/-- Is a source idle? -/
def rests (idle now s : Nat) : Bool := decide (0 < idle) && decide (idle ≤ now - s)
set_option maxHeartbeats 4000000 in
set_option maxRecDepth 1000000 in
theorem rests_walk (N idle now e s : Nat) (w : World) (hs : s ≤ now) (hn : now < 9223372036854775808) (c2 : w.cell? ⟨N, 2, none⟩ = some (.int .u64 (idle : Int))) (c3 : w.cell? ⟨N, 3, none⟩ = some (.int .u64 (now : Int))) :
    Calls Try.prog 56 #[.pointer (some ⟨N, 0, none⟩), .agg #[.int .u64 (e : Int), .int .u64 (s : Int)]] w fun r w' => r = .returned (.bool (rests idle now s)) ∧ Only (fun _ => False) w w' := by
  have ho := Aside0.mk (((Only.refl (fun _ => False) w).alloc (.cells #[.int .u64 (e : Int), .int .u64 (s : Int)] 115)))
  have hnew := Row.new w [.int .u64 (e : Int), .int .u64 (s : Int)] 115
  have hN : N < w.heap.size := World.block_lt_of_cell? w _ c2
  go_enter Try.func56, Try.ntmps56
  by_cases h : 0 < idle
  · have h' : (0 : Int) < (idle : Int) := by omega
    have e1 : IntKind.u64.wrap ((now : Int) - (s : Int)) = ((now - s : Nat) : Int) := by rw [IntWalk.u64_in _ (by omega)]; omega
    by_cases h2 : idle ≤ now - s
    · have h2' : (idle : Int) ≤ ((now - s : Nat) : Int) := by omega
      have hr := Aside0.mk (show rests idle now s = true by unfold rests; rw [decide_eq_true h, decide_eq_true h2]; rfl)
      go_wp2
      go_quiet (fail)
      go_wp2
      go_ret
      exact ⟨by rw [hr.out]; rfl, ho.out.drewN _⟩
    · have h2' : ¬ (idle : Int) ≤ ((now - s : Nat) : Int) := by omega
      have hr := Aside0.mk (show rests idle now s = false by unfold rests; rw [decide_eq_true h, decide_eq_false h2]; rfl)
      go_wp2
      go_quiet (fail)
      go_wp2
      go_ret
      exact ⟨by rw [hr.out]; rfl, ho.out.drewN _⟩
  · have h' : decide ((0 : Int) < (idle : Int)) = false := decide_eq_false (by omega)
    have h'' : decide (0 < idle) = false := decide_eq_false h
    have hr := Aside0.mk (show rests idle now s = false by unfold rests; rw [decide_eq_false h]; rfl)
    go_wp2
    go_quiet (fail)
    go_wp2
    go_ret
    exact ⟨by rw [hr.out]; rfl, ho.out.drewN _⟩

/-- A clock: what each source said last and when, and its numbers. -/
structure Ck where
  l : List (Nat × Nat)
  late : Nat
  idle : Nat
  now : Nat
  mark : Nat
def cells (l : List (Nat × Nat)) : List Value := l.flatMap fun p => [.int .u64 (p.1 : Int), .int .u64 (p.2 : Int)]
structure IsClock (w : World) (N M : Nat) (g : Ck) : Prop where
  ne : N ≠ M
  head : Row w N [.slice (some ⟨M, 0, none⟩) g.l.length g.l.length, .int .u64 (g.late : Int), .int .u64 (g.idle : Int), .int .u64 (g.now : Int), .int .u64 (g.mark : Int)]
  rows : Row w M (cells g.l)
theorem IsClock.drew {w : World} {N M : Nat} {g : Ck} (h : IsClock w N M g) : IsClock w.drew N M g := ⟨h.ne, h.head.drew, h.rows.drew⟩
theorem IsClock.only {w w' : World} {N M : Nat} {g : Ck} (h : IsClock w N M g) {S : Nat → Prop} (k : Only S w w') (h1 : ¬ S N) (h2 : ¬ S M) : IsClock w' N M g := ⟨h.ne, h.head.only k h1, h.rows.only k h2⟩
structure Wf (g : Ck) : Prop where
  some : 0 < g.l.length
  few : g.l.length ≤ 16
  ends : ∀ p ∈ g.l, p.1 ≤ 4611686018427387904 ∧ p.2 ≤ g.now
  late : g.late ≤ 4611686018427387904
  idle : g.idle ≤ 4611686018427387904
  now : g.now < 4611686018427387904
  mark : g.mark ≤ 4611686018427387904
/-- One source more: the least mark so far, and whether there is one. -/
def step (late idle now : Nat) (a : Nat × Bool) (p : Nat × Nat) : Nat × Bool :=
  if rests idle now p.2 then a else if a.2 = false ∨ p.1 - min p.1 late < a.1 then (p.1 - min p.1 late, true) else a
def least (g : Ck) : Nat × Bool := g.l.foldl (step g.late g.idle g.now) (0, false)
def move (g : Ck) : Ck := if (least g).2 then { g with mark := max g.mark (least g).1 } else g

theorem cells_length (l : List (Nat × Nat)) : (cells l).length = 2 * l.length := by
  induction l with
  | nil => rfl
  | cons p r ih => simp only [cells, List.flatMap_cons, List.length_append, List.length_cons, List.length_nil] at *; omega
theorem cells_at (l : List (Nat × Nat)) (i : Nat) (h : i < l.length) : (cells l)[i * 2]? = some (.int .u64 ((l[i]).1 : Int)) ∧ (cells l)[i * 2 + 1]? = some (.int .u64 ((l[i]).2 : Int)) := by
  induction l generalizing i with
  | nil => exact absurd h (by simp)
  | cons p r ih =>
    cases i with
    | zero => exact ⟨rfl, rfl⟩
    | succ i =>
      have := ih i (by simpa using h)
      rw [show (i + 1) * 2 = i * 2 + 1 + 1 by omega]
      simp only [cells, List.flatMap_cons, List.getElem_cons_succ] at *
      exact this

set_option maxHeartbeats 4000000 in
set_option maxRecDepth 1000000 in
theorem move_walk (N M : Nat) (g : Ck) (w : World) (hg : IsClock w N M g) (hw : Wf g) :
    Calls Try.prog 54 #[.pointer (some ⟨N, 0, none⟩)] w fun r w' => r = .returned (.tuple #[]) ∧ IsClock w' N M (move g) ∧ Only (fun k => k = N) w w' := by
  have c0 := (hg.head 0 _ rfl).1
  have hfew := hw.few
  go_enter Try.func54, Try.ntmps54
  go_wp2
  go_loopg [2, 3, 12] (g.l.length + 1) (fun kq v2 v3 v12 wr => ∃ (i : Nat) (a : Nat × Bool), v2 = .int .u64 (a.1 : Int) ∧ v3 = .bool a.2 ∧ v12 = .int .i64 (i : Int) ∧ i ≤ g.l.length ∧ g.l.length - i < kq ∧ Aside0 (a = (g.l.take i).foldl (step g.late g.idle g.now) (0, false)) ∧ Only (fun _ => False) w wr ∧ a.1 ≤ 4611686018427387904)
  case atStart => exact ⟨0, (0, false), rfl, rfl, rfl, by omega, by omega, ⟨rfl⟩, Only.refl _ _, by decide⟩
  case round =>
    obtain ⟨i, a, rfl, rfl, rfl, hi, hk, ha, ho, hab⟩ := hrel
    obtain ⟨k1, rfl⟩ : ∃ m, gk = m + 1 := ⟨gk - 1, by omega⟩
    have H0 : Row wr N _ := hg.head.only ho id
    have H1 : Row wr M _ := hg.rows.only ho id
    by_cases hl : i < g.l.length
    · have hl' : (i : Int) < (g.l.length : Int) := by omega
      obtain ⟨e1, e2⟩ := cells_at g.l i hl
      have hin := hw.ends (g.l[i]) (List.getElem_mem hl)
      have hstep : (g.l.take (i + 1)).foldl (step g.late g.idle g.now) (0, false) = step g.late g.idle g.now a (g.l[i]) := by
        rw [List.take_succ_eq_append_getElem hl, List.foldl_append, ← ha.out]; rfl
      replace hstep := Aside0.mk hstep
      generalize g.l[i] = p at e1 e2 hin hstep
      obtain ⟨e, s⟩ := p
      simp only at e1 e2 hin
      have d1 := (H1 _ _ e1).1
      have d2 := (H1 _ _ e2).1
      have hn := hw.now
      have hla := hw.late
      by_cases hr : rests g.idle g.now s = true
      · go_wp2_with (go_at_call 56; refine (rests_walk N g.idle g.now e s _ hin.2 (by omega) ((H0.alloc _ 2 _ rfl).1) ((H0.alloc _ 3 _ rfl).1)).mono ?_)
        rintro r w1 ⟨rfl, ho1⟩
        have ho2 := Aside0.mk ((ho.alloc _).trans ho1)
        clear ho1
        go_wp2
        go_roundg k1
        case measure => omega
        case rel => exact ⟨i + 1, a, rfl, rfl, rfl, by omega, by omega, ⟨by rw [hstep.out, step, if_pos hr]⟩, ho2.out, hab⟩
      · rw [Bool.not_eq_true] at hr
        go_wp2_with (go_at_call 56; refine (rests_walk N g.idle g.now e s _ hin.2 (by omega) ((H0.alloc _ 2 _ rfl).1) ((H0.alloc _ 3 _ rfl).1)).mono ?_)
        rintro r w1 ⟨rfl, ho1⟩
        have ho2 := Aside0.mk ((ho.alloc _).trans ho1)
        have N1 := (Row.new wr [.int .u64 (e : Int), .int .u64 (s : Int)] 115).only ho1 id
        have f0 := (N1 0 _ rfl).1
        have f1 := ((hg.head.only ho2.out id) 1 _ rfl).1
        clear ho1
        obtain ⟨a1, a2⟩ := a
        simp only at hab hstep
        by_cases hm : g.late < e
        · have hm' : e - min e g.late = e - g.late := by omega
          cases a2 with
          | false =>
            have hs2 := Aside0.mk (show step g.late g.idle g.now (a1, false) (e, s) = (e - g.late, true) by unfold step; rw [hr, if_neg (by simp), if_pos (.inl rfl), hm'])
            go_wp2
            go_quiet (fail)
            go_wp2
            go_roundg k1
            case measure => omega
            case rel => exact ⟨i + 1, (e - g.late, true), (show Value.int .u64 _ = Value.int .u64 _ by congr 1; omega), rfl, rfl, by omega, by omega, ⟨by rw [hstep.out, hs2.out]⟩, ho2.out.drewN _, by simp only; omega⟩
          | true =>
            by_cases hlt : e - g.late < a1
            · have hlt' : ((e : Int) - (g.late : Int)) < (a1 : Int) := by omega
              have hs2 := Aside0.mk (show step g.late g.idle g.now (a1, true) (e, s) = (e - g.late, true) by unfold step; rw [hr, if_neg (by simp), if_pos (.inr (by simp only; omega)), hm'])
              go_wp2
              go_quiet (fail)
              go_wp2
              go_roundg k1
              case measure => omega
              case rel => exact ⟨i + 1, (e - g.late, true), (show Value.int .u64 _ = Value.int .u64 _ by congr 1; omega), rfl, rfl, by omega, by omega, ⟨by rw [hstep.out, hs2.out]⟩, ho2.out.drewN _, by simp only; omega⟩
            · have hlt' : ¬ ((e : Int) - (g.late : Int)) < (a1 : Int) := by omega
              have hs2 := Aside0.mk (show step g.late g.idle g.now (a1, true) (e, s) = (a1, true) by unfold step; rw [hr, if_neg (by simp), if_neg (by simp only [Bool.true_eq_false, false_or]; omega)])
              go_wp2
              go_quiet (fail)
              go_wp2
              go_roundg k1
              case measure => omega
              case rel => exact ⟨i + 1, (a1, true), rfl, rfl, rfl, by omega, by omega, ⟨by rw [hstep.out, hs2.out]⟩, ho2.out.drewN _, by simp only; omega⟩
        · have hm' : e - min e g.late = 0 := by omega
          cases a2 with
          | false =>
            have hs2 := Aside0.mk (show step g.late g.idle g.now (a1, false) (e, s) = (0, true) by unfold step; rw [hr, if_neg (by simp), if_pos (.inl rfl), hm'])
            go_wp2
            go_quiet (fail)
            go_wp2
            go_roundg k1
            case measure => omega
            case rel => exact ⟨i + 1, (0, true), (show Value.int .u64 _ = Value.int .u64 _ by first | rfl | (congr 1; omega)), rfl, rfl, by omega, by omega, ⟨by rw [hstep.out, hs2.out]⟩, ho2.out.drewN _, by simp only; omega⟩
          | true =>
            by_cases hlt : 0 < a1
            · have hlt' : (0 : Int) < (a1 : Int) := by omega
              have hs2 := Aside0.mk (show step g.late g.idle g.now (a1, true) (e, s) = (0, true) by unfold step; rw [hr, if_neg (by simp), if_pos (.inr (by simp only; omega)), hm'])
              go_wp2
              go_quiet (fail)
              go_wp2
              go_roundg k1
              case measure => omega
              case rel => exact ⟨i + 1, (0, true), (show Value.int .u64 _ = Value.int .u64 _ by first | rfl | (congr 1; omega)), rfl, rfl, by omega, by omega, ⟨by rw [hstep.out, hs2.out]⟩, ho2.out.drewN _, by simp only; omega⟩
            · have hlt' : ¬ (0 : Int) < (a1 : Int) := by omega
              have hs2 := Aside0.mk (show step g.late g.idle g.now (a1, true) (e, s) = (a1, true) by unfold step; rw [hr, if_neg (by simp), if_neg (by simp only [Bool.true_eq_false, false_or]; omega)])
              go_wp2
              go_quiet (fail)
              go_wp2
              go_roundg k1
              case measure => omega
              case rel => exact ⟨i + 1, (a1, true), rfl, rfl, rfl, by omega, by omega, ⟨by rw [hstep.out, hs2.out]⟩, ho2.out.drewN _, by simp only; omega⟩
    · have hil : i = g.l.length := by omega
      subst hil
      have ha' := ha.out
      rw [List.take_length] at ha'
      have hleast : least g = a := ha'.symm
      obtain ⟨a1, a2⟩ := a
      have c4 := H0 4 _ rfl
      have c4a := c4.1
      have c4b := c4.2
      clear c4 ha ha'
      have hmk := hw.mark
      cases a2 with
      | false =>
        have hmv := Aside0.mk (show move g = g by unfold move; rw [hleast, if_neg (by simp)])
        clear hleast
        go_wp2
        go_end0
        exact ⟨rfl, by rw [hmv.out]; exact ⟨hg.ne, H0, H1⟩, ho.mono fun _ h => h.elim⟩
      | true =>
        have hmv := Aside0.mk (show move g = { g with mark := max g.mark a1 } by unfold move; rw [hleast, if_pos rfl])
        clear hleast
        have S1 := H0.set 4 (.int .u64 ((max g.mark a1 : Nat) : Int))
        have S2 := H1.far ⟨N, 4, none⟩ (.int .u64 ((max g.mark a1 : Nat) : Int)) hg.ne
        have S3 := (ho.mono (fun _ h => h.elim : ∀ k, False → k = N)).setCell ⟨N, 4, none⟩ (.int .u64 ((max g.mark a1 : Nat) : Int)) rfl
        have S0 : IsClock (wr.setCell ⟨N, 4, none⟩ (.int .u64 ((max g.mark a1 : Nat) : Int))) N M { g with mark := max g.mark a1 } := ⟨hg.ne, S1, S2⟩
        rw [← hmv.out] at S0
        clear S1 S2 hmv
        rcases Nat.lt_trichotomy g.mark a1 with hx | hx | hx
        · have hx2 : ¬ a1 < g.mark := by omega
          rw [show max g.mark a1 = a1 by omega] at S0 S3
          have S := Aside0.mk (And.intro S0 S3)
          clear S0 S3
          go_wp2
          go_end0
          exact ⟨rfl, S.out.1, S.out.2⟩
        · rw [show max g.mark a1 = a1 by omega] at S0 S3
          have hx1 : ¬ a1 < g.mark := by omega
          have hx2 : ¬ g.mark < a1 := by omega
          have S := Aside0.mk (And.intro S0 S3)
          clear S0 S3
          go_wp2
          go_end0
          exact ⟨rfl, S.out.1, S.out.2⟩
        · have hx2 : ¬ g.mark < a1 := by omega
          rw [show max g.mark a1 = g.mark by omega] at S0 S3
          have S := Aside0.mk (And.intro S0 S3)
          clear S0 S3
          go_wp2
          go_end0
          exact ⟨rfl, S.out.1, S.out.2⟩

theorem step_le (late idle now : Nat) (a : Nat × Bool) (p : Nat × Nat) (B : Nat) (ha : a.1 ≤ B) (hp : p.1 ≤ B) : (step late idle now a p).1 ≤ B := by
  unfold step
  split
  · exact ha
  · split
    · simp only; omega
    · exact ha
theorem foldl_le (late idle now B : Nat) (l : List (Nat × Nat)) (hl : ∀ p ∈ l, p.1 ≤ B) : ∀ a : Nat × Bool, a.1 ≤ B → (l.foldl (step late idle now) a).1 ≤ B := by
  induction l with
  | nil => intro a ha; exact ha
  | cons p r ih => intro a ha; exact ih (fun q hq => hl q (by simp [hq])) _ (step_le _ _ _ _ _ _ ha (hl p (by simp)))
theorem least_le (g : Ck) (hw : Wf g) : (least g).1 ≤ 4611686018427387904 := foldl_le _ _ _ _ _ (fun p hp => (hw.ends p hp).1) _ (by decide)
theorem move_wf {g : Ck} (hw : Wf g) : Wf (move g) := by
  unfold move
  split
  · exact ⟨hw.some, hw.few, hw.ends, hw.late, hw.idle, hw.now, by have := hw.mark; have := least_le g hw; simp only; omega⟩
  · exact hw
/-- A source says an end. -/
def saw (g : Ck) (i e : Nat) : Ck := { g with l := g.l.set i (max (g.l.getD i (0, 0)).1 e, g.now) }
def see (g : Ck) (i e : Nat) : Ck := move (saw g i e)
def ticked (g : Ck) : Ck := { g with now := g.now + 1 }
def tick (g : Ck) : Ck := move (ticked g)
theorem saw_wf {g : Ck} (hw : Wf g) (i e : Nat) (he : e ≤ 4611686018427387904) : Wf (saw g i e) := by
  unfold saw
  refine ⟨by simpa using hw.some, by simpa using hw.few, fun p hp => ?_, hw.late, hw.idle, hw.now, hw.mark⟩
  rcases List.mem_or_eq_of_mem_set hp with h | rfl
  · exact hw.ends p h
  · refine ⟨?_, Nat.le_refl _⟩
    by_cases hi : i < g.l.length
    · have := (hw.ends _ (List.getElem_mem hi)).1
      rw [List.getD_eq_getElem?_getD, List.getElem?_eq_getElem hi]
      simp only [Option.getD_some]; omega
    · rw [List.getD_eq_getElem?_getD, List.getElem?_eq_none (by omega)]
      simp only [Option.getD_none]; omega
theorem ticked_wf {g : Ck} (hw : Wf g) (hn : g.now + 1 < 4611686018427387904) : Wf (ticked g) :=
  ⟨hw.some, hw.few, fun p hp => ⟨(hw.ends p hp).1, Nat.le_succ_of_le (hw.ends p hp).2⟩, hw.late, hw.idle, hn, hw.mark⟩

set_option maxHeartbeats 4000000 in
set_option maxRecDepth 1000000 in
theorem mark_walk (N M : Nat) (g : Ck) (w : World) (hg : IsClock w N M g) : Calls Try.prog 37 #[.pointer (some ⟨N, 0, none⟩)] w fun r w' => r = .returned (.int .u64 (g.mark : Int)) ∧ w' = w := by
  have c4 := (hg.head 4 _ rfl).1
  go_enter Try.func37, Try.ntmps37
  go_wp2
  go_ret
  exact ⟨rfl, rfl⟩
set_option maxHeartbeats 4000000 in
set_option maxRecDepth 1000000 in
theorem now_walk (N M : Nat) (g : Ck) (w : World) (hg : IsClock w N M g) : Calls Try.prog 40 #[.pointer (some ⟨N, 0, none⟩)] w fun r w' => r = .returned (.int .u64 (g.now : Int)) ∧ w' = w := by
  have c3 := (hg.head 3 _ rfl).1
  go_enter Try.func40, Try.ntmps40
  go_wp2
  go_ret
  exact ⟨rfl, rfl⟩
set_option maxHeartbeats 4000000 in
set_option maxRecDepth 1000000 in
theorem late_walk (N M : Nat) (g : Ck) (w : World) (e : Nat) (hg : IsClock w N M g) : Calls Try.prog 41 #[.pointer (some ⟨N, 0, none⟩), .int .u64 (e : Int)] w fun r w' => r = .returned (.bool (decide (e < g.mark))) ∧ w' = w := by
  go_enter Try.func41, Try.ntmps41
  go_wp2_with (go_at_call 37; refine (mark_walk N M g _ hg).mono ?_)
  rintro r w1 ⟨rfl, rfl⟩
  go_wp2
  go_ret
  exact ⟨by first | rfl | simp, rfl⟩
set_option maxHeartbeats 4000000 in
set_option maxRecDepth 1000000 in
theorem tick_walk (N M : Nat) (g : Ck) (w : World) (hg : IsClock w N M g) (hw : Wf g) (hn : g.now + 1 < 4611686018427387904) :
    Calls Try.prog 38 #[.pointer (some ⟨N, 0, none⟩)] w fun r w' => r = .returned (.int .i64 0) ∧ IsClock w' N M (tick g) ∧ Only (fun k => k = N) w w' := by
  have c3a := (hg.head 3 _ rfl).1
  have c3b := (hg.head 3 _ rfl).2
  have S1 := Aside0.mk (show IsClock (w.setCell ⟨N, 3, none⟩ (.int .u64 ((g.now + 1 : Nat) : Int))) N M (ticked g) from ⟨hg.ne, hg.head.set 3 _, hg.rows.far _ _ hg.ne⟩)
  have S2 := Aside0.mk ((Only.refl (fun k => k = N) w).setCell ⟨N, 3, none⟩ (.int .u64 ((g.now + 1 : Nat) : Int)) rfl)
  go_enter Try.func38, Try.ntmps38
  go_wp2_with (go_at_call 54; refine (move_walk N M (ticked g) _ S1.out (ticked_wf hw hn)).mono ?_)
  rintro r w1 ⟨rfl, h1, h2⟩
  have S3 := Aside0.mk (And.intro h1 (S2.out.trans h2))
  clear h1 h2
  go_wp2
  go_ret
  exact ⟨rfl, S3.out.1, S3.out.2⟩
end Go.Proofs.Ytgpkihnihmbomaa.Wm
