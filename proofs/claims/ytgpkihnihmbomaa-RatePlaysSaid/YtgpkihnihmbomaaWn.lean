/- What a clock (wmark.Clock) does, more: See, Idle, New, and what no clock answers. No conditions but bounds. -/
import Derived.Test.YtgpkihnihmbomaaWm
namespace Go.Proofs.Ytgpkihnihmbomaa.Wm
open Go.RowKit Go.Proofs.YtgpkihnihmbomaaW.PrintWords Go.Proofs.YtgpkihnihmbomaaW.PrintLast
open Go.Proofs.Ytgpkihnihmbomaa.Ob

theorem cells_set (l : List (Nat × Nat)) (i a b : Nat) (h : i < l.length) : ((cells l).set (i * 2) (.int .u64 (a : Int))).set (i * 2 + 1) (.int .u64 (b : Int)) = cells (l.set i (a, b)) := by
  induction l generalizing i with
  | nil => exact absurd h (by simp)
  | cons p r ih =>
    cases i with
    | zero => rfl
    | succ i =>
      have := ih i (by simpa using h)
      rw [show (i + 1) * 2 = i * 2 + 1 + 1 by omega]
      simp only [cells, List.flatMap_cons, List.cons_append, List.nil_append, List.set_cons_succ] at *
      rw [this]
set_option maxHeartbeats 4000000 in
set_option maxRecDepth 1000000 in
theorem see_bad (N M : Nat) (g : Ck) (i e : Int) (w : World) (hg : IsClock w N M g) (hi : i < 0 ∨ (g.l.length : Int) ≤ i ∨ 4611686018427387904 < e) :
    Calls Try.prog 36 #[.pointer (some ⟨N, 0, none⟩), .int .i64 i, .int .u64 e] w fun r w' => r = .returned (.int .i64 1) ∧ w' = w := by
  have c0 := (hg.head 0 _ rfl).1
  go_enter Try.func36, Try.ntmps36
  by_cases h1 : i < 0
  · clear hi
    go_wp2
    go_ret
    exact ⟨rfl, rfl⟩
  · by_cases h2 : i ≥ (g.l.length : Int)
    · clear hi
      go_wp2
      go_ret
      exact ⟨rfl, rfl⟩
    · have h3 : e > 4611686018427387904 := by omega
      clear hi
      go_wp2
      go_ret
      exact ⟨rfl, rfl⟩
set_option maxHeartbeats 4000000 in
set_option maxRecDepth 1000000 in
theorem see_walk (N M : Nat) (g : Ck) (i e : Nat) (w : World) (hg : IsClock w N M g) (hw : Wf g) (hi : i < g.l.length) (he : e ≤ 4611686018427387904) :
    Calls Try.prog 36 #[.pointer (some ⟨N, 0, none⟩), .int .i64 (i : Int), .int .u64 (e : Int)] w fun r w' => r = .returned (.int .i64 0) ∧ IsClock w' N M (see g i e) ∧ Only (fun k => k = N ∨ k = M) w w' := by
  have c0 := (hg.head 0 _ rfl).1
  have c3 := (hg.head 3 _ rfl).1
  obtain ⟨e1, e2⟩ := cells_at g.l i hi
  have d1 := hg.rows _ _ e1
  have d2 := hg.rows _ _ e2
  have d1a := d1.1
  have d1b := d1.2
  have d2a := d2.1
  have d2b := d2.2
  have hfew := hw.few
  have hwf := Aside0.mk (saw_wf hw i e he)
  have hgd : g.l.getD i (0, 0) = g.l[i] := by rw [List.getD_eq_getElem?_getD, List.getElem?_eq_getElem hi]; rfl
  have hNM := hg.ne
  have hMN : M ≠ N := fun e => hNM e.symm
  have X : ∀ W : World, W = (w.setCell ⟨M, i * 2, none⟩ (.int .u64 ((max (g.l[i]).1 e : Nat) : Int))).setCell ⟨M, i * 2 + 1, none⟩ (.int .u64 (g.now : Int)) → IsClock W N M (saw g i e) ∧ Only (fun k => k = N ∨ k = M) w W := by
    intro W hW
    subst hW
    refine ⟨⟨hg.ne, ?_, ?_⟩, ((Only.refl _ w).setCell _ _ (.inr rfl)).setCell _ _ (.inr rfl)⟩
    · have := (hg.head.far ⟨M, i * 2, none⟩ (.int .u64 ((max (g.l[i]).1 e : Nat) : Int)) hMN).far ⟨M, i * 2 + 1, none⟩ (.int .u64 (g.now : Int)) hMN
      simpa [saw] using this
    · have := (hg.rows.set (i * 2) (.int .u64 ((max (g.l[i]).1 e : Nat) : Int))).set (i * 2 + 1) (.int .u64 (g.now : Int))
      rw [cells_set _ _ _ _ hi] at this
      show Row _ M (cells (g.l.set i (max (g.l.getD i (0, 0)).1 e, g.now)))
      rw [hgd]; exact this
  have X' := Aside0.mk X
  clear X hgd e1 e2 d1 d2 hw
  generalize g.l[i] = p at d1a d2a X'
  obtain ⟨p1, p2⟩ := p
  simp only at d1a d2a X'
  rcases Nat.lt_trichotomy p1 e with hx | hx | hx
  · have hx2 : ¬ e < p1 := by omega
    rw [show max p1 e = e by omega] at X'
    go_enter Try.func36, Try.ntmps36
    go_wp2
    go_region
    go_wp2_with (go_at_call 54; refine (move_walk N M (saw g i e) _ (X'.out _ rfl).1.drew hwf.out).mono ?_)
    rintro r w1 ⟨rfl, h1, h2⟩
    have S3 := Aside0.mk (And.intro h1 ((X'.out _ rfl).2.drew.trans (h2.mono fun _ h => .inl h)))
    clear h1 h2
    go_wp2
    go_ret
    exact ⟨rfl, S3.out.1, S3.out.2⟩
  · have hx1 : ¬ e < p1 := by omega
    have hx2 : ¬ p1 < e := by omega
    rw [show max p1 e = e by omega] at X'
    go_enter Try.func36, Try.ntmps36
    go_wp2
    go_region
    go_wp2_with (go_at_call 54; refine (move_walk N M (saw g i e) _ (X'.out _ rfl).1.drew hwf.out).mono ?_)
    rintro r w1 ⟨rfl, h1, h2⟩
    have S3 := Aside0.mk (And.intro h1 ((X'.out _ rfl).2.drew.trans (h2.mono fun _ h => .inl h)))
    clear h1 h2
    go_wp2
    go_ret
    exact ⟨rfl, S3.out.1, S3.out.2⟩
  · have hx2 : ¬ p1 < e := by omega
    rw [show max p1 e = p1 by omega] at X'
    go_enter Try.func36, Try.ntmps36
    go_wp2
    go_region
    go_wp2_with (go_at_call 54; refine (move_walk N M (saw g i e) _ (X'.out _ rfl).1.drew hwf.out).mono ?_)
    rintro r w1 ⟨rfl, h1, h2⟩
    have S3 := Aside0.mk (And.intro h1 ((X'.out _ rfl).2.drew.trans (h2.mono fun _ h => .inl h)))
    clear h1 h2
    go_wp2
    go_ret
    exact ⟨rfl, S3.out.1, S3.out.2⟩

theorem idle_out (N M : Nat) (g : Ck) (i : Int) (w : World) (hg : IsClock w N M g) (hi : i < 0 ∨ (g.l.length : Int) ≤ i) :
    Calls Try.prog 42 #[.pointer (some ⟨N, 0, none⟩), .int .i64 i] w fun r w' => r = .returned (.bool false) ∧ w' = w := by
  have c0 := (hg.head 0 _ rfl).1
  go_enter Try.func42, Try.ntmps42
  by_cases h1 : 0 ≤ i
  · have h2 : ¬ i < (g.l.length : Int) := by omega
    clear hi
    go_wp2
    go_ret
    exact ⟨rfl, rfl⟩
  · clear hi
    go_wp2
    go_ret
    exact ⟨rfl, rfl⟩
set_option maxHeartbeats 4000000 in
set_option maxRecDepth 1000000 in
theorem idle_walk (N M : Nat) (g : Ck) (i : Nat) (w : World) (hg : IsClock w N M g) (hw : Wf g) (hi : i < g.l.length) :
    Calls Try.prog 42 #[.pointer (some ⟨N, 0, none⟩), .int .i64 (i : Int)] w fun r w' => r = .returned (.bool (rests g.idle g.now (g.l.getD i (0, 0)).2)) ∧ Only (fun _ => False) w w' := by
  have c0 := (hg.head 0 _ rfl).1
  obtain ⟨e1, e2⟩ := cells_at g.l i hi
  have d1 := (hg.rows _ _ e1).1
  have d2 := (hg.rows _ _ e2).1
  have hin := (hw.ends _ (List.getElem_mem hi)).2
  have hnow := hw.now
  have hfew := hw.few
  have hgd : g.l.getD i (0, 0) = g.l[i] := by rw [List.getD_eq_getElem?_getD, List.getElem?_eq_getElem hi]; rfl
  rw [hgd]
  clear hgd e1 e2
  generalize g.l[i] = p at d1 d2 hin ⊢
  obtain ⟨e, s⟩ := p
  simp only at d1 d2 hin ⊢
  have c2 := (hg.head 2 _ rfl).1
  have c3 := (hg.head 3 _ rfl).1
  have h0 : (0 : Int) ≤ (i : Int) := by omega
  have h1 : (i : Int) < (g.l.length : Int) := by omega
  go_enter Try.func42, Try.ntmps42
  go_wp2_with (go_at_call 56; refine (rests_walk N g.idle g.now e s _ hin (by omega) c2 c3).mono ?_)
  rintro r w1 ⟨rfl, ho1⟩
  have S := Aside0.mk ho1
  clear ho1
  go_wp2
  go_ret
  exact ⟨rfl, S.out⟩
theorem new_bad (n l d : Int) (w : World) (h : n < 1 ∨ 16 < n ∨ 4611686018427387904 < l ∨ 4611686018427387904 < d) :
    Calls Try.prog 35 #[.int .i64 n, .int .u64 l, .int .u64 d] w fun r w' => r = .returned (.tuple #[.pointer none, .int .i64 1]) ∧ w' = w := by
  go_enter Try.func35, Try.ntmps35
  by_cases h1 : n < 1
  · clear h
    go_wp2
    go_ret2
    exact ⟨rfl, rfl⟩
  · by_cases h2 : n > 16
    · clear h
      go_wp2
      go_ret2
      exact ⟨rfl, rfl⟩
    · by_cases h3 : l > 4611686018427387904
      · clear h
        go_wp2
        go_ret2
        exact ⟨rfl, rfl⟩
      · have h4 : d > 4611686018427387904 := by omega
        clear h
        go_wp2
        go_ret2
        exact ⟨rfl, rfl⟩
theorem cells_zero (n : Nat) : cells (List.replicate n (0, 0)) = List.replicate (n * 2) (.int .u64 0) := by
  induction n with
  | zero => rfl
  | succ n ih =>
    rw [List.replicate_succ, show (n + 1) * 2 = n * 2 + 1 + 1 by omega, List.replicate_succ, List.replicate_succ, ← ih]
    simp [cells]
theorem made_zero (n : Nat) : madeCells #[.int .u64 0, .int .u64 0] (n * 2) = (cells (List.replicate n (0, 0))).toArray := by
  rw [cells_zero]
  apply Array.ext
  · rw [size_madeCells]; simp
  · intro i h1 h2
    rcases Nat.mod_two_eq_zero_or_one i with h | h
    · simp [madeCells, h]
    · simp [madeCells, h]
theorem info115 : (Try.prog.info? 115).map (fun i => (i.zero, i.size, i.bytes)) = some (some (.agg #[.int .u64 0, .int .u64 0]), 2, 16) := by kernel_rfl
theorem make_sources (n : Nat) (w : World) (hn : n ≤ 1000) : Sem.run Try.prog (Instr.makeSlice 110 (.int .i64 (n : Int)) (.int .i64 (n : Int))) w = .ok (.slice (some ⟨w.heap.size, 0, none⟩) n n) (w.alloc (.cells (cells (List.replicate n (0, 0))).toArray 115)) := by
  obtain ⟨i, hi, hz, hs, hb⟩ : ∃ i, Try.prog.info? 115 = some i ∧ i.zero = some (.agg #[.int .u64 0, .int .u64 0]) ∧ i.size = 2 ∧ i.bytes = 16 := by
    have h := info115
    cases e : Try.prog.info? 115 with
    | none => rw [e] at h; cases h
    | some i =>
      rw [e] at h
      simp only [Option.map_some, Option.some.injEq, Prod.mk.injEq] at h
      exact ⟨i, rfl, h.1, h.2.1, h.2.2⟩
  have := run_make (P := Try.prog) w 110 115 i _ Try.underlying110 hi hz .i64 .i64 (n : Int) (n : Int) (by omega) (Int.le_refl _) (by rw [hb]; omega) (by omega)
  rw [Int.toNat_natCast, hs, show (Value.agg #[.int .u64 0, .int .u64 0]).cells = #[.int .u64 0, .int .u64 0] from rfl, made_zero] at this
  exact this
/-- A clock was made, in new blocks. -/
def Made (w : World) (g : Ck) (r : Ending) (w' : World) : Prop := ∃ N M, r = .returned (.tuple #[.pointer (some ⟨N, 0, none⟩), .int .i64 0]) ∧ w.heap.size ≤ N ∧ w.heap.size ≤ M ∧ N < w'.heap.size ∧ M < w'.heap.size ∧ IsClock w' N M g ∧ Only (fun _ => False) w w'
set_option maxHeartbeats 4000000 in
set_option maxRecDepth 1000000 in
theorem new_walk (n l d : Nat) (w : World) (hn : 1 ≤ n ∧ n ≤ 16) (hl : l ≤ 4611686018427387904) (hd : d ≤ 4611686018427387904) :
    Calls Try.prog 35 #[.int .i64 (n : Int), .int .u64 (l : Int), .int .u64 (d : Int)] w fun r w' => Made w ⟨List.replicate n (0, 0), l, d, 0, 0⟩ r w' := by
  have h1 : ¬ (n : Int) < 1 := by omega
  have h2 : ¬ (n : Int) > 16 := by omega
  have h3 : ¬ (l : Int) > 4611686018427387904 := by omega
  have h4 : ¬ (d : Int) > 4611686018427387904 := by omega
  have km := make_sources n w (by omega)
  have R1 := Aside0.mk (Row.new w (cells (List.replicate n (0, 0))) 115)
  have O1 := Aside0.mk ((Only.refl (fun _ => False) w).alloc (.cells (cells (List.replicate n (0, 0))).toArray 115))
  generalize (cells (List.replicate n (0, 0))).toArray = C at km R1 O1
  have hsz : (w.alloc (.cells C 115)).heap.size = w.heap.size + 1 := by show (w.heap.push _).size = _; simp
  go_enter Try.func35, Try.ntmps35
  go_wp2
  go_ret2
  have R2 := Row.new (w.alloc (.cells C 115)) [.slice (some ⟨w.heap.size, 0, none⟩) n n, .int .u64 (l : Int), .int .u64 (d : Int), .int .u64 0, .int .u64 0] 112
  rw [hsz] at R2
  have hsz2 : ∀ o, ((w.alloc (.cells C 115)).alloc o).heap.size = w.heap.size + 2 := fun o => by show ((w.heap.push _).push _).size = _; simp
  refine ⟨w.heap.size + 1, w.heap.size, rfl, by omega, by omega, by rw [hsz2]; omega, by rw [hsz2]; omega, ⟨by omega, ?_, R1.out.alloc _⟩, O1.out.alloc _⟩
  simpa using R2
end Go.Proofs.Ytgpkihnihmbomaa.Wm
