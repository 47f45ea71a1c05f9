/- What no clock answers; the example. No conditions. -/
import Derived.Test.YtgpkihnihmbomaaWn
namespace Go.Proofs.Ytgpkihnihmbomaa.Wm
open Go.RowKit Go.Proofs.YtgpkihnihmbomaaW.PrintWords Go.Proofs.YtgpkihnihmbomaaW.PrintLast
open Go.Proofs.Ytgpkihnihmbomaa.Ob

theorem see_nil (i e : Int) (w : World) : Calls Try.prog 36 #[.pointer none, .int .i64 i, .int .u64 e] w fun r w' => r = .returned (.int .i64 3) ∧ w' = w := by
  go_enter Try.func36, Try.ntmps36
  go_wp2
  go_ret
  exact ⟨rfl, rfl⟩
theorem tick_nil (w : World) : Calls Try.prog 38 #[.pointer none] w fun r w' => r = .returned (.int .i64 3) ∧ w' = w := by
  go_enter Try.func38, Try.ntmps38
  go_wp2
  go_ret
  exact ⟨rfl, rfl⟩
theorem mark_nil (w : World) : Calls Try.prog 37 #[.pointer none] w fun r w' => r = .returned (.int .u64 0) ∧ w' = w := by
  go_enter Try.func37, Try.ntmps37
  go_wp2
  go_ret
  exact ⟨rfl, rfl⟩
theorem now_nil (w : World) : Calls Try.prog 40 #[.pointer none] w fun r w' => r = .returned (.int .u64 0) ∧ w' = w := by
  go_enter Try.func40, Try.ntmps40
  go_wp2
  go_ret
  exact ⟨rfl, rfl⟩
theorem late_nil (e : Int) (w : World) : Calls Try.prog 41 #[.pointer none, .int .u64 e] w fun r w' => r = .returned (.bool (decide (e < 0))) ∧ w' = w := by
  go_enter Try.func41, Try.ntmps41
  go_wp2_with (go_at_call 37; refine (mark_nil _).mono ?_)
  rintro r w1 ⟨rfl, rfl⟩
  go_wp2
  go_ret
  exact ⟨by first | rfl | simp, rfl⟩
theorem idle_nil (i : Int) (w : World) : Calls Try.prog 42 #[.pointer none, .int .i64 i] w fun r w' => r = .returned (.bool false) ∧ w' = w := by
  go_enter Try.func42, Try.ntmps42
  go_wp2
  go_ret
  exact ⟨rfl, rfl⟩

/-- What was done to new blocks alone. -/
theorem Only.fresh {F S : Nat → Prop} {w a b : World} (h : Only F w a) (k : Only S a b) (hS : ∀ i, S i → w.heap.size ≤ i) : Only F w b :=
  ⟨k.os.trans h.os, k.tape.trans h.tape, k.output.trans h.output, Nat.le_trans h.size k.size, fun i hi hf => (k.block i (Nat.lt_of_lt_of_le hi h.size) fun e => by have := hS i e; omega).trans (h.block i hi hf)⟩
theorem wf_new (n l d : Nat) (hn : 1 ≤ n ∧ n ≤ 16) (hl : l ≤ 4611686018427387904) (hd : d ≤ 4611686018427387904) : Wf ⟨List.replicate n (0, 0), l, d, 0, 0⟩ :=
  ⟨by simp; omega, by simp; omega, fun p hp => by rw [List.eq_of_mem_replicate hp]; simp, hl, hd, by simp only; omega, by simp only; omega⟩

set_option maxHeartbeats 4000000 in
set_option maxRecDepth 1000000 in
theorem alive_walk (w : World) : Calls Try.prog 34 #[] w fun r w' => r = .returned (.bool true) ∧ Only (fun _ => False) w w' := by
  go_enter Try.func34, Try.ntmps34
  go_wp2_with (go_at_call 35; refine (new_walk 2 2 0 _ (by decide) (by decide) (by decide)).mono ?_)
  rintro r w1 ⟨N, M, rfl, hN, hM, hN1, hM1, hg, ho⟩
  have wf0 : Wf ⟨List.replicate 2 (0, 0), 2, 0, 0, 0⟩ := wf_new 2 2 0 (by decide) (by decide) (by decide)
  have G := Aside0.mk (And.intro hg ho)
  clear hg ho
  go_wp2_with (go_at_call 36; refine (see_walk N M _ 0 10 _ G.out.1 wf0 (by decide) (by decide)).mono ?_)
  rintro r w2 ⟨rfl, hg2, ho2⟩
  have e1 : see ⟨List.replicate 2 (0, 0), 2, 0, 0, 0⟩ 0 10 = ⟨[(10, 0), (0, 0)], 2, 0, 0, 0⟩ := by kernel_rfl
  have wf1 := move_wf (saw_wf wf0 0 10 (by decide))
  rw [show move (saw ⟨List.replicate 2 (0, 0), 2, 0, 0, 0⟩ 0 10) = ⟨[(10, 0), (0, 0)], 2, 0, 0, 0⟩ from e1] at wf1
  rw [e1] at hg2
  have G2 := Aside0.mk (And.intro hg2 (Only.fresh G.out.2 ho2 (by rintro i (rfl | rfl) <;> assumption)))
  clear hg2 ho2 G e1 wf0
  go_wp2_with (first
    | (go_at_call 37; refine (mark_walk N M _ _ G2.out.1).mono ?_; rintro r w3 ⟨rfl, rfl⟩)
    | (go_at_call 36; refine (see_walk N M _ 1 7 _ G2.out.1 wf1 (by decide) (by decide)).mono ?_))
  rintro r w3 ⟨rfl, hg3, ho3⟩
  have e2 : see ⟨[(10, 0), (0, 0)], 2, 0, 0, 0⟩ 1 7 = ⟨[(10, 0), (7, 0)], 2, 0, 0, 5⟩ := by kernel_rfl
  rw [e2] at hg3
  have G3 := Aside0.mk (And.intro hg3 (Only.fresh G2.out.2 ho3 (by rintro i (rfl | rfl) <;> assumption)))
  clear hg3 ho3 G2 e2 wf1
  go_wp2_with (first
    | (go_at_call 35; refine (new_bad 0 0 0 _ (.inl (by decide))).mono ?_; rintro r w4 ⟨rfl, rfl⟩)
    | (go_at_call 37; refine (mark_walk N M _ _ G3.out.1).mono ?_; rintro r w4 ⟨rfl, rfl⟩)
    | (go_at_call 41; refine (late_walk N M _ _ 4 G3.out.1).mono ?_; rintro r w4 ⟨rfl, rfl⟩)
    | (go_at_call 41; refine (late_walk N M _ _ 5 G3.out.1).mono ?_; rintro r w4 ⟨rfl, rfl⟩))
  go_ret
  exact ⟨rfl, G3.out.2⟩

set_option maxHeartbeats 4000000 in
set_option maxRecDepth 1000000 in
theorem nil_law (i e : Int) (w : World) (he : 0 ≤ e) : Calls Try.prog 12 #[.int .i64 i, .int .u64 e] w fun r w' => r = .returned (.bool true) ∧ Below w.heap.size w w' := by
  go_enter Try.func12, Try.ntmps12
  go_wp2_with (go_at_call 34; refine (alive_walk _).mono ?_)
  rintro r w1 ⟨rfl, ho⟩
  have G := Aside0.mk ho
  clear ho
  have hle : decide (e < 0) = false := decide_eq_false (by omega)
  go_wp2_with (first
    | (go_at_call 36; refine (see_nil i e _).mono ?_; rintro r w4 ⟨rfl, rfl⟩)
    | (go_at_call 38; refine (tick_nil _).mono ?_; rintro r w4 ⟨rfl, rfl⟩)
    | (go_at_call 37; refine (mark_nil _).mono ?_; rintro r w4 ⟨rfl, rfl⟩)
    | (go_at_call 40; refine (now_nil _).mono ?_; rintro r w4 ⟨rfl, rfl⟩)
    | (go_at_call 41; refine (late_nil e _).mono ?_; rintro r w4 ⟨rfl, rfl⟩)
    | (go_at_call 42; refine (idle_nil i _).mono ?_; rintro r w4 ⟨rfl, rfl⟩))
  go_ret
  exact ⟨rfl, G.out.below (fun _ h => h.elim) (Nat.le_refl _)⟩
end Go.Proofs.Ytgpkihnihmbomaa.Wm
