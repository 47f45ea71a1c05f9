-- Made by a program of this session (xprint.py), over the translation; Lean checks it.
import Derived.Test.YtbfmmjdbnbfnmaaXDx0
import Derived.Test.YtbfmmjdbnbfnmaaXDx5
import Derived.Test.YtbfmmjdbnbfnmaaXDx32
import Derived.Test.YtbfmmjdbnbfnmaaXDx33
import Derived.Test.YtbfmmjdbnbfnmaaXDx37
namespace Go.Proofs.Ytbfmmjdbnbfnmaa.XD
open Go.RowKit Go.Proofs.YtbfmmjdbnbfnmaaW.PrintWords Go.Proofs.YtbfmmjdbnbfnmaaW.PrintLast Go.Proofs.YtbfmmjdbnbfnmaaW.PrintMore
attribute [local go_sem] max2_int min2_int max_two min_two max_three min_three max_four min_four   -- for this text's walks alone
set_option linter.unusedVariables false
set_option linter.unusedSimpArgs false

/-! ### tallyroomlaw08_FrameBack: function 13 -/
mutual
def tallyroomlaw08_FrameBack.l0 : Nat → List (List Int) → Int → Int → List Int → List Int → Int → Option (Bool)
  | 0, _, _, _, _, _, _ => none
  | k + 1, x0, x1, x2, x7, x8, x9 => if x9 < (x0.length : Int) then (if 0 ≤ x9 then (if ((rd_L2 x0 x9).length : Int) > 100 then (some true) else ((frame_Wrap.f k (rd_L2 x0 x9)).bind fun bt451 => (if bt451.2 = 0 then (if x8.length < 17592186044416 then (if x7.length + bt451.1.length < 140737488355328 then (tallyroomlaw08_FrameBack.l0 k x0 x1 x2 (x7 ++ bt451.1) (x8 ++ [(x7.length : Int)]) (wrap64 (x9 + 1))) else (none)) else (none)) else (some false)))) else (none)) else ((frame_All.f k x7).bind fun bt461 => (if (bt461.1.length : Int) = (x0.length : Int) then (if bt461.2.1 = 0 then (tallyroomlaw08_FrameBack.j1 k x0 x1 x2 x7 x8 bt461.1 (bt461.2.2 != (x7.length : Int))) else (tallyroomlaw08_FrameBack.j1 k x0 x1 x2 x7 x8 bt461.1 true)) else (tallyroomlaw08_FrameBack.j1 k x0 x1 x2 x7 x8 bt461.1 true)))
def tallyroomlaw08_FrameBack.j1 : Nat → List (List Int) → Int → Int → List Int → List Int → List (List Int) → Bool → Option (Bool)
  | 0, _, _, _, _, _, _, _ => none
  | k + 1, x0, x1, x2, x7, x8, x12, x76 => if x76 = true then (some false) else (tallyroomlaw08_FrameBack.l1 k x0 x1 x2 x7 x8 x12 0)
def tallyroomlaw08_FrameBack.l1 : Nat → List (List Int) → Int → Int → List Int → List Int → List (List Int) → Int → Option (Bool)
  | 0, _, _, _, _, _, _, _ => none
  | k + 1, x0, x1, x2, x7, x8, x12, x15 => if x15 < (x12.length : Int) then (if 0 ≤ x15 then (if x15 < (x0.length : Int) then ((tallyroomref01_Bytes.f (rd_L2 x12 x15) (rd_L2 x0 x15)).bind fun t468 => (if t468 = true then (tallyroomlaw08_FrameBack.l1 k x0 x1 x2 x7 x8 x12 (wrap64 (x15 + 1))) else (some false))) else (none)) else (none)) else (if (x12.length : Int) = 0 then (some true) else (if 0 ≤ (Int.tmod (wrap64 (x1)) (x12.length : Int)) then (if (Int.tmod (wrap64 (x1)) (x12.length : Int)) < (x8.length : Int) then (if (Int.tmod (wrap64 (x1)) (x12.length : Int)) < (x0.length : Int) then (if (wrap64 (((rd_L2 x0 (Int.tmod (wrap64 (x1)) (x12.length : Int))).length : Int) + 4)) = 0 then (none) else (if 0 ≤ (wrap64 ((wrap64 ((rd x8 (Int.tmod (wrap64 (x1)) (x12.length : Int))) + 1)) + (Int.tmod (wrap64 (Int.tdiv (wrap64 (x2)) 8)) (wrap64 (((rd_L2 x0 (Int.tmod (wrap64 (x1)) (x12.length : Int))).length : Int) + 4))))) then (if (wrap64 ((wrap64 ((rd x8 (Int.tmod (wrap64 (x1)) (x12.length : Int))) + 1)) + (Int.tmod (wrap64 (Int.tdiv (wrap64 (x2)) 8)) (wrap64 (((rd_L2 x0 (Int.tmod (wrap64 (x1)) (x12.length : Int))).length : Int) + 4))))) < (x7.length : Int) then (if 0 ≤ (IntKind.u64.wrap (Int.tmod x2 8)) then ((frame_All.f k (x7.set ((wrap64 ((wrap64 ((rd x8 (Int.tmod (wrap64 (x1)) (x12.length : Int))) + 1)) + (Int.tmod (wrap64 (Int.tdiv (wrap64 (x2)) 8)) (wrap64 (((rd_L2 x0 (Int.tmod (wrap64 (x1)) (x12.length : Int))).length : Int) + 4))))) : Int).toNat (Go.bits .xor .u8 (rd x7 (wrap64 ((wrap64 ((rd x8 (Int.tmod (wrap64 (x1)) (x12.length : Int))) + 1)) + (Int.tmod (wrap64 (Int.tdiv (wrap64 (x2)) 8)) (wrap64 (((rd_L2 x0 (Int.tmod (wrap64 (x1)) (x12.length : Int))).length : Int) + 4)))))) (shl .u8 1 (IntKind.u64.wrap (Int.tmod x2 8)))))).bind fun bt473 => (if (bt473.1.length : Int) = (wrap64 ((x12.length : Int) - 1)) then (if bt473.2.1 = 1 then (some (bt473.2.2 == (x7.length : Int))) else (some false)) else (some false))) else (none)) else (none)) else (none))) else (none)) else (none)) else (none)))
end
def tallyroomlaw08_FrameBack.f (k : Nat) (l0 : List (List Int)) (a1 : Int) (a2 : Int) : Option (Bool) := (tallyroomlaw08_alive.f k).bind fun t448 => (if t448 = true then (if (l0.length : Int) > 20 then (some true) else (tallyroomlaw08_FrameBack.l0 k l0 a1 a2 ([] : List Int) ([] : List Int) 0)) else (some false))
theorem tallyroomlaw08_FrameBack.mono_l : ∀ k, (∀ y0 y1 y2 y3 y4 y5, LeO (tallyroomlaw08_FrameBack.l0 k y0 y1 y2 y3 y4 y5) (tallyroomlaw08_FrameBack.l0 (k + 1) y0 y1 y2 y3 y4 y5)) ∧ (∀ y0 y1 y2 y3 y4 y5 y6, LeO (tallyroomlaw08_FrameBack.j1 k y0 y1 y2 y3 y4 y5 y6) (tallyroomlaw08_FrameBack.j1 (k + 1) y0 y1 y2 y3 y4 y5 y6)) ∧ (∀ y0 y1 y2 y3 y4 y5 y6, LeO (tallyroomlaw08_FrameBack.l1 k y0 y1 y2 y3 y4 y5 y6) (tallyroomlaw08_FrameBack.l1 (k + 1) y0 y1 y2 y3 y4 y5 y6))
  | 0 => ⟨fun _ _ _ _ _ _ r h => by simp [tallyroomlaw08_FrameBack.l0] at h, fun _ _ _ _ _ _ _ r h => by simp [tallyroomlaw08_FrameBack.j1] at h, fun _ _ _ _ _ _ _ r h => by simp [tallyroomlaw08_FrameBack.l1] at h⟩
  | k + 1 => by
    obtain ⟨ih0, ih1, ih2⟩ := tallyroomlaw08_FrameBack.mono_l k
    refine ⟨?_, ?_, ?_⟩
    · intro y0 y1 y2 y3 y4 y5
      unfold tallyroomlaw08_FrameBack.l0
      repeat' first
      | (with_reducible exact ih0 _ _ _ _ _ _)
      | (with_reducible exact ih1 _ _ _ _ _ _ _)
      | (with_reducible exact ih2 _ _ _ _ _ _ _)
      | (with_reducible exact frame_All.mono _ _)
      | (with_reducible exact frame_Wrap.mono _ _)
      | (with_reducible exact tallyroomlaw08_alive.mono _)
      | (with_reducible exact LeO.refl _)
      | (with_reducible exact LeO.none _)
      | (with_reducible refine LeO.ite ?_ ?_)
      | (with_reducible refine LeO.bind ?_ (fun _ => ?_))
      | exact ih0 _ _ _ _ _ _
      | exact ih1 _ _ _ _ _ _ _
      | exact ih2 _ _ _ _ _ _ _
      | exact frame_All.mono _ _
      | exact frame_Wrap.mono _ _
      | exact tallyroomlaw08_alive.mono _
      | exact LeO.none _
      | refine LeO.ite ?_ ?_
      | refine LeO.bind ?_ (fun _ => ?_)
    · intro y0 y1 y2 y3 y4 y5 y6
      unfold tallyroomlaw08_FrameBack.j1
      repeat' first
      | (with_reducible exact ih0 _ _ _ _ _ _)
      | (with_reducible exact ih1 _ _ _ _ _ _ _)
      | (with_reducible exact ih2 _ _ _ _ _ _ _)
      | (with_reducible exact frame_All.mono _ _)
      | (with_reducible exact frame_Wrap.mono _ _)
      | (with_reducible exact tallyroomlaw08_alive.mono _)
      | (with_reducible exact LeO.refl _)
      | (with_reducible exact LeO.none _)
      | (with_reducible refine LeO.ite ?_ ?_)
      | (with_reducible refine LeO.bind ?_ (fun _ => ?_))
      | exact ih0 _ _ _ _ _ _
      | exact ih1 _ _ _ _ _ _ _
      | exact ih2 _ _ _ _ _ _ _
      | exact frame_All.mono _ _
      | exact frame_Wrap.mono _ _
      | exact tallyroomlaw08_alive.mono _
      | exact LeO.none _
      | refine LeO.ite ?_ ?_
      | refine LeO.bind ?_ (fun _ => ?_)
    · intro y0 y1 y2 y3 y4 y5 y6
      unfold tallyroomlaw08_FrameBack.l1
      repeat' first
      | (with_reducible exact ih0 _ _ _ _ _ _)
      | (with_reducible exact ih1 _ _ _ _ _ _ _)
      | (with_reducible exact ih2 _ _ _ _ _ _ _)
      | (with_reducible exact frame_All.mono _ _)
      | (with_reducible exact frame_Wrap.mono _ _)
      | (with_reducible exact tallyroomlaw08_alive.mono _)
      | (with_reducible exact LeO.refl _)
      | (with_reducible exact LeO.none _)
      | (with_reducible refine LeO.ite ?_ ?_)
      | (with_reducible refine LeO.bind ?_ (fun _ => ?_))
      | exact ih0 _ _ _ _ _ _
      | exact ih1 _ _ _ _ _ _ _
      | exact ih2 _ _ _ _ _ _ _
      | exact frame_All.mono _ _
      | exact frame_Wrap.mono _ _
      | exact tallyroomlaw08_alive.mono _
      | exact LeO.none _
      | refine LeO.ite ?_ ?_
      | refine LeO.bind ?_ (fun _ => ?_)
theorem tallyroomlaw08_FrameBack.mono : ∀ a0 a1 a2 k, LeO (tallyroomlaw08_FrameBack.f k a0 a1 a2) (tallyroomlaw08_FrameBack.f (k + 1) a0 a1 a2) := by
  intro a0 a1 a2 k
  obtain ⟨ih0, ih1, ih2⟩ := tallyroomlaw08_FrameBack.mono_l k
  unfold tallyroomlaw08_FrameBack.f
  repeat' first
      | (with_reducible exact ih0 _ _ _ _ _ _)
      | (with_reducible exact ih1 _ _ _ _ _ _ _)
      | (with_reducible exact ih2 _ _ _ _ _ _ _)
      | (with_reducible exact frame_All.mono _ _)
      | (with_reducible exact frame_Wrap.mono _ _)
      | (with_reducible exact tallyroomlaw08_alive.mono _)
      | (with_reducible exact LeO.refl _)
      | (with_reducible exact LeO.none _)
      | (with_reducible refine LeO.ite ?_ ?_)
      | (with_reducible refine LeO.bind ?_ (fun _ => ?_))
      | exact ih0 _ _ _ _ _ _
      | exact ih1 _ _ _ _ _ _ _
      | exact ih2 _ _ _ _ _ _ _
      | exact frame_All.mono _ _
      | exact frame_Wrap.mono _ _
      | exact tallyroomlaw08_alive.mono _
      | exact LeO.none _
      | refine LeO.ite ?_ ?_
      | refine LeO.bind ?_ (fun _ => ?_)
set_option maxHeartbeats 8000000 in
set_option maxRecDepth 100000 in
theorem tallyroomlaw08_FrameBack.calls (k : Nat) (A0 : Option Addr) (c0 : Nat) (l0 : List (List Int)) (a1 : Int) (a2 : Int) (r : Bool) (w : World) (hr0 : Kd.C (Kd.slice 5 (Kd.int .u8)) w A0 l0.length l0) (hc0 : l0.length ≤ c0) (h : tallyroomlaw08_FrameBack.f k l0 a1 a2 = some r) :
    Calls Try.prog 13 #[.slice A0 l0.length c0, .int .u16 a1, .int .u16 a2] w fun e w' => e = .returned (.bool r) ∧ Below w.heap.size w w' := by
  have HR0 := Aside0.mk hr0
  have HC0 := Aside0.mk hc0
  clear hr0 hc0
  have HB := Aside0.mk (Below.refl w.heap.size w)
  have H : ((tallyroomlaw08_alive.f k).bind fun t448 => (if t448 = true then (if (l0.length : Int) > 20 then (some true) else (tallyroomlaw08_FrameBack.l0 k l0 a1 a2 ([] : List Int) ([] : List Int) 0)) else (some false))) = some r := h
  clear h
  replace H := Option.bind_eq_some_iff.mp H
  obtain ⟨t448, A40, H⟩ := H
  replace H : (if t448 = true then (if (l0.length : Int) > 20 then (some true) else (tallyroomlaw08_FrameBack.l0 k l0 a1 a2 ([] : List Int) ([] : List Int) 0)) else (some false)) = some r := H
  have A4 := Aside0.mk A40
  clear A40
  by_cases c5 : t448 = true
  · subst c5
    have H1 : (if (l0.length : Int) > 20 then (some true) else (tallyroomlaw08_FrameBack.l0 k l0 a1 a2 ([] : List Int) ([] : List Int) 0)) = some r := by rw [if_pos rfl] at H; exact H
    clear H
    have H := H1
    clear H1
    by_cases c6 : (l0.length : Int) > 20
    · rw [if_pos c6] at H
      have c6b0 : decide (20 < (l0.length : Int)) = true := decide_eq_true c6
      have c6b1 : decide (20 < l0.length) = true := decide_eq_true (by omega)
      clear c6
      obtain rfl := Option.some.inj H
      go_enter Try.func13, Try.ntmps13
      go_wp2_with (first | (go_at_call 32; (with_reducible refine (tallyroomlaw08_alive.calls k  true _ A4.out).mono ?_); rintro e w7 ⟨rfl, hb⟩; have n0_ := Aside0.mk (below_step (by repeat (first | (with_reducible first | exact HB.out | apply below_alloc | apply pw_below_drewN | apply below_drew1) | exact HB.out)) hb); clear HB; have HB := n0_; clear n0_; (try clear hb); (try clear hb2); (try clear hk); (try clear hi)))
      repeat (go_quiet (first | (go_at_call 32; (with_reducible refine (tallyroomlaw08_alive.calls k  true _ A4.out).mono ?_); rintro e w7 ⟨rfl, hb⟩; have n0_ := Aside0.mk (below_step (by repeat (first | (with_reducible first | exact HB.out | apply below_alloc | apply pw_below_drewN | apply below_drew1) | exact HB.out)) hb); clear HB; have HB := n0_; clear n0_; (try clear hb); (try clear hb2); (try clear hk); (try clear hi))); try go_wp2_with (first | (go_at_call 32; (with_reducible refine (tallyroomlaw08_alive.calls k  true _ A4.out).mono ?_); rintro e w7 ⟨rfl, hb⟩; have n0_ := Aside0.mk (below_step (by repeat (first | (with_reducible first | exact HB.out | apply below_alloc | apply pw_below_drewN | apply below_drew1) | exact HB.out)) hb); clear HB; have HB := n0_; clear n0_; (try clear hb); (try clear hb2); (try clear hk); (try clear hi))))
      go_ret
      exact ⟨by first | rfl | (have e_ := Option.some.inj (A12.out.symm.trans A22.out); simp only [Prod.mk.injEq] at e_; obtain ⟨rfl, rfl⟩ := e_; first | rfl | (simp [*, errW_none, errW_some] <;> rfl)) | (simp [errW_none, errW_some] <;> rfl) | (simp [*, errW_none, errW_some] <;> rfl), by repeat (first | (with_reducible first | exact HB.out | apply below_alloc | apply pw_below_drewN | apply below_drew1) | exact HB.out)⟩
    · rw [if_neg c6] at H
      have c6b0 : decide (20 < (l0.length : Int)) = false := decide_eq_false c6
      have c6b1 : decide (20 < l0.length) = false := decide_eq_false (by omega)
      clear c6
      have H' := Aside0.mk H
      clear H
      go_enter Try.func13, Try.ntmps13
      go_wp2_with (first | (go_at_call 32; (with_reducible refine (tallyroomlaw08_alive.calls k  true _ A4.out).mono ?_); rintro e w8 ⟨rfl, hb⟩; have n0_ := Aside0.mk (below_step (by repeat (first | (with_reducible first | exact HB.out | apply below_alloc | apply pw_below_drewN | apply below_drew1) | exact HB.out)) hb); clear HB; have HB := n0_; clear n0_; (try clear hb); (try clear hb2); (try clear hk); (try clear hi)))
      repeat (go_quiet (first | (go_at_call 32; (with_reducible refine (tallyroomlaw08_alive.calls k  true _ A4.out).mono ?_); rintro e w8 ⟨rfl, hb⟩; have n0_ := Aside0.mk (below_step (by repeat (first | (with_reducible first | exact HB.out | apply below_alloc | apply pw_below_drewN | apply below_drew1) | exact HB.out)) hb); clear HB; have HB := n0_; clear n0_; (try clear hb); (try clear hb2); (try clear hk); (try clear hi))); try go_wp2_with (first | (go_at_call 32; (with_reducible refine (tallyroomlaw08_alive.calls k  true _ A4.out).mono ?_); rintro e w8 ⟨rfl, hb⟩; have n0_ := Aside0.mk (below_step (by repeat (first | (with_reducible first | exact HB.out | apply below_alloc | apply pw_below_drewN | apply below_drew1) | exact HB.out)) hb); clear HB; have HB := n0_; clear n0_; (try clear hb); (try clear hb2); (try clear hk); (try clear hi))))
      go_loopg [7, 8, 9] k (fun kq v7 v8 v9 w' => ∃ (x7_1 : List Int) (x8_1 : List Int) (x9_1 : Int), v9 = .int .i64 x9_1 ∧ Aside0 (tallyroomlaw08_FrameBack.l0 kq l0 a1 a2 x7_1 x8_1 x9_1 = some r) ∧ Aside0 (kq ≤ k) ∧ Aside0 (Kd.R (Kd.int .u8) 5 w' w.heap.size (fun _ => True) v7 x7_1) ∧ Aside0 (Kd.R (Kd.int .i64) 3 w' w.heap.size (fun _ => True) v8 x8_1) ∧ Aside0 (Below w.heap.size w w'))
      case atStart => exact ⟨(([] : List Int)), (([] : List Int)), (0), (by first | rfl | (simp; done) | (simp [*]; done)), H', ⟨Nat.le_refl _⟩, ⟨by first | exact Kd.R_nil _ _ _ _ _ | exact Kd.N_nil _ _ _ _ _ | exact Kd.V_nil _ _ _ _ _ | exact Kd.Q_nil _ _ _ _ _ | exact Kd.S_nil _ _ _ _ _⟩, ⟨by first | exact Kd.R_nil _ _ _ _ _ | exact Kd.N_nil _ _ _ _ _ | exact Kd.V_nil _ _ _ _ _ | exact Kd.Q_nil _ _ _ _ _ | exact Kd.S_nil _ _ _ _ _⟩, ⟨by repeat (first | (with_reducible first | exact HB.out | apply below_alloc | apply pw_below_drewN | apply below_drew1) | exact HB.out)⟩⟩
      case round =>
        clear H'
        try clear c1
        try clear p2
        try clear c5
        try clear c6
        try clear c6b0
        try clear c6b1
        obtain ⟨x7_1, x8_1, x9_1, rfl, HA, HK1, HO_7, HO_8, HB⟩ := hrel
        cases gk with
        | zero => exact absurd HA.out (by simp [tallyroomlaw08_FrameBack.l0])
        | succ k1 =>
          have H := HA.out
          clear HA
          simp only [tallyroomlaw08_FrameBack.l0] at H
          by_cases c9 : x9_1 < (l0.length : Int)
          · rw [if_pos c9] at H
            have c9b0 : decide (x9_1 < (l0.length : Int)) = true := decide_eq_true c9
            clear c9
            by_cases c10 : 0 ≤ x9_1
            · rw [if_pos c10] at H
              have c10b0 : decide (0 ≤ x9_1) = true := decide_eq_true c10
              clear c10
              by_cases c11 : ((rd_L2 l0 x9_1).length : Int) > 100
              · rw [if_pos c11] at H
                have c11b0 : decide (100 < ((rd_L2 l0 x9_1).length : Int)) = true := decide_eq_true c11
                have c11b1 : decide (100 < (rd_L2 l0 x9_1).length) = true := decide_eq_true (by omega)
                clear c11
                obtain rfl := Option.some.inj H
                have p449 : 0 ≤ (x9_1 : Int) := of_decide_eq_true (by first | (with_reducible assumption) | assumption)
                have q449 : x9_1 < (l0.length : Int) := of_decide_eq_true (by first | (with_reducible assumption) | assumption)
                obtain ⟨ad449, A449_0, c449_0, e449, hx449_0, hl449_0, hi449_0⟩ := at_L2 HR0.out x9_1 p449 q449
                cases e449
                replace hx449_0 := (HB.out.cell (World.block_lt_of_cell? w _ hx449_0)).trans hx449_0
                have HR449_0 := Aside0.mk hi449_0
                have HC449_0 := Aside0.mk hl449_0
                clear hi449_0 hl449_0
                replace p449 := eq_true p449
                replace q449 := eq_true q449
                go_wp2
                repeat (go_quiet (fail); try go_wp2)
                go_ret
                exact ⟨by first | rfl | (have e_ := Option.some.inj (A12.out.symm.trans A22.out); simp only [Prod.mk.injEq] at e_; obtain ⟨rfl, rfl⟩ := e_; first | rfl | (simp [*, errW_none, errW_some] <;> rfl)) | (simp [errW_none, errW_some] <;> rfl) | (simp [*, errW_none, errW_some] <;> rfl), by repeat (first | (with_reducible first | exact HB.out | apply below_alloc | apply pw_below_drewN | apply below_drew1) | exact HB.out)⟩
              · rw [if_neg c11] at H
                have c11b0 : decide (100 < ((rd_L2 l0 x9_1).length : Int)) = false := decide_eq_false c11
                have c11b1 : decide (100 < (rd_L2 l0 x9_1).length) = false := decide_eq_false (by omega)
                clear c11
                replace H := Option.bind_eq_some_iff.mp H
                obtain ⟨⟨t451, t452⟩, A120, H⟩ := H
                replace H : (if t452 = 0 then (if x8_1.length < 17592186044416 then (if x7_1.length + t451.length < 140737488355328 then (tallyroomlaw08_FrameBack.l0 k1 l0 a1 a2 (x7_1 ++ t451) (x8_1 ++ [(x7_1.length : Int)]) (wrap64 (x9_1 + 1))) else (none)) else (none)) else (some false)) = some r := H
                have A12 := Aside0.mk A120
                clear A120
                by_cases c13 : t452 = 0
                · rw [if_pos c13] at H
                  have c13b0 : (t452 == 0) = true := beq_iff_eq.mpr c13
                  have c13b1 : (t452 != 0) = false := bne_eq_false_iff_eq.mpr c13
                  clear c13
                  by_cases c14 : x8_1.length < 17592186044416
                  · rw [if_pos c14] at H
                    have LMc14 := Aside0.mk c14
                    clear c14
                    obtain ⟨y455, hy455⟩ : ∃ y_ : List Int, y_ = (x8_1 ++ [(x7_1.length : Int)]) := ⟨_, rfl⟩
                    replace H : (if x7_1.length + t451.length < 140737488355328 then (tallyroomlaw08_FrameBack.l0 k1 l0 a1 a2 (x7_1 ++ t451) y455 (wrap64 (x9_1 + 1))) else (none)) = some r := by first | (rw [hy455]; with_reducible exact H) | (have H2_ := (Option.bind_some _ _).symm.trans H; rw [hy455]; with_reducible exact H2_) | (have H2_ := (Option.bind_some _ _).symm.trans H; with_reducible exact H2_) | with_reducible exact H | (rw [hy455]; exact H) | exact H
                    have Ny455 := Aside0.mk hy455
                    clear hy455
                    by_cases c15 : x7_1.length + t451.length < 140737488355328
                    · rw [if_pos c15] at H
                      have LMc15 := Aside0.mk c15
                      clear c15
                      obtain ⟨y458, hy458⟩ : ∃ y_ : List Int, y_ = (x7_1 ++ t451) := ⟨_, rfl⟩
                      replace H : (tallyroomlaw08_FrameBack.l0 k1 l0 a1 a2 y458 y455 (wrap64 (x9_1 + 1))) = some r := by first | (rw [hy458]; with_reducible exact H) | (have H2_ := (Option.bind_some _ _).symm.trans H; rw [hy458]; with_reducible exact H2_) | (have H2_ := (Option.bind_some _ _).symm.trans H; with_reducible exact H2_) | with_reducible exact H | (rw [hy458]; exact H) | exact H
                      have Ny458 := Aside0.mk hy458
                      clear hy458
                      have H' := Aside0.mk H
                      clear H
                      have p449 : 0 ≤ (x9_1 : Int) := of_decide_eq_true (by first | (with_reducible assumption) | assumption)
                      have q449 : x9_1 < (l0.length : Int) := of_decide_eq_true (by first | (with_reducible assumption) | assumption)
                      obtain ⟨ad449, A449_0, c449_0, e449, hx449_0, hl449_0, hi449_0⟩ := at_L2 HR0.out x9_1 p449 q449
                      cases e449
                      replace hx449_0 := (HB.out.cell (World.block_lt_of_cell? w _ hx449_0)).trans hx449_0
                      have HR449_0 := Aside0.mk hi449_0
                      have HC449_0 := Aside0.mk hl449_0
                      clear hi449_0 hl449_0
                      replace p449 := eq_true p449
                      replace q449 := eq_true q449
                      have p450 : 0 ≤ (x9_1 : Int) := of_decide_eq_true (by first | (with_reducible assumption) | assumption)
                      have q450 : x9_1 < (l0.length : Int) := of_decide_eq_true (by first | (with_reducible assumption) | assumption)
                      obtain ⟨ad450, A450_0, c450_0, e450, hx450_0, hl450_0, hi450_0⟩ := at_L2 HR0.out x9_1 p450 q450
                      obtain rfl : ad449 = ad450 := (by injection e450)
                      replace hx450_0 := (HB.out.cell (World.block_lt_of_cell? w _ hx450_0)).trans hx450_0
                      have HR450_0 := Aside0.mk hi450_0
                      have HC450_0 := Aside0.mk hl450_0
                      clear hi450_0 hl450_0
                      replace p450 := eq_true p450
                      replace q450 := eq_true q450
                      have ea_ := Option.some.inj (hx449_0.symm.trans hx450_0)
                      injection ea_ with ea_ en_ ec_
                      subst ea_
                      subst ec_
                      clear en_
                      go_wp2_with (first | (go_at_call 35; (with_reducible refine (frame_Wrap.calls k1 _ _ (rd_L2 l0 x9_1) t451 t452 _ ?side1 ?side2 A12.out).mono ?_); (case side1 => repeat (first | exact (Kd.C_below HR450_0.out HB.out) | (with_reducible refine Kd.C_alloc ?_ _) | (with_reducible refine Kd.C_drewN ?_ _) | (with_reducible refine Kd.C_drew ?_))); (case side2 => exact HC450_0.out); rintro e w16 ⟨v453, rfl, ho0, hb⟩; have n0_ := Aside0.mk (Kd.R_elder' (by (with_reducible repeat (first | apply Kd.R_alloc | apply Kd.R_drewN | apply Kd.R_drew)); exact HO_7.out) (Kd.R_base ho0) hb); have n1_ := Aside0.mk (Kd.R_below (by (with_reducible repeat (first | apply Kd.R_alloc | apply Kd.R_drewN | apply Kd.R_drew)); exact HO_8.out) hb); have n2_ := Aside0.mk (Kd.R_lower (Kd.R_new' ho0 (Kd.R_lt (by (with_reducible repeat (first | apply Kd.R_alloc | apply Kd.R_drewN | apply Kd.R_drew)); exact HO_7.out))) (below_size (by repeat (first | (with_reducible first | exact HB.out | apply below_alloc | apply pw_below_drewN | apply below_drew1) | exact HB.out)))); have n3_ := Aside0.mk (below_step (by repeat (first | (with_reducible first | exact HB.out | apply below_alloc | apply pw_below_drewN | apply below_drew1) | exact HB.out)) hb); clear HO_7; clear HO_8; clear HB; have HO_7 := n0_; have HO_8 := n1_; have HO454 := n2_; have HB := n3_; clear n0_ n1_ n2_ n3_; (try clear hb); (try clear hb2); (try clear hk); (try clear hi); (try clear ho0); obtain ⟨Ao17, co17, eo17⟩ := Kd.R_slice HO_7.out; subst eo17) | ((with_reducible refine gate_builtin (b := .append) (xs := #[.tmp 48, .tmp 51]) rfl ?_); (try (refine gate_guard (by rfl) ?_; dsimp only)); at_builtin; refine Kd.R_append (Kd.int .i64) (w0 := w) w.heap.size rfl (.tmp 48) (.tmp 51) 60 3 (.int .i64 0) 8 rfl Try.underlying60 info3 rfl (by decide) (by omega) u8 x8_1 (x7_1.length : Int) [.int .i64 (x7_1.length : Int)] (fun _ => True) (fun _ => False) rfl rfl ?aP (fun _ hk => hk.elim) ?aF ?aO ?aB ?aS ?aL ?_; (case aP => exact rfl); (case aB => exact (by repeat (first | (with_reducible first | exact HB.out | apply below_alloc | apply pw_below_drewN | apply below_drew1) | exact HB.out))); (case aF => exact (fun _ _ => trivial)); (case aO => exact (by (with_reducible repeat (first | apply Kd.R_alloc | apply Kd.R_drewN | apply Kd.R_drew)); exact HO_8.out)); (case aS => exact (below_size (by repeat (first | (with_reducible first | exact HB.out | apply below_alloc | apply pw_below_drewN | apply below_drew1) | exact HB.out)))); (case aL => have := LMc14.out; omega); intro v456 w18 ho hb hg hat; rw [← Ny455.out] at ho; have n0_ := Aside0.mk (Kd.R_over' (by (with_reducible repeat (first | apply Kd.R_alloc | apply Kd.R_drewN | apply Kd.R_drew)); exact HO_7.out) (Kd.R_typed (by (with_reducible repeat (first | apply Kd.R_alloc | apply Kd.R_drewN | apply Kd.R_drew)); exact HO_8.out)) (by decide) hg); have n1_ := Aside0.mk (Kd.R_over' (by (with_reducible repeat (first | apply Kd.R_alloc | apply Kd.R_drewN | apply Kd.R_drew)); exact HO454.out) (Kd.R_typed (by (with_reducible repeat (first | apply Kd.R_alloc | apply Kd.R_drewN | apply Kd.R_drew)); exact HO_8.out)) (by decide) hg); have n2_ := Aside0.mk (hb); have n3_ := Aside0.mk (ho); clear HO_7; clear HO454; clear HB; clear HO_8; have HO_7 := n0_; have HO454 := n1_; have HB := n2_; have HO457 := n3_; clear n0_ n1_ n2_ n3_; clear ho hb hg hat; obtain ⟨Ao20, co20, eo20⟩ := Kd.R_slice HO454.out; subst eo20) | ((with_reducible refine gate_builtin (b := .append) (xs := #[.tmp 53, .tmp 54]) rfl ?_); (try (refine gate_guard (by rfl) ?_; dsimp only)); at_builtin; refine Kd.R_append_rows (Kd.int .u8) (w0 := w) w.heap.size rfl (.tmp 53) (.tmp 54) 22 5 (.int .u8 0) 1 rfl Try.underlying22 info5 rfl (by decide) (by omega) (.slice Ao17 x7_1.length co17) x7_1 t451 _ _ _ (fun k_ => some k_ ≠ (.slice Ao20 t451.length co20 : Value).ownBlock) (fun _ => False) rfl rfl ?aO ?aR (fun _ _ h => h) (fun _ h => h.elim) ?aF ?aB ?aS ?aL ?_; (case aR => repeat (first | exact (Kd.R_reads' HO454.out).2.2 | (with_reducible refine Kd.C_alloc ?_ _) | (with_reducible refine Kd.C_drewN ?_ _) | (with_reducible refine Kd.C_drew ?_))); (case aB => exact (by repeat (first | (with_reducible first | exact HB.out | apply below_alloc | apply pw_below_drewN | apply below_drew1) | exact HB.out))); (case aF => exact (fun k_ hk => Kd.fresh' (Kd.R_lt (by (with_reducible repeat (first | apply Kd.R_alloc | apply Kd.R_drewN | apply Kd.R_drew)); exact HO454.out)) k_ hk)); (case aO => exact (by (with_reducible repeat (first | apply Kd.R_alloc | apply Kd.R_drewN | apply Kd.R_drew)); exact Kd.R_mono HO_7.out (fun _ hk => hk.2))); (case aS => exact (below_size (by repeat (first | (with_reducible first | exact HB.out | apply below_alloc | apply pw_below_drewN | apply below_drew1) | exact HB.out)))); (case aL => have := LMc15.out; omega); intro v459 w19 ho hb hg hat; rw [← Ny458.out] at ho; have n0_ := Aside0.mk (Kd.R_after (ok := (fun _ => True)) (by (with_reducible repeat (first | apply Kd.R_alloc | apply Kd.R_drewN | apply Kd.R_drew)); exact HO454.out) hg hat); have n1_ := Aside0.mk (Kd.R_over' (by (with_reducible repeat (first | apply Kd.R_alloc | apply Kd.R_drewN | apply Kd.R_drew)); exact HO457.out) (Kd.R_typed (by (with_reducible repeat (first | apply Kd.R_alloc | apply Kd.R_drewN | apply Kd.R_drew)); exact HO_7.out)) (by decide) hg); have n2_ := Aside0.mk (hb); have n3_ := Aside0.mk (ho); clear HO454; clear HO457; clear HB; clear HO_7; have HO454 := n0_; have HO457 := n1_; have HB := n2_; have HO460 := n3_; clear n0_ n1_ n2_ n3_; clear ho hb hg hat))
                      repeat (go_quiet (first | (go_at_call 35; (with_reducible refine (frame_Wrap.calls k1 _ _ (rd_L2 l0 x9_1) t451 t452 _ ?side1 ?side2 A12.out).mono ?_); (case side1 => repeat (first | exact (Kd.C_below HR450_0.out HB.out) | (with_reducible refine Kd.C_alloc ?_ _) | (with_reducible refine Kd.C_drewN ?_ _) | (with_reducible refine Kd.C_drew ?_))); (case side2 => exact HC450_0.out); rintro e w16 ⟨v453, rfl, ho0, hb⟩; have n0_ := Aside0.mk (Kd.R_elder' (by (with_reducible repeat (first | apply Kd.R_alloc | apply Kd.R_drewN | apply Kd.R_drew)); exact HO_7.out) (Kd.R_base ho0) hb); have n1_ := Aside0.mk (Kd.R_below (by (with_reducible repeat (first | apply Kd.R_alloc | apply Kd.R_drewN | apply Kd.R_drew)); exact HO_8.out) hb); have n2_ := Aside0.mk (Kd.R_lower (Kd.R_new' ho0 (Kd.R_lt (by (with_reducible repeat (first | apply Kd.R_alloc | apply Kd.R_drewN | apply Kd.R_drew)); exact HO_7.out))) (below_size (by repeat (first | (with_reducible first | exact HB.out | apply below_alloc | apply pw_below_drewN | apply below_drew1) | exact HB.out)))); have n3_ := Aside0.mk (below_step (by repeat (first | (with_reducible first | exact HB.out | apply below_alloc | apply pw_below_drewN | apply below_drew1) | exact HB.out)) hb); clear HO_7; clear HO_8; clear HB; have HO_7 := n0_; have HO_8 := n1_; have HO454 := n2_; have HB := n3_; clear n0_ n1_ n2_ n3_; (try clear hb); (try clear hb2); (try clear hk); (try clear hi); (try clear ho0); obtain ⟨Ao17, co17, eo17⟩ := Kd.R_slice HO_7.out; subst eo17) | ((with_reducible refine gate_builtin (b := .append) (xs := #[.tmp 48, .tmp 51]) rfl ?_); (try (refine gate_guard (by rfl) ?_; dsimp only)); at_builtin; refine Kd.R_append (Kd.int .i64) (w0 := w) w.heap.size rfl (.tmp 48) (.tmp 51) 60 3 (.int .i64 0) 8 rfl Try.underlying60 info3 rfl (by decide) (by omega) u8 x8_1 (x7_1.length : Int) [.int .i64 (x7_1.length : Int)] (fun _ => True) (fun _ => False) rfl rfl ?aP (fun _ hk => hk.elim) ?aF ?aO ?aB ?aS ?aL ?_; (case aP => exact rfl); (case aB => exact (by repeat (first | (with_reducible first | exact HB.out | apply below_alloc | apply pw_below_drewN | apply below_drew1) | exact HB.out))); (case aF => exact (fun _ _ => trivial)); (case aO => exact (by (with_reducible repeat (first | apply Kd.R_alloc | apply Kd.R_drewN | apply Kd.R_drew)); exact HO_8.out)); (case aS => exact (below_size (by repeat (first | (with_reducible first | exact HB.out | apply below_alloc | apply pw_below_drewN | apply below_drew1) | exact HB.out)))); (case aL => have := LMc14.out; omega); intro v456 w18 ho hb hg hat; rw [← Ny455.out] at ho; have n0_ := Aside0.mk (Kd.R_over' (by (with_reducible repeat (first | apply Kd.R_alloc | apply Kd.R_drewN | apply Kd.R_drew)); exact HO_7.out) (Kd.R_typed (by (with_reducible repeat (first | apply Kd.R_alloc | apply Kd.R_drewN | apply Kd.R_drew)); exact HO_8.out)) (by decide) hg); have n1_ := Aside0.mk (Kd.R_over' (by (with_reducible repeat (first | apply Kd.R_alloc | apply Kd.R_drewN | apply Kd.R_drew)); exact HO454.out) (Kd.R_typed (by (with_reducible repeat (first | apply Kd.R_alloc | apply Kd.R_drewN | apply Kd.R_drew)); exact HO_8.out)) (by decide) hg); have n2_ := Aside0.mk (hb); have n3_ := Aside0.mk (ho); clear HO_7; clear HO454; clear HB; clear HO_8; have HO_7 := n0_; have HO454 := n1_; have HB := n2_; have HO457 := n3_; clear n0_ n1_ n2_ n3_; clear ho hb hg hat; obtain ⟨Ao20, co20, eo20⟩ := Kd.R_slice HO454.out; subst eo20) | ((with_reducible refine gate_builtin (b := .append) (xs := #[.tmp 53, .tmp 54]) rfl ?_); (try (refine gate_guard (by rfl) ?_; dsimp only)); at_builtin; refine Kd.R_append_rows (Kd.int .u8) (w0 := w) w.heap.size rfl (.tmp 53) (.tmp 54) 22 5 (.int .u8 0) 1 rfl Try.underlying22 info5 rfl (by decide) (by omega) (.slice Ao17 x7_1.length co17) x7_1 t451 _ _ _ (fun k_ => some k_ ≠ (.slice Ao20 t451.length co20 : Value).ownBlock) (fun _ => False) rfl rfl ?aO ?aR (fun _ _ h => h) (fun _ h => h.elim) ?aF ?aB ?aS ?aL ?_; (case aR => repeat (first | exact (Kd.R_reads' HO454.out).2.2 | (with_reducible refine Kd.C_alloc ?_ _) | (with_reducible refine Kd.C_drewN ?_ _) | (with_reducible refine Kd.C_drew ?_))); (case aB => exact (by repeat (first | (with_reducible first | exact HB.out | apply below_alloc | apply pw_below_drewN | apply below_drew1) | exact HB.out))); (case aF => exact (fun k_ hk => Kd.fresh' (Kd.R_lt (by (with_reducible repeat (first | apply Kd.R_alloc | apply Kd.R_drewN | apply Kd.R_drew)); exact HO454.out)) k_ hk)); (case aO => exact (by (with_reducible repeat (first | apply Kd.R_alloc | apply Kd.R_drewN | apply Kd.R_drew)); exact Kd.R_mono HO_7.out (fun _ hk => hk.2))); (case aS => exact (below_size (by repeat (first | (with_reducible first | exact HB.out | apply below_alloc | apply pw_below_drewN | apply below_drew1) | exact HB.out)))); (case aL => have := LMc15.out; omega); intro v459 w19 ho hb hg hat; rw [← Ny458.out] at ho; have n0_ := Aside0.mk (Kd.R_after (ok := (fun _ => True)) (by (with_reducible repeat (first | apply Kd.R_alloc | apply Kd.R_drewN | apply Kd.R_drew)); exact HO454.out) hg hat); have n1_ := Aside0.mk (Kd.R_over' (by (with_reducible repeat (first | apply Kd.R_alloc | apply Kd.R_drewN | apply Kd.R_drew)); exact HO457.out) (Kd.R_typed (by (with_reducible repeat (first | apply Kd.R_alloc | apply Kd.R_drewN | apply Kd.R_drew)); exact HO_7.out)) (by decide) hg); have n2_ := Aside0.mk (hb); have n3_ := Aside0.mk (ho); clear HO454; clear HO457; clear HB; clear HO_7; have HO454 := n0_; have HO457 := n1_; have HB := n2_; have HO460 := n3_; clear n0_ n1_ n2_ n3_; clear ho hb hg hat)); try go_wp2_with (first | (go_at_call 35; (with_reducible refine (frame_Wrap.calls k1 _ _ (rd_L2 l0 x9_1) t451 t452 _ ?side1 ?side2 A12.out).mono ?_); (case side1 => repeat (first | exact (Kd.C_below HR450_0.out HB.out) | (with_reducible refine Kd.C_alloc ?_ _) | (with_reducible refine Kd.C_drewN ?_ _) | (with_reducible refine Kd.C_drew ?_))); (case side2 => exact HC450_0.out); rintro e w16 ⟨v453, rfl, ho0, hb⟩; have n0_ := Aside0.mk (Kd.R_elder' (by (with_reducible repeat (first | apply Kd.R_alloc | apply Kd.R_drewN | apply Kd.R_drew)); exact HO_7.out) (Kd.R_base ho0) hb); have n1_ := Aside0.mk (Kd.R_below (by (with_reducible repeat (first | apply Kd.R_alloc | apply Kd.R_drewN | apply Kd.R_drew)); exact HO_8.out) hb); have n2_ := Aside0.mk (Kd.R_lower (Kd.R_new' ho0 (Kd.R_lt (by (with_reducible repeat (first | apply Kd.R_alloc | apply Kd.R_drewN | apply Kd.R_drew)); exact HO_7.out))) (below_size (by repeat (first | (with_reducible first | exact HB.out | apply below_alloc | apply pw_below_drewN | apply below_drew1) | exact HB.out)))); have n3_ := Aside0.mk (below_step (by repeat (first | (with_reducible first | exact HB.out | apply below_alloc | apply pw_below_drewN | apply below_drew1) | exact HB.out)) hb); clear HO_7; clear HO_8; clear HB; have HO_7 := n0_; have HO_8 := n1_; have HO454 := n2_; have HB := n3_; clear n0_ n1_ n2_ n3_; (try clear hb); (try clear hb2); (try clear hk); (try clear hi); (try clear ho0); obtain ⟨Ao17, co17, eo17⟩ := Kd.R_slice HO_7.out; subst eo17) | ((with_reducible refine gate_builtin (b := .append) (xs := #[.tmp 48, .tmp 51]) rfl ?_); (try (refine gate_guard (by rfl) ?_; dsimp only)); at_builtin; refine Kd.R_append (Kd.int .i64) (w0 := w) w.heap.size rfl (.tmp 48) (.tmp 51) 60 3 (.int .i64 0) 8 rfl Try.underlying60 info3 rfl (by decide) (by omega) u8 x8_1 (x7_1.length : Int) [.int .i64 (x7_1.length : Int)] (fun _ => True) (fun _ => False) rfl rfl ?aP (fun _ hk => hk.elim) ?aF ?aO ?aB ?aS ?aL ?_; (case aP => exact rfl); (case aB => exact (by repeat (first | (with_reducible first | exact HB.out | apply below_alloc | apply pw_below_drewN | apply below_drew1) | exact HB.out))); (case aF => exact (fun _ _ => trivial)); (case aO => exact (by (with_reducible repeat (first | apply Kd.R_alloc | apply Kd.R_drewN | apply Kd.R_drew)); exact HO_8.out)); (case aS => exact (below_size (by repeat (first | (with_reducible first | exact HB.out | apply below_alloc | apply pw_below_drewN | apply below_drew1) | exact HB.out)))); (case aL => have := LMc14.out; omega); intro v456 w18 ho hb hg hat; rw [← Ny455.out] at ho; have n0_ := Aside0.mk (Kd.R_over' (by (with_reducible repeat (first | apply Kd.R_alloc | apply Kd.R_drewN | apply Kd.R_drew)); exact HO_7.out) (Kd.R_typed (by (with_reducible repeat (first | apply Kd.R_alloc | apply Kd.R_drewN | apply Kd.R_drew)); exact HO_8.out)) (by decide) hg); have n1_ := Aside0.mk (Kd.R_over' (by (with_reducible repeat (first | apply Kd.R_alloc | apply Kd.R_drewN | apply Kd.R_drew)); exact HO454.out) (Kd.R_typed (by (with_reducible repeat (first | apply Kd.R_alloc | apply Kd.R_drewN | apply Kd.R_drew)); exact HO_8.out)) (by decide) hg); have n2_ := Aside0.mk (hb); have n3_ := Aside0.mk (ho); clear HO_7; clear HO454; clear HB; clear HO_8; have HO_7 := n0_; have HO454 := n1_; have HB := n2_; have HO457 := n3_; clear n0_ n1_ n2_ n3_; clear ho hb hg hat; obtain ⟨Ao20, co20, eo20⟩ := Kd.R_slice HO454.out; subst eo20) | ((with_reducible refine gate_builtin (b := .append) (xs := #[.tmp 53, .tmp 54]) rfl ?_); (try (refine gate_guard (by rfl) ?_; dsimp only)); at_builtin; refine Kd.R_append_rows (Kd.int .u8) (w0 := w) w.heap.size rfl (.tmp 53) (.tmp 54) 22 5 (.int .u8 0) 1 rfl Try.underlying22 info5 rfl (by decide) (by omega) (.slice Ao17 x7_1.length co17) x7_1 t451 _ _ _ (fun k_ => some k_ ≠ (.slice Ao20 t451.length co20 : Value).ownBlock) (fun _ => False) rfl rfl ?aO ?aR (fun _ _ h => h) (fun _ h => h.elim) ?aF ?aB ?aS ?aL ?_; (case aR => repeat (first | exact (Kd.R_reads' HO454.out).2.2 | (with_reducible refine Kd.C_alloc ?_ _) | (with_reducible refine Kd.C_drewN ?_ _) | (with_reducible refine Kd.C_drew ?_))); (case aB => exact (by repeat (first | (with_reducible first | exact HB.out | apply below_alloc | apply pw_below_drewN | apply below_drew1) | exact HB.out))); (case aF => exact (fun k_ hk => Kd.fresh' (Kd.R_lt (by (with_reducible repeat (first | apply Kd.R_alloc | apply Kd.R_drewN | apply Kd.R_drew)); exact HO454.out)) k_ hk)); (case aO => exact (by (with_reducible repeat (first | apply Kd.R_alloc | apply Kd.R_drewN | apply Kd.R_drew)); exact Kd.R_mono HO_7.out (fun _ hk => hk.2))); (case aS => exact (below_size (by repeat (first | (with_reducible first | exact HB.out | apply below_alloc | apply pw_below_drewN | apply below_drew1) | exact HB.out)))); (case aL => have := LMc15.out; omega); intro v459 w19 ho hb hg hat; rw [← Ny458.out] at ho; have n0_ := Aside0.mk (Kd.R_after (ok := (fun _ => True)) (by (with_reducible repeat (first | apply Kd.R_alloc | apply Kd.R_drewN | apply Kd.R_drew)); exact HO454.out) hg hat); have n1_ := Aside0.mk (Kd.R_over' (by (with_reducible repeat (first | apply Kd.R_alloc | apply Kd.R_drewN | apply Kd.R_drew)); exact HO457.out) (Kd.R_typed (by (with_reducible repeat (first | apply Kd.R_alloc | apply Kd.R_drewN | apply Kd.R_drew)); exact HO_7.out)) (by decide) hg); have n2_ := Aside0.mk (hb); have n3_ := Aside0.mk (ho); clear HO454; clear HO457; clear HB; clear HO_7; have HO454 := n0_; have HO457 := n1_; have HB := n2_; have HO460 := n3_; clear n0_ n1_ n2_ n3_; clear ho hb hg hat)))
                      go_roundg k1
                      case measure => have := HK1.out; omega
                      case rel => exact ⟨(y458), (y455), (wrap64 (x9_1 + 1)), (by first | rfl | (simp; done) | (simp [*]; done)), H', ⟨by have := HK1.out; omega⟩, ⟨by (with_reducible repeat (first | apply Kd.R_alloc | apply Kd.R_drewN | apply Kd.R_drew)); exact Kd.R_mono HO460.out (fun _ hk => trivial)⟩, ⟨by (with_reducible repeat (first | apply Kd.R_alloc | apply Kd.R_drewN | apply Kd.R_drew)); exact HO457.out⟩, ⟨by repeat (first | (with_reducible first | exact HB.out | apply below_alloc | apply pw_below_drewN | apply below_drew1) | exact HB.out)⟩⟩
                    · rw [if_neg c15] at H
                      exact absurd H (by simp)
                  · rw [if_neg c14] at H
                    exact absurd H (by simp)
                · rw [if_neg c13] at H
                  have c13b0 : (t452 == 0) = false := beq_eq_false_iff_ne.mpr c13
                  have c13b1 : (t452 != 0) = true := bne_iff_ne.mpr c13
                  obtain rfl := Option.some.inj H
                  have p449 : 0 ≤ (x9_1 : Int) := of_decide_eq_true (by first | (with_reducible assumption) | assumption)
                  have q449 : x9_1 < (l0.length : Int) := of_decide_eq_true (by first | (with_reducible assumption) | assumption)
                  obtain ⟨ad449, A449_0, c449_0, e449, hx449_0, hl449_0, hi449_0⟩ := at_L2 HR0.out x9_1 p449 q449
                  cases e449
                  replace hx449_0 := (HB.out.cell (World.block_lt_of_cell? w _ hx449_0)).trans hx449_0
                  have HR449_0 := Aside0.mk hi449_0
                  have HC449_0 := Aside0.mk hl449_0
                  clear hi449_0 hl449_0
                  replace p449 := eq_true p449
                  replace q449 := eq_true q449
                  have p450 : 0 ≤ (x9_1 : Int) := of_decide_eq_true (by first | (with_reducible assumption) | assumption)
                  have q450 : x9_1 < (l0.length : Int) := of_decide_eq_true (by first | (with_reducible assumption) | assumption)
                  obtain ⟨ad450, A450_0, c450_0, e450, hx450_0, hl450_0, hi450_0⟩ := at_L2 HR0.out x9_1 p450 q450
                  obtain rfl : ad449 = ad450 := (by injection e450)
                  replace hx450_0 := (HB.out.cell (World.block_lt_of_cell? w _ hx450_0)).trans hx450_0
                  have HR450_0 := Aside0.mk hi450_0
                  have HC450_0 := Aside0.mk hl450_0
                  clear hi450_0 hl450_0
                  replace p450 := eq_true p450
                  replace q450 := eq_true q450
                  have ea_ := Option.some.inj (hx449_0.symm.trans hx450_0)
                  injection ea_ with ea_ en_ ec_
                  subst ea_
                  subst ec_
                  clear en_
                  go_wp2_with (first | (go_at_call 35; (with_reducible refine (frame_Wrap.calls k1 _ _ (rd_L2 l0 x9_1) t451 t452 _ ?side1 ?side2 A12.out).mono ?_); (case side1 => repeat (first | exact (Kd.C_below HR450_0.out HB.out) | (with_reducible refine Kd.C_alloc ?_ _) | (with_reducible refine Kd.C_drewN ?_ _) | (with_reducible refine Kd.C_drew ?_))); (case side2 => exact HC450_0.out); rintro e w21 ⟨v453, rfl, ho0, hb⟩; have n0_ := Aside0.mk (Kd.R_elder' (by (with_reducible repeat (first | apply Kd.R_alloc | apply Kd.R_drewN | apply Kd.R_drew)); exact HO_7.out) (Kd.R_base ho0) hb); have n1_ := Aside0.mk (Kd.R_below (by (with_reducible repeat (first | apply Kd.R_alloc | apply Kd.R_drewN | apply Kd.R_drew)); exact HO_8.out) hb); have n2_ := Aside0.mk (Kd.R_lower (Kd.R_new' ho0 (Kd.R_lt (by (with_reducible repeat (first | apply Kd.R_alloc | apply Kd.R_drewN | apply Kd.R_drew)); exact HO_7.out))) (below_size (by repeat (first | (with_reducible first | exact HB.out | apply below_alloc | apply pw_below_drewN | apply below_drew1) | exact HB.out)))); have n3_ := Aside0.mk (below_step (by repeat (first | (with_reducible first | exact HB.out | apply below_alloc | apply pw_below_drewN | apply below_drew1) | exact HB.out)) hb); clear HO_7; clear HO_8; clear HB; have HO_7 := n0_; have HO_8 := n1_; have HO454 := n2_; have HB := n3_; clear n0_ n1_ n2_ n3_; (try clear hb); (try clear hb2); (try clear hk); (try clear hi); (try clear ho0)))
                  repeat (go_quiet (first | (go_at_call 35; (with_reducible refine (frame_Wrap.calls k1 _ _ (rd_L2 l0 x9_1) t451 t452 _ ?side1 ?side2 A12.out).mono ?_); (case side1 => repeat (first | exact (Kd.C_below HR450_0.out HB.out) | (with_reducible refine Kd.C_alloc ?_ _) | (with_reducible refine Kd.C_drewN ?_ _) | (with_reducible refine Kd.C_drew ?_))); (case side2 => exact HC450_0.out); rintro e w21 ⟨v453, rfl, ho0, hb⟩; have n0_ := Aside0.mk (Kd.R_elder' (by (with_reducible repeat (first | apply Kd.R_alloc | apply Kd.R_drewN | apply Kd.R_drew)); exact HO_7.out) (Kd.R_base ho0) hb); have n1_ := Aside0.mk (Kd.R_below (by (with_reducible repeat (first | apply Kd.R_alloc | apply Kd.R_drewN | apply Kd.R_drew)); exact HO_8.out) hb); have n2_ := Aside0.mk (Kd.R_lower (Kd.R_new' ho0 (Kd.R_lt (by (with_reducible repeat (first | apply Kd.R_alloc | apply Kd.R_drewN | apply Kd.R_drew)); exact HO_7.out))) (below_size (by repeat (first | (with_reducible first | exact HB.out | apply below_alloc | apply pw_below_drewN | apply below_drew1) | exact HB.out)))); have n3_ := Aside0.mk (below_step (by repeat (first | (with_reducible first | exact HB.out | apply below_alloc | apply pw_below_drewN | apply below_drew1) | exact HB.out)) hb); clear HO_7; clear HO_8; clear HB; have HO_7 := n0_; have HO_8 := n1_; have HO454 := n2_; have HB := n3_; clear n0_ n1_ n2_ n3_; (try clear hb); (try clear hb2); (try clear hk); (try clear hi); (try clear ho0))); try go_wp2_with (first | (go_at_call 35; (with_reducible refine (frame_Wrap.calls k1 _ _ (rd_L2 l0 x9_1) t451 t452 _ ?side1 ?side2 A12.out).mono ?_); (case side1 => repeat (first | exact (Kd.C_below HR450_0.out HB.out) | (with_reducible refine Kd.C_alloc ?_ _) | (with_reducible refine Kd.C_drewN ?_ _) | (with_reducible refine Kd.C_drew ?_))); (case side2 => exact HC450_0.out); rintro e w21 ⟨v453, rfl, ho0, hb⟩; have n0_ := Aside0.mk (Kd.R_elder' (by (with_reducible repeat (first | apply Kd.R_alloc | apply Kd.R_drewN | apply Kd.R_drew)); exact HO_7.out) (Kd.R_base ho0) hb); have n1_ := Aside0.mk (Kd.R_below (by (with_reducible repeat (first | apply Kd.R_alloc | apply Kd.R_drewN | apply Kd.R_drew)); exact HO_8.out) hb); have n2_ := Aside0.mk (Kd.R_lower (Kd.R_new' ho0 (Kd.R_lt (by (with_reducible repeat (first | apply Kd.R_alloc | apply Kd.R_drewN | apply Kd.R_drew)); exact HO_7.out))) (below_size (by repeat (first | (with_reducible first | exact HB.out | apply below_alloc | apply pw_below_drewN | apply below_drew1) | exact HB.out)))); have n3_ := Aside0.mk (below_step (by repeat (first | (with_reducible first | exact HB.out | apply below_alloc | apply pw_below_drewN | apply below_drew1) | exact HB.out)) hb); clear HO_7; clear HO_8; clear HB; have HO_7 := n0_; have HO_8 := n1_; have HO454 := n2_; have HB := n3_; clear n0_ n1_ n2_ n3_; (try clear hb); (try clear hb2); (try clear hk); (try clear hi); (try clear ho0))))
                  go_ret
                  exact ⟨by first | rfl | (have e_ := Option.some.inj (A12.out.symm.trans A22.out); simp only [Prod.mk.injEq] at e_; obtain ⟨rfl, rfl⟩ := e_; first | rfl | (simp [*, errW_none, errW_some] <;> rfl)) | (simp [errW_none, errW_some] <;> rfl) | (simp [*, errW_none, errW_some] <;> rfl), by repeat (first | (with_reducible first | exact HB.out | apply below_alloc | apply pw_below_drewN | apply below_drew1) | exact HB.out)⟩
            · rw [if_neg c10] at H
              exact absurd H (by simp)
          · rw [if_neg c9] at H
            have c9b0 : decide (x9_1 < (l0.length : Int)) = false := decide_eq_false c9
            clear c9
            replace H := Option.bind_eq_some_iff.mp H
            obtain ⟨⟨t461, t462, t463⟩, A220, H⟩ := H
            replace H : (if (t461.length : Int) = (l0.length : Int) then (if t462 = 0 then (tallyroomlaw08_FrameBack.j1 k1 l0 a1 a2 x7_1 x8_1 t461 (t463 != (x7_1.length : Int))) else (tallyroomlaw08_FrameBack.j1 k1 l0 a1 a2 x7_1 x8_1 t461 true)) else (tallyroomlaw08_FrameBack.j1 k1 l0 a1 a2 x7_1 x8_1 t461 true)) = some r := H
            have A22 := Aside0.mk A220
            clear A220
            have HC23 := Aside0.mk H
            clear H
            obtain ⟨Ao24, co24, eo24⟩ := Kd.R_slice HO_7.out
            subst eo24
            go_upto_region 18 with (first | (go_at_call 37; (with_reducible refine (frame_All.calls k1 _ _ x7_1 t461 t462 t463 _ ?side1 ?side2 A22.out).mono ?_); (case side1 => repeat (first | exact (Kd.R_reads' HO_7.out).2.2 | (with_reducible refine Kd.C_alloc ?_ _) | (with_reducible refine Kd.C_drewN ?_ _) | (with_reducible refine Kd.C_drew ?_))); (case side2 => exact (Kd.R_reads' HO_7.out).2.1); rintro e w25 ⟨v464, rfl, ho0, hb⟩; have n0_ := Aside0.mk (Kd.R_below (by (with_reducible repeat (first | apply Kd.R_alloc | apply Kd.R_drewN | apply Kd.R_drew)); exact HO_7.out) hb); have n1_ := Aside0.mk (Kd.R_below (by (with_reducible repeat (first | apply Kd.R_alloc | apply Kd.R_drewN | apply Kd.R_drew)); exact HO_8.out) hb); have n2_ := Aside0.mk (Kd.S_lower (Kd.S_new' ho0 (Kd.R_lt (by (with_reducible repeat (first | apply Kd.R_alloc | apply Kd.R_drewN | apply Kd.R_drew)); exact HO_7.out))) (below_size (by repeat (first | (with_reducible first | exact HB.out | apply below_alloc | apply pw_below_drewN | apply below_drew1) | exact HB.out)))); have n3_ := Aside0.mk (below_step (by repeat (first | (with_reducible first | exact HB.out | apply below_alloc | apply pw_below_drewN | apply below_drew1) | exact HB.out)) hb); clear HO_7; clear HO_8; clear HB; have HO_7 := n0_; have HO_8 := n1_; have HO465 := n2_; have HB := n3_; clear n0_ n1_ n2_ n3_; (try clear hb); (try clear hb2); (try clear hk); (try clear hi); (try clear ho0)))
            repeat (go_quiet (first | (go_at_call 37; (with_reducible refine (frame_All.calls k1 _ _ x7_1 t461 t462 t463 _ ?side1 ?side2 A22.out).mono ?_); (case side1 => repeat (first | exact (Kd.R_reads' HO_7.out).2.2 | (with_reducible refine Kd.C_alloc ?_ _) | (with_reducible refine Kd.C_drewN ?_ _) | (with_reducible refine Kd.C_drew ?_))); (case side2 => exact (Kd.R_reads' HO_7.out).2.1); rintro e w25 ⟨v464, rfl, ho0, hb⟩; have n0_ := Aside0.mk (Kd.R_below (by (with_reducible repeat (first | apply Kd.R_alloc | apply Kd.R_drewN | apply Kd.R_drew)); exact HO_7.out) hb); have n1_ := Aside0.mk (Kd.R_below (by (with_reducible repeat (first | apply Kd.R_alloc | apply Kd.R_drewN | apply Kd.R_drew)); exact HO_8.out) hb); have n2_ := Aside0.mk (Kd.S_lower (Kd.S_new' ho0 (Kd.R_lt (by (with_reducible repeat (first | apply Kd.R_alloc | apply Kd.R_drewN | apply Kd.R_drew)); exact HO_7.out))) (below_size (by repeat (first | (with_reducible first | exact HB.out | apply below_alloc | apply pw_below_drewN | apply below_drew1) | exact HB.out)))); have n3_ := Aside0.mk (below_step (by repeat (first | (with_reducible first | exact HB.out | apply below_alloc | apply pw_below_drewN | apply below_drew1) | exact HB.out)) hb); clear HO_7; clear HO_8; clear HB; have HO_7 := n0_; have HO_8 := n1_; have HO465 := n2_; have HB := n3_; clear n0_ n1_ n2_ n3_; (try clear hb); (try clear hb2); (try clear hk); (try clear hi); (try clear ho0))); go_upto_region 18 with (first | (go_at_call 37; (with_reducible refine (frame_All.calls k1 _ _ x7_1 t461 t462 t463 _ ?side1 ?side2 A22.out).mono ?_); (case side1 => repeat (first | exact (Kd.R_reads' HO_7.out).2.2 | (with_reducible refine Kd.C_alloc ?_ _) | (with_reducible refine Kd.C_drewN ?_ _) | (with_reducible refine Kd.C_drew ?_))); (case side2 => exact (Kd.R_reads' HO_7.out).2.1); rintro e w25 ⟨v464, rfl, ho0, hb⟩; have n0_ := Aside0.mk (Kd.R_below (by (with_reducible repeat (first | apply Kd.R_alloc | apply Kd.R_drewN | apply Kd.R_drew)); exact HO_7.out) hb); have n1_ := Aside0.mk (Kd.R_below (by (with_reducible repeat (first | apply Kd.R_alloc | apply Kd.R_drewN | apply Kd.R_drew)); exact HO_8.out) hb); have n2_ := Aside0.mk (Kd.S_lower (Kd.S_new' ho0 (Kd.R_lt (by (with_reducible repeat (first | apply Kd.R_alloc | apply Kd.R_drewN | apply Kd.R_drew)); exact HO_7.out))) (below_size (by repeat (first | (with_reducible first | exact HB.out | apply below_alloc | apply pw_below_drewN | apply below_drew1) | exact HB.out)))); have n3_ := Aside0.mk (below_step (by repeat (first | (with_reducible first | exact HB.out | apply below_alloc | apply pw_below_drewN | apply below_drew1) | exact HB.out)) hb); clear HO_7; clear HO_8; clear HB; have HO_7 := n0_; have HO_8 := n1_; have HO465 := n2_; have HB := n3_; clear n0_ n1_ n2_ n3_; (try clear hb); (try clear hb2); (try clear hk); (try clear hi); (try clear ho0))))
            (try simp only [Act.put, List.setIfInBounds_toArray, List.set_cons_zero, List.set_cons_succ])
            go_cut [76] (fun v76 wc => ∃ (kq : Nat) (x76_22 : Bool), v76 = .bool x76_22 ∧ Aside0 (tallyroomlaw08_FrameBack.j1 kq l0 a1 a2 x7_1 x8_1 t461 x76_22 = some r) ∧ Aside0 (kq ≤ k1) ∧ Aside0 (Kd.R (Kd.int .u8) 5 wc w.heap.size (fun _ => True) (.slice Ao24 x7_1.length co24) x7_1) ∧ Aside0 (Kd.R (Kd.int .i64) 3 wc w.heap.size (fun _ => True) u8 x8_1) ∧ Aside0 (Kd.S (Kd.slice 5 (Kd.int .u8)) 22 wc w.heap.size (fun k_ => some k_ ≠ ((.slice Ao24 x7_1.length co24) : Value).ownBlock) v464 t461) ∧ Aside0 (Below w.heap.size w wc))
            case first =>
              have H := HC23.out
              clear HC23
              by_cases c26 : (t461.length : Int) = (l0.length : Int)
              · rw [if_pos c26] at H
                have c26b0 : ((t461.length : Int) == (l0.length : Int)) = true := beq_iff_eq.mpr c26
                have c26b1 : ((t461.length : Int) != (l0.length : Int)) = false := bne_eq_false_iff_eq.mpr c26
                have c26b2 : (t461.length == l0.length) = true := by first | simpa using c26 | (simp at c26 ⊢; omega)
                clear c26
                (first | rw [c26b0] | (simp only [i64_w, i32_w]; rw [c26b0]) | skip)
                by_cases c27 : t462 = 0
                · rw [if_pos c27] at H
                  have c27b0 : (t462 == 0) = true := beq_iff_eq.mpr c27
                  have c27b1 : (t462 != 0) = false := bne_eq_false_iff_eq.mpr c27
                  clear c27
                  have H' := Aside0.mk H
                  clear H
                  obtain ⟨Ao28, co28, eo28⟩ := Kd.S_slice HO465.out
                  subst eo28
                  go_wp2
                  repeat (go_quiet (fail); try go_wp2)
                  go_meet
                  case rel => exact ⟨_, ((t463 != (x7_1.length : Int))), (by first | rfl | (simp; done) | (simp [*]; done)), H', ⟨by have := HK1.out; first | omega | exact Nat.le_refl _⟩, ⟨by (with_reducible repeat (first | apply Kd.R_alloc | apply Kd.R_drewN | apply Kd.R_drew)); exact HO_7.out⟩, ⟨by (with_reducible repeat (first | apply Kd.R_alloc | apply Kd.R_drewN | apply Kd.R_drew)); exact HO_8.out⟩, ⟨by (with_reducible repeat (first | apply Kd.S_alloc | apply Kd.S_drewN | apply Kd.S_drew)); exact Kd.S_mono HO465.out (fun _ hk => hk.2)⟩, ⟨by repeat (first | (with_reducible first | exact HB.out | apply below_alloc | apply pw_below_drewN | apply below_drew1) | exact HB.out)⟩⟩
                · rw [if_neg c27] at H
                  have c27b0 : (t462 == 0) = false := beq_eq_false_iff_ne.mpr c27
                  have c27b1 : (t462 != 0) = true := bne_iff_ne.mpr c27
                  have H' := Aside0.mk H
                  clear H
                  obtain ⟨Ao29, co29, eo29⟩ := Kd.S_slice HO465.out
                  subst eo29
                  go_wp2
                  repeat (go_quiet (fail); try go_wp2)
                  go_meet
                  case rel => exact ⟨_, (true), (by first | rfl | (simp; done) | (simp [*]; done)), H', ⟨by have := HK1.out; first | omega | exact Nat.le_refl _⟩, ⟨by (with_reducible repeat (first | apply Kd.R_alloc | apply Kd.R_drewN | apply Kd.R_drew)); exact HO_7.out⟩, ⟨by (with_reducible repeat (first | apply Kd.R_alloc | apply Kd.R_drewN | apply Kd.R_drew)); exact HO_8.out⟩, ⟨by (with_reducible repeat (first | apply Kd.S_alloc | apply Kd.S_drewN | apply Kd.S_drew)); exact Kd.S_mono HO465.out (fun _ hk => hk.2)⟩, ⟨by repeat (first | (with_reducible first | exact HB.out | apply below_alloc | apply pw_below_drewN | apply below_drew1) | exact HB.out)⟩⟩
              · rw [if_neg c26] at H
                have c26b0 : ((t461.length : Int) == (l0.length : Int)) = false := beq_eq_false_iff_ne.mpr c26
                have c26b1 : ((t461.length : Int) != (l0.length : Int)) = true := bne_iff_ne.mpr c26
                have c26b2 : (t461.length == l0.length) = false := by first | simpa using c26 | (simp at c26 ⊢; omega)
                (first | rw [c26b0] | (simp only [i64_w, i32_w]; rw [c26b0]) | skip)
                have H' := Aside0.mk H
                clear H
                obtain ⟨Ao30, co30, eo30⟩ := Kd.S_slice HO465.out
                subst eo30
                go_wp2
                repeat (go_quiet (fail); try go_wp2)
                go_meet
                case rel => exact ⟨_, (true), (by first | rfl | (simp; done) | (simp [*]; done)), H', ⟨by have := HK1.out; first | omega | exact Nat.le_refl _⟩, ⟨by (with_reducible repeat (first | apply Kd.R_alloc | apply Kd.R_drewN | apply Kd.R_drew)); exact HO_7.out⟩, ⟨by (with_reducible repeat (first | apply Kd.R_alloc | apply Kd.R_drewN | apply Kd.R_drew)); exact HO_8.out⟩, ⟨by (with_reducible repeat (first | apply Kd.S_alloc | apply Kd.S_drewN | apply Kd.S_drew)); exact Kd.S_mono HO465.out (fun _ hk => hk.2)⟩, ⟨by repeat (first | (with_reducible first | exact HB.out | apply below_alloc | apply pw_below_drewN | apply below_drew1) | exact HB.out)⟩⟩
            case rest =>
              clear HC23
              try clear c1
              try clear c2
              try clear p2
              try clear c4
              try clear p4
              try clear q4
              try clear hx4
              try clear c5
              try clear c6
              try clear c6b0
              try clear c6b1
              try clear p6
              try clear c9
              try clear c9b0
              try clear c10
              try clear c10b0
              try clear c11
              try clear c11b0
              try clear c11b1
              try clear c13
              try clear c13b0
              try clear c13b1
              try clear c14
              try clear c15
              try clear c26
              try clear c26b0
              try clear c26b1
              try clear c26b2
              try clear c27
              try clear c27b0
              try clear c27b1
              try clear hx449_0
              try clear hx450_0
              try clear p2
              try clear p449
              try clear p450
              try clear q449
              try clear q450
              obtain ⟨kq, x76_22, rfl, HA, HJ22, HO_7, HO_8, HO_12, HB⟩ := hcut
              cases kq with
              | zero => exact absurd HA.out (by simp [tallyroomlaw08_FrameBack.j1])
              | succ kj22 =>
                have H := HA.out
                clear HA
                simp only [tallyroomlaw08_FrameBack.j1] at H
                by_cases c31 : x76_22 = true
                · subst c31
                  have H1 : (some false) = some r := by rw [if_pos rfl] at H; exact H
                  clear H
                  have H := H1
                  clear H1
                  obtain rfl := Option.some.inj H
                  go_wp2
                  repeat (go_quiet (fail); try go_wp2)
                  go_ret
                  exact ⟨by first | rfl | (have e_ := Option.some.inj (A12.out.symm.trans A22.out); simp only [Prod.mk.injEq] at e_; obtain ⟨rfl, rfl⟩ := e_; first | rfl | (simp [*, errW_none, errW_some] <;> rfl)) | (simp [errW_none, errW_some] <;> rfl) | (simp [*, errW_none, errW_some] <;> rfl), by repeat (first | (with_reducible first | exact HB.out | apply below_alloc | apply pw_below_drewN | apply below_drew1) | exact HB.out)⟩
                · replace c31 := Bool.eq_false_iff.mpr c31
                  subst c31
                  have H1 : (tallyroomlaw08_FrameBack.l1 kj22 l0 a1 a2 x7_1 x8_1 t461 0) = some r := by rw [if_neg (show ¬ (false = true) by decide)] at H; exact H
                  clear H
                  have H := H1
                  clear H1
                  have H' := Aside0.mk H
                  clear H
                  go_wp2
                  repeat (go_quiet (fail); try go_wp2)
                  go_loopg [15] kj22 (fun kq v15 w' => ∃ (x15_3 : Int), v15 = .int .i64 x15_3 ∧ Aside0 (tallyroomlaw08_FrameBack.l1 kq l0 a1 a2 x7_1 x8_1 t461 x15_3 = some r) ∧ Aside0 (kq ≤ kj22) ∧ Aside0 (Kd.R (Kd.int .u8) 5 w' w.heap.size (fun _ => True) (.slice Ao24 x7_1.length co24) x7_1) ∧ Aside0 (Kd.R (Kd.int .i64) 3 w' w.heap.size (fun _ => True) u8 x8_1) ∧ Aside0 (Kd.S (Kd.slice 5 (Kd.int .u8)) 22 w' w.heap.size (fun k_ => some k_ ≠ ((.slice Ao24 x7_1.length co24) : Value).ownBlock) v464 t461) ∧ Aside0 (Below w.heap.size w w'))
                  case atStart => exact ⟨(0), (by first | rfl | (simp; done) | (simp [*]; done)), H', ⟨Nat.le_refl _⟩, ⟨by (with_reducible repeat (first | apply Kd.R_alloc | apply Kd.R_drewN | apply Kd.R_drew)); exact HO_7.out⟩, ⟨by (with_reducible repeat (first | apply Kd.R_alloc | apply Kd.R_drewN | apply Kd.R_drew)); exact HO_8.out⟩, ⟨by (with_reducible repeat (first | apply Kd.S_alloc | apply Kd.S_drewN | apply Kd.S_drew)); exact HO_12.out⟩, ⟨by repeat (first | (with_reducible first | exact HB.out | apply below_alloc | apply pw_below_drewN | apply below_drew1) | exact HB.out)⟩⟩
                  case round =>
                    clear H'
                    try clear c1
                    try clear c2
                    try clear p2
                    try clear c3
                    try clear c4
                    try clear p4
                    try clear q4
                    try clear hx4
                    try clear c5
                    try clear c6
                    try clear c6b0
                    try clear c6b1
                    try clear p6
                    try clear c9
                    try clear c9b0
                    try clear c10
                    try clear c10b0
                    try clear c11
                    try clear c11b0
                    try clear c11b1
                    try clear c13
                    try clear c13b0
                    try clear c13b1
                    try clear c14
                    try clear c15
                    try clear c26
                    try clear c26b0
                    try clear c26b1
                    try clear c26b2
                    try clear c27
                    try clear c27b0
                    try clear c27b1
                    try clear c31
                    try clear hx449_0
                    try clear hx450_0
                    try clear p2
                    try clear p4
                    try clear p449
                    try clear p450
                    try clear p6
                    try clear q4
                    try clear q449
                    try clear q450
                    obtain ⟨x15_3, rfl, HA, HK3, HO_7, HO_8, HO_12, HB⟩ := hrel
                    cases gk with
                    | zero => exact absurd HA.out (by simp [tallyroomlaw08_FrameBack.l1])
                    | succ k3 =>
                      have H := HA.out
                      clear HA
                      simp only [tallyroomlaw08_FrameBack.l1] at H
                      by_cases c32 : x15_3 < (t461.length : Int)
                      · rw [if_pos c32] at H
                        have c32b0 : decide (x15_3 < (t461.length : Int)) = true := decide_eq_true c32
                        clear c32
                        by_cases c33 : 0 ≤ x15_3
                        · rw [if_pos c33] at H
                          have c33b0 : decide (0 ≤ x15_3) = true := decide_eq_true c33
                          clear c33
                          by_cases c34 : x15_3 < (l0.length : Int)
                          · rw [if_pos c34] at H
                            have c34b0 : decide (x15_3 < (l0.length : Int)) = true := decide_eq_true c34
                            clear c34
                            replace H := Option.bind_eq_some_iff.mp H
                            obtain ⟨t468, A350, H⟩ := H
                            replace H : (if t468 = true then (tallyroomlaw08_FrameBack.l1 k3 l0 a1 a2 x7_1 x8_1 t461 (wrap64 (x15_3 + 1))) else (some false)) = some r := H
                            have A35 := Aside0.mk A350
                            clear A350
                            by_cases c36 : t468 = true
                            · subst c36
                              have H1 : (tallyroomlaw08_FrameBack.l1 k3 l0 a1 a2 x7_1 x8_1 t461 (wrap64 (x15_3 + 1))) = some r := by rw [if_pos rfl] at H; exact H
                              clear H
                              have H := H1
                              clear H1
                              have H' := Aside0.mk H
                              clear H
                              obtain ⟨Ao37, co37, eo37⟩ := Kd.S_slice HO_12.out
                              subst eo37
                              have p466 : 0 ≤ (x15_3 : Int) := of_decide_eq_true (by first | (with_reducible assumption) | assumption)
                              have q466 : x15_3 < (t461.length : Int) := of_decide_eq_true (by first | (with_reducible assumption) | assumption)
                              obtain ⟨ad466, A466_0, c466_0, e466, hx466_0, hl466_0, hi466_0⟩ := at_L2 (Kd.S_reads' HO_12.out).2.2 x15_3 p466 q466
                              cases e466
                              obtain ⟨ce466, hce466, hMe466, hcc466⟩ := Kd.S_get HO_12.out [] x15_3 p466 (by first | exact q466 | exact of_decide_eq_true (by first | (with_reducible assumption) | assumption) | (have e_ := (Kd.S_reads' HO_12.out).1; omega))
                              obtain ⟨ve466_0, rfl, ge466_0⟩ := hMe466
                              have hv466_0 := hcc466 0 _ rfl
                              rw [Nat.add_zero, show ((Kd.slice 5 (Kd.int .u8))).sz = 1 from rfl, Nat.mul_one] at hv466_0
                              replace hv466_0 := Option.some.inj (hv466_0.symm.trans hx466_0)
                              rw [hv466_0] at ge466_0
                              have HL466_0 := Aside0.mk (show Kd.R (Kd.int .u8) 5 _ _ _ _ (rd_L2 t461 x15_3) from ge466_0)
                              clear hv466_0 ge466_0
                              clear hcc466 hce466
                              have HR466_0 := Aside0.mk hi466_0
                              have HC466_0 := Aside0.mk hl466_0
                              clear hi466_0 hl466_0
                              replace p466 := eq_true p466
                              replace q466 := eq_true q466
                              have p467 : 0 ≤ (x15_3 : Int) := of_decide_eq_true (by first | (with_reducible assumption) | assumption)
                              have q467 : x15_3 < (l0.length : Int) := of_decide_eq_true (by first | (with_reducible assumption) | assumption)
                              obtain ⟨ad467, A467_0, c467_0, e467, hx467_0, hl467_0, hi467_0⟩ := at_L2 HR0.out x15_3 p467 q467
                              cases e467
                              replace hx467_0 := (HB.out.cell (World.block_lt_of_cell? w _ hx467_0)).trans hx467_0
                              have HR467_0 := Aside0.mk hi467_0
                              have HC467_0 := Aside0.mk hl467_0
                              clear hi467_0 hl467_0
                              replace p467 := eq_true p467
                              replace q467 := eq_true q467
                              go_wp2_with (first | (go_at_call 21; (with_reducible refine (tallyroomref01_Bytes.calls _ _ (rd_L2 t461 x15_3) _ _ (rd_L2 l0 x15_3) true _ ?side1 ?side2 ?side3 ?side4 A35.out).mono ?_); (case side1 => repeat (first | exact (by repeat (first | (with_reducible exact HR466_0.out) | (with_reducible refine Kd.C_alloc ?_ _) | (with_reducible refine Kd.C_drewN ?_ _) | (with_reducible refine Kd.C_drew ?_) | exact HR466_0.out)) | (with_reducible refine Kd.C_alloc ?_ _) | (with_reducible refine Kd.C_drewN ?_ _) | (with_reducible refine Kd.C_drew ?_))); (case side2 => exact HC466_0.out); (case side3 => repeat (first | exact (Kd.C_below HR467_0.out HB.out) | (with_reducible refine Kd.C_alloc ?_ _) | (with_reducible refine Kd.C_drewN ?_ _) | (with_reducible refine Kd.C_drew ?_))); (case side4 => exact HC467_0.out); rintro e w' ⟨rfl, ⟨nd, rfl⟩⟩; (try first | exact ⟨rfl, _, World.drewN_drewN _ _ _⟩ | exact ⟨rfl, _, Eq.trans (World.drewN_drewN _ _ _) (congrArg (World.drewN _) (Nat.add_assoc _ _ _))⟩)))
                              repeat (go_quiet (first | (go_at_call 21; (with_reducible refine (tallyroomref01_Bytes.calls _ _ (rd_L2 t461 x15_3) _ _ (rd_L2 l0 x15_3) true _ ?side1 ?side2 ?side3 ?side4 A35.out).mono ?_); (case side1 => repeat (first | exact (by repeat (first | (with_reducible exact HR466_0.out) | (with_reducible refine Kd.C_alloc ?_ _) | (with_reducible refine Kd.C_drewN ?_ _) | (with_reducible refine Kd.C_drew ?_) | exact HR466_0.out)) | (with_reducible refine Kd.C_alloc ?_ _) | (with_reducible refine Kd.C_drewN ?_ _) | (with_reducible refine Kd.C_drew ?_))); (case side2 => exact HC466_0.out); (case side3 => repeat (first | exact (Kd.C_below HR467_0.out HB.out) | (with_reducible refine Kd.C_alloc ?_ _) | (with_reducible refine Kd.C_drewN ?_ _) | (with_reducible refine Kd.C_drew ?_))); (case side4 => exact HC467_0.out); rintro e w' ⟨rfl, ⟨nd, rfl⟩⟩; (try first | exact ⟨rfl, _, World.drewN_drewN _ _ _⟩ | exact ⟨rfl, _, Eq.trans (World.drewN_drewN _ _ _) (congrArg (World.drewN _) (Nat.add_assoc _ _ _))⟩))); try go_wp2_with (first | (go_at_call 21; (with_reducible refine (tallyroomref01_Bytes.calls _ _ (rd_L2 t461 x15_3) _ _ (rd_L2 l0 x15_3) true _ ?side1 ?side2 ?side3 ?side4 A35.out).mono ?_); (case side1 => repeat (first | exact (by repeat (first | (with_reducible exact HR466_0.out) | (with_reducible refine Kd.C_alloc ?_ _) | (with_reducible refine Kd.C_drewN ?_ _) | (with_reducible refine Kd.C_drew ?_) | exact HR466_0.out)) | (with_reducible refine Kd.C_alloc ?_ _) | (with_reducible refine Kd.C_drewN ?_ _) | (with_reducible refine Kd.C_drew ?_))); (case side2 => exact HC466_0.out); (case side3 => repeat (first | exact (Kd.C_below HR467_0.out HB.out) | (with_reducible refine Kd.C_alloc ?_ _) | (with_reducible refine Kd.C_drewN ?_ _) | (with_reducible refine Kd.C_drew ?_))); (case side4 => exact HC467_0.out); rintro e w' ⟨rfl, ⟨nd, rfl⟩⟩; (try first | exact ⟨rfl, _, World.drewN_drewN _ _ _⟩ | exact ⟨rfl, _, Eq.trans (World.drewN_drewN _ _ _) (congrArg (World.drewN _) (Nat.add_assoc _ _ _))⟩))))
                              go_roundg k3
                              case measure => have := HK1.out; have := HJ22.out; have := HK3.out; omega
                              case rel => exact ⟨(wrap64 (x15_3 + 1)), (by first | rfl | (simp; done) | (simp [*]; done)), H', ⟨by have := HK1.out; have := HJ22.out; have := HK3.out; omega⟩, ⟨by (with_reducible repeat (first | apply Kd.R_alloc | apply Kd.R_drewN | apply Kd.R_drew)); exact HO_7.out⟩, ⟨by (with_reducible repeat (first | apply Kd.R_alloc | apply Kd.R_drewN | apply Kd.R_drew)); exact HO_8.out⟩, ⟨by (with_reducible repeat (first | apply Kd.S_alloc | apply Kd.S_drewN | apply Kd.S_drew)); exact HO_12.out⟩, ⟨by repeat (first | (with_reducible first | exact HB.out | apply below_alloc | apply pw_below_drewN | apply below_drew1) | exact HB.out)⟩⟩
                            · replace c36 := Bool.eq_false_iff.mpr c36
                              subst c36
                              have H1 : (some false) = some r := by rw [if_neg (show ¬ (false = true) by decide)] at H; exact H
                              clear H
                              have H := H1
                              clear H1
                              obtain rfl := Option.some.inj H
                              obtain ⟨Ao38, co38, eo38⟩ := Kd.S_slice HO_12.out
                              subst eo38
                              have p466 : 0 ≤ (x15_3 : Int) := of_decide_eq_true (by first | (with_reducible assumption) | assumption)
                              have q466 : x15_3 < (t461.length : Int) := of_decide_eq_true (by first | (with_reducible assumption) | assumption)
                              obtain ⟨ad466, A466_0, c466_0, e466, hx466_0, hl466_0, hi466_0⟩ := at_L2 (Kd.S_reads' HO_12.out).2.2 x15_3 p466 q466
                              cases e466
                              obtain ⟨ce466, hce466, hMe466, hcc466⟩ := Kd.S_get HO_12.out [] x15_3 p466 (by first | exact q466 | exact of_decide_eq_true (by first | (with_reducible assumption) | assumption) | (have e_ := (Kd.S_reads' HO_12.out).1; omega))
                              obtain ⟨ve466_0, rfl, ge466_0⟩ := hMe466
                              have hv466_0 := hcc466 0 _ rfl
                              rw [Nat.add_zero, show ((Kd.slice 5 (Kd.int .u8))).sz = 1 from rfl, Nat.mul_one] at hv466_0
                              replace hv466_0 := Option.some.inj (hv466_0.symm.trans hx466_0)
                              rw [hv466_0] at ge466_0
                              have HL466_0 := Aside0.mk (show Kd.R (Kd.int .u8) 5 _ _ _ _ (rd_L2 t461 x15_3) from ge466_0)
                              clear hv466_0 ge466_0
                              clear hcc466 hce466
                              have HR466_0 := Aside0.mk hi466_0
                              have HC466_0 := Aside0.mk hl466_0
                              clear hi466_0 hl466_0
                              replace p466 := eq_true p466
                              replace q466 := eq_true q466
                              have p467 : 0 ≤ (x15_3 : Int) := of_decide_eq_true (by first | (with_reducible assumption) | assumption)
                              have q467 : x15_3 < (l0.length : Int) := of_decide_eq_true (by first | (with_reducible assumption) | assumption)
                              obtain ⟨ad467, A467_0, c467_0, e467, hx467_0, hl467_0, hi467_0⟩ := at_L2 HR0.out x15_3 p467 q467
                              cases e467
                              replace hx467_0 := (HB.out.cell (World.block_lt_of_cell? w _ hx467_0)).trans hx467_0
                              have HR467_0 := Aside0.mk hi467_0
                              have HC467_0 := Aside0.mk hl467_0
                              clear hi467_0 hl467_0
                              replace p467 := eq_true p467
                              replace q467 := eq_true q467
                              go_wp2_with (first | (go_at_call 21; (with_reducible refine (tallyroomref01_Bytes.calls _ _ (rd_L2 t461 x15_3) _ _ (rd_L2 l0 x15_3) false _ ?side1 ?side2 ?side3 ?side4 A35.out).mono ?_); (case side1 => repeat (first | exact (by repeat (first | (with_reducible exact HR466_0.out) | (with_reducible refine Kd.C_alloc ?_ _) | (with_reducible refine Kd.C_drewN ?_ _) | (with_reducible refine Kd.C_drew ?_) | exact HR466_0.out)) | (with_reducible refine Kd.C_alloc ?_ _) | (with_reducible refine Kd.C_drewN ?_ _) | (with_reducible refine Kd.C_drew ?_))); (case side2 => exact HC466_0.out); (case side3 => repeat (first | exact (Kd.C_below HR467_0.out HB.out) | (with_reducible refine Kd.C_alloc ?_ _) | (with_reducible refine Kd.C_drewN ?_ _) | (with_reducible refine Kd.C_drew ?_))); (case side4 => exact HC467_0.out); rintro e w' ⟨rfl, ⟨nd, rfl⟩⟩; (try first | exact ⟨rfl, _, World.drewN_drewN _ _ _⟩ | exact ⟨rfl, _, Eq.trans (World.drewN_drewN _ _ _) (congrArg (World.drewN _) (Nat.add_assoc _ _ _))⟩)))
                              repeat (go_quiet (first | (go_at_call 21; (with_reducible refine (tallyroomref01_Bytes.calls _ _ (rd_L2 t461 x15_3) _ _ (rd_L2 l0 x15_3) false _ ?side1 ?side2 ?side3 ?side4 A35.out).mono ?_); (case side1 => repeat (first | exact (by repeat (first | (with_reducible exact HR466_0.out) | (with_reducible refine Kd.C_alloc ?_ _) | (with_reducible refine Kd.C_drewN ?_ _) | (with_reducible refine Kd.C_drew ?_) | exact HR466_0.out)) | (with_reducible refine Kd.C_alloc ?_ _) | (with_reducible refine Kd.C_drewN ?_ _) | (with_reducible refine Kd.C_drew ?_))); (case side2 => exact HC466_0.out); (case side3 => repeat (first | exact (Kd.C_below HR467_0.out HB.out) | (with_reducible refine Kd.C_alloc ?_ _) | (with_reducible refine Kd.C_drewN ?_ _) | (with_reducible refine Kd.C_drew ?_))); (case side4 => exact HC467_0.out); rintro e w' ⟨rfl, ⟨nd, rfl⟩⟩; (try first | exact ⟨rfl, _, World.drewN_drewN _ _ _⟩ | exact ⟨rfl, _, Eq.trans (World.drewN_drewN _ _ _) (congrArg (World.drewN _) (Nat.add_assoc _ _ _))⟩))); try go_wp2_with (first | (go_at_call 21; (with_reducible refine (tallyroomref01_Bytes.calls _ _ (rd_L2 t461 x15_3) _ _ (rd_L2 l0 x15_3) false _ ?side1 ?side2 ?side3 ?side4 A35.out).mono ?_); (case side1 => repeat (first | exact (by repeat (first | (with_reducible exact HR466_0.out) | (with_reducible refine Kd.C_alloc ?_ _) | (with_reducible refine Kd.C_drewN ?_ _) | (with_reducible refine Kd.C_drew ?_) | exact HR466_0.out)) | (with_reducible refine Kd.C_alloc ?_ _) | (with_reducible refine Kd.C_drewN ?_ _) | (with_reducible refine Kd.C_drew ?_))); (case side2 => exact HC466_0.out); (case side3 => repeat (first | exact (Kd.C_below HR467_0.out HB.out) | (with_reducible refine Kd.C_alloc ?_ _) | (with_reducible refine Kd.C_drewN ?_ _) | (with_reducible refine Kd.C_drew ?_))); (case side4 => exact HC467_0.out); rintro e w' ⟨rfl, ⟨nd, rfl⟩⟩; (try first | exact ⟨rfl, _, World.drewN_drewN _ _ _⟩ | exact ⟨rfl, _, Eq.trans (World.drewN_drewN _ _ _) (congrArg (World.drewN _) (Nat.add_assoc _ _ _))⟩))))
                              go_ret
                              exact ⟨by first | rfl | (have e_ := Option.some.inj (A12.out.symm.trans A22.out); simp only [Prod.mk.injEq] at e_; obtain ⟨rfl, rfl⟩ := e_; first | rfl | (simp [*, errW_none, errW_some] <;> rfl)) | (simp [errW_none, errW_some] <;> rfl) | (simp [*, errW_none, errW_some] <;> rfl), by repeat (first | (with_reducible first | exact HB.out | apply below_alloc | apply pw_below_drewN | apply below_drew1) | exact HB.out)⟩
                          · rw [if_neg c34] at H
                            exact absurd H (by simp)
                        · rw [if_neg c33] at H
                          exact absurd H (by simp)
                      · rw [if_neg c32] at H
                        have c32b0 : decide (x15_3 < (t461.length : Int)) = false := decide_eq_false c32
                        clear c32
                        by_cases c39 : (t461.length : Int) = 0
                        · rw [if_pos c39] at H
                          have c39b0 : ((t461.length : Int) == 0) = true := beq_iff_eq.mpr c39
                          have c39b1 : ((t461.length : Int) != 0) = false := bne_eq_false_iff_eq.mpr c39
                          clear c39
                          obtain rfl := Option.some.inj H
                          obtain ⟨Ao40, co40, eo40⟩ := Kd.S_slice HO_12.out
                          subst eo40
                          go_wp2
                          repeat (go_quiet (fail); try go_wp2)
                          go_ret
                          exact ⟨by first | rfl | (have e_ := Option.some.inj (A12.out.symm.trans A22.out); simp only [Prod.mk.injEq] at e_; obtain ⟨rfl, rfl⟩ := e_; first | rfl | (simp [*, errW_none, errW_some] <;> rfl)) | (simp [errW_none, errW_some] <;> rfl) | (simp [*, errW_none, errW_some] <;> rfl), by repeat (first | (with_reducible first | exact HB.out | apply below_alloc | apply pw_below_drewN | apply below_drew1) | exact HB.out)⟩
                        · rw [if_neg c39] at H
                          have c39b0 : ((t461.length : Int) == 0) = false := beq_eq_false_iff_ne.mpr c39
                          have c39b1 : ((t461.length : Int) != 0) = true := bne_iff_ne.mpr c39
                          have c39b2 : ¬ (t461 = []) := fun h_ => c39 (by rw [h_]; rfl)
                          obtain ⟨ji41, hji41⟩ : ∃ j_ : Int, (Int.tmod (wrap64 (a1)) (t461.length : Int)) = j_ := ⟨_, rfl⟩
                          replace H : (if 0 ≤ (ji41) then (if (ji41) < (x8_1.length : Int) then (if (ji41) < (l0.length : Int) then (if (wrap64 (((rd_L2 l0 (ji41)).length : Int) + 4)) = 0 then (none) else (if 0 ≤ (wrap64 ((wrap64 ((rd x8_1 (ji41)) + 1)) + (Int.tmod (wrap64 (Int.tdiv (wrap64 (a2)) 8)) (wrap64 (((rd_L2 l0 (ji41)).length : Int) + 4))))) then (if (wrap64 ((wrap64 ((rd x8_1 (ji41)) + 1)) + (Int.tmod (wrap64 (Int.tdiv (wrap64 (a2)) 8)) (wrap64 (((rd_L2 l0 (ji41)).length : Int) + 4))))) < (x7_1.length : Int) then (if 0 ≤ (IntKind.u64.wrap (Int.tmod a2 8)) then ((frame_All.f k3 (x7_1.set ((wrap64 ((wrap64 ((rd x8_1 (ji41)) + 1)) + (Int.tmod (wrap64 (Int.tdiv (wrap64 (a2)) 8)) (wrap64 (((rd_L2 l0 (ji41)).length : Int) + 4))))) : Int).toNat (Go.bits .xor .u8 (rd x7_1 (wrap64 ((wrap64 ((rd x8_1 (ji41)) + 1)) + (Int.tmod (wrap64 (Int.tdiv (wrap64 (a2)) 8)) (wrap64 (((rd_L2 l0 (ji41)).length : Int) + 4)))))) (shl .u8 1 (IntKind.u64.wrap (Int.tmod a2 8)))))).bind fun bt473 => (if (bt473.1.length : Int) = (wrap64 ((t461.length : Int) - 1)) then (if bt473.2.1 = 1 then (some (bt473.2.2 == (x7_1.length : Int))) else (some false)) else (some false))) else (none)) else (none)) else (none))) else (none)) else (none)) else (none)) = some r := by first | (rw [hji41] at H; exact H) | (simp only [hji41] at H ⊢; exact H)
                          by_cases c42 : 0 ≤ (ji41)
                          · rw [if_pos c42] at H
                            have c42b0 : decide (0 ≤ (ji41)) = true := decide_eq_true c42
                            clear c42
                            by_cases c43 : (ji41) < (x8_1.length : Int)
                            · rw [if_pos c43] at H
                              have c43b0 : decide ((ji41) < (x8_1.length : Int)) = true := decide_eq_true c43
                              clear c43
                              by_cases c44 : (ji41) < (l0.length : Int)
                              · rw [if_pos c44] at H
                                have c44b0 : decide ((ji41) < (l0.length : Int)) = true := decide_eq_true c44
                                clear c44
                                by_cases c45 : (wrap64 (((rd_L2 l0 (ji41)).length : Int) + 4)) = 0
                                · rw [if_pos c45] at H
                                  exact absurd H (by simp)
                                · rw [if_neg c45] at H
                                  have c45b0 : ((wrap64 (((rd_L2 l0 (ji41)).length : Int) + 4)) == 0) = false := beq_eq_false_iff_ne.mpr c45
                                  have c45b1 : ((wrap64 (((rd_L2 l0 (ji41)).length : Int) + 4)) != 0) = true := bne_iff_ne.mpr c45
                                  obtain ⟨ji46, hji46⟩ : ∃ j_ : Int, (wrap64 ((wrap64 ((rd x8_1 (ji41)) + 1)) + (Int.tmod (wrap64 (Int.tdiv (wrap64 (a2)) 8)) (wrap64 (((rd_L2 l0 (ji41)).length : Int) + 4))))) = j_ := ⟨_, rfl⟩
                                  replace H : (if 0 ≤ (ji46) then (if (ji46) < (x7_1.length : Int) then (if 0 ≤ (IntKind.u64.wrap (Int.tmod a2 8)) then ((frame_All.f k3 (x7_1.set ((ji46) : Int).toNat (Go.bits .xor .u8 (rd x7_1 (ji46)) (shl .u8 1 (IntKind.u64.wrap (Int.tmod a2 8)))))).bind fun bt473 => (if (bt473.1.length : Int) = (wrap64 ((t461.length : Int) - 1)) then (if bt473.2.1 = 1 then (some (bt473.2.2 == (x7_1.length : Int))) else (some false)) else (some false))) else (none)) else (none)) else (none)) = some r := by first | (rw [hji46] at H; exact H) | (simp only [hji46] at H ⊢; exact H)
                                  have hji46w : (IntKind.i64.wrap ((wrap64 ((rd x8_1 (ji41)) + 1)) + (Int.tmod (wrap64 (Int.tdiv (wrap64 (a2)) 8)) (wrap64 (((rd_L2 l0 (ji41)).length : Int) + 4))))) = ji46 := (i64_w _).trans hji46
                                  by_cases c47 : 0 ≤ (ji46)
                                  · rw [if_pos c47] at H
                                    have c47b0 : decide (0 ≤ (ji46)) = true := decide_eq_true c47
                                    clear c47
                                    by_cases c48 : (ji46) < (x7_1.length : Int)
                                    · rw [if_pos c48] at H
                                      have c48b0 : decide ((ji46) < (x7_1.length : Int)) = true := decide_eq_true c48
                                      clear c48
                                      obtain ⟨ji49, hji49⟩ : ∃ j_ : Int, (IntKind.u64.wrap (Int.tmod a2 8)) = j_ := ⟨_, rfl⟩
                                      replace H : (if 0 ≤ (ji49) then ((frame_All.f k3 (x7_1.set ((ji46) : Int).toNat (Go.bits .xor .u8 (rd x7_1 (ji46)) (shl .u8 1 (ji49))))).bind fun bt473 => (if (bt473.1.length : Int) = (wrap64 ((t461.length : Int) - 1)) then (if bt473.2.1 = 1 then (some (bt473.2.2 == (x7_1.length : Int))) else (some false)) else (some false))) else (none)) = some r := by first | (rw [hji49] at H; exact H) | (simp only [hji49] at H ⊢; exact H)
                                      by_cases c50 : 0 ≤ (ji49)
                                      · rw [if_pos c50] at H
                                        have c50b0 := eq_true c50
                                        have c50b1 : decide (0 ≤ (ji49)) = true := decide_eq_true c50
                                        clear c50
                                        obtain ⟨ji51, hji51⟩ : ∃ j_ : Int, (shl .u8 1 (ji49)) = j_ := ⟨_, rfl⟩
                                        replace H : ((frame_All.f k3 (x7_1.set ((ji46) : Int).toNat (Go.bits .xor .u8 (rd x7_1 (ji46)) (ji51)))).bind fun bt473 => (if (bt473.1.length : Int) = (wrap64 ((t461.length : Int) - 1)) then (if bt473.2.1 = 1 then (some (bt473.2.2 == (x7_1.length : Int))) else (some false)) else (some false))) = some r := by first | (rw [hji51] at H; exact H) | (simp only [hji51] at H ⊢; exact H)
                                        have hji51_ : (IntKind.u8.wrap (1 * 2 ^ min (ji49).toNat 8)) = ji51 := hji51
                                        have hji51z : (ji49) ≤ 8 → (IntKind.u8.wrap (1 * 2 ^ (ji49).toNat)) = ji51 := shl_small hji51
                                        have hji51u : (IntKind.u8.wrap (2 ^ min (ji49).toNat 8)) = ji51 := by have h_ := hji51_; rw [Int.one_mul] at h_; exact h_
                                        have hji51v : (ji49) ≤ 8 → (IntKind.u8.wrap (2 ^ (ji49).toNat)) = ji51 := fun hle_ => by have h_ := hji51z hle_; rw [Int.one_mul] at h_; exact h_
                                        obtain ⟨y472, hy472⟩ : ∃ y_ : List Int, y_ = (x7_1.set ((ji46) : Int).toNat (Go.bits .xor .u8 (rd x7_1 (ji46)) (ji51))) := ⟨_, rfl⟩
                                        replace H : ((frame_All.f k3 y472).bind fun bt473 => (if (bt473.1.length : Int) = (wrap64 ((t461.length : Int) - 1)) then (if bt473.2.1 = 1 then (some (bt473.2.2 == (x7_1.length : Int))) else (some false)) else (some false))) = some r := by first | (rw [hy472]; with_reducible exact H) | (have H2_ := (Option.bind_some _ _).symm.trans H; rw [hy472]; with_reducible exact H2_) | (have H2_ := (Option.bind_some _ _).symm.trans H; with_reducible exact H2_) | with_reducible exact H | (rw [hy472]; exact H) | exact H
                                        have Ny472 := Aside0.mk hy472
                                        clear hy472
                                        replace H := Option.bind_eq_some_iff.mp H
                                        obtain ⟨⟨t473, t474, t475⟩, A530, H⟩ := H
                                        replace H : (if (t473.length : Int) = (wrap64 ((t461.length : Int) - 1)) then (if t474 = 1 then (some (t475 == (x7_1.length : Int))) else (some false)) else (some false)) = some r := H
                                        have A53 := Aside0.mk A530
                                        clear A530
                                        by_cases c54 : (t473.length : Int) = (wrap64 ((t461.length : Int) - 1))
                                        · rw [if_pos c54] at H
                                          have c54b0 : ((t473.length : Int) == (wrap64 ((t461.length : Int) - 1))) = true := beq_iff_eq.mpr c54
                                          have c54b1 : ((t473.length : Int) != (wrap64 ((t461.length : Int) - 1))) = false := bne_eq_false_iff_eq.mpr c54
                                          clear c54
                                          by_cases c55 : t474 = 1
                                          · rw [if_pos c55] at H
                                            have c55b0 : (t474 == 1) = true := beq_iff_eq.mpr c55
                                            have c55b1 : (t474 != 1) = false := bne_eq_false_iff_eq.mpr c55
                                            clear c55
                                            obtain rfl := Option.some.inj H
                                            obtain ⟨Ao56, co56, eo56⟩ := Kd.S_slice HO_12.out
                                            subst eo56
                                            obtain ⟨Ao57, co57, eo57⟩ := Kd.R_slice HO_8.out
                                            subst eo57
                                            have p469 : 0 ≤ ((ji41) : Int) := of_decide_eq_true (by first | (with_reducible assumption) | assumption)
                                            have q469 : (ji41) < (x8_1.length : Int) := of_decide_eq_true (by first | (with_reducible assumption) | assumption)
                                            obtain ⟨ad469, e469, hx469_0⟩ := Kd.at_int (Kd.R_reads' HO_8.out).2.2 (ji41) p469 q469
                                            cases e469
                                            replace p469 := eq_true p469
                                            replace q469 := eq_true q469
                                            have p470 : 0 ≤ ((ji41) : Int) := of_decide_eq_true (by first | (with_reducible assumption) | assumption)
                                            have q470 : (ji41) < (l0.length : Int) := of_decide_eq_true (by first | (with_reducible assumption) | assumption)
                                            obtain ⟨ad470, A470_0, c470_0, e470, hx470_0, hl470_0, hi470_0⟩ := at_L2 HR0.out (ji41) p470 q470
                                            cases e470
                                            replace hx470_0 := (HB.out.cell (World.block_lt_of_cell? w _ hx470_0)).trans hx470_0
                                            have HR470_0 := Aside0.mk hi470_0
                                            have HC470_0 := Aside0.mk hl470_0
                                            clear hi470_0 hl470_0
                                            replace p470 := eq_true p470
                                            replace q470 := eq_true q470
                                            have p471 : 0 ≤ ((ji46) : Int) := of_decide_eq_true (by first | (with_reducible assumption) | assumption)
                                            have q471 : (ji46) < (x7_1.length : Int) := of_decide_eq_true (by first | (with_reducible assumption) | assumption)
                                            obtain ⟨ad471, e471, hx471_0⟩ := Kd.at_int (Kd.R_reads' HO_7.out).2.2 (ji46) p471 q471
                                            cases e471
                                            replace p471 := eq_true p471
                                            replace q471 := eq_true q471
                                            have p52 : 0 ≤ ((ji46) : Int) := of_decide_eq_true (by first | (with_reducible assumption) | assumption)
                                            have q52 : ((ji46) : Int) < ((x7_1.length : Int) : Int) := of_decide_eq_true (by first | (with_reducible assumption) | assumption)
                                            obtain ⟨go52, co52, eo52, gb52, gl52, cl52, HG52⟩ := Kd.R_form HO_7.out (by omega)
                                            (first | cases eo52 | (injection eo52 with ea_ en_ ec_; (first | subst ea_ | (injection ea_ with ea_; subst ea_)); subst ec_; clear en_))
                                            have GB52 := Aside0.mk gb52
                                            have GG52 := Aside0.mk HG52
                                            clear gb52 gl52 HG52
                                            (first | simp only [add_plain] at hx471_0 | skip)
                                            obtain ⟨hx52_0, hf52_0⟩ := Kd.R_celln 0 HO_7.out ((ji46) : Int) p52 q52
                                            replace p52 := eq_true p52
                                            replace q52 := eq_true q52
                                            have HP58 := Kd.R_putg HO_7.out ((ji46) : Int) (Go.bits .xor .u8 (rd x7_1 (ji46)) (ji51))
                                            go_wp2_with (first | ((with_reducible refine gate_store (t := 5) (p := 128) rfl ?_); (try (rw [drewN_self wr]; generalize hq_ : World.drewN wr _ = wr; have n0_ := Aside0.mk (Kd.R_at hq_ HO_7.out); have n1_ := Aside0.mk (Kd.R_at hq_ HO_8.out); have n2_ := Aside0.mk (Kd.S_at hq_ HO_12.out); have n3_ := Aside0.mk (below_at hq_ HB.out); clear hq_ HO_7 HO_8 HO_12 HB; have HO_7 := n0_; have HO_8 := n1_; have HO_12 := n2_; have HB := n3_; clear n0_ n1_ n2_ n3_; (try (obtain ⟨hxz_, hfz_⟩ := Kd.R_celln 0 HO_7.out ((ji46) : Int) (of_eq_true p52) (of_eq_true q52))); (try (have HP58 := Kd.R_putg HO_7.out ((ji46) : Int) (Go.bits .xor .u8 (rd x7_1 (ji46)) (ji51)))))); refine store_event (t := 5) (p := 128) (v := ?vo_w59) (w1 := (wr.setCell ⟨go52, ((ji46) : Int).toNat, none⟩ (.int .u8 (Go.bits .xor .u8 (rd x7_1 (ji46)) (ji51))))) ?hg ?ho ?hn ?hr ?_; (case ho => rfl); (case hg => rfl); (case hn => rfl); (case hr => first | (go_simp; done) | (go_simp; rfl)); intro w59 hw; have hg : wr.grownBy w59 (some go52) := (by rw [hw]; exact HP58.2); have hp_ : Kd.R (Kd.int .u8) 5 w59 w.heap.size (fun _ => True) (.slice (some ⟨go52, 0, none⟩) x7_1.length co24) y472 := (by rw [hw, Ny472.out]; exact HP58.1); clear HP58; have n0_ := Aside0.mk (hp_); have n1_ := Aside0.mk (Kd.R_over' (v := (.slice (some ⟨go52, 0, none⟩) x7_1.length co24)) (by (with_reducible repeat (first | apply Kd.R_alloc | apply Kd.R_drewN | apply Kd.R_drew)); exact HO_8.out) (Kd.R_typed HO_7.out) (by decide) hg); have n2_ := Aside0.mk (Kd.S_after (v := (.slice (some ⟨go52, 0, none⟩) x7_1.length co24)) (v1 := (.slice (some ⟨go52, 0, none⟩) x7_1.length co24)) (ok := (fun _ => True)) (by (with_reducible repeat (first | apply Kd.S_alloc | apply Kd.S_drewN | apply Kd.S_drew)); exact Kd.S_mono HO_12.out (fun _ hk => ⟨trivial, hk⟩)) hg (.inl rfl)); have n3_ := Aside0.mk ((by rw [hw]; exact below_set (HB.out) GB52.out : Below w.heap.size w w59)); clear HO_7; clear HO_8; clear HO_12; clear HB; have HO_7 := n0_; have HO_8 := n1_; have HO_12 := n2_; have HB := n3_; clear n0_ n1_ n2_ n3_; clear hg hw hp_) | (go_at_call 37; refine calls_of_args (args' := #[.slice (some ⟨go52, 0, none⟩) y472.length co24]) (by first | (rw [show y472.length = x7_1.length from (Kd.R_reads' HO_7.out).1.symm] <;> rfl) | rfl) ?_; (with_reducible refine (frame_All.calls k3 _ _ y472 t473 t474 t475 _ ?side1 ?side2 A53.out).mono ?_); (case side1 => repeat (first | exact (Kd.R_reads' HO_7.out).2.2 | (with_reducible refine Kd.C_alloc ?_ _) | (with_reducible refine Kd.C_drewN ?_ _) | (with_reducible refine Kd.C_drew ?_))); (case side2 => rw [show y472.length = x7_1.length from (Kd.R_reads' HO_7.out).1.symm]; exact (Kd.R_reads' HO_7.out).2.1); rintro e w60 ⟨v476, rfl, ho0, hb⟩; have n0_ := Aside0.mk (Kd.R_below (by (with_reducible repeat (first | apply Kd.R_alloc | apply Kd.R_drewN | apply Kd.R_drew)); exact HO_7.out) hb); have n1_ := Aside0.mk (Kd.R_below (by (with_reducible repeat (first | apply Kd.R_alloc | apply Kd.R_drewN | apply Kd.R_drew)); exact HO_8.out) hb); have n2_ := Aside0.mk (Kd.S_elder' (by (with_reducible repeat (first | apply Kd.S_alloc | apply Kd.S_drewN | apply Kd.S_drew)); exact HO_12.out) (Kd.S_base ho0) hb); have n3_ := Aside0.mk (Kd.S_lower (Kd.S_new' (Kd.S_new' ho0 (Kd.R_lt (by (with_reducible repeat (first | apply Kd.R_alloc | apply Kd.R_drewN | apply Kd.R_drew)); exact HO_7.out))) (Kd.S_lt (by (with_reducible repeat (first | apply Kd.S_alloc | apply Kd.S_drewN | apply Kd.S_drew)); exact HO_12.out))) (below_size (by repeat (first | (with_reducible first | exact HB.out | apply below_alloc | apply pw_below_drewN | apply below_drew1) | exact HB.out)))); have n4_ := Aside0.mk (below_step (by repeat (first | (with_reducible first | exact HB.out | apply below_alloc | apply pw_below_drewN | apply below_drew1) | exact HB.out)) hb); clear HO_7; clear HO_8; clear HO_12; clear HB; have HO_7 := n0_; have HO_8 := n1_; have HO_12 := n2_; have HO477 := n3_; have HB := n4_; clear n0_ n1_ n2_ n3_ n4_; (try clear hb); (try clear hb2); (try clear hk); (try clear hi); (try clear ho0); obtain ⟨Ao61, co61, eo61⟩ := Kd.S_slice HO477.out; subst eo61))
                                            repeat (go_quiet (first | ((with_reducible refine gate_store (t := 5) (p := 128) rfl ?_); (try (rw [drewN_self wr]; generalize hq_ : World.drewN wr _ = wr; have n0_ := Aside0.mk (Kd.R_at hq_ HO_7.out); have n1_ := Aside0.mk (Kd.R_at hq_ HO_8.out); have n2_ := Aside0.mk (Kd.S_at hq_ HO_12.out); have n3_ := Aside0.mk (below_at hq_ HB.out); clear hq_ HO_7 HO_8 HO_12 HB; have HO_7 := n0_; have HO_8 := n1_; have HO_12 := n2_; have HB := n3_; clear n0_ n1_ n2_ n3_; (try (obtain ⟨hxz_, hfz_⟩ := Kd.R_celln 0 HO_7.out ((ji46) : Int) (of_eq_true p52) (of_eq_true q52))); (try (have HP58 := Kd.R_putg HO_7.out ((ji46) : Int) (Go.bits .xor .u8 (rd x7_1 (ji46)) (ji51)))))); refine store_event (t := 5) (p := 128) (v := ?vo_w59) (w1 := (wr.setCell ⟨go52, ((ji46) : Int).toNat, none⟩ (.int .u8 (Go.bits .xor .u8 (rd x7_1 (ji46)) (ji51))))) ?hg ?ho ?hn ?hr ?_; (case ho => rfl); (case hg => rfl); (case hn => rfl); (case hr => first | (go_simp; done) | (go_simp; rfl)); intro w59 hw; have hg : wr.grownBy w59 (some go52) := (by rw [hw]; exact HP58.2); have hp_ : Kd.R (Kd.int .u8) 5 w59 w.heap.size (fun _ => True) (.slice (some ⟨go52, 0, none⟩) x7_1.length co24) y472 := (by rw [hw, Ny472.out]; exact HP58.1); clear HP58; have n0_ := Aside0.mk (hp_); have n1_ := Aside0.mk (Kd.R_over' (v := (.slice (some ⟨go52, 0, none⟩) x7_1.length co24)) (by (with_reducible repeat (first | apply Kd.R_alloc | apply Kd.R_drewN | apply Kd.R_drew)); exact HO_8.out) (Kd.R_typed HO_7.out) (by decide) hg); have n2_ := Aside0.mk (Kd.S_after (v := (.slice (some ⟨go52, 0, none⟩) x7_1.length co24)) (v1 := (.slice (some ⟨go52, 0, none⟩) x7_1.length co24)) (ok := (fun _ => True)) (by (with_reducible repeat (first | apply Kd.S_alloc | apply Kd.S_drewN | apply Kd.S_drew)); exact Kd.S_mono HO_12.out (fun _ hk => ⟨trivial, hk⟩)) hg (.inl rfl)); have n3_ := Aside0.mk ((by rw [hw]; exact below_set (HB.out) GB52.out : Below w.heap.size w w59)); clear HO_7; clear HO_8; clear HO_12; clear HB; have HO_7 := n0_; have HO_8 := n1_; have HO_12 := n2_; have HB := n3_; clear n0_ n1_ n2_ n3_; clear hg hw hp_) | (go_at_call 37; refine calls_of_args (args' := #[.slice (some ⟨go52, 0, none⟩) y472.length co24]) (by first | (rw [show y472.length = x7_1.length from (Kd.R_reads' HO_7.out).1.symm] <;> rfl) | rfl) ?_; (with_reducible refine (frame_All.calls k3 _ _ y472 t473 t474 t475 _ ?side1 ?side2 A53.out).mono ?_); (case side1 => repeat (first | exact (Kd.R_reads' HO_7.out).2.2 | (with_reducible refine Kd.C_alloc ?_ _) | (with_reducible refine Kd.C_drewN ?_ _) | (with_reducible refine Kd.C_drew ?_))); (case side2 => rw [show y472.length = x7_1.length from (Kd.R_reads' HO_7.out).1.symm]; exact (Kd.R_reads' HO_7.out).2.1); rintro e w60 ⟨v476, rfl, ho0, hb⟩; have n0_ := Aside0.mk (Kd.R_below (by (with_reducible repeat (first | apply Kd.R_alloc | apply Kd.R_drewN | apply Kd.R_drew)); exact HO_7.out) hb); have n1_ := Aside0.mk (Kd.R_below (by (with_reducible repeat (first | apply Kd.R_alloc | apply Kd.R_drewN | apply Kd.R_drew)); exact HO_8.out) hb); have n2_ := Aside0.mk (Kd.S_elder' (by (with_reducible repeat (first | apply Kd.S_alloc | apply Kd.S_drewN | apply Kd.S_drew)); exact HO_12.out) (Kd.S_base ho0) hb); have n3_ := Aside0.mk (Kd.S_lower (Kd.S_new' (Kd.S_new' ho0 (Kd.R_lt (by (with_reducible repeat (first | apply Kd.R_alloc | apply Kd.R_drewN | apply Kd.R_drew)); exact HO_7.out))) (Kd.S_lt (by (with_reducible repeat (first | apply Kd.S_alloc | apply Kd.S_drewN | apply Kd.S_drew)); exact HO_12.out))) (below_size (by repeat (first | (with_reducible first | exact HB.out | apply below_alloc | apply pw_below_drewN | apply below_drew1) | exact HB.out)))); have n4_ := Aside0.mk (below_step (by repeat (first | (with_reducible first | exact HB.out | apply below_alloc | apply pw_below_drewN | apply below_drew1) | exact HB.out)) hb); clear HO_7; clear HO_8; clear HO_12; clear HB; have HO_7 := n0_; have HO_8 := n1_; have HO_12 := n2_; have HO477 := n3_; have HB := n4_; clear n0_ n1_ n2_ n3_ n4_; (try clear hb); (try clear hb2); (try clear hk); (try clear hi); (try clear ho0); obtain ⟨Ao61, co61, eo61⟩ := Kd.S_slice HO477.out; subst eo61)); try go_wp2_with (first | ((with_reducible refine gate_store (t := 5) (p := 128) rfl ?_); (try (rw [drewN_self wr]; generalize hq_ : World.drewN wr _ = wr; have n0_ := Aside0.mk (Kd.R_at hq_ HO_7.out); have n1_ := Aside0.mk (Kd.R_at hq_ HO_8.out); have n2_ := Aside0.mk (Kd.S_at hq_ HO_12.out); have n3_ := Aside0.mk (below_at hq_ HB.out); clear hq_ HO_7 HO_8 HO_12 HB; have HO_7 := n0_; have HO_8 := n1_; have HO_12 := n2_; have HB := n3_; clear n0_ n1_ n2_ n3_; (try (obtain ⟨hxz_, hfz_⟩ := Kd.R_celln 0 HO_7.out ((ji46) : Int) (of_eq_true p52) (of_eq_true q52))); (try (have HP58 := Kd.R_putg HO_7.out ((ji46) : Int) (Go.bits .xor .u8 (rd x7_1 (ji46)) (ji51)))))); refine store_event (t := 5) (p := 128) (v := ?vo_w59) (w1 := (wr.setCell ⟨go52, ((ji46) : Int).toNat, none⟩ (.int .u8 (Go.bits .xor .u8 (rd x7_1 (ji46)) (ji51))))) ?hg ?ho ?hn ?hr ?_; (case ho => rfl); (case hg => rfl); (case hn => rfl); (case hr => first | (go_simp; done) | (go_simp; rfl)); intro w59 hw; have hg : wr.grownBy w59 (some go52) := (by rw [hw]; exact HP58.2); have hp_ : Kd.R (Kd.int .u8) 5 w59 w.heap.size (fun _ => True) (.slice (some ⟨go52, 0, none⟩) x7_1.length co24) y472 := (by rw [hw, Ny472.out]; exact HP58.1); clear HP58; have n0_ := Aside0.mk (hp_); have n1_ := Aside0.mk (Kd.R_over' (v := (.slice (some ⟨go52, 0, none⟩) x7_1.length co24)) (by (with_reducible repeat (first | apply Kd.R_alloc | apply Kd.R_drewN | apply Kd.R_drew)); exact HO_8.out) (Kd.R_typed HO_7.out) (by decide) hg); have n2_ := Aside0.mk (Kd.S_after (v := (.slice (some ⟨go52, 0, none⟩) x7_1.length co24)) (v1 := (.slice (some ⟨go52, 0, none⟩) x7_1.length co24)) (ok := (fun _ => True)) (by (with_reducible repeat (first | apply Kd.S_alloc | apply Kd.S_drewN | apply Kd.S_drew)); exact Kd.S_mono HO_12.out (fun _ hk => ⟨trivial, hk⟩)) hg (.inl rfl)); have n3_ := Aside0.mk ((by rw [hw]; exact below_set (HB.out) GB52.out : Below w.heap.size w w59)); clear HO_7; clear HO_8; clear HO_12; clear HB; have HO_7 := n0_; have HO_8 := n1_; have HO_12 := n2_; have HB := n3_; clear n0_ n1_ n2_ n3_; clear hg hw hp_) | (go_at_call 37; refine calls_of_args (args' := #[.slice (some ⟨go52, 0, none⟩) y472.length co24]) (by first | (rw [show y472.length = x7_1.length from (Kd.R_reads' HO_7.out).1.symm] <;> rfl) | rfl) ?_; (with_reducible refine (frame_All.calls k3 _ _ y472 t473 t474 t475 _ ?side1 ?side2 A53.out).mono ?_); (case side1 => repeat (first | exact (Kd.R_reads' HO_7.out).2.2 | (with_reducible refine Kd.C_alloc ?_ _) | (with_reducible refine Kd.C_drewN ?_ _) | (with_reducible refine Kd.C_drew ?_))); (case side2 => rw [show y472.length = x7_1.length from (Kd.R_reads' HO_7.out).1.symm]; exact (Kd.R_reads' HO_7.out).2.1); rintro e w60 ⟨v476, rfl, ho0, hb⟩; have n0_ := Aside0.mk (Kd.R_below (by (with_reducible repeat (first | apply Kd.R_alloc | apply Kd.R_drewN | apply Kd.R_drew)); exact HO_7.out) hb); have n1_ := Aside0.mk (Kd.R_below (by (with_reducible repeat (first | apply Kd.R_alloc | apply Kd.R_drewN | apply Kd.R_drew)); exact HO_8.out) hb); have n2_ := Aside0.mk (Kd.S_elder' (by (with_reducible repeat (first | apply Kd.S_alloc | apply Kd.S_drewN | apply Kd.S_drew)); exact HO_12.out) (Kd.S_base ho0) hb); have n3_ := Aside0.mk (Kd.S_lower (Kd.S_new' (Kd.S_new' ho0 (Kd.R_lt (by (with_reducible repeat (first | apply Kd.R_alloc | apply Kd.R_drewN | apply Kd.R_drew)); exact HO_7.out))) (Kd.S_lt (by (with_reducible repeat (first | apply Kd.S_alloc | apply Kd.S_drewN | apply Kd.S_drew)); exact HO_12.out))) (below_size (by repeat (first | (with_reducible first | exact HB.out | apply below_alloc | apply pw_below_drewN | apply below_drew1) | exact HB.out)))); have n4_ := Aside0.mk (below_step (by repeat (first | (with_reducible first | exact HB.out | apply below_alloc | apply pw_below_drewN | apply below_drew1) | exact HB.out)) hb); clear HO_7; clear HO_8; clear HO_12; clear HB; have HO_7 := n0_; have HO_8 := n1_; have HO_12 := n2_; have HO477 := n3_; have HB := n4_; clear n0_ n1_ n2_ n3_ n4_; (try clear hb); (try clear hb2); (try clear hk); (try clear hi); (try clear ho0); obtain ⟨Ao61, co61, eo61⟩ := Kd.S_slice HO477.out; subst eo61)))
                                            go_ret
                                            exact ⟨by first | rfl | (have e_ := Option.some.inj (A12.out.symm.trans A22.out); simp only [Prod.mk.injEq] at e_; obtain ⟨rfl, rfl⟩ := e_; first | rfl | (simp [*, errW_none, errW_some] <;> rfl)) | (simp [errW_none, errW_some] <;> rfl) | (simp only [← hji41, ← hji46, ← hji49, ← hji51]; first | rfl | (simp [errW_none, errW_some] <;> rfl)) | (simp [*, errW_none, errW_some] <;> rfl), by repeat (first | (with_reducible first | exact HB.out | apply below_alloc | apply pw_below_drewN | apply below_drew1) | exact HB.out)⟩
                                          · rw [if_neg c55] at H
                                            have c55b0 : (t474 == 1) = false := beq_eq_false_iff_ne.mpr c55
                                            have c55b1 : (t474 != 1) = true := bne_iff_ne.mpr c55
                                            obtain rfl := Option.some.inj H
                                            obtain ⟨Ao62, co62, eo62⟩ := Kd.S_slice HO_12.out
                                            subst eo62
                                            obtain ⟨Ao63, co63, eo63⟩ := Kd.R_slice HO_8.out
                                            subst eo63
                                            have p469 : 0 ≤ ((ji41) : Int) := of_decide_eq_true (by first | (with_reducible assumption) | assumption)
                                            have q469 : (ji41) < (x8_1.length : Int) := of_decide_eq_true (by first | (with_reducible assumption) | assumption)
                                            obtain ⟨ad469, e469, hx469_0⟩ := Kd.at_int (Kd.R_reads' HO_8.out).2.2 (ji41) p469 q469
                                            cases e469
                                            replace p469 := eq_true p469
                                            replace q469 := eq_true q469
                                            have p470 : 0 ≤ ((ji41) : Int) := of_decide_eq_true (by first | (with_reducible assumption) | assumption)
                                            have q470 : (ji41) < (l0.length : Int) := of_decide_eq_true (by first | (with_reducible assumption) | assumption)
                                            obtain ⟨ad470, A470_0, c470_0, e470, hx470_0, hl470_0, hi470_0⟩ := at_L2 HR0.out (ji41) p470 q470
                                            cases e470
                                            replace hx470_0 := (HB.out.cell (World.block_lt_of_cell? w _ hx470_0)).trans hx470_0
                                            have HR470_0 := Aside0.mk hi470_0
                                            have HC470_0 := Aside0.mk hl470_0
                                            clear hi470_0 hl470_0
                                            replace p470 := eq_true p470
                                            replace q470 := eq_true q470
                                            have p471 : 0 ≤ ((ji46) : Int) := of_decide_eq_true (by first | (with_reducible assumption) | assumption)
                                            have q471 : (ji46) < (x7_1.length : Int) := of_decide_eq_true (by first | (with_reducible assumption) | assumption)
                                            obtain ⟨ad471, e471, hx471_0⟩ := Kd.at_int (Kd.R_reads' HO_7.out).2.2 (ji46) p471 q471
                                            cases e471
                                            replace p471 := eq_true p471
                                            replace q471 := eq_true q471
                                            have p52 : 0 ≤ ((ji46) : Int) := of_decide_eq_true (by first | (with_reducible assumption) | assumption)
                                            have q52 : ((ji46) : Int) < ((x7_1.length : Int) : Int) := of_decide_eq_true (by first | (with_reducible assumption) | assumption)
                                            obtain ⟨go52, co52, eo52, gb52, gl52, cl52, HG52⟩ := Kd.R_form HO_7.out (by omega)
                                            (first | cases eo52 | (injection eo52 with ea_ en_ ec_; (first | subst ea_ | (injection ea_ with ea_; subst ea_)); subst ec_; clear en_))
                                            have GB52 := Aside0.mk gb52
                                            have GG52 := Aside0.mk HG52
                                            clear gb52 gl52 HG52
                                            (first | simp only [add_plain] at hx471_0 | skip)
                                            obtain ⟨hx52_0, hf52_0⟩ := Kd.R_celln 0 HO_7.out ((ji46) : Int) p52 q52
                                            replace p52 := eq_true p52
                                            replace q52 := eq_true q52
                                            have HP64 := Kd.R_putg HO_7.out ((ji46) : Int) (Go.bits .xor .u8 (rd x7_1 (ji46)) (ji51))
                                            go_wp2_with (first | ((with_reducible refine gate_store (t := 5) (p := 128) rfl ?_); (try (rw [drewN_self wr]; generalize hq_ : World.drewN wr _ = wr; have n0_ := Aside0.mk (Kd.R_at hq_ HO_7.out); have n1_ := Aside0.mk (Kd.R_at hq_ HO_8.out); have n2_ := Aside0.mk (Kd.S_at hq_ HO_12.out); have n3_ := Aside0.mk (below_at hq_ HB.out); clear hq_ HO_7 HO_8 HO_12 HB; have HO_7 := n0_; have HO_8 := n1_; have HO_12 := n2_; have HB := n3_; clear n0_ n1_ n2_ n3_; (try (obtain ⟨hxz_, hfz_⟩ := Kd.R_celln 0 HO_7.out ((ji46) : Int) (of_eq_true p52) (of_eq_true q52))); (try (have HP64 := Kd.R_putg HO_7.out ((ji46) : Int) (Go.bits .xor .u8 (rd x7_1 (ji46)) (ji51)))))); refine store_event (t := 5) (p := 128) (v := ?vo_w65) (w1 := (wr.setCell ⟨go52, ((ji46) : Int).toNat, none⟩ (.int .u8 (Go.bits .xor .u8 (rd x7_1 (ji46)) (ji51))))) ?hg ?ho ?hn ?hr ?_; (case ho => rfl); (case hg => rfl); (case hn => rfl); (case hr => first | (go_simp; done) | (go_simp; rfl)); intro w65 hw; have hg : wr.grownBy w65 (some go52) := (by rw [hw]; exact HP64.2); have hp_ : Kd.R (Kd.int .u8) 5 w65 w.heap.size (fun _ => True) (.slice (some ⟨go52, 0, none⟩) x7_1.length co24) y472 := (by rw [hw, Ny472.out]; exact HP64.1); clear HP64; have n0_ := Aside0.mk (hp_); have n1_ := Aside0.mk (Kd.R_over' (v := (.slice (some ⟨go52, 0, none⟩) x7_1.length co24)) (by (with_reducible repeat (first | apply Kd.R_alloc | apply Kd.R_drewN | apply Kd.R_drew)); exact HO_8.out) (Kd.R_typed HO_7.out) (by decide) hg); have n2_ := Aside0.mk (Kd.S_after (v := (.slice (some ⟨go52, 0, none⟩) x7_1.length co24)) (v1 := (.slice (some ⟨go52, 0, none⟩) x7_1.length co24)) (ok := (fun _ => True)) (by (with_reducible repeat (first | apply Kd.S_alloc | apply Kd.S_drewN | apply Kd.S_drew)); exact Kd.S_mono HO_12.out (fun _ hk => ⟨trivial, hk⟩)) hg (.inl rfl)); have n3_ := Aside0.mk ((by rw [hw]; exact below_set (HB.out) GB52.out : Below w.heap.size w w65)); clear HO_7; clear HO_8; clear HO_12; clear HB; have HO_7 := n0_; have HO_8 := n1_; have HO_12 := n2_; have HB := n3_; clear n0_ n1_ n2_ n3_; clear hg hw hp_) | (go_at_call 37; refine calls_of_args (args' := #[.slice (some ⟨go52, 0, none⟩) y472.length co24]) (by first | (rw [show y472.length = x7_1.length from (Kd.R_reads' HO_7.out).1.symm] <;> rfl) | rfl) ?_; (with_reducible refine (frame_All.calls k3 _ _ y472 t473 t474 t475 _ ?side1 ?side2 A53.out).mono ?_); (case side1 => repeat (first | exact (Kd.R_reads' HO_7.out).2.2 | (with_reducible refine Kd.C_alloc ?_ _) | (with_reducible refine Kd.C_drewN ?_ _) | (with_reducible refine Kd.C_drew ?_))); (case side2 => rw [show y472.length = x7_1.length from (Kd.R_reads' HO_7.out).1.symm]; exact (Kd.R_reads' HO_7.out).2.1); rintro e w66 ⟨v476, rfl, ho0, hb⟩; have n0_ := Aside0.mk (Kd.R_below (by (with_reducible repeat (first | apply Kd.R_alloc | apply Kd.R_drewN | apply Kd.R_drew)); exact HO_7.out) hb); have n1_ := Aside0.mk (Kd.R_below (by (with_reducible repeat (first | apply Kd.R_alloc | apply Kd.R_drewN | apply Kd.R_drew)); exact HO_8.out) hb); have n2_ := Aside0.mk (Kd.S_elder' (by (with_reducible repeat (first | apply Kd.S_alloc | apply Kd.S_drewN | apply Kd.S_drew)); exact HO_12.out) (Kd.S_base ho0) hb); have n3_ := Aside0.mk (Kd.S_lower (Kd.S_new' (Kd.S_new' ho0 (Kd.R_lt (by (with_reducible repeat (first | apply Kd.R_alloc | apply Kd.R_drewN | apply Kd.R_drew)); exact HO_7.out))) (Kd.S_lt (by (with_reducible repeat (first | apply Kd.S_alloc | apply Kd.S_drewN | apply Kd.S_drew)); exact HO_12.out))) (below_size (by repeat (first | (with_reducible first | exact HB.out | apply below_alloc | apply pw_below_drewN | apply below_drew1) | exact HB.out)))); have n4_ := Aside0.mk (below_step (by repeat (first | (with_reducible first | exact HB.out | apply below_alloc | apply pw_below_drewN | apply below_drew1) | exact HB.out)) hb); clear HO_7; clear HO_8; clear HO_12; clear HB; have HO_7 := n0_; have HO_8 := n1_; have HO_12 := n2_; have HO477 := n3_; have HB := n4_; clear n0_ n1_ n2_ n3_ n4_; (try clear hb); (try clear hb2); (try clear hk); (try clear hi); (try clear ho0); obtain ⟨Ao67, co67, eo67⟩ := Kd.S_slice HO477.out; subst eo67))
                                            repeat (go_quiet (first | ((with_reducible refine gate_store (t := 5) (p := 128) rfl ?_); (try (rw [drewN_self wr]; generalize hq_ : World.drewN wr _ = wr; have n0_ := Aside0.mk (Kd.R_at hq_ HO_7.out); have n1_ := Aside0.mk (Kd.R_at hq_ HO_8.out); have n2_ := Aside0.mk (Kd.S_at hq_ HO_12.out); have n3_ := Aside0.mk (below_at hq_ HB.out); clear hq_ HO_7 HO_8 HO_12 HB; have HO_7 := n0_; have HO_8 := n1_; have HO_12 := n2_; have HB := n3_; clear n0_ n1_ n2_ n3_; (try (obtain ⟨hxz_, hfz_⟩ := Kd.R_celln 0 HO_7.out ((ji46) : Int) (of_eq_true p52) (of_eq_true q52))); (try (have HP64 := Kd.R_putg HO_7.out ((ji46) : Int) (Go.bits .xor .u8 (rd x7_1 (ji46)) (ji51)))))); refine store_event (t := 5) (p := 128) (v := ?vo_w65) (w1 := (wr.setCell ⟨go52, ((ji46) : Int).toNat, none⟩ (.int .u8 (Go.bits .xor .u8 (rd x7_1 (ji46)) (ji51))))) ?hg ?ho ?hn ?hr ?_; (case ho => rfl); (case hg => rfl); (case hn => rfl); (case hr => first | (go_simp; done) | (go_simp; rfl)); intro w65 hw; have hg : wr.grownBy w65 (some go52) := (by rw [hw]; exact HP64.2); have hp_ : Kd.R (Kd.int .u8) 5 w65 w.heap.size (fun _ => True) (.slice (some ⟨go52, 0, none⟩) x7_1.length co24) y472 := (by rw [hw, Ny472.out]; exact HP64.1); clear HP64; have n0_ := Aside0.mk (hp_); have n1_ := Aside0.mk (Kd.R_over' (v := (.slice (some ⟨go52, 0, none⟩) x7_1.length co24)) (by (with_reducible repeat (first | apply Kd.R_alloc | apply Kd.R_drewN | apply Kd.R_drew)); exact HO_8.out) (Kd.R_typed HO_7.out) (by decide) hg); have n2_ := Aside0.mk (Kd.S_after (v := (.slice (some ⟨go52, 0, none⟩) x7_1.length co24)) (v1 := (.slice (some ⟨go52, 0, none⟩) x7_1.length co24)) (ok := (fun _ => True)) (by (with_reducible repeat (first | apply Kd.S_alloc | apply Kd.S_drewN | apply Kd.S_drew)); exact Kd.S_mono HO_12.out (fun _ hk => ⟨trivial, hk⟩)) hg (.inl rfl)); have n3_ := Aside0.mk ((by rw [hw]; exact below_set (HB.out) GB52.out : Below w.heap.size w w65)); clear HO_7; clear HO_8; clear HO_12; clear HB; have HO_7 := n0_; have HO_8 := n1_; have HO_12 := n2_; have HB := n3_; clear n0_ n1_ n2_ n3_; clear hg hw hp_) | (go_at_call 37; refine calls_of_args (args' := #[.slice (some ⟨go52, 0, none⟩) y472.length co24]) (by first | (rw [show y472.length = x7_1.length from (Kd.R_reads' HO_7.out).1.symm] <;> rfl) | rfl) ?_; (with_reducible refine (frame_All.calls k3 _ _ y472 t473 t474 t475 _ ?side1 ?side2 A53.out).mono ?_); (case side1 => repeat (first | exact (Kd.R_reads' HO_7.out).2.2 | (with_reducible refine Kd.C_alloc ?_ _) | (with_reducible refine Kd.C_drewN ?_ _) | (with_reducible refine Kd.C_drew ?_))); (case side2 => rw [show y472.length = x7_1.length from (Kd.R_reads' HO_7.out).1.symm]; exact (Kd.R_reads' HO_7.out).2.1); rintro e w66 ⟨v476, rfl, ho0, hb⟩; have n0_ := Aside0.mk (Kd.R_below (by (with_reducible repeat (first | apply Kd.R_alloc | apply Kd.R_drewN | apply Kd.R_drew)); exact HO_7.out) hb); have n1_ := Aside0.mk (Kd.R_below (by (with_reducible repeat (first | apply Kd.R_alloc | apply Kd.R_drewN | apply Kd.R_drew)); exact HO_8.out) hb); have n2_ := Aside0.mk (Kd.S_elder' (by (with_reducible repeat (first | apply Kd.S_alloc | apply Kd.S_drewN | apply Kd.S_drew)); exact HO_12.out) (Kd.S_base ho0) hb); have n3_ := Aside0.mk (Kd.S_lower (Kd.S_new' (Kd.S_new' ho0 (Kd.R_lt (by (with_reducible repeat (first | apply Kd.R_alloc | apply Kd.R_drewN | apply Kd.R_drew)); exact HO_7.out))) (Kd.S_lt (by (with_reducible repeat (first | apply Kd.S_alloc | apply Kd.S_drewN | apply Kd.S_drew)); exact HO_12.out))) (below_size (by repeat (first | (with_reducible first | exact HB.out | apply below_alloc | apply pw_below_drewN | apply below_drew1) | exact HB.out)))); have n4_ := Aside0.mk (below_step (by repeat (first | (with_reducible first | exact HB.out | apply below_alloc | apply pw_below_drewN | apply below_drew1) | exact HB.out)) hb); clear HO_7; clear HO_8; clear HO_12; clear HB; have HO_7 := n0_; have HO_8 := n1_; have HO_12 := n2_; have HO477 := n3_; have HB := n4_; clear n0_ n1_ n2_ n3_ n4_; (try clear hb); (try clear hb2); (try clear hk); (try clear hi); (try clear ho0); obtain ⟨Ao67, co67, eo67⟩ := Kd.S_slice HO477.out; subst eo67)); try go_wp2_with (first | ((with_reducible refine gate_store (t := 5) (p := 128) rfl ?_); (try (rw [drewN_self wr]; generalize hq_ : World.drewN wr _ = wr; have n0_ := Aside0.mk (Kd.R_at hq_ HO_7.out); have n1_ := Aside0.mk (Kd.R_at hq_ HO_8.out); have n2_ := Aside0.mk (Kd.S_at hq_ HO_12.out); have n3_ := Aside0.mk (below_at hq_ HB.out); clear hq_ HO_7 HO_8 HO_12 HB; have HO_7 := n0_; have HO_8 := n1_; have HO_12 := n2_; have HB := n3_; clear n0_ n1_ n2_ n3_; (try (obtain ⟨hxz_, hfz_⟩ := Kd.R_celln 0 HO_7.out ((ji46) : Int) (of_eq_true p52) (of_eq_true q52))); (try (have HP64 := Kd.R_putg HO_7.out ((ji46) : Int) (Go.bits .xor .u8 (rd x7_1 (ji46)) (ji51)))))); refine store_event (t := 5) (p := 128) (v := ?vo_w65) (w1 := (wr.setCell ⟨go52, ((ji46) : Int).toNat, none⟩ (.int .u8 (Go.bits .xor .u8 (rd x7_1 (ji46)) (ji51))))) ?hg ?ho ?hn ?hr ?_; (case ho => rfl); (case hg => rfl); (case hn => rfl); (case hr => first | (go_simp; done) | (go_simp; rfl)); intro w65 hw; have hg : wr.grownBy w65 (some go52) := (by rw [hw]; exact HP64.2); have hp_ : Kd.R (Kd.int .u8) 5 w65 w.heap.size (fun _ => True) (.slice (some ⟨go52, 0, none⟩) x7_1.length co24) y472 := (by rw [hw, Ny472.out]; exact HP64.1); clear HP64; have n0_ := Aside0.mk (hp_); have n1_ := Aside0.mk (Kd.R_over' (v := (.slice (some ⟨go52, 0, none⟩) x7_1.length co24)) (by (with_reducible repeat (first | apply Kd.R_alloc | apply Kd.R_drewN | apply Kd.R_drew)); exact HO_8.out) (Kd.R_typed HO_7.out) (by decide) hg); have n2_ := Aside0.mk (Kd.S_after (v := (.slice (some ⟨go52, 0, none⟩) x7_1.length co24)) (v1 := (.slice (some ⟨go52, 0, none⟩) x7_1.length co24)) (ok := (fun _ => True)) (by (with_reducible repeat (first | apply Kd.S_alloc | apply Kd.S_drewN | apply Kd.S_drew)); exact Kd.S_mono HO_12.out (fun _ hk => ⟨trivial, hk⟩)) hg (.inl rfl)); have n3_ := Aside0.mk ((by rw [hw]; exact below_set (HB.out) GB52.out : Below w.heap.size w w65)); clear HO_7; clear HO_8; clear HO_12; clear HB; have HO_7 := n0_; have HO_8 := n1_; have HO_12 := n2_; have HB := n3_; clear n0_ n1_ n2_ n3_; clear hg hw hp_) | (go_at_call 37; refine calls_of_args (args' := #[.slice (some ⟨go52, 0, none⟩) y472.length co24]) (by first | (rw [show y472.length = x7_1.length from (Kd.R_reads' HO_7.out).1.symm] <;> rfl) | rfl) ?_; (with_reducible refine (frame_All.calls k3 _ _ y472 t473 t474 t475 _ ?side1 ?side2 A53.out).mono ?_); (case side1 => repeat (first | exact (Kd.R_reads' HO_7.out).2.2 | (with_reducible refine Kd.C_alloc ?_ _) | (with_reducible refine Kd.C_drewN ?_ _) | (with_reducible refine Kd.C_drew ?_))); (case side2 => rw [show y472.length = x7_1.length from (Kd.R_reads' HO_7.out).1.symm]; exact (Kd.R_reads' HO_7.out).2.1); rintro e w66 ⟨v476, rfl, ho0, hb⟩; have n0_ := Aside0.mk (Kd.R_below (by (with_reducible repeat (first | apply Kd.R_alloc | apply Kd.R_drewN | apply Kd.R_drew)); exact HO_7.out) hb); have n1_ := Aside0.mk (Kd.R_below (by (with_reducible repeat (first | apply Kd.R_alloc | apply Kd.R_drewN | apply Kd.R_drew)); exact HO_8.out) hb); have n2_ := Aside0.mk (Kd.S_elder' (by (with_reducible repeat (first | apply Kd.S_alloc | apply Kd.S_drewN | apply Kd.S_drew)); exact HO_12.out) (Kd.S_base ho0) hb); have n3_ := Aside0.mk (Kd.S_lower (Kd.S_new' (Kd.S_new' ho0 (Kd.R_lt (by (with_reducible repeat (first | apply Kd.R_alloc | apply Kd.R_drewN | apply Kd.R_drew)); exact HO_7.out))) (Kd.S_lt (by (with_reducible repeat (first | apply Kd.S_alloc | apply Kd.S_drewN | apply Kd.S_drew)); exact HO_12.out))) (below_size (by repeat (first | (with_reducible first | exact HB.out | apply below_alloc | apply pw_below_drewN | apply below_drew1) | exact HB.out)))); have n4_ := Aside0.mk (below_step (by repeat (first | (with_reducible first | exact HB.out | apply below_alloc | apply pw_below_drewN | apply below_drew1) | exact HB.out)) hb); clear HO_7; clear HO_8; clear HO_12; clear HB; have HO_7 := n0_; have HO_8 := n1_; have HO_12 := n2_; have HO477 := n3_; have HB := n4_; clear n0_ n1_ n2_ n3_ n4_; (try clear hb); (try clear hb2); (try clear hk); (try clear hi); (try clear ho0); obtain ⟨Ao67, co67, eo67⟩ := Kd.S_slice HO477.out; subst eo67)))
                                            go_ret
                                            exact ⟨by first | rfl | (have e_ := Option.some.inj (A12.out.symm.trans A22.out); simp only [Prod.mk.injEq] at e_; obtain ⟨rfl, rfl⟩ := e_; first | rfl | (simp [*, errW_none, errW_some] <;> rfl)) | (simp [errW_none, errW_some] <;> rfl) | (simp only [← hji41, ← hji46, ← hji49, ← hji51]; first | rfl | (simp [errW_none, errW_some] <;> rfl)) | (simp [*, errW_none, errW_some] <;> rfl), by repeat (first | (with_reducible first | exact HB.out | apply below_alloc | apply pw_below_drewN | apply below_drew1) | exact HB.out)⟩
                                        · rw [if_neg c54] at H
                                          have c54b0 : ((t473.length : Int) == (wrap64 ((t461.length : Int) - 1))) = false := beq_eq_false_iff_ne.mpr c54
                                          have c54b1 : ((t473.length : Int) != (wrap64 ((t461.length : Int) - 1))) = true := bne_iff_ne.mpr c54
                                          obtain rfl := Option.some.inj H
                                          obtain ⟨Ao68, co68, eo68⟩ := Kd.S_slice HO_12.out
                                          subst eo68
                                          obtain ⟨Ao69, co69, eo69⟩ := Kd.R_slice HO_8.out
                                          subst eo69
                                          have p469 : 0 ≤ ((ji41) : Int) := of_decide_eq_true (by first | (with_reducible assumption) | assumption)
                                          have q469 : (ji41) < (x8_1.length : Int) := of_decide_eq_true (by first | (with_reducible assumption) | assumption)
                                          obtain ⟨ad469, e469, hx469_0⟩ := Kd.at_int (Kd.R_reads' HO_8.out).2.2 (ji41) p469 q469
                                          cases e469
                                          replace p469 := eq_true p469
                                          replace q469 := eq_true q469
                                          have p470 : 0 ≤ ((ji41) : Int) := of_decide_eq_true (by first | (with_reducible assumption) | assumption)
                                          have q470 : (ji41) < (l0.length : Int) := of_decide_eq_true (by first | (with_reducible assumption) | assumption)
                                          obtain ⟨ad470, A470_0, c470_0, e470, hx470_0, hl470_0, hi470_0⟩ := at_L2 HR0.out (ji41) p470 q470
                                          cases e470
                                          replace hx470_0 := (HB.out.cell (World.block_lt_of_cell? w _ hx470_0)).trans hx470_0
                                          have HR470_0 := Aside0.mk hi470_0
                                          have HC470_0 := Aside0.mk hl470_0
                                          clear hi470_0 hl470_0
                                          replace p470 := eq_true p470
                                          replace q470 := eq_true q470
                                          have p471 : 0 ≤ ((ji46) : Int) := of_decide_eq_true (by first | (with_reducible assumption) | assumption)
                                          have q471 : (ji46) < (x7_1.length : Int) := of_decide_eq_true (by first | (with_reducible assumption) | assumption)
                                          obtain ⟨ad471, e471, hx471_0⟩ := Kd.at_int (Kd.R_reads' HO_7.out).2.2 (ji46) p471 q471
                                          cases e471
                                          replace p471 := eq_true p471
                                          replace q471 := eq_true q471
                                          have p52 : 0 ≤ ((ji46) : Int) := of_decide_eq_true (by first | (with_reducible assumption) | assumption)
                                          have q52 : ((ji46) : Int) < ((x7_1.length : Int) : Int) := of_decide_eq_true (by first | (with_reducible assumption) | assumption)
                                          obtain ⟨go52, co52, eo52, gb52, gl52, cl52, HG52⟩ := Kd.R_form HO_7.out (by omega)
                                          (first | cases eo52 | (injection eo52 with ea_ en_ ec_; (first | subst ea_ | (injection ea_ with ea_; subst ea_)); subst ec_; clear en_))
                                          have GB52 := Aside0.mk gb52
                                          have GG52 := Aside0.mk HG52
                                          clear gb52 gl52 HG52
                                          (first | simp only [add_plain] at hx471_0 | skip)
                                          obtain ⟨hx52_0, hf52_0⟩ := Kd.R_celln 0 HO_7.out ((ji46) : Int) p52 q52
                                          replace p52 := eq_true p52
                                          replace q52 := eq_true q52
                                          have HP70 := Kd.R_putg HO_7.out ((ji46) : Int) (Go.bits .xor .u8 (rd x7_1 (ji46)) (ji51))
                                          go_wp2_with (first | ((with_reducible refine gate_store (t := 5) (p := 128) rfl ?_); (try (rw [drewN_self wr]; generalize hq_ : World.drewN wr _ = wr; have n0_ := Aside0.mk (Kd.R_at hq_ HO_7.out); have n1_ := Aside0.mk (Kd.R_at hq_ HO_8.out); have n2_ := Aside0.mk (Kd.S_at hq_ HO_12.out); have n3_ := Aside0.mk (below_at hq_ HB.out); clear hq_ HO_7 HO_8 HO_12 HB; have HO_7 := n0_; have HO_8 := n1_; have HO_12 := n2_; have HB := n3_; clear n0_ n1_ n2_ n3_; (try (obtain ⟨hxz_, hfz_⟩ := Kd.R_celln 0 HO_7.out ((ji46) : Int) (of_eq_true p52) (of_eq_true q52))); (try (have HP70 := Kd.R_putg HO_7.out ((ji46) : Int) (Go.bits .xor .u8 (rd x7_1 (ji46)) (ji51)))))); refine store_event (t := 5) (p := 128) (v := ?vo_w71) (w1 := (wr.setCell ⟨go52, ((ji46) : Int).toNat, none⟩ (.int .u8 (Go.bits .xor .u8 (rd x7_1 (ji46)) (ji51))))) ?hg ?ho ?hn ?hr ?_; (case ho => rfl); (case hg => rfl); (case hn => rfl); (case hr => first | (go_simp; done) | (go_simp; rfl)); intro w71 hw; have hg : wr.grownBy w71 (some go52) := (by rw [hw]; exact HP70.2); have hp_ : Kd.R (Kd.int .u8) 5 w71 w.heap.size (fun _ => True) (.slice (some ⟨go52, 0, none⟩) x7_1.length co24) y472 := (by rw [hw, Ny472.out]; exact HP70.1); clear HP70; have n0_ := Aside0.mk (hp_); have n1_ := Aside0.mk (Kd.R_over' (v := (.slice (some ⟨go52, 0, none⟩) x7_1.length co24)) (by (with_reducible repeat (first | apply Kd.R_alloc | apply Kd.R_drewN | apply Kd.R_drew)); exact HO_8.out) (Kd.R_typed HO_7.out) (by decide) hg); have n2_ := Aside0.mk (Kd.S_after (v := (.slice (some ⟨go52, 0, none⟩) x7_1.length co24)) (v1 := (.slice (some ⟨go52, 0, none⟩) x7_1.length co24)) (ok := (fun _ => True)) (by (with_reducible repeat (first | apply Kd.S_alloc | apply Kd.S_drewN | apply Kd.S_drew)); exact Kd.S_mono HO_12.out (fun _ hk => ⟨trivial, hk⟩)) hg (.inl rfl)); have n3_ := Aside0.mk ((by rw [hw]; exact below_set (HB.out) GB52.out : Below w.heap.size w w71)); clear HO_7; clear HO_8; clear HO_12; clear HB; have HO_7 := n0_; have HO_8 := n1_; have HO_12 := n2_; have HB := n3_; clear n0_ n1_ n2_ n3_; clear hg hw hp_) | (go_at_call 37; refine calls_of_args (args' := #[.slice (some ⟨go52, 0, none⟩) y472.length co24]) (by first | (rw [show y472.length = x7_1.length from (Kd.R_reads' HO_7.out).1.symm] <;> rfl) | rfl) ?_; (with_reducible refine (frame_All.calls k3 _ _ y472 t473 t474 t475 _ ?side1 ?side2 A53.out).mono ?_); (case side1 => repeat (first | exact (Kd.R_reads' HO_7.out).2.2 | (with_reducible refine Kd.C_alloc ?_ _) | (with_reducible refine Kd.C_drewN ?_ _) | (with_reducible refine Kd.C_drew ?_))); (case side2 => rw [show y472.length = x7_1.length from (Kd.R_reads' HO_7.out).1.symm]; exact (Kd.R_reads' HO_7.out).2.1); rintro e w72 ⟨v476, rfl, ho0, hb⟩; have n0_ := Aside0.mk (Kd.R_below (by (with_reducible repeat (first | apply Kd.R_alloc | apply Kd.R_drewN | apply Kd.R_drew)); exact HO_7.out) hb); have n1_ := Aside0.mk (Kd.R_below (by (with_reducible repeat (first | apply Kd.R_alloc | apply Kd.R_drewN | apply Kd.R_drew)); exact HO_8.out) hb); have n2_ := Aside0.mk (Kd.S_elder' (by (with_reducible repeat (first | apply Kd.S_alloc | apply Kd.S_drewN | apply Kd.S_drew)); exact HO_12.out) (Kd.S_base ho0) hb); have n3_ := Aside0.mk (Kd.S_lower (Kd.S_new' (Kd.S_new' ho0 (Kd.R_lt (by (with_reducible repeat (first | apply Kd.R_alloc | apply Kd.R_drewN | apply Kd.R_drew)); exact HO_7.out))) (Kd.S_lt (by (with_reducible repeat (first | apply Kd.S_alloc | apply Kd.S_drewN | apply Kd.S_drew)); exact HO_12.out))) (below_size (by repeat (first | (with_reducible first | exact HB.out | apply below_alloc | apply pw_below_drewN | apply below_drew1) | exact HB.out)))); have n4_ := Aside0.mk (below_step (by repeat (first | (with_reducible first | exact HB.out | apply below_alloc | apply pw_below_drewN | apply below_drew1) | exact HB.out)) hb); clear HO_7; clear HO_8; clear HO_12; clear HB; have HO_7 := n0_; have HO_8 := n1_; have HO_12 := n2_; have HO477 := n3_; have HB := n4_; clear n0_ n1_ n2_ n3_ n4_; (try clear hb); (try clear hb2); (try clear hk); (try clear hi); (try clear ho0); obtain ⟨Ao73, co73, eo73⟩ := Kd.S_slice HO477.out; subst eo73))
                                          repeat (go_quiet (first | ((with_reducible refine gate_store (t := 5) (p := 128) rfl ?_); (try (rw [drewN_self wr]; generalize hq_ : World.drewN wr _ = wr; have n0_ := Aside0.mk (Kd.R_at hq_ HO_7.out); have n1_ := Aside0.mk (Kd.R_at hq_ HO_8.out); have n2_ := Aside0.mk (Kd.S_at hq_ HO_12.out); have n3_ := Aside0.mk (below_at hq_ HB.out); clear hq_ HO_7 HO_8 HO_12 HB; have HO_7 := n0_; have HO_8 := n1_; have HO_12 := n2_; have HB := n3_; clear n0_ n1_ n2_ n3_; (try (obtain ⟨hxz_, hfz_⟩ := Kd.R_celln 0 HO_7.out ((ji46) : Int) (of_eq_true p52) (of_eq_true q52))); (try (have HP70 := Kd.R_putg HO_7.out ((ji46) : Int) (Go.bits .xor .u8 (rd x7_1 (ji46)) (ji51)))))); refine store_event (t := 5) (p := 128) (v := ?vo_w71) (w1 := (wr.setCell ⟨go52, ((ji46) : Int).toNat, none⟩ (.int .u8 (Go.bits .xor .u8 (rd x7_1 (ji46)) (ji51))))) ?hg ?ho ?hn ?hr ?_; (case ho => rfl); (case hg => rfl); (case hn => rfl); (case hr => first | (go_simp; done) | (go_simp; rfl)); intro w71 hw; have hg : wr.grownBy w71 (some go52) := (by rw [hw]; exact HP70.2); have hp_ : Kd.R (Kd.int .u8) 5 w71 w.heap.size (fun _ => True) (.slice (some ⟨go52, 0, none⟩) x7_1.length co24) y472 := (by rw [hw, Ny472.out]; exact HP70.1); clear HP70; have n0_ := Aside0.mk (hp_); have n1_ := Aside0.mk (Kd.R_over' (v := (.slice (some ⟨go52, 0, none⟩) x7_1.length co24)) (by (with_reducible repeat (first | apply Kd.R_alloc | apply Kd.R_drewN | apply Kd.R_drew)); exact HO_8.out) (Kd.R_typed HO_7.out) (by decide) hg); have n2_ := Aside0.mk (Kd.S_after (v := (.slice (some ⟨go52, 0, none⟩) x7_1.length co24)) (v1 := (.slice (some ⟨go52, 0, none⟩) x7_1.length co24)) (ok := (fun _ => True)) (by (with_reducible repeat (first | apply Kd.S_alloc | apply Kd.S_drewN | apply Kd.S_drew)); exact Kd.S_mono HO_12.out (fun _ hk => ⟨trivial, hk⟩)) hg (.inl rfl)); have n3_ := Aside0.mk ((by rw [hw]; exact below_set (HB.out) GB52.out : Below w.heap.size w w71)); clear HO_7; clear HO_8; clear HO_12; clear HB; have HO_7 := n0_; have HO_8 := n1_; have HO_12 := n2_; have HB := n3_; clear n0_ n1_ n2_ n3_; clear hg hw hp_) | (go_at_call 37; refine calls_of_args (args' := #[.slice (some ⟨go52, 0, none⟩) y472.length co24]) (by first | (rw [show y472.length = x7_1.length from (Kd.R_reads' HO_7.out).1.symm] <;> rfl) | rfl) ?_; (with_reducible refine (frame_All.calls k3 _ _ y472 t473 t474 t475 _ ?side1 ?side2 A53.out).mono ?_); (case side1 => repeat (first | exact (Kd.R_reads' HO_7.out).2.2 | (with_reducible refine Kd.C_alloc ?_ _) | (with_reducible refine Kd.C_drewN ?_ _) | (with_reducible refine Kd.C_drew ?_))); (case side2 => rw [show y472.length = x7_1.length from (Kd.R_reads' HO_7.out).1.symm]; exact (Kd.R_reads' HO_7.out).2.1); rintro e w72 ⟨v476, rfl, ho0, hb⟩; have n0_ := Aside0.mk (Kd.R_below (by (with_reducible repeat (first | apply Kd.R_alloc | apply Kd.R_drewN | apply Kd.R_drew)); exact HO_7.out) hb); have n1_ := Aside0.mk (Kd.R_below (by (with_reducible repeat (first | apply Kd.R_alloc | apply Kd.R_drewN | apply Kd.R_drew)); exact HO_8.out) hb); have n2_ := Aside0.mk (Kd.S_elder' (by (with_reducible repeat (first | apply Kd.S_alloc | apply Kd.S_drewN | apply Kd.S_drew)); exact HO_12.out) (Kd.S_base ho0) hb); have n3_ := Aside0.mk (Kd.S_lower (Kd.S_new' (Kd.S_new' ho0 (Kd.R_lt (by (with_reducible repeat (first | apply Kd.R_alloc | apply Kd.R_drewN | apply Kd.R_drew)); exact HO_7.out))) (Kd.S_lt (by (with_reducible repeat (first | apply Kd.S_alloc | apply Kd.S_drewN | apply Kd.S_drew)); exact HO_12.out))) (below_size (by repeat (first | (with_reducible first | exact HB.out | apply below_alloc | apply pw_below_drewN | apply below_drew1) | exact HB.out)))); have n4_ := Aside0.mk (below_step (by repeat (first | (with_reducible first | exact HB.out | apply below_alloc | apply pw_below_drewN | apply below_drew1) | exact HB.out)) hb); clear HO_7; clear HO_8; clear HO_12; clear HB; have HO_7 := n0_; have HO_8 := n1_; have HO_12 := n2_; have HO477 := n3_; have HB := n4_; clear n0_ n1_ n2_ n3_ n4_; (try clear hb); (try clear hb2); (try clear hk); (try clear hi); (try clear ho0); obtain ⟨Ao73, co73, eo73⟩ := Kd.S_slice HO477.out; subst eo73)); try go_wp2_with (first | ((with_reducible refine gate_store (t := 5) (p := 128) rfl ?_); (try (rw [drewN_self wr]; generalize hq_ : World.drewN wr _ = wr; have n0_ := Aside0.mk (Kd.R_at hq_ HO_7.out); have n1_ := Aside0.mk (Kd.R_at hq_ HO_8.out); have n2_ := Aside0.mk (Kd.S_at hq_ HO_12.out); have n3_ := Aside0.mk (below_at hq_ HB.out); clear hq_ HO_7 HO_8 HO_12 HB; have HO_7 := n0_; have HO_8 := n1_; have HO_12 := n2_; have HB := n3_; clear n0_ n1_ n2_ n3_; (try (obtain ⟨hxz_, hfz_⟩ := Kd.R_celln 0 HO_7.out ((ji46) : Int) (of_eq_true p52) (of_eq_true q52))); (try (have HP70 := Kd.R_putg HO_7.out ((ji46) : Int) (Go.bits .xor .u8 (rd x7_1 (ji46)) (ji51)))))); refine store_event (t := 5) (p := 128) (v := ?vo_w71) (w1 := (wr.setCell ⟨go52, ((ji46) : Int).toNat, none⟩ (.int .u8 (Go.bits .xor .u8 (rd x7_1 (ji46)) (ji51))))) ?hg ?ho ?hn ?hr ?_; (case ho => rfl); (case hg => rfl); (case hn => rfl); (case hr => first | (go_simp; done) | (go_simp; rfl)); intro w71 hw; have hg : wr.grownBy w71 (some go52) := (by rw [hw]; exact HP70.2); have hp_ : Kd.R (Kd.int .u8) 5 w71 w.heap.size (fun _ => True) (.slice (some ⟨go52, 0, none⟩) x7_1.length co24) y472 := (by rw [hw, Ny472.out]; exact HP70.1); clear HP70; have n0_ := Aside0.mk (hp_); have n1_ := Aside0.mk (Kd.R_over' (v := (.slice (some ⟨go52, 0, none⟩) x7_1.length co24)) (by (with_reducible repeat (first | apply Kd.R_alloc | apply Kd.R_drewN | apply Kd.R_drew)); exact HO_8.out) (Kd.R_typed HO_7.out) (by decide) hg); have n2_ := Aside0.mk (Kd.S_after (v := (.slice (some ⟨go52, 0, none⟩) x7_1.length co24)) (v1 := (.slice (some ⟨go52, 0, none⟩) x7_1.length co24)) (ok := (fun _ => True)) (by (with_reducible repeat (first | apply Kd.S_alloc | apply Kd.S_drewN | apply Kd.S_drew)); exact Kd.S_mono HO_12.out (fun _ hk => ⟨trivial, hk⟩)) hg (.inl rfl)); have n3_ := Aside0.mk ((by rw [hw]; exact below_set (HB.out) GB52.out : Below w.heap.size w w71)); clear HO_7; clear HO_8; clear HO_12; clear HB; have HO_7 := n0_; have HO_8 := n1_; have HO_12 := n2_; have HB := n3_; clear n0_ n1_ n2_ n3_; clear hg hw hp_) | (go_at_call 37; refine calls_of_args (args' := #[.slice (some ⟨go52, 0, none⟩) y472.length co24]) (by first | (rw [show y472.length = x7_1.length from (Kd.R_reads' HO_7.out).1.symm] <;> rfl) | rfl) ?_; (with_reducible refine (frame_All.calls k3 _ _ y472 t473 t474 t475 _ ?side1 ?side2 A53.out).mono ?_); (case side1 => repeat (first | exact (Kd.R_reads' HO_7.out).2.2 | (with_reducible refine Kd.C_alloc ?_ _) | (with_reducible refine Kd.C_drewN ?_ _) | (with_reducible refine Kd.C_drew ?_))); (case side2 => rw [show y472.length = x7_1.length from (Kd.R_reads' HO_7.out).1.symm]; exact (Kd.R_reads' HO_7.out).2.1); rintro e w72 ⟨v476, rfl, ho0, hb⟩; have n0_ := Aside0.mk (Kd.R_below (by (with_reducible repeat (first | apply Kd.R_alloc | apply Kd.R_drewN | apply Kd.R_drew)); exact HO_7.out) hb); have n1_ := Aside0.mk (Kd.R_below (by (with_reducible repeat (first | apply Kd.R_alloc | apply Kd.R_drewN | apply Kd.R_drew)); exact HO_8.out) hb); have n2_ := Aside0.mk (Kd.S_elder' (by (with_reducible repeat (first | apply Kd.S_alloc | apply Kd.S_drewN | apply Kd.S_drew)); exact HO_12.out) (Kd.S_base ho0) hb); have n3_ := Aside0.mk (Kd.S_lower (Kd.S_new' (Kd.S_new' ho0 (Kd.R_lt (by (with_reducible repeat (first | apply Kd.R_alloc | apply Kd.R_drewN | apply Kd.R_drew)); exact HO_7.out))) (Kd.S_lt (by (with_reducible repeat (first | apply Kd.S_alloc | apply Kd.S_drewN | apply Kd.S_drew)); exact HO_12.out))) (below_size (by repeat (first | (with_reducible first | exact HB.out | apply below_alloc | apply pw_below_drewN | apply below_drew1) | exact HB.out)))); have n4_ := Aside0.mk (below_step (by repeat (first | (with_reducible first | exact HB.out | apply below_alloc | apply pw_below_drewN | apply below_drew1) | exact HB.out)) hb); clear HO_7; clear HO_8; clear HO_12; clear HB; have HO_7 := n0_; have HO_8 := n1_; have HO_12 := n2_; have HO477 := n3_; have HB := n4_; clear n0_ n1_ n2_ n3_ n4_; (try clear hb); (try clear hb2); (try clear hk); (try clear hi); (try clear ho0); obtain ⟨Ao73, co73, eo73⟩ := Kd.S_slice HO477.out; subst eo73)))
                                          go_ret
                                          exact ⟨by first | rfl | (have e_ := Option.some.inj (A12.out.symm.trans A22.out); simp only [Prod.mk.injEq] at e_; obtain ⟨rfl, rfl⟩ := e_; first | rfl | (simp [*, errW_none, errW_some] <;> rfl)) | (simp [errW_none, errW_some] <;> rfl) | (simp only [← hji41, ← hji46, ← hji49, ← hji51]; first | rfl | (simp [errW_none, errW_some] <;> rfl)) | (simp [*, errW_none, errW_some] <;> rfl), by repeat (first | (with_reducible first | exact HB.out | apply below_alloc | apply pw_below_drewN | apply below_drew1) | exact HB.out)⟩
                                      · rw [if_neg c50] at H
                                        exact absurd H (by simp)
                                    · rw [if_neg c48] at H
                                      exact absurd H (by simp)
                                  · rw [if_neg c47] at H
                                    exact absurd H (by simp)
                              · rw [if_neg c44] at H
                                exact absurd H (by simp)
                            · rw [if_neg c43] at H
                              exact absurd H (by simp)
                          · rw [if_neg c42] at H
                            exact absurd H (by simp)
  · replace c5 := Bool.eq_false_iff.mpr c5
    subst c5
    have H1 : (some false) = some r := by rw [if_neg (show ¬ (false = true) by decide)] at H; exact H
    clear H
    have H := H1
    clear H1
    obtain rfl := Option.some.inj H
    go_enter Try.func13, Try.ntmps13
    go_wp2_with (first | (go_at_call 32; (with_reducible refine (tallyroomlaw08_alive.calls k  false _ A4.out).mono ?_); rintro e w74 ⟨rfl, hb⟩; have n0_ := Aside0.mk (below_step (by repeat (first | (with_reducible first | exact HB.out | apply below_alloc | apply pw_below_drewN | apply below_drew1) | exact HB.out)) hb); clear HB; have HB := n0_; clear n0_; (try clear hb); (try clear hb2); (try clear hk); (try clear hi)))
    repeat (go_quiet (first | (go_at_call 32; (with_reducible refine (tallyroomlaw08_alive.calls k  false _ A4.out).mono ?_); rintro e w74 ⟨rfl, hb⟩; have n0_ := Aside0.mk (below_step (by repeat (first | (with_reducible first | exact HB.out | apply below_alloc | apply pw_below_drewN | apply below_drew1) | exact HB.out)) hb); clear HB; have HB := n0_; clear n0_; (try clear hb); (try clear hb2); (try clear hk); (try clear hi))); try go_wp2_with (first | (go_at_call 32; (with_reducible refine (tallyroomlaw08_alive.calls k  false _ A4.out).mono ?_); rintro e w74 ⟨rfl, hb⟩; have n0_ := Aside0.mk (below_step (by repeat (first | (with_reducible first | exact HB.out | apply below_alloc | apply pw_below_drewN | apply below_drew1) | exact HB.out)) hb); clear HB; have HB := n0_; clear n0_; (try clear hb); (try clear hb2); (try clear hk); (try clear hi))))
    go_ret
    exact ⟨by first | rfl | (have e_ := Option.some.inj (A12.out.symm.trans A22.out); simp only [Prod.mk.injEq] at e_; obtain ⟨rfl, rfl⟩ := e_; first | rfl | (simp [*, errW_none, errW_some] <;> rfl)) | (simp [errW_none, errW_some] <;> rfl) | (simp [*, errW_none, errW_some] <;> rfl), by repeat (first | (with_reducible first | exact HB.out | apply below_alloc | apply pw_below_drewN | apply below_drew1) | exact HB.out)⟩

end Go.Proofs.Ytbfmmjdbnbfnmaa.XD
