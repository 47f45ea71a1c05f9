-- Made by a program of this session (xprint.py), over the translation; Lean checks it.
import Derived.Test.YtgpkihnihmbomaaXSsx0
namespace Go.Proofs.Ytgpkihnihmbomaa.XSs
open Go.RowKit Go.Proofs.YtgpkihnihmbomaaW.PrintWords Go.Proofs.YtgpkihnihmbomaaW.PrintLast Go.Proofs.YtgpkihnihmbomaaW.PrintMore
attribute [local go_sem] max2_int min2_int max_two min_two max_three min_three max_four min_four   -- for this text's walks alone
set_option linter.unusedVariables false
set_option linter.unusedSimpArgs false

/-! ### tallyroomlaw06_Far: function 45 -/
mutual
def tallyroomlaw06_Far.j0 : Nat → Bool → Int → Int → Int → ByteArray → ByteArray → Int → Int → Int → Int → List (S120) → Option (Bool)
  | 0, _, _, _, _, _, _, _, _, _, _, _ => none
  | k + 1, x19, x126000, x126001, x126002, x126003, x126004, x126005, x126006, x126007, x126008, x126009 => if x19 = true then (some true) else (tallyroomlaw06_Far.l0 k 0 x126000 x126001 x126002 x126003 x126004 x126005 x126006 x126007 x126008 x126009)
def tallyroomlaw06_Far.l0 : Nat → Int → Int → Int → Int → ByteArray → ByteArray → Int → Int → Int → Int → List (S120) → Option (Bool)
  | 0, _, _, _, _, _, _, _, _, _, _, _ => none
  | k + 1, x3, x126000, x126001, x126002, x126003, x126004, x126005, x126006, x126007, x126008, x126009 => if x3 < (x126009.length : Int) then (if 0 ≤ x3 then (if (((rd_T120 x126009 x3).f0).size : Int) > 300 then (some true) else (if (((rd_T120 x126009 x3).f1.f2).size : Int) > 5000 then (some true) else (tallyroomlaw06_Far.l0 k (wrap64 (x3 + 1)) x126000 x126001 x126002 x126003 x126004 x126005 x126006 x126007 x126008 x126009))) else (none)) else (some false)
end
def tallyroomlaw06_Far.f (k : Nat) (a0_0 : Int) (a0_1 : Int) (a0_2 : Int) (a0_3 : ByteArray) (a0_4 : ByteArray) (a0_5 : Int) (a0_6 : Int) (a0_7 : Int) (a0_8 : Int) (l0_9 : List (S120)) : Option (Bool) := if (a0_3.size : Int) > 5000 then (tallyroomlaw06_Far.j0 k true a0_0 a0_1 a0_2 a0_3 a0_4 a0_5 a0_6 a0_7 a0_8 l0_9) else (if (a0_4.size : Int) > 5000 then (tallyroomlaw06_Far.j0 k true a0_0 a0_1 a0_2 a0_3 a0_4 a0_5 a0_6 a0_7 a0_8 l0_9) else (tallyroomlaw06_Far.j0 k (decide ((l0_9.length : Int) > 40)) a0_0 a0_1 a0_2 a0_3 a0_4 a0_5 a0_6 a0_7 a0_8 l0_9))
theorem tallyroomlaw06_Far.mono_l : ∀ k, (∀ y0 y1 y2 y3 y4 y5 y6 y7 y8 y9 y10, LeO (tallyroomlaw06_Far.j0 k y0 y1 y2 y3 y4 y5 y6 y7 y8 y9 y10) (tallyroomlaw06_Far.j0 (k + 1) y0 y1 y2 y3 y4 y5 y6 y7 y8 y9 y10)) ∧ (∀ y0 y1 y2 y3 y4 y5 y6 y7 y8 y9 y10, LeO (tallyroomlaw06_Far.l0 k y0 y1 y2 y3 y4 y5 y6 y7 y8 y9 y10) (tallyroomlaw06_Far.l0 (k + 1) y0 y1 y2 y3 y4 y5 y6 y7 y8 y9 y10))
  | 0 => ⟨fun _ _ _ _ _ _ _ _ _ _ _ r h => by simp [tallyroomlaw06_Far.j0] at h, fun _ _ _ _ _ _ _ _ _ _ _ r h => by simp [tallyroomlaw06_Far.l0] at h⟩
  | k + 1 => by
    obtain ⟨ih0, ih1⟩ := tallyroomlaw06_Far.mono_l k
    refine ⟨?_, ?_⟩
    · intro y0 y1 y2 y3 y4 y5 y6 y7 y8 y9 y10
      unfold tallyroomlaw06_Far.j0
      repeat' first
      | (with_reducible exact ih0 _ _ _ _ _ _ _ _ _ _ _)
      | (with_reducible exact ih1 _ _ _ _ _ _ _ _ _ _ _)
      | (with_reducible exact LeO.refl _)
      | (with_reducible exact LeO.none _)
      | (with_reducible refine LeO.ite ?_ ?_)
      | (with_reducible refine LeO.bind ?_ (fun _ => ?_))
      | exact ih0 _ _ _ _ _ _ _ _ _ _ _
      | exact ih1 _ _ _ _ _ _ _ _ _ _ _
      | exact LeO.none _
      | refine LeO.ite ?_ ?_
      | refine LeO.bind ?_ (fun _ => ?_)
    · intro y0 y1 y2 y3 y4 y5 y6 y7 y8 y9 y10
      unfold tallyroomlaw06_Far.l0
      repeat' first
      | (with_reducible exact ih0 _ _ _ _ _ _ _ _ _ _ _)
      | (with_reducible exact ih1 _ _ _ _ _ _ _ _ _ _ _)
      | (with_reducible exact LeO.refl _)
      | (with_reducible exact LeO.none _)
      | (with_reducible refine LeO.ite ?_ ?_)
      | (with_reducible refine LeO.bind ?_ (fun _ => ?_))
      | exact ih0 _ _ _ _ _ _ _ _ _ _ _
      | exact ih1 _ _ _ _ _ _ _ _ _ _ _
      | exact LeO.none _
      | refine LeO.ite ?_ ?_
      | refine LeO.bind ?_ (fun _ => ?_)
theorem tallyroomlaw06_Far.mono : ∀ a0 a1 a2 a3 a4 a5 a6 a7 a8 a9 k, LeO (tallyroomlaw06_Far.f k a0 a1 a2 a3 a4 a5 a6 a7 a8 a9) (tallyroomlaw06_Far.f (k + 1) a0 a1 a2 a3 a4 a5 a6 a7 a8 a9) := by
  intro a0 a1 a2 a3 a4 a5 a6 a7 a8 a9 k
  obtain ⟨ih0, ih1⟩ := tallyroomlaw06_Far.mono_l k
  unfold tallyroomlaw06_Far.f
  repeat' first
      | (with_reducible exact ih0 _ _ _ _ _ _ _ _ _ _ _)
      | (with_reducible exact ih1 _ _ _ _ _ _ _ _ _ _ _)
      | (with_reducible exact LeO.refl _)
      | (with_reducible exact LeO.none _)
      | (with_reducible refine LeO.ite ?_ ?_)
      | (with_reducible refine LeO.bind ?_ (fun _ => ?_))
      | exact ih0 _ _ _ _ _ _ _ _ _ _ _
      | exact ih1 _ _ _ _ _ _ _ _ _ _ _
      | exact LeO.none _
      | refine LeO.ite ?_ ?_
      | refine LeO.bind ?_ (fun _ => ?_)
set_option maxHeartbeats 8000000 in
set_option maxRecDepth 100000 in
theorem tallyroomlaw06_Far.calls (k : Nat) (a0_0 : Int) (a0_1 : Int) (a0_2 : Int) (a0_3 : ByteArray) (a0_4 : ByteArray) (a0_5 : Int) (a0_6 : Int) (a0_7 : Int) (a0_8 : Int) (A0_9 : Option Addr) (c0_9 : Nat) (l0_9 : List (S120)) (r : Bool) (w : World) (hr0_9 : Kd.C k120 w A0_9 l0_9.length l0_9) (hc0_9 : l0_9.length ≤ c0_9) (h : tallyroomlaw06_Far.f k a0_0 a0_1 a0_2 a0_3 a0_4 a0_5 a0_6 a0_7 a0_8 l0_9 = some r) :
    Calls Try.prog 45 #[.agg #[.int .u64 a0_0, .int .u64 a0_1, .int .u64 a0_2, .string a0_3, .string a0_4, .int .i64 a0_5, .int .i64 a0_6, .int .u64 a0_7, .int .u64 a0_8, .slice A0_9 l0_9.length c0_9]] w fun e w' => e = .returned (.bool r) ∧ Below w.heap.size w w' := by
  have hu99 := Try.underlying99
  have HR0_9 := Aside0.mk hr0_9
  have HC0_9 := Aside0.mk hc0_9
  clear hr0_9 hc0_9
  have HB := Aside0.mk (Below.refl w.heap.size w)
  have H : (if (a0_3.size : Int) > 5000 then (tallyroomlaw06_Far.j0 k true a0_0 a0_1 a0_2 a0_3 a0_4 a0_5 a0_6 a0_7 a0_8 l0_9) else (if (a0_4.size : Int) > 5000 then (tallyroomlaw06_Far.j0 k true a0_0 a0_1 a0_2 a0_3 a0_4 a0_5 a0_6 a0_7 a0_8 l0_9) else (tallyroomlaw06_Far.j0 k (decide ((l0_9.length : Int) > 40)) a0_0 a0_1 a0_2 a0_3 a0_4 a0_5 a0_6 a0_7 a0_8 l0_9))) = some r := h
  clear h
  have HC2 := Aside0.mk H
  clear H
  go_enter Try.func45, Try.ntmps45
  go_upto_region 1 with (first | ((with_reducible refine gate_dst (N := 1) rfl ?_); (try (refine gate_guard (by rfl) ?_; dsimp only)); refine box_event ?hg (N := 1) ?hd (cs := #[.int .u64 a0_0, .int .u64 a0_1, .int .u64 a0_2, .string a0_3, .string a0_4, .int .i64 a0_5, .int .i64 a0_6, .int .u64 a0_7, .int .u64 a0_8, .slice A0_9 l0_9.length c0_9]) (t := 99) ?hr ?_; (case hd => rfl); (case hg => rfl); (case hr => first | (go_simp; done) | (go_simp; rfl)); intro gb125 hg w3 hbox hb; have n0_ := Aside0.mk (below_step (by repeat (first | (with_reducible first | exact HB.out | apply below_alloc | apply pw_below_drewN | apply below_drew1) | exact HB.out)) hb); have n1_ := Aside0.mk (hbox); have n2_ := Aside0.mk ((by rw [hg]; exact (below_size (by repeat (first | (with_reducible first | exact HB.out | apply below_alloc | apply pw_below_drewN | apply below_drew1) | exact HB.out))) : w.heap.size ≤ gb125)); have n3_ := Aside0.mk ((by rw [hg]; exact (below_size (by repeat (first | (with_reducible first | exact HB.out | apply below_alloc | apply pw_below_drewN | apply below_drew1) | exact HB.out))) : w.heap.size ≤ gb125)); clear HB; have HB := n0_; have BK125 := n1_; have GW125 := n2_; have GE125 := n3_; clear n0_ n1_ n2_ n3_; clear hb hbox hg))
  (try simp only [Act.put, List.setIfInBounds_toArray, List.set_cons_zero, List.set_cons_succ])
  go_cut [19] (fun v19 wc => ∃ (kq : Nat) (x19_1 : Bool), v19 = .bool x19_1 ∧ Aside0 (tallyroomlaw06_Far.j0 kq x19_1 a0_0 a0_1 a0_2 a0_3 a0_4 a0_5 a0_6 a0_7 a0_8 l0_9 = some r) ∧ Aside0 (kq ≤ k) ∧ Aside0 (wc.heap[gb125]? = some (.cells #[.int .u64 a0_0, .int .u64 a0_1, .int .u64 a0_2, .string a0_3, .string a0_4, .int .i64 a0_5, .int .i64 a0_6, .int .u64 a0_7, .int .u64 a0_8, (.slice A0_9 l0_9.length c0_9)] 99 (0, 0))) ∧ Aside0 (Below w.heap.size w wc))
  case first =>
    have H := HC2.out
    clear HC2
    by_cases c4 : (a0_3.size : Int) > 5000
    · rw [if_pos c4] at H
      have c4b0 : decide (5000 < (a0_3.size : Int)) = true := decide_eq_true c4
      have c4b1 : decide (5000 < a0_3.size) = true := decide_eq_true (by omega)
      clear c4
      (first | rw [c4b0] | (simp only [i64_w, i32_w]; rw [c4b0]) | skip)
      have H' := Aside0.mk H
      clear H
      have hcz5_0 : w3.cell? ⟨gb125, 0, none⟩ = some (.int .u64 a0_0) := (blk_cell BK125.out 0).trans rfl
      have hcz5_1 : w3.cell? ⟨gb125, 1, none⟩ = some (.int .u64 a0_1) := (blk_cell BK125.out 1).trans rfl
      have hcz5_2 : w3.cell? ⟨gb125, 2, none⟩ = some (.int .u64 a0_2) := (blk_cell BK125.out 2).trans rfl
      have hcz5_3 : w3.cell? ⟨gb125, 3, none⟩ = some (.string a0_3) := (blk_cell BK125.out 3).trans rfl
      have hcz5_4 : w3.cell? ⟨gb125, 4, none⟩ = some (.string a0_4) := (blk_cell BK125.out 4).trans rfl
      have hcz5_5 : w3.cell? ⟨gb125, 5, none⟩ = some (.int .i64 a0_5) := (blk_cell BK125.out 5).trans rfl
      have hcz5_6 : w3.cell? ⟨gb125, 6, none⟩ = some (.int .i64 a0_6) := (blk_cell BK125.out 6).trans rfl
      have hcz5_7 : w3.cell? ⟨gb125, 7, none⟩ = some (.int .u64 a0_7) := (blk_cell BK125.out 7).trans rfl
      have hcz5_8 : w3.cell? ⟨gb125, 8, none⟩ = some (.int .u64 a0_8) := (blk_cell BK125.out 8).trans rfl
      have hcz5_9 : w3.cell? ⟨gb125, 9, none⟩ = some (.slice A0_9 l0_9.length c0_9) := (blk_cell BK125.out 9).trans rfl
      have hfz5_0 := blk_frozen BK125.out 0
      have hfz5_1 := blk_frozen BK125.out 1
      have hfz5_2 := blk_frozen BK125.out 2
      have hfz5_3 := blk_frozen BK125.out 3
      have hfz5_4 := blk_frozen BK125.out 4
      have hfz5_5 := blk_frozen BK125.out 5
      have hfz5_6 := blk_frozen BK125.out 6
      have hfz5_7 := blk_frozen BK125.out 7
      have hfz5_8 := blk_frozen BK125.out 8
      have hfz5_9 := blk_frozen BK125.out 9
      go_wp2
      go_meet
      case rel => exact ⟨_, (true), (by first | rfl | (simp; done) | (simp [*]; done)), H', ⟨by first | omega | exact Nat.le_refl _⟩, ⟨by (with_reducible repeat (first | refine blk_drewN ?_ _ | refine blk_drew ?_ | refine blk_alloc ?_ _)); exact BK125.out⟩, ⟨by repeat (first | (with_reducible first | exact HB.out | apply below_alloc | apply pw_below_drewN | apply below_drew1 | refine below_set ?_ GE125.out) | exact HB.out)⟩⟩
    · rw [if_neg c4] at H
      have c4b0 : decide (5000 < (a0_3.size : Int)) = false := decide_eq_false c4
      have c4b1 : decide (5000 < a0_3.size) = false := decide_eq_false (by omega)
      clear c4
      (first | rw [c4b0] | (simp only [i64_w, i32_w]; rw [c4b0]) | skip)
      by_cases c6 : (a0_4.size : Int) > 5000
      · rw [if_pos c6] at H
        have c6b0 : decide (5000 < (a0_4.size : Int)) = true := decide_eq_true c6
        have c6b1 : decide (5000 < a0_4.size) = true := decide_eq_true (by omega)
        clear c6
        have H' := Aside0.mk H
        clear H
        have hcz7_0 : w3.cell? ⟨gb125, 0, none⟩ = some (.int .u64 a0_0) := (blk_cell BK125.out 0).trans rfl
        have hcz7_1 : w3.cell? ⟨gb125, 1, none⟩ = some (.int .u64 a0_1) := (blk_cell BK125.out 1).trans rfl
        have hcz7_2 : w3.cell? ⟨gb125, 2, none⟩ = some (.int .u64 a0_2) := (blk_cell BK125.out 2).trans rfl
        have hcz7_3 : w3.cell? ⟨gb125, 3, none⟩ = some (.string a0_3) := (blk_cell BK125.out 3).trans rfl
        have hcz7_4 : w3.cell? ⟨gb125, 4, none⟩ = some (.string a0_4) := (blk_cell BK125.out 4).trans rfl
        have hcz7_5 : w3.cell? ⟨gb125, 5, none⟩ = some (.int .i64 a0_5) := (blk_cell BK125.out 5).trans rfl
        have hcz7_6 : w3.cell? ⟨gb125, 6, none⟩ = some (.int .i64 a0_6) := (blk_cell BK125.out 6).trans rfl
        have hcz7_7 : w3.cell? ⟨gb125, 7, none⟩ = some (.int .u64 a0_7) := (blk_cell BK125.out 7).trans rfl
        have hcz7_8 : w3.cell? ⟨gb125, 8, none⟩ = some (.int .u64 a0_8) := (blk_cell BK125.out 8).trans rfl
        have hcz7_9 : w3.cell? ⟨gb125, 9, none⟩ = some (.slice A0_9 l0_9.length c0_9) := (blk_cell BK125.out 9).trans rfl
        have hfz7_0 := blk_frozen BK125.out 0
        have hfz7_1 := blk_frozen BK125.out 1
        have hfz7_2 := blk_frozen BK125.out 2
        have hfz7_3 := blk_frozen BK125.out 3
        have hfz7_4 := blk_frozen BK125.out 4
        have hfz7_5 := blk_frozen BK125.out 5
        have hfz7_6 := blk_frozen BK125.out 6
        have hfz7_7 := blk_frozen BK125.out 7
        have hfz7_8 := blk_frozen BK125.out 8
        have hfz7_9 := blk_frozen BK125.out 9
        go_wp2
        go_meet
        case rel => exact ⟨_, (true), (by first | rfl | (simp; done) | (simp [*]; done)), H', ⟨by first | omega | exact Nat.le_refl _⟩, ⟨by (with_reducible repeat (first | refine blk_drewN ?_ _ | refine blk_drew ?_ | refine blk_alloc ?_ _)); exact BK125.out⟩, ⟨by repeat (first | (with_reducible first | exact HB.out | apply below_alloc | apply pw_below_drewN | apply below_drew1 | refine below_set ?_ GE125.out) | exact HB.out)⟩⟩
      · rw [if_neg c6] at H
        have c6b0 : decide (5000 < (a0_4.size : Int)) = false := decide_eq_false c6
        have c6b1 : decide (5000 < a0_4.size) = false := decide_eq_false (by omega)
        clear c6
        have H' := Aside0.mk H
        clear H
        have hcz8_0 : w3.cell? ⟨gb125, 0, none⟩ = some (.int .u64 a0_0) := (blk_cell BK125.out 0).trans rfl
        have hcz8_1 : w3.cell? ⟨gb125, 1, none⟩ = some (.int .u64 a0_1) := (blk_cell BK125.out 1).trans rfl
        have hcz8_2 : w3.cell? ⟨gb125, 2, none⟩ = some (.int .u64 a0_2) := (blk_cell BK125.out 2).trans rfl
        have hcz8_3 : w3.cell? ⟨gb125, 3, none⟩ = some (.string a0_3) := (blk_cell BK125.out 3).trans rfl
        have hcz8_4 : w3.cell? ⟨gb125, 4, none⟩ = some (.string a0_4) := (blk_cell BK125.out 4).trans rfl
        have hcz8_5 : w3.cell? ⟨gb125, 5, none⟩ = some (.int .i64 a0_5) := (blk_cell BK125.out 5).trans rfl
        have hcz8_6 : w3.cell? ⟨gb125, 6, none⟩ = some (.int .i64 a0_6) := (blk_cell BK125.out 6).trans rfl
        have hcz8_7 : w3.cell? ⟨gb125, 7, none⟩ = some (.int .u64 a0_7) := (blk_cell BK125.out 7).trans rfl
        have hcz8_8 : w3.cell? ⟨gb125, 8, none⟩ = some (.int .u64 a0_8) := (blk_cell BK125.out 8).trans rfl
        have hcz8_9 : w3.cell? ⟨gb125, 9, none⟩ = some (.slice A0_9 l0_9.length c0_9) := (blk_cell BK125.out 9).trans rfl
        have hfz8_0 := blk_frozen BK125.out 0
        have hfz8_1 := blk_frozen BK125.out 1
        have hfz8_2 := blk_frozen BK125.out 2
        have hfz8_3 := blk_frozen BK125.out 3
        have hfz8_4 := blk_frozen BK125.out 4
        have hfz8_5 := blk_frozen BK125.out 5
        have hfz8_6 := blk_frozen BK125.out 6
        have hfz8_7 := blk_frozen BK125.out 7
        have hfz8_8 := blk_frozen BK125.out 8
        have hfz8_9 := blk_frozen BK125.out 9
        go_wp2
        go_meet
        case rel => exact ⟨_, (decide ((l0_9.length : Int) > 40)), (by first | rfl | (simp; done) | (simp [*]; done)), H', ⟨by first | omega | exact Nat.le_refl _⟩, ⟨by (with_reducible repeat (first | refine blk_drewN ?_ _ | refine blk_drew ?_ | refine blk_alloc ?_ _)); exact BK125.out⟩, ⟨by repeat (first | (with_reducible first | exact HB.out | apply below_alloc | apply pw_below_drewN | apply below_drew1 | refine below_set ?_ GE125.out) | exact HB.out)⟩⟩
  case rest =>
    clear HC2
    try clear p2
    try clear c4
    try clear c4b0
    try clear c4b1
    try clear c6
    try clear c6b0
    try clear c6b1
    try clear hcz5_0
    try clear hcz5_1
    try clear hcz5_2
    try clear hcz5_3
    try clear hcz5_4
    try clear hcz5_5
    try clear hcz5_6
    try clear hcz5_7
    try clear hcz5_8
    try clear hcz5_9
    try clear hcz7_0
    try clear hcz7_1
    try clear hcz7_2
    try clear hcz7_3
    try clear hcz7_4
    try clear hcz7_5
    try clear hcz7_6
    try clear hcz7_7
    try clear hcz7_8
    try clear hcz7_9
    try clear hcz8_0
    try clear hcz8_1
    try clear hcz8_2
    try clear hcz8_3
    try clear hcz8_4
    try clear hcz8_5
    try clear hcz8_6
    try clear hcz8_7
    try clear hcz8_8
    try clear hcz8_9
    try clear hfz5_0
    try clear hfz5_1
    try clear hfz5_2
    try clear hfz5_3
    try clear hfz5_4
    try clear hfz5_5
    try clear hfz5_6
    try clear hfz5_7
    try clear hfz5_8
    try clear hfz5_9
    try clear hfz7_0
    try clear hfz7_1
    try clear hfz7_2
    try clear hfz7_3
    try clear hfz7_4
    try clear hfz7_5
    try clear hfz7_6
    try clear hfz7_7
    try clear hfz7_8
    try clear hfz7_9
    try clear hfz8_0
    try clear hfz8_1
    try clear hfz8_2
    try clear hfz8_3
    try clear hfz8_4
    try clear hfz8_5
    try clear hfz8_6
    try clear hfz8_7
    try clear hfz8_8
    try clear hfz8_9
    obtain ⟨kq, x19_1, rfl, HA, HJ1, BK125, HB⟩ := hcut
    cases kq with
    | zero => exact absurd HA.out (by simp [tallyroomlaw06_Far.j0])
    | succ kj1 =>
      have H := HA.out
      clear HA
      simp only [tallyroomlaw06_Far.j0] at H
      by_cases c9 : x19_1 = true
      · subst c9
        have H1 : (some true) = some r := by rw [if_pos rfl] at H; exact H
        clear H
        have H := H1
        clear H1
        obtain rfl := Option.some.inj H
        go_wp2
        go_ret
        exact ⟨by first | rfl | (simp [errW_none, errW_some] <;> rfl) | (simp [*, errW_none, errW_some] <;> rfl), by repeat (first | (with_reducible first | exact HB.out | apply below_alloc | apply pw_below_drewN | apply below_drew1 | refine below_set ?_ GE125.out) | exact HB.out)⟩
      · replace c9 := Bool.eq_false_iff.mpr c9
        subst c9
        have H1 : (tallyroomlaw06_Far.l0 kj1 0 a0_0 a0_1 a0_2 a0_3 a0_4 a0_5 a0_6 a0_7 a0_8 l0_9) = some r := by rw [if_neg (show ¬ (false = true) by decide)] at H; exact H
        clear H
        have H := H1
        clear H1
        have H' := Aside0.mk H
        clear H
        go_wp2
        go_loopg [3] kj1 (fun kq v3 w' => ∃ (x3_2 : Int), v3 = .int .i64 x3_2 ∧ Aside0 (tallyroomlaw06_Far.l0 kq x3_2 a0_0 a0_1 a0_2 a0_3 a0_4 a0_5 a0_6 a0_7 a0_8 l0_9 = some r) ∧ Aside0 (kq ≤ kj1) ∧ Aside0 (w'.heap[gb125]? = some (.cells #[.int .u64 a0_0, .int .u64 a0_1, .int .u64 a0_2, .string a0_3, .string a0_4, .int .i64 a0_5, .int .i64 a0_6, .int .u64 a0_7, .int .u64 a0_8, (.slice A0_9 l0_9.length c0_9)] 99 (0, 0))) ∧ Aside0 (Below w.heap.size w w'))
        case atStart => exact ⟨(0), (by first | rfl | (simp; done) | (simp [*]; done)), H', ⟨Nat.le_refl _⟩, ⟨by (with_reducible repeat (first | refine blk_drewN ?_ _ | refine blk_drew ?_ | refine blk_alloc ?_ _)); exact BK125.out⟩, ⟨by repeat (first | (with_reducible first | exact HB.out | apply below_alloc | apply pw_below_drewN | apply below_drew1 | refine below_set ?_ GE125.out) | exact HB.out)⟩⟩
        case round =>
          clear H'
          try clear p2
          try clear c4
          try clear c4b0
          try clear c4b1
          try clear c6
          try clear c6b0
          try clear c6b1
          try clear c9
          try clear hcz5_0
          try clear hcz5_1
          try clear hcz5_2
          try clear hcz5_3
          try clear hcz5_4
          try clear hcz5_5
          try clear hcz5_6
          try clear hcz5_7
          try clear hcz5_8
          try clear hcz5_9
          try clear hcz7_0
          try clear hcz7_1
          try clear hcz7_2
          try clear hcz7_3
          try clear hcz7_4
          try clear hcz7_5
          try clear hcz7_6
          try clear hcz7_7
          try clear hcz7_8
          try clear hcz7_9
          try clear hcz8_0
          try clear hcz8_1
          try clear hcz8_2
          try clear hcz8_3
          try clear hcz8_4
          try clear hcz8_5
          try clear hcz8_6
          try clear hcz8_7
          try clear hcz8_8
          try clear hcz8_9
          try clear hfz5_0
          try clear hfz5_1
          try clear hfz5_2
          try clear hfz5_3
          try clear hfz5_4
          try clear hfz5_5
          try clear hfz5_6
          try clear hfz5_7
          try clear hfz5_8
          try clear hfz5_9
          try clear hfz7_0
          try clear hfz7_1
          try clear hfz7_2
          try clear hfz7_3
          try clear hfz7_4
          try clear hfz7_5
          try clear hfz7_6
          try clear hfz7_7
          try clear hfz7_8
          try clear hfz7_9
          try clear hfz8_0
          try clear hfz8_1
          try clear hfz8_2
          try clear hfz8_3
          try clear hfz8_4
          try clear hfz8_5
          try clear hfz8_6
          try clear hfz8_7
          try clear hfz8_8
          try clear hfz8_9
          try clear p2
          obtain ⟨x3_2, rfl, HA, HK2, BK125, HB⟩ := hrel
          cases gk with
          | zero => exact absurd HA.out (by simp [tallyroomlaw06_Far.l0])
          | succ k2 =>
            have H := HA.out
            clear HA
            simp only [tallyroomlaw06_Far.l0] at H
            by_cases c10 : x3_2 < (l0_9.length : Int)
            · rw [if_pos c10] at H
              have c10b0 : decide (x3_2 < (l0_9.length : Int)) = true := decide_eq_true c10
              clear c10
              by_cases c11 : 0 ≤ x3_2
              · rw [if_pos c11] at H
                have c11b0 : decide (0 ≤ x3_2) = true := decide_eq_true c11
                clear c11
                by_cases c12 : (((rd_T120 l0_9 x3_2).f0).size : Int) > 300
                · rw [if_pos c12] at H
                  have c12b0 : decide (300 < (((rd_T120 l0_9 x3_2).f0).size : Int)) = true := decide_eq_true c12
                  have c12b1 : decide (300 < ((rd_T120 l0_9 x3_2).f0).size) = true := decide_eq_true (by omega)
                  clear c12
                  obtain rfl := Option.some.inj H
                  have hcz13_0 : wr.cell? ⟨gb125, 0, none⟩ = some (.int .u64 a0_0) := (blk_cell BK125.out 0).trans rfl
                  have hcz13_1 : wr.cell? ⟨gb125, 1, none⟩ = some (.int .u64 a0_1) := (blk_cell BK125.out 1).trans rfl
                  have hcz13_2 : wr.cell? ⟨gb125, 2, none⟩ = some (.int .u64 a0_2) := (blk_cell BK125.out 2).trans rfl
                  have hcz13_3 : wr.cell? ⟨gb125, 3, none⟩ = some (.string a0_3) := (blk_cell BK125.out 3).trans rfl
                  have hcz13_4 : wr.cell? ⟨gb125, 4, none⟩ = some (.string a0_4) := (blk_cell BK125.out 4).trans rfl
                  have hcz13_5 : wr.cell? ⟨gb125, 5, none⟩ = some (.int .i64 a0_5) := (blk_cell BK125.out 5).trans rfl
                  have hcz13_6 : wr.cell? ⟨gb125, 6, none⟩ = some (.int .i64 a0_6) := (blk_cell BK125.out 6).trans rfl
                  have hcz13_7 : wr.cell? ⟨gb125, 7, none⟩ = some (.int .u64 a0_7) := (blk_cell BK125.out 7).trans rfl
                  have hcz13_8 : wr.cell? ⟨gb125, 8, none⟩ = some (.int .u64 a0_8) := (blk_cell BK125.out 8).trans rfl
                  have hcz13_9 : wr.cell? ⟨gb125, 9, none⟩ = some (.slice A0_9 l0_9.length c0_9) := (blk_cell BK125.out 9).trans rfl
                  have hfz13_0 := blk_frozen BK125.out 0
                  have hfz13_1 := blk_frozen BK125.out 1
                  have hfz13_2 := blk_frozen BK125.out 2
                  have hfz13_3 := blk_frozen BK125.out 3
                  have hfz13_4 := blk_frozen BK125.out 4
                  have hfz13_5 := blk_frozen BK125.out 5
                  have hfz13_6 := blk_frozen BK125.out 6
                  have hfz13_7 := blk_frozen BK125.out 7
                  have hfz13_8 := blk_frozen BK125.out 8
                  have hfz13_9 := blk_frozen BK125.out 9
                  have p126 : 0 ≤ (x3_2 : Int) := of_decide_eq_true (by first | (with_reducible assumption) | assumption)
                  have q126 : x3_2 < (l0_9.length : Int) := of_decide_eq_true (by first | (with_reducible assumption) | assumption)
                  obtain ⟨ad126, e126, hx126_0, hx126_1, hx126_2, hx126_3⟩ := at_T120 HR0_9.out x3_2 p126 q126
                  cases e126
                  replace hx126_0 := (HB.out.cell (World.block_lt_of_cell? w _ hx126_0)).trans hx126_0
                  replace hx126_1 := (HB.out.cell (World.block_lt_of_cell? w _ hx126_1)).trans hx126_1
                  replace hx126_2 := (HB.out.cell (World.block_lt_of_cell? w _ hx126_2)).trans hx126_2
                  replace hx126_3 := (HB.out.cell (World.block_lt_of_cell? w _ hx126_3)).trans hx126_3
                  replace p126 := eq_true p126
                  replace q126 := eq_true q126
                  go_wp2
                  go_ret
                  exact ⟨by first | rfl | (simp [errW_none, errW_some] <;> rfl) | (simp [*, errW_none, errW_some] <;> rfl), by repeat (first | (with_reducible first | exact HB.out | apply below_alloc | apply pw_below_drewN | apply below_drew1 | refine below_set ?_ GE125.out) | exact HB.out)⟩
                · rw [if_neg c12] at H
                  have c12b0 : decide (300 < (((rd_T120 l0_9 x3_2).f0).size : Int)) = false := decide_eq_false c12
                  have c12b1 : decide (300 < ((rd_T120 l0_9 x3_2).f0).size) = false := decide_eq_false (by omega)
                  clear c12
                  by_cases c14 : (((rd_T120 l0_9 x3_2).f1.f2).size : Int) > 5000
                  · rw [if_pos c14] at H
                    have c14b0 : decide (5000 < (((rd_T120 l0_9 x3_2).f1.f2).size : Int)) = true := decide_eq_true c14
                    have c14b1 : decide (5000 < ((rd_T120 l0_9 x3_2).f1.f2).size) = true := decide_eq_true (by omega)
                    clear c14
                    obtain rfl := Option.some.inj H
                    have hcz15_0 : wr.cell? ⟨gb125, 0, none⟩ = some (.int .u64 a0_0) := (blk_cell BK125.out 0).trans rfl
                    have hcz15_1 : wr.cell? ⟨gb125, 1, none⟩ = some (.int .u64 a0_1) := (blk_cell BK125.out 1).trans rfl
                    have hcz15_2 : wr.cell? ⟨gb125, 2, none⟩ = some (.int .u64 a0_2) := (blk_cell BK125.out 2).trans rfl
                    have hcz15_3 : wr.cell? ⟨gb125, 3, none⟩ = some (.string a0_3) := (blk_cell BK125.out 3).trans rfl
                    have hcz15_4 : wr.cell? ⟨gb125, 4, none⟩ = some (.string a0_4) := (blk_cell BK125.out 4).trans rfl
                    have hcz15_5 : wr.cell? ⟨gb125, 5, none⟩ = some (.int .i64 a0_5) := (blk_cell BK125.out 5).trans rfl
                    have hcz15_6 : wr.cell? ⟨gb125, 6, none⟩ = some (.int .i64 a0_6) := (blk_cell BK125.out 6).trans rfl
                    have hcz15_7 : wr.cell? ⟨gb125, 7, none⟩ = some (.int .u64 a0_7) := (blk_cell BK125.out 7).trans rfl
                    have hcz15_8 : wr.cell? ⟨gb125, 8, none⟩ = some (.int .u64 a0_8) := (blk_cell BK125.out 8).trans rfl
                    have hcz15_9 : wr.cell? ⟨gb125, 9, none⟩ = some (.slice A0_9 l0_9.length c0_9) := (blk_cell BK125.out 9).trans rfl
                    have hfz15_0 := blk_frozen BK125.out 0
                    have hfz15_1 := blk_frozen BK125.out 1
                    have hfz15_2 := blk_frozen BK125.out 2
                    have hfz15_3 := blk_frozen BK125.out 3
                    have hfz15_4 := blk_frozen BK125.out 4
                    have hfz15_5 := blk_frozen BK125.out 5
                    have hfz15_6 := blk_frozen BK125.out 6
                    have hfz15_7 := blk_frozen BK125.out 7
                    have hfz15_8 := blk_frozen BK125.out 8
                    have hfz15_9 := blk_frozen BK125.out 9
                    have p126 : 0 ≤ (x3_2 : Int) := of_decide_eq_true (by first | (with_reducible assumption) | assumption)
                    have q126 : x3_2 < (l0_9.length : Int) := of_decide_eq_true (by first | (with_reducible assumption) | assumption)
                    obtain ⟨ad126, e126, hx126_0, hx126_1, hx126_2, hx126_3⟩ := at_T120 HR0_9.out x3_2 p126 q126
                    cases e126
                    replace hx126_0 := (HB.out.cell (World.block_lt_of_cell? w _ hx126_0)).trans hx126_0
                    replace hx126_1 := (HB.out.cell (World.block_lt_of_cell? w _ hx126_1)).trans hx126_1
                    replace hx126_2 := (HB.out.cell (World.block_lt_of_cell? w _ hx126_2)).trans hx126_2
                    replace hx126_3 := (HB.out.cell (World.block_lt_of_cell? w _ hx126_3)).trans hx126_3
                    replace p126 := eq_true p126
                    replace q126 := eq_true q126
                    have p127 : 0 ≤ (x3_2 : Int) := of_decide_eq_true (by first | (with_reducible assumption) | assumption)
                    have q127 : x3_2 < (l0_9.length : Int) := of_decide_eq_true (by first | (with_reducible assumption) | assumption)
                    obtain ⟨ad127, e127, hx127_0, hx127_1, hx127_2, hx127_3⟩ := at_T120 HR0_9.out x3_2 p127 q127
                    obtain rfl : ad126 = ad127 := (by injection e127)
                    replace hx127_0 := (HB.out.cell (World.block_lt_of_cell? w _ hx127_0)).trans hx127_0
                    replace hx127_1 := (HB.out.cell (World.block_lt_of_cell? w _ hx127_1)).trans hx127_1
                    replace hx127_2 := (HB.out.cell (World.block_lt_of_cell? w _ hx127_2)).trans hx127_2
                    replace hx127_3 := (HB.out.cell (World.block_lt_of_cell? w _ hx127_3)).trans hx127_3
                    replace p127 := eq_true p127
                    replace q127 := eq_true q127
                    go_wp2
                    go_ret
                    exact ⟨by first | rfl | (simp [errW_none, errW_some] <;> rfl) | (simp [*, errW_none, errW_some] <;> rfl), by repeat (first | (with_reducible first | exact HB.out | apply below_alloc | apply pw_below_drewN | apply below_drew1 | refine below_set ?_ GE125.out) | exact HB.out)⟩
                  · rw [if_neg c14] at H
                    have c14b0 : decide (5000 < (((rd_T120 l0_9 x3_2).f1.f2).size : Int)) = false := decide_eq_false c14
                    have c14b1 : decide (5000 < ((rd_T120 l0_9 x3_2).f1.f2).size) = false := decide_eq_false (by omega)
                    clear c14
                    have H' := Aside0.mk H
                    clear H
                    have hcz16_0 : wr.cell? ⟨gb125, 0, none⟩ = some (.int .u64 a0_0) := (blk_cell BK125.out 0).trans rfl
                    have hcz16_1 : wr.cell? ⟨gb125, 1, none⟩ = some (.int .u64 a0_1) := (blk_cell BK125.out 1).trans rfl
                    have hcz16_2 : wr.cell? ⟨gb125, 2, none⟩ = some (.int .u64 a0_2) := (blk_cell BK125.out 2).trans rfl
                    have hcz16_3 : wr.cell? ⟨gb125, 3, none⟩ = some (.string a0_3) := (blk_cell BK125.out 3).trans rfl
                    have hcz16_4 : wr.cell? ⟨gb125, 4, none⟩ = some (.string a0_4) := (blk_cell BK125.out 4).trans rfl
                    have hcz16_5 : wr.cell? ⟨gb125, 5, none⟩ = some (.int .i64 a0_5) := (blk_cell BK125.out 5).trans rfl
                    have hcz16_6 : wr.cell? ⟨gb125, 6, none⟩ = some (.int .i64 a0_6) := (blk_cell BK125.out 6).trans rfl
                    have hcz16_7 : wr.cell? ⟨gb125, 7, none⟩ = some (.int .u64 a0_7) := (blk_cell BK125.out 7).trans rfl
                    have hcz16_8 : wr.cell? ⟨gb125, 8, none⟩ = some (.int .u64 a0_8) := (blk_cell BK125.out 8).trans rfl
                    have hcz16_9 : wr.cell? ⟨gb125, 9, none⟩ = some (.slice A0_9 l0_9.length c0_9) := (blk_cell BK125.out 9).trans rfl
                    have hfz16_0 := blk_frozen BK125.out 0
                    have hfz16_1 := blk_frozen BK125.out 1
                    have hfz16_2 := blk_frozen BK125.out 2
                    have hfz16_3 := blk_frozen BK125.out 3
                    have hfz16_4 := blk_frozen BK125.out 4
                    have hfz16_5 := blk_frozen BK125.out 5
                    have hfz16_6 := blk_frozen BK125.out 6
                    have hfz16_7 := blk_frozen BK125.out 7
                    have hfz16_8 := blk_frozen BK125.out 8
                    have hfz16_9 := blk_frozen BK125.out 9
                    have p126 : 0 ≤ (x3_2 : Int) := of_decide_eq_true (by first | (with_reducible assumption) | assumption)
                    have q126 : x3_2 < (l0_9.length : Int) := of_decide_eq_true (by first | (with_reducible assumption) | assumption)
                    obtain ⟨ad126, e126, hx126_0, hx126_1, hx126_2, hx126_3⟩ := at_T120 HR0_9.out x3_2 p126 q126
                    cases e126
                    replace hx126_0 := (HB.out.cell (World.block_lt_of_cell? w _ hx126_0)).trans hx126_0
                    replace hx126_1 := (HB.out.cell (World.block_lt_of_cell? w _ hx126_1)).trans hx126_1
                    replace hx126_2 := (HB.out.cell (World.block_lt_of_cell? w _ hx126_2)).trans hx126_2
                    replace hx126_3 := (HB.out.cell (World.block_lt_of_cell? w _ hx126_3)).trans hx126_3
                    replace p126 := eq_true p126
                    replace q126 := eq_true q126
                    have p127 : 0 ≤ (x3_2 : Int) := of_decide_eq_true (by first | (with_reducible assumption) | assumption)
                    have q127 : x3_2 < (l0_9.length : Int) := of_decide_eq_true (by first | (with_reducible assumption) | assumption)
                    obtain ⟨ad127, e127, hx127_0, hx127_1, hx127_2, hx127_3⟩ := at_T120 HR0_9.out x3_2 p127 q127
                    obtain rfl : ad126 = ad127 := (by injection e127)
                    replace hx127_0 := (HB.out.cell (World.block_lt_of_cell? w _ hx127_0)).trans hx127_0
                    replace hx127_1 := (HB.out.cell (World.block_lt_of_cell? w _ hx127_1)).trans hx127_1
                    replace hx127_2 := (HB.out.cell (World.block_lt_of_cell? w _ hx127_2)).trans hx127_2
                    replace hx127_3 := (HB.out.cell (World.block_lt_of_cell? w _ hx127_3)).trans hx127_3
                    replace p127 := eq_true p127
                    replace q127 := eq_true q127
                    go_wp2
                    go_roundg k2
                    case measure => have := HJ1.out; have := HK2.out; omega
                    case rel => exact ⟨(wrap64 (x3_2 + 1)), (by first | rfl | (simp; done) | (simp [*]; done)), H', ⟨by have := HJ1.out; have := HK2.out; omega⟩, ⟨by (with_reducible repeat (first | refine blk_drewN ?_ _ | refine blk_drew ?_ | refine blk_alloc ?_ _)); exact BK125.out⟩, ⟨by repeat (first | (with_reducible first | exact HB.out | apply below_alloc | apply pw_below_drewN | apply below_drew1 | refine below_set ?_ GE125.out) | exact HB.out)⟩⟩
              · rw [if_neg c11] at H
                exact absurd H (by simp)
            · rw [if_neg c10] at H
              have c10b0 : decide (x3_2 < (l0_9.length : Int)) = false := decide_eq_false c10
              clear c10
              obtain rfl := Option.some.inj H
              have hcz17_0 : wr.cell? ⟨gb125, 0, none⟩ = some (.int .u64 a0_0) := (blk_cell BK125.out 0).trans rfl
              have hcz17_1 : wr.cell? ⟨gb125, 1, none⟩ = some (.int .u64 a0_1) := (blk_cell BK125.out 1).trans rfl
              have hcz17_2 : wr.cell? ⟨gb125, 2, none⟩ = some (.int .u64 a0_2) := (blk_cell BK125.out 2).trans rfl
              have hcz17_3 : wr.cell? ⟨gb125, 3, none⟩ = some (.string a0_3) := (blk_cell BK125.out 3).trans rfl
              have hcz17_4 : wr.cell? ⟨gb125, 4, none⟩ = some (.string a0_4) := (blk_cell BK125.out 4).trans rfl
              have hcz17_5 : wr.cell? ⟨gb125, 5, none⟩ = some (.int .i64 a0_5) := (blk_cell BK125.out 5).trans rfl
              have hcz17_6 : wr.cell? ⟨gb125, 6, none⟩ = some (.int .i64 a0_6) := (blk_cell BK125.out 6).trans rfl
              have hcz17_7 : wr.cell? ⟨gb125, 7, none⟩ = some (.int .u64 a0_7) := (blk_cell BK125.out 7).trans rfl
              have hcz17_8 : wr.cell? ⟨gb125, 8, none⟩ = some (.int .u64 a0_8) := (blk_cell BK125.out 8).trans rfl
              have hcz17_9 : wr.cell? ⟨gb125, 9, none⟩ = some (.slice A0_9 l0_9.length c0_9) := (blk_cell BK125.out 9).trans rfl
              have hfz17_0 := blk_frozen BK125.out 0
              have hfz17_1 := blk_frozen BK125.out 1
              have hfz17_2 := blk_frozen BK125.out 2
              have hfz17_3 := blk_frozen BK125.out 3
              have hfz17_4 := blk_frozen BK125.out 4
              have hfz17_5 := blk_frozen BK125.out 5
              have hfz17_6 := blk_frozen BK125.out 6
              have hfz17_7 := blk_frozen BK125.out 7
              have hfz17_8 := blk_frozen BK125.out 8
              have hfz17_9 := blk_frozen BK125.out 9
              go_wp2
              go_ret
              exact ⟨by first | rfl | (simp [errW_none, errW_some] <;> rfl) | (simp [*, errW_none, errW_some] <;> rfl), by repeat (first | (with_reducible first | exact HB.out | apply below_alloc | apply pw_below_drewN | apply below_drew1 | refine below_set ?_ GE125.out) | exact HB.out)⟩

/-! ### tallyroomlaw24_far: function 23 -/
mutual
def tallyroomlaw24_far.l0 : Nat → List (List (S99)) → Int → Option (Bool)
  | 0, _, _ => none
  | k + 1, x0, x3 => if x3 < (x0.length : Int) then (if 0 ≤ x3 then (if ((rd_L11 x0 x3).length : Int) > 20 then (some true) else (tallyroomlaw24_far.l1 k x0 x3 0)) else (none)) else (some false)
def tallyroomlaw24_far.l1 : Nat → List (List (S99)) → Int → Int → Option (Bool)
  | 0, _, _, _ => none
  | k + 1, x0, x3, x4 => if 0 ≤ x3 then (if x3 < (x0.length : Int) then (if x4 < ((rd_L11 x0 x3).length : Int) then (if 0 ≤ x4 then ((tallyroomlaw06_Far.f k ((rd_T99 (rd_L11 x0 x3) x4).f0) ((rd_T99 (rd_L11 x0 x3) x4).f1) ((rd_T99 (rd_L11 x0 x3) x4).f2) ((rd_T99 (rd_L11 x0 x3) x4).f3) ((rd_T99 (rd_L11 x0 x3) x4).f4) ((rd_T99 (rd_L11 x0 x3) x4).f5) ((rd_T99 (rd_L11 x0 x3) x4).f6) ((rd_T99 (rd_L11 x0 x3) x4).f7) ((rd_T99 (rd_L11 x0 x3) x4).f8) ((rd_T99 (rd_L11 x0 x3) x4).f9)).bind fun t132 => (if t132 = true then (some true) else (tallyroomlaw24_far.l1 k x0 x3 (wrap64 (x4 + 1))))) else (none)) else (tallyroomlaw24_far.l0 k x0 (wrap64 (x3 + 1)))) else (none)) else (none)
end
def tallyroomlaw24_far.f (k : Nat) (l0 : List (List (S99))) : Option (Bool) := if (l0.length : Int) > 20 then (some true) else (tallyroomlaw24_far.l0 k l0 0)
theorem tallyroomlaw24_far.mono_l : ∀ k, (∀ y0 y1, LeO (tallyroomlaw24_far.l0 k y0 y1) (tallyroomlaw24_far.l0 (k + 1) y0 y1)) ∧ (∀ y0 y1 y2, LeO (tallyroomlaw24_far.l1 k y0 y1 y2) (tallyroomlaw24_far.l1 (k + 1) y0 y1 y2))
  | 0 => ⟨fun _ _ r h => by simp [tallyroomlaw24_far.l0] at h, fun _ _ _ r h => by simp [tallyroomlaw24_far.l1] at h⟩
  | k + 1 => by
    obtain ⟨ih0, ih1⟩ := tallyroomlaw24_far.mono_l k
    refine ⟨?_, ?_⟩
    · intro y0 y1
      unfold tallyroomlaw24_far.l0
      repeat' first
      | (with_reducible exact ih0 _ _)
      | (with_reducible exact ih1 _ _ _)
      | (with_reducible exact tallyroomlaw06_Far.mono _ _ _ _ _ _ _ _ _ _ _)
      | (with_reducible exact LeO.refl _)
      | (with_reducible exact LeO.none _)
      | (with_reducible refine LeO.ite ?_ ?_)
      | (with_reducible refine LeO.bind ?_ (fun _ => ?_))
      | exact ih0 _ _
      | exact ih1 _ _ _
      | exact tallyroomlaw06_Far.mono _ _ _ _ _ _ _ _ _ _ _
      | exact LeO.none _
      | refine LeO.ite ?_ ?_
      | refine LeO.bind ?_ (fun _ => ?_)
    · intro y0 y1 y2
      unfold tallyroomlaw24_far.l1
      repeat' first
      | (with_reducible exact ih0 _ _)
      | (with_reducible exact ih1 _ _ _)
      | (with_reducible exact tallyroomlaw06_Far.mono _ _ _ _ _ _ _ _ _ _ _)
      | (with_reducible exact LeO.refl _)
      | (with_reducible exact LeO.none _)
      | (with_reducible refine LeO.ite ?_ ?_)
      | (with_reducible refine LeO.bind ?_ (fun _ => ?_))
      | exact ih0 _ _
      | exact ih1 _ _ _
      | exact tallyroomlaw06_Far.mono _ _ _ _ _ _ _ _ _ _ _
      | exact LeO.none _
      | refine LeO.ite ?_ ?_
      | refine LeO.bind ?_ (fun _ => ?_)
theorem tallyroomlaw24_far.mono : ∀ a0 k, LeO (tallyroomlaw24_far.f k a0) (tallyroomlaw24_far.f (k + 1) a0) := by
  intro a0 k
  obtain ⟨ih0, ih1⟩ := tallyroomlaw24_far.mono_l k
  unfold tallyroomlaw24_far.f
  repeat' first
      | (with_reducible exact ih0 _ _)
      | (with_reducible exact ih1 _ _ _)
      | (with_reducible exact tallyroomlaw06_Far.mono _ _ _ _ _ _ _ _ _ _ _)
      | (with_reducible exact LeO.refl _)
      | (with_reducible exact LeO.none _)
      | (with_reducible refine LeO.ite ?_ ?_)
      | (with_reducible refine LeO.bind ?_ (fun _ => ?_))
      | exact ih0 _ _
      | exact ih1 _ _ _
      | exact tallyroomlaw06_Far.mono _ _ _ _ _ _ _ _ _ _ _
      | exact LeO.none _
      | refine LeO.ite ?_ ?_
      | refine LeO.bind ?_ (fun _ => ?_)
set_option maxHeartbeats 8000000 in
set_option maxRecDepth 100000 in
theorem tallyroomlaw24_far.calls (k : Nat) (A0 : Option Addr) (c0 : Nat) (l0 : List (List (S99))) (r : Bool) (w : World) (hr0 : Kd.C (Kd.slice 99 k99) w A0 l0.length l0) (hc0 : l0.length ≤ c0) (h : tallyroomlaw24_far.f k l0 = some r) :
    Calls Try.prog 23 #[.slice A0 l0.length c0] w fun e w' => e = .returned (.bool r) ∧ Below w.heap.size w w' := by
  have hu99 := Try.underlying99
  have HR0 := Aside0.mk hr0
  have HC0 := Aside0.mk hc0
  clear hr0 hc0
  have HB := Aside0.mk (Below.refl w.heap.size w)
  have H : (if (l0.length : Int) > 20 then (some true) else (tallyroomlaw24_far.l0 k l0 0)) = some r := h
  clear h
  by_cases c2 : (l0.length : Int) > 20
  · rw [if_pos c2] at H
    have c2b0 : decide (20 < (l0.length : Int)) = true := decide_eq_true c2
    have c2b1 : decide (20 < l0.length) = true := decide_eq_true (by omega)
    clear c2
    obtain rfl := Option.some.inj H
    go_enter Try.func23, Try.ntmps23
    go_wp2
    go_ret
    exact ⟨by first | rfl | (simp [errW_none, errW_some] <;> rfl) | (simp [*, errW_none, errW_some] <;> rfl), by repeat (first | (with_reducible first | exact HB.out | apply below_alloc | apply pw_below_drewN | apply below_drew1) | exact HB.out)⟩
  · rw [if_neg c2] at H
    have c2b0 : decide (20 < (l0.length : Int)) = false := decide_eq_false c2
    have c2b1 : decide (20 < l0.length) = false := decide_eq_false (by omega)
    clear c2
    have H' := Aside0.mk H
    clear H
    go_enter Try.func23, Try.ntmps23
    go_wp2
    go_loopg [3] k (fun kq v3 w' => ∃ (x3_1 : Int), v3 = .int .i64 x3_1 ∧ Aside0 (tallyroomlaw24_far.l0 kq l0 x3_1 = some r) ∧ Aside0 (kq ≤ k) ∧ Aside0 (Below w.heap.size w w'))
    case atStart => exact ⟨(0), (by first | rfl | (simp; done) | (simp [*]; done)), H', ⟨Nat.le_refl _⟩, ⟨by repeat (first | (with_reducible first | exact HB.out | apply below_alloc | apply pw_below_drewN | apply below_drew1) | exact HB.out)⟩⟩
    case round =>
      clear H'
      try clear c2
      try clear c2b0
      try clear c2b1
      try clear p2
      obtain ⟨x3_1, rfl, HA, HK1, HB⟩ := hrel
      cases gk with
      | zero => exact absurd HA.out (by simp [tallyroomlaw24_far.l0])
      | succ k1 =>
        have H := HA.out
        clear HA
        simp only [tallyroomlaw24_far.l0] at H
        by_cases c3 : x3_1 < (l0.length : Int)
        · rw [if_pos c3] at H
          have c3b0 : decide (x3_1 < (l0.length : Int)) = true := decide_eq_true c3
          clear c3
          by_cases c4 : 0 ≤ x3_1
          · rw [if_pos c4] at H
            have c4b0 : decide (0 ≤ x3_1) = true := decide_eq_true c4
            clear c4
            by_cases c5 : ((rd_L11 l0 x3_1).length : Int) > 20
            · rw [if_pos c5] at H
              have c5b0 : decide (20 < ((rd_L11 l0 x3_1).length : Int)) = true := decide_eq_true c5
              have c5b1 : decide (20 < (rd_L11 l0 x3_1).length) = true := decide_eq_true (by omega)
              clear c5
              obtain rfl := Option.some.inj H
              have p128 : 0 ≤ (x3_1 : Int) := of_decide_eq_true (by first | (with_reducible assumption) | assumption)
              have q128 : x3_1 < (l0.length : Int) := of_decide_eq_true (by first | (with_reducible assumption) | assumption)
              obtain ⟨ad128, A128_0, c128_0, e128, hx128_0, hl128_0, hi128_0⟩ := at_L11 HR0.out x3_1 p128 q128
              cases e128
              replace hx128_0 := (HB.out.cell (World.block_lt_of_cell? w _ hx128_0)).trans hx128_0
              have HR128_0 := Aside0.mk hi128_0
              have HC128_0 := Aside0.mk hl128_0
              clear hi128_0 hl128_0
              replace p128 := eq_true p128
              replace q128 := eq_true q128
              go_wp2
              go_ret
              exact ⟨by first | rfl | (simp [errW_none, errW_some] <;> rfl) | (simp [*, errW_none, errW_some] <;> rfl), by repeat (first | (with_reducible first | exact HB.out | apply below_alloc | apply pw_below_drewN | apply below_drew1) | exact HB.out)⟩
            · rw [if_neg c5] at H
              have c5b0 : decide (20 < ((rd_L11 l0 x3_1).length : Int)) = false := decide_eq_false c5
              have c5b1 : decide (20 < (rd_L11 l0 x3_1).length) = false := decide_eq_false (by omega)
              clear c5
              have H' := Aside0.mk H
              clear H
              have p128 : 0 ≤ (x3_1 : Int) := of_decide_eq_true (by first | (with_reducible assumption) | assumption)
              have q128 : x3_1 < (l0.length : Int) := of_decide_eq_true (by first | (with_reducible assumption) | assumption)
              obtain ⟨ad128, A128_0, c128_0, e128, hx128_0, hl128_0, hi128_0⟩ := at_L11 HR0.out x3_1 p128 q128
              cases e128
              replace hx128_0 := (HB.out.cell (World.block_lt_of_cell? w _ hx128_0)).trans hx128_0
              have HR128_0 := Aside0.mk hi128_0
              have HC128_0 := Aside0.mk hl128_0
              clear hi128_0 hl128_0
              replace p128 := eq_true p128
              replace q128 := eq_true q128
              go_wp2
              go_loopg [4] k1 (fun kq v4 w' => ∃ (x4_2 : Int), v4 = .int .i64 x4_2 ∧ Aside0 (tallyroomlaw24_far.l1 kq l0 x3_1 x4_2 = some r) ∧ Aside0 (kq ≤ k1) ∧ Aside0 (Below w.heap.size w w'))
              case atStart => exact ⟨(0), (by first | rfl | (simp; done) | (simp [*]; done)), H', ⟨Nat.le_refl _⟩, ⟨by repeat (first | (with_reducible first | exact HB.out | apply below_alloc | apply pw_below_drewN | apply below_drew1) | exact HB.out)⟩⟩
              case round =>
                clear H'
                try clear c1
                try clear p1
                try clear q1
                try clear hx1
                try clear c2
                try clear c2b0
                try clear c2b1
                try clear p2
                try clear c3
                try clear c3b0
                try clear c4
                try clear c4b0
                try clear c5
                try clear c5b0
                try clear c5b1
                try clear hx128_0
                try clear p128
                try clear p2
                try clear q128
                obtain ⟨x4_2, rfl, HA, HK2, HB⟩ := hrel
                cases gk with
                | zero => exact absurd HA.out (by simp [tallyroomlaw24_far.l1])
                | succ k2 =>
                  have H := HA.out
                  clear HA
                  simp only [tallyroomlaw24_far.l1] at H
                  by_cases c6 : 0 ≤ x3_1
                  · rw [if_pos c6] at H
                    have c6b0 : decide (0 ≤ x3_1) = true := decide_eq_true c6
                    clear c6
                    by_cases c7 : x3_1 < (l0.length : Int)
                    · rw [if_pos c7] at H
                      have c7b0 : decide (x3_1 < (l0.length : Int)) = true := decide_eq_true c7
                      clear c7
                      by_cases c8 : x4_2 < ((rd_L11 l0 x3_1).length : Int)
                      · rw [if_pos c8] at H
                        have c8b0 : decide (x4_2 < ((rd_L11 l0 x3_1).length : Int)) = true := decide_eq_true c8
                        clear c8
                        by_cases c9 : 0 ≤ x4_2
                        · rw [if_pos c9] at H
                          have c9b0 : decide (0 ≤ x4_2) = true := decide_eq_true c9
                          clear c9
                          replace H := Option.bind_eq_some_iff.mp H
                          obtain ⟨t132, A100, H⟩ := H
                          replace H : (if t132 = true then (some true) else (tallyroomlaw24_far.l1 k2 l0 x3_1 (wrap64 (x4_2 + 1)))) = some r := H
                          have A10 := Aside0.mk A100
                          clear A100
                          by_cases c11 : t132 = true
                          · subst c11
                            have H1 : (some true) = some r := by rw [if_pos rfl] at H; exact H
                            clear H
                            have H := H1
                            clear H1
                            obtain rfl := Option.some.inj H
                            have p129 : 0 ≤ (x3_1 : Int) := of_decide_eq_true (by first | (with_reducible assumption) | assumption)
                            have q129 : x3_1 < (l0.length : Int) := of_decide_eq_true (by first | (with_reducible assumption) | assumption)
                            obtain ⟨ad129, A129_0, c129_0, e129, hx129_0, hl129_0, hi129_0⟩ := at_L11 HR0.out x3_1 p129 q129
                            obtain rfl : ad128 = ad129 := (by injection e129)
                            replace hx129_0 := (HB.out.cell (World.block_lt_of_cell? w _ hx129_0)).trans hx129_0
                            have HR129_0 := Aside0.mk hi129_0
                            have HC129_0 := Aside0.mk hl129_0
                            clear hi129_0 hl129_0
                            replace p129 := eq_true p129
                            replace q129 := eq_true q129
                            have p130 : 0 ≤ (x3_1 : Int) := of_decide_eq_true (by first | (with_reducible assumption) | assumption)
                            have q130 : x3_1 < (l0.length : Int) := of_decide_eq_true (by first | (with_reducible assumption) | assumption)
                            obtain ⟨ad130, A130_0, c130_0, e130, hx130_0, hl130_0, hi130_0⟩ := at_L11 HR0.out x3_1 p130 q130
                            obtain rfl : ad128 = ad130 := (by injection e130)
                            replace hx130_0 := (HB.out.cell (World.block_lt_of_cell? w _ hx130_0)).trans hx130_0
                            have HR130_0 := Aside0.mk hi130_0
                            have HC130_0 := Aside0.mk hl130_0
                            clear hi130_0 hl130_0
                            replace p130 := eq_true p130
                            replace q130 := eq_true q130
                            have ea_ := Option.some.inj (hx129_0.symm.trans hx130_0)
                            injection ea_ with ea_ en_ ec_
                            subst ea_
                            subst ec_
                            clear en_
                            have p131 : 0 ≤ (x4_2 : Int) := of_decide_eq_true (by first | (with_reducible assumption) | assumption)
                            have q131 : x4_2 < ((rd_L11 l0 x3_1).length : Int) := of_decide_eq_true (by first | (with_reducible assumption) | assumption)
                            obtain ⟨ad131, A131_9, c131_9, e131, hx131_0, hx131_1, hx131_2, hx131_3, hx131_4, hx131_5, hx131_6, hx131_7, hx131_8, hx131_9, hl131_9, hi131_9⟩ := at_T99 HR130_0.out x4_2 p131 q131
                            cases e131
                            replace hx131_0 := (HB.out.cell (World.block_lt_of_cell? w _ hx131_0)).trans hx131_0
                            replace hx131_1 := (HB.out.cell (World.block_lt_of_cell? w _ hx131_1)).trans hx131_1
                            replace hx131_2 := (HB.out.cell (World.block_lt_of_cell? w _ hx131_2)).trans hx131_2
                            replace hx131_3 := (HB.out.cell (World.block_lt_of_cell? w _ hx131_3)).trans hx131_3
                            replace hx131_4 := (HB.out.cell (World.block_lt_of_cell? w _ hx131_4)).trans hx131_4
                            replace hx131_5 := (HB.out.cell (World.block_lt_of_cell? w _ hx131_5)).trans hx131_5
                            replace hx131_6 := (HB.out.cell (World.block_lt_of_cell? w _ hx131_6)).trans hx131_6
                            replace hx131_7 := (HB.out.cell (World.block_lt_of_cell? w _ hx131_7)).trans hx131_7
                            replace hx131_8 := (HB.out.cell (World.block_lt_of_cell? w _ hx131_8)).trans hx131_8
                            replace hx131_9 := (HB.out.cell (World.block_lt_of_cell? w _ hx131_9)).trans hx131_9
                            have HR131_9 := Aside0.mk hi131_9
                            have HC131_9 := Aside0.mk hl131_9
                            clear hi131_9 hl131_9
                            replace p131 := eq_true p131
                            replace q131 := eq_true q131
                            go_wp2_with (first | ((with_reducible refine gate_callee (f := 45) rfl ?_); refine goesL_ (some 36) rfl rfl Try.func45 (by kernel_rfl) rfl #[.agg #[.int .u64 ((rd_T99 (rd_L11 l0 x3_1) x4_2).f0), .int .u64 ((rd_T99 (rd_L11 l0 x3_1) x4_2).f1), .int .u64 ((rd_T99 (rd_L11 l0 x3_1) x4_2).f2), .string ((rd_T99 (rd_L11 l0 x3_1) x4_2).f3), .string ((rd_T99 (rd_L11 l0 x3_1) x4_2).f4), .int .i64 ((rd_T99 (rd_L11 l0 x3_1) x4_2).f5), .int .i64 ((rd_T99 (rd_L11 l0 x3_1) x4_2).f6), .int .u64 ((rd_T99 (rd_L11 l0 x3_1) x4_2).f7), .int .u64 ((rd_T99 (rd_L11 l0 x3_1) x4_2).f8), .slice A131_9 ((rd_T99 (rd_L11 l0 x3_1) x4_2).f9).length c131_9]] rfl (by (try simp only [List.map_toArray, List.map_cons, List.map_nil]); first | done | rfl | (simp only [List.length_drop, List.length_take]; rfl)) ?_; (with_reducible refine (tallyroomlaw06_Far.calls k2 ((rd_T99 (rd_L11 l0 x3_1) x4_2).f0) ((rd_T99 (rd_L11 l0 x3_1) x4_2).f1) ((rd_T99 (rd_L11 l0 x3_1) x4_2).f2) ((rd_T99 (rd_L11 l0 x3_1) x4_2).f3) ((rd_T99 (rd_L11 l0 x3_1) x4_2).f4) ((rd_T99 (rd_L11 l0 x3_1) x4_2).f5) ((rd_T99 (rd_L11 l0 x3_1) x4_2).f6) ((rd_T99 (rd_L11 l0 x3_1) x4_2).f7) ((rd_T99 (rd_L11 l0 x3_1) x4_2).f8) _ _ ((rd_T99 (rd_L11 l0 x3_1) x4_2).f9) true _ ?side1 ?side2 A10.out).mono ?_); (case side1 => repeat (first | exact (Kd.C_below HR131_9.out HB.out) | (with_reducible refine Kd.C_alloc ?_ _) | (with_reducible refine Kd.C_drewN ?_ _) | (with_reducible refine Kd.C_drew ?_))); (case side2 => exact HC131_9.out); rintro e w12 ⟨rfl, hb⟩; refine ⟨_, rfl, ?_⟩; have n0_ := Aside0.mk (below_step (by repeat (first | (with_reducible first | exact HB.out | apply below_alloc | apply pw_below_drewN | apply below_drew1) | exact HB.out)) hb); clear HB; have HB := n0_; clear n0_; (try clear hb); (try clear hb2); (try clear hk); (try clear hi)))
                            go_ret
                            exact ⟨by first | rfl | (simp [errW_none, errW_some] <;> rfl) | (simp [*, errW_none, errW_some] <;> rfl), by repeat (first | (with_reducible first | exact HB.out | apply below_alloc | apply pw_below_drewN | apply below_drew1) | exact HB.out)⟩
                          · replace c11 := Bool.eq_false_iff.mpr c11
                            subst c11
                            have H1 : (tallyroomlaw24_far.l1 k2 l0 x3_1 (wrap64 (x4_2 + 1))) = some r := by rw [if_neg (show ¬ (false = true) by decide)] at H; exact H
                            clear H
                            have H := H1
                            clear H1
                            have H' := Aside0.mk H
                            clear H
                            have p129 : 0 ≤ (x3_1 : Int) := of_decide_eq_true (by first | (with_reducible assumption) | assumption)
                            have q129 : x3_1 < (l0.length : Int) := of_decide_eq_true (by first | (with_reducible assumption) | assumption)
                            obtain ⟨ad129, A129_0, c129_0, e129, hx129_0, hl129_0, hi129_0⟩ := at_L11 HR0.out x3_1 p129 q129
                            obtain rfl : ad128 = ad129 := (by injection e129)
                            replace hx129_0 := (HB.out.cell (World.block_lt_of_cell? w _ hx129_0)).trans hx129_0
                            have HR129_0 := Aside0.mk hi129_0
                            have HC129_0 := Aside0.mk hl129_0
                            clear hi129_0 hl129_0
                            replace p129 := eq_true p129
                            replace q129 := eq_true q129
                            have p130 : 0 ≤ (x3_1 : Int) := of_decide_eq_true (by first | (with_reducible assumption) | assumption)
                            have q130 : x3_1 < (l0.length : Int) := of_decide_eq_true (by first | (with_reducible assumption) | assumption)
                            obtain ⟨ad130, A130_0, c130_0, e130, hx130_0, hl130_0, hi130_0⟩ := at_L11 HR0.out x3_1 p130 q130
                            obtain rfl : ad128 = ad130 := (by injection e130)
                            replace hx130_0 := (HB.out.cell (World.block_lt_of_cell? w _ hx130_0)).trans hx130_0
                            have HR130_0 := Aside0.mk hi130_0
                            have HC130_0 := Aside0.mk hl130_0
                            clear hi130_0 hl130_0
                            replace p130 := eq_true p130
                            replace q130 := eq_true q130
                            have ea_ := Option.some.inj (hx129_0.symm.trans hx130_0)
                            injection ea_ with ea_ en_ ec_
                            subst ea_
                            subst ec_
                            clear en_
                            have p131 : 0 ≤ (x4_2 : Int) := of_decide_eq_true (by first | (with_reducible assumption) | assumption)
                            have q131 : x4_2 < ((rd_L11 l0 x3_1).length : Int) := of_decide_eq_true (by first | (with_reducible assumption) | assumption)
                            obtain ⟨ad131, A131_9, c131_9, e131, hx131_0, hx131_1, hx131_2, hx131_3, hx131_4, hx131_5, hx131_6, hx131_7, hx131_8, hx131_9, hl131_9, hi131_9⟩ := at_T99 HR130_0.out x4_2 p131 q131
                            cases e131
                            replace hx131_0 := (HB.out.cell (World.block_lt_of_cell? w _ hx131_0)).trans hx131_0
                            replace hx131_1 := (HB.out.cell (World.block_lt_of_cell? w _ hx131_1)).trans hx131_1
                            replace hx131_2 := (HB.out.cell (World.block_lt_of_cell? w _ hx131_2)).trans hx131_2
                            replace hx131_3 := (HB.out.cell (World.block_lt_of_cell? w _ hx131_3)).trans hx131_3
                            replace hx131_4 := (HB.out.cell (World.block_lt_of_cell? w _ hx131_4)).trans hx131_4
                            replace hx131_5 := (HB.out.cell (World.block_lt_of_cell? w _ hx131_5)).trans hx131_5
                            replace hx131_6 := (HB.out.cell (World.block_lt_of_cell? w _ hx131_6)).trans hx131_6
                            replace hx131_7 := (HB.out.cell (World.block_lt_of_cell? w _ hx131_7)).trans hx131_7
                            replace hx131_8 := (HB.out.cell (World.block_lt_of_cell? w _ hx131_8)).trans hx131_8
                            replace hx131_9 := (HB.out.cell (World.block_lt_of_cell? w _ hx131_9)).trans hx131_9
                            have HR131_9 := Aside0.mk hi131_9
                            have HC131_9 := Aside0.mk hl131_9
                            clear hi131_9 hl131_9
                            replace p131 := eq_true p131
                            replace q131 := eq_true q131
                            go_wp2_with (first | ((with_reducible refine gate_callee (f := 45) rfl ?_); refine goesL_ (some 36) rfl rfl Try.func45 (by kernel_rfl) rfl #[.agg #[.int .u64 ((rd_T99 (rd_L11 l0 x3_1) x4_2).f0), .int .u64 ((rd_T99 (rd_L11 l0 x3_1) x4_2).f1), .int .u64 ((rd_T99 (rd_L11 l0 x3_1) x4_2).f2), .string ((rd_T99 (rd_L11 l0 x3_1) x4_2).f3), .string ((rd_T99 (rd_L11 l0 x3_1) x4_2).f4), .int .i64 ((rd_T99 (rd_L11 l0 x3_1) x4_2).f5), .int .i64 ((rd_T99 (rd_L11 l0 x3_1) x4_2).f6), .int .u64 ((rd_T99 (rd_L11 l0 x3_1) x4_2).f7), .int .u64 ((rd_T99 (rd_L11 l0 x3_1) x4_2).f8), .slice A131_9 ((rd_T99 (rd_L11 l0 x3_1) x4_2).f9).length c131_9]] rfl (by (try simp only [List.map_toArray, List.map_cons, List.map_nil]); first | done | rfl | (simp only [List.length_drop, List.length_take]; rfl)) ?_; (with_reducible refine (tallyroomlaw06_Far.calls k2 ((rd_T99 (rd_L11 l0 x3_1) x4_2).f0) ((rd_T99 (rd_L11 l0 x3_1) x4_2).f1) ((rd_T99 (rd_L11 l0 x3_1) x4_2).f2) ((rd_T99 (rd_L11 l0 x3_1) x4_2).f3) ((rd_T99 (rd_L11 l0 x3_1) x4_2).f4) ((rd_T99 (rd_L11 l0 x3_1) x4_2).f5) ((rd_T99 (rd_L11 l0 x3_1) x4_2).f6) ((rd_T99 (rd_L11 l0 x3_1) x4_2).f7) ((rd_T99 (rd_L11 l0 x3_1) x4_2).f8) _ _ ((rd_T99 (rd_L11 l0 x3_1) x4_2).f9) false _ ?side1 ?side2 A10.out).mono ?_); (case side1 => repeat (first | exact (Kd.C_below HR131_9.out HB.out) | (with_reducible refine Kd.C_alloc ?_ _) | (with_reducible refine Kd.C_drewN ?_ _) | (with_reducible refine Kd.C_drew ?_))); (case side2 => exact HC131_9.out); rintro e w13 ⟨rfl, hb⟩; refine ⟨_, rfl, ?_⟩; have n0_ := Aside0.mk (below_step (by repeat (first | (with_reducible first | exact HB.out | apply below_alloc | apply pw_below_drewN | apply below_drew1) | exact HB.out)) hb); clear HB; have HB := n0_; clear n0_; (try clear hb); (try clear hb2); (try clear hk); (try clear hi)))
                            go_roundg k2
                            case measure => have := HK1.out; have := HK2.out; omega
                            case rel => exact ⟨(wrap64 (x4_2 + 1)), (by first | rfl | (simp; done) | (simp [*]; done)), H', ⟨by have := HK1.out; have := HK2.out; omega⟩, ⟨by repeat (first | (with_reducible first | exact HB.out | apply below_alloc | apply pw_below_drewN | apply below_drew1) | exact HB.out)⟩⟩
                        · rw [if_neg c9] at H
                          exact absurd H (by simp)
                      · rw [if_neg c8] at H
                        have c8b0 : decide (x4_2 < ((rd_L11 l0 x3_1).length : Int)) = false := decide_eq_false c8
                        clear c8
                        have H' := Aside0.mk H
                        clear H
                        have p129 : 0 ≤ (x3_1 : Int) := of_decide_eq_true (by first | (with_reducible assumption) | assumption)
                        have q129 : x3_1 < (l0.length : Int) := of_decide_eq_true (by first | (with_reducible assumption) | assumption)
                        obtain ⟨ad129, A129_0, c129_0, e129, hx129_0, hl129_0, hi129_0⟩ := at_L11 HR0.out x3_1 p129 q129
                        obtain rfl : ad128 = ad129 := (by injection e129)
                        replace hx129_0 := (HB.out.cell (World.block_lt_of_cell? w _ hx129_0)).trans hx129_0
                        have HR129_0 := Aside0.mk hi129_0
                        have HC129_0 := Aside0.mk hl129_0
                        clear hi129_0 hl129_0
                        replace p129 := eq_true p129
                        replace q129 := eq_true q129
                        go_wp2
                        go_roundg k2
                        case measure => have := HK1.out; have := HK2.out; omega
                        case rel => exact ⟨(wrap64 (x3_1 + 1)), (by first | rfl | (simp; done) | (simp [*]; done)), H', ⟨by have := HK1.out; have := HK2.out; omega⟩, ⟨by repeat (first | (with_reducible first | exact HB.out | apply below_alloc | apply pw_below_drewN | apply below_drew1) | exact HB.out)⟩⟩
                    · rw [if_neg c7] at H
                      exact absurd H (by simp)
                  · rw [if_neg c6] at H
                    exact absurd H (by simp)
          · rw [if_neg c4] at H
            exact absurd H (by simp)
        · rw [if_neg c3] at H
          have c3b0 : decide (x3_1 < (l0.length : Int)) = false := decide_eq_false c3
          clear c3
          obtain rfl := Option.some.inj H
          go_wp2
          go_ret
          exact ⟨by first | rfl | (simp [errW_none, errW_some] <;> rfl) | (simp [*, errW_none, errW_some] <;> rfl), by repeat (first | (with_reducible first | exact HB.out | apply below_alloc | apply pw_below_drewN | apply below_drew1) | exact HB.out)⟩

end Go.Proofs.Ytgpkihnihmbomaa.XSs
