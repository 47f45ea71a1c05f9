/- The law's proof, part 37: the text XSfx1 of this session, or words printed for this seat; what the theorem doesn't use is left out. No conditions. -/
import Derived.Test.YtllepjhimkogjaaFSAl30
import Derived.Test.YtllepjhimkogjaaFSAl9
namespace Go.Proofs.Ytllepjhimkogjaa.Shr
end Go.Proofs.Ytllepjhimkogjaa.Shr
namespace Go.Proofs.YtllepjhimkogjaaW.PrintLast
end Go.Proofs.YtllepjhimkogjaaW.PrintLast
namespace Go.Proofs.YtllepjhimkogjaaW.PrintMore
end Go.Proofs.YtllepjhimkogjaaW.PrintMore
namespace Go.Proofs.YtllepjhimkogjaaW.PrintWords
end Go.Proofs.YtllepjhimkogjaaW.PrintWords
namespace Go.Proofs.Ytllepjhimkogjaa.XSf
open Go.RowKit Go.Proofs.YtllepjhimkogjaaW.PrintWords Go.Proofs.YtllepjhimkogjaaW.PrintLast Go.Proofs.YtllepjhimkogjaaW.PrintMore Go.Proofs.Ytllepjhimkogjaa.Shr
set_option linter.unusedVariables false
set_option linter.unusedSimpArgs false
mutual
def tallyroomlaw06_Far.j0 : Nat → Bool → Int → Int → Int → ByteArray → ByteArray → Int → Int → Int → Int → List (S63) → Option (Bool)
  | 0, _, _, _, _, _, _, _, _, _, _, _ => none
  | k + 1, x19, x102000, x102001, x102002, x102003, x102004, x102005, x102006, x102007, x102008, x102009 => if x19 = true then (some true) else (tallyroomlaw06_Far.l0 k 0 x102000 x102001 x102002 x102003 x102004 x102005 x102006 x102007 x102008 x102009)
def tallyroomlaw06_Far.l0 : Nat → Int → Int → Int → Int → ByteArray → ByteArray → Int → Int → Int → Int → List (S63) → Option (Bool)
  | 0, _, _, _, _, _, _, _, _, _, _, _ => none
  | k + 1, x3, x102000, x102001, x102002, x102003, x102004, x102005, x102006, x102007, x102008, x102009 => if x3 < (x102009.length : Int) then (if 0 ≤ x3 then (if (((rd_T63 x102009 x3).f0).size : Int) > 300 then (some true) else (if (((rd_T63 x102009 x3).f1.f2).size : Int) > 5000 then (some true) else (tallyroomlaw06_Far.l0 k (wrap64 (x3 + 1)) x102000 x102001 x102002 x102003 x102004 x102005 x102006 x102007 x102008 x102009))) else (none)) else (some false)
end
def tallyroomlaw06_Far.f (k : Nat) (a0_0 : Int) (a0_1 : Int) (a0_2 : Int) (a0_3 : ByteArray) (a0_4 : ByteArray) (a0_5 : Int) (a0_6 : Int) (a0_7 : Int) (a0_8 : Int) (l0_9 : List (S63)) : Option (Bool) := if (a0_3.size : Int) > 5000 then (tallyroomlaw06_Far.j0 k true a0_0 a0_1 a0_2 a0_3 a0_4 a0_5 a0_6 a0_7 a0_8 l0_9) else (if (a0_4.size : Int) > 5000 then (tallyroomlaw06_Far.j0 k true a0_0 a0_1 a0_2 a0_3 a0_4 a0_5 a0_6 a0_7 a0_8 l0_9) else (tallyroomlaw06_Far.j0 k (decide ((l0_9.length : Int) > 40)) a0_0 a0_1 a0_2 a0_3 a0_4 a0_5 a0_6 a0_7 a0_8 l0_9))
theorem tallyroomlaw06_Far.mono_l : ∀ k, (∀ y0 y1 y2 y3 y4 y5 y6 y7 y8 y9 y10, LeO (tallyroomlaw06_Far.j0 k y0 y1 y2 y3 y4 y5 y6 y7 y8 y9 y10) (tallyroomlaw06_Far.j0 (k + 1) y0 y1 y2 y3 y4 y5 y6 y7 y8 y9 y10)) ∧ (∀ y0 y1 y2 y3 y4 y5 y6 y7 y8 y9 y10, LeO (tallyroomlaw06_Far.l0 k y0 y1 y2 y3 y4 y5 y6 y7 y8 y9 y10) (tallyroomlaw06_Far.l0 (k + 1) y0 y1 y2 y3 y4 y5 y6 y7 y8 y9 y10))
  | 0 => ⟨fun _ _ _ _ _ _ _ _ _ _ _ r h => by simp [tallyroomlaw06_Far.j0] at h, fun _ _ _ _ _ _ _ _ _ _ _ r h => by simp [tallyroomlaw06_Far.l0] at h⟩
  | k + 1 => by
    obtain ⟨ih0, ih1⟩ := tallyroomlaw06_Far.mono_l k
    refine ⟨?_, ?_⟩
    · intro y0 y1 y2 y3 y4 y5 y6 y7 y8 y9 y10
      unfold tallyroomlaw06_Far.j0
      repeat' first
      | (with_reducible exact ih0 _ _ _ _ _ _ _ _ _ _ _)
      | (with_reducible exact ih1 _ _ _ _ _ _ _ _ _ _ _)
      | (with_reducible exact LeO.refl _)
      | (with_reducible exact LeO.none _)
      | (with_reducible refine LeO.ite ?_ ?_)
      | (with_reducible refine LeO.bind ?_ (fun _ => ?_))
      | exact ih0 _ _ _ _ _ _ _ _ _ _ _
      | exact ih1 _ _ _ _ _ _ _ _ _ _ _
      | exact LeO.none _
      | refine LeO.ite ?_ ?_
      | refine LeO.bind ?_ (fun _ => ?_)
    · intro y0 y1 y2 y3 y4 y5 y6 y7 y8 y9 y10
      unfold tallyroomlaw06_Far.l0
      repeat' first
      | (with_reducible exact ih0 _ _ _ _ _ _ _ _ _ _ _)
      | (with_reducible exact ih1 _ _ _ _ _ _ _ _ _ _ _)
      | (with_reducible exact LeO.refl _)
      | (with_reducible exact LeO.none _)
      | (with_reducible refine LeO.ite ?_ ?_)
      | (with_reducible refine LeO.bind ?_ (fun _ => ?_))
      | exact ih0 _ _ _ _ _ _ _ _ _ _ _
      | exact ih1 _ _ _ _ _ _ _ _ _ _ _
      | exact LeO.none _
      | refine LeO.ite ?_ ?_
      | refine LeO.bind ?_ (fun _ => ?_)
theorem tallyroomlaw06_Far.mono : ∀ a0 a1 a2 a3 a4 a5 a6 a7 a8 a9 k, LeO (tallyroomlaw06_Far.f k a0 a1 a2 a3 a4 a5 a6 a7 a8 a9) (tallyroomlaw06_Far.f (k + 1) a0 a1 a2 a3 a4 a5 a6 a7 a8 a9) := by
  intro a0 a1 a2 a3 a4 a5 a6 a7 a8 a9 k
  obtain ⟨ih0, ih1⟩ := tallyroomlaw06_Far.mono_l k
  unfold tallyroomlaw06_Far.f
  repeat' first
      | (with_reducible exact ih0 _ _ _ _ _ _ _ _ _ _ _)
      | (with_reducible exact ih1 _ _ _ _ _ _ _ _ _ _ _)
      | (with_reducible exact LeO.refl _)
      | (with_reducible exact LeO.none _)
      | (with_reducible refine LeO.ite ?_ ?_)
      | (with_reducible refine LeO.bind ?_ (fun _ => ?_))
      | exact ih0 _ _ _ _ _ _ _ _ _ _ _
      | exact ih1 _ _ _ _ _ _ _ _ _ _ _
      | exact LeO.none _
      | refine LeO.ite ?_ ?_
      | refine LeO.bind ?_ (fun _ => ?_)
set_option maxHeartbeats 8000000 in
set_option maxRecDepth 100000 in
theorem tallyroomlaw06_Far.calls (k : Nat) (a0_0 : Int) (a0_1 : Int) (a0_2 : Int) (a0_3 : ByteArray) (a0_4 : ByteArray) (a0_5 : Int) (a0_6 : Int) (a0_7 : Int) (a0_8 : Int) (A0_9 : Option Addr) (c0_9 : Nat) (l0_9 : List (S63)) (r : Bool) (w : World) (hr0_9 : Kd.C k63 w A0_9 l0_9.length l0_9) (hc0_9 : l0_9.length ≤ c0_9) (h : tallyroomlaw06_Far.f k a0_0 a0_1 a0_2 a0_3 a0_4 a0_5 a0_6 a0_7 a0_8 l0_9 = some r) :
    Calls Try.prog 20 #[.agg #[.int .u64 a0_0, .int .u64 a0_1, .int .u64 a0_2, .string a0_3, .string a0_4, .int .i64 a0_5, .int .i64 a0_6, .int .u64 a0_7, .int .u64 a0_8, .slice A0_9 l0_9.length c0_9]] w fun e w' => e = .returned (.bool r) ∧ Below w.heap.size w w' := by
  have hu37 := Try.underlying37
  have HR0_9 := Aside0.mk hr0_9
  have HC0_9 := Aside0.mk hc0_9
  clear hr0_9 hc0_9
  have HB := Aside0.mk (Below.refl w.heap.size w)
  have H : (if (a0_3.size : Int) > 5000 then (tallyroomlaw06_Far.j0 k true a0_0 a0_1 a0_2 a0_3 a0_4 a0_5 a0_6 a0_7 a0_8 l0_9) else (if (a0_4.size : Int) > 5000 then (tallyroomlaw06_Far.j0 k true a0_0 a0_1 a0_2 a0_3 a0_4 a0_5 a0_6 a0_7 a0_8 l0_9) else (tallyroomlaw06_Far.j0 k (decide ((l0_9.length : Int) > 40)) a0_0 a0_1 a0_2 a0_3 a0_4 a0_5 a0_6 a0_7 a0_8 l0_9))) = some r := h
  clear h
  have HC2 := Aside0.mk H
  clear H
  go_enter Try.func20, Try.ntmps20
  go_upto_region 1 with (first | ((with_reducible refine gate_dst (N := 1) rfl ?_); (try (refine gate_guard (by rfl) ?_; dsimp only)); refine box_event ?hg (N := 1) ?hd (cs := #[.int .u64 a0_0, .int .u64 a0_1, .int .u64 a0_2, .string a0_3, .string a0_4, .int .i64 a0_5, .int .i64 a0_6, .int .u64 a0_7, .int .u64 a0_8, .slice A0_9 l0_9.length c0_9]) (t := 37) ?hr ?_; (case hd => rfl); (case hg => rfl); (case hr => first | (go_simp; done) | (go_simp; rfl)); intro gb101 hg w3 hbox hb; have n0_ := Aside0.mk (ls_ (by repeat (first | (with_reducible first | exact HB.out | apply lA_ | apply lN_ | apply l1_) | exact HB.out)) hb); have n1_ := Aside0.mk (hbox); have n2_ := Aside0.mk ((by rw [hg]; exact (bz_ (by repeat (first | (with_reducible first | exact HB.out | apply lA_ | apply lN_ | apply l1_) | exact HB.out))) : w.heap.size ≤ gb101)); have n3_ := Aside0.mk ((by rw [hg]; exact (bz_ (by repeat (first | (with_reducible first | exact HB.out | apply lA_ | apply lN_ | apply l1_) | exact HB.out))) : w.heap.size ≤ gb101)); clear HB; have HB := n0_; have BK101 := n1_; have GW101 := n2_; have GE101 := n3_; clear n0_ n1_ n2_ n3_; clear hb hbox hg))
  (try simp only [Act.put, sb_, sz_, ss_])
  go_cut [19] (fun v19 wc => ∃ (kq : Nat) (x19_1 : Bool), v19 = .bool x19_1 ∧ Aside0 (tallyroomlaw06_Far.j0 kq x19_1 a0_0 a0_1 a0_2 a0_3 a0_4 a0_5 a0_6 a0_7 a0_8 l0_9 = some r) ∧ Aside0 (kq ≤ k) ∧ Aside0 (wc.heap[gb101]? = some (.cells #[.int .u64 a0_0, .int .u64 a0_1, .int .u64 a0_2, .string a0_3, .string a0_4, .int .i64 a0_5, .int .i64 a0_6, .int .u64 a0_7, .int .u64 a0_8, (.slice A0_9 l0_9.length c0_9)] 37 (0, 0))) ∧ Aside0 (Below w.heap.size w wc))
  case first =>
    have H := HC2.out
    clear HC2
    by_cases c4 : (a0_3.size : Int) > 5000
    · rw [if_pos c4] at H
      have c4b0 : decide (5000 < (a0_3.size : Int)) = true := decide_eq_true c4
      have c4b1 : decide (5000 < a0_3.size) = true := decide_eq_true (by omega)
      clear c4
      (first | rw [c4b0] | (simp only [i64_w, i32_w]; rw [c4b0]) | skip)
      have H' := Aside0.mk H
      clear H
      have hcz5_0 : w3.cell? ⟨gb101, 0, none⟩ = some (.int .u64 a0_0) := (bc1_ BK101.out 0).trans rfl
      have hcz5_1 : w3.cell? ⟨gb101, 1, none⟩ = some (.int .u64 a0_1) := (bc1_ BK101.out 1).trans rfl
      have hcz5_2 : w3.cell? ⟨gb101, 2, none⟩ = some (.int .u64 a0_2) := (bc1_ BK101.out 2).trans rfl
      have hcz5_3 : w3.cell? ⟨gb101, 3, none⟩ = some (.string a0_3) := (bc1_ BK101.out 3).trans rfl
      have hcz5_4 : w3.cell? ⟨gb101, 4, none⟩ = some (.string a0_4) := (bc1_ BK101.out 4).trans rfl
      have hcz5_5 : w3.cell? ⟨gb101, 5, none⟩ = some (.int .i64 a0_5) := (bc1_ BK101.out 5).trans rfl
      have hcz5_6 : w3.cell? ⟨gb101, 6, none⟩ = some (.int .i64 a0_6) := (bc1_ BK101.out 6).trans rfl
      have hcz5_7 : w3.cell? ⟨gb101, 7, none⟩ = some (.int .u64 a0_7) := (bc1_ BK101.out 7).trans rfl
      have hcz5_8 : w3.cell? ⟨gb101, 8, none⟩ = some (.int .u64 a0_8) := (bc1_ BK101.out 8).trans rfl
      have hcz5_9 : w3.cell? ⟨gb101, 9, none⟩ = some (.slice A0_9 l0_9.length c0_9) := (bc1_ BK101.out 9).trans rfl
      have hfz5_0 := bf1_ BK101.out 0
      have hfz5_1 := bf1_ BK101.out 1
      have hfz5_2 := bf1_ BK101.out 2
      have hfz5_3 := bf1_ BK101.out 3
      have hfz5_4 := bf1_ BK101.out 4
      have hfz5_5 := bf1_ BK101.out 5
      have hfz5_6 := bf1_ BK101.out 6
      have hfz5_7 := bf1_ BK101.out 7
      have hfz5_8 := bf1_ BK101.out 8
      have hfz5_9 := bf1_ BK101.out 9
      go_wp2
      go_meet
      case rel => exact ⟨_, (true), (by first | rfl | (simp; done) | (simp [*]; done)), H', ⟨by first | omega | exact Nat.le_refl _⟩, ⟨by (with_reducible repeat (first | refine bN_ ?_ _ | refine bD_ ?_ | refine bA_ ?_ _)); exact BK101.out⟩, ⟨by repeat (first | (with_reducible first | exact HB.out | apply lA_ | apply lN_ | apply l1_ | refine below_set ?_ GE101.out) | exact HB.out)⟩⟩
    · rw [if_neg c4] at H
      have c4b0 : decide (5000 < (a0_3.size : Int)) = false := decide_eq_false c4
      have c4b1 : decide (5000 < a0_3.size) = false := decide_eq_false (by omega)
      clear c4
      (first | rw [c4b0] | (simp only [i64_w, i32_w]; rw [c4b0]) | skip)
      by_cases c6 : (a0_4.size : Int) > 5000
      · rw [if_pos c6] at H
        have c6b0 : decide (5000 < (a0_4.size : Int)) = true := decide_eq_true c6
        have c6b1 : decide (5000 < a0_4.size) = true := decide_eq_true (by omega)
        clear c6
        have H' := Aside0.mk H
        clear H
        have hcz7_0 : w3.cell? ⟨gb101, 0, none⟩ = some (.int .u64 a0_0) := (bc1_ BK101.out 0).trans rfl
        have hcz7_1 : w3.cell? ⟨gb101, 1, none⟩ = some (.int .u64 a0_1) := (bc1_ BK101.out 1).trans rfl
        have hcz7_2 : w3.cell? ⟨gb101, 2, none⟩ = some (.int .u64 a0_2) := (bc1_ BK101.out 2).trans rfl
        have hcz7_3 : w3.cell? ⟨gb101, 3, none⟩ = some (.string a0_3) := (bc1_ BK101.out 3).trans rfl
        have hcz7_4 : w3.cell? ⟨gb101, 4, none⟩ = some (.string a0_4) := (bc1_ BK101.out 4).trans rfl
        have hcz7_5 : w3.cell? ⟨gb101, 5, none⟩ = some (.int .i64 a0_5) := (bc1_ BK101.out 5).trans rfl
        have hcz7_6 : w3.cell? ⟨gb101, 6, none⟩ = some (.int .i64 a0_6) := (bc1_ BK101.out 6).trans rfl
        have hcz7_7 : w3.cell? ⟨gb101, 7, none⟩ = some (.int .u64 a0_7) := (bc1_ BK101.out 7).trans rfl
        have hcz7_8 : w3.cell? ⟨gb101, 8, none⟩ = some (.int .u64 a0_8) := (bc1_ BK101.out 8).trans rfl
        have hcz7_9 : w3.cell? ⟨gb101, 9, none⟩ = some (.slice A0_9 l0_9.length c0_9) := (bc1_ BK101.out 9).trans rfl
        have hfz7_0 := bf1_ BK101.out 0
        have hfz7_1 := bf1_ BK101.out 1
        have hfz7_2 := bf1_ BK101.out 2
        have hfz7_3 := bf1_ BK101.out 3
        have hfz7_4 := bf1_ BK101.out 4
        have hfz7_5 := bf1_ BK101.out 5
        have hfz7_6 := bf1_ BK101.out 6
        have hfz7_7 := bf1_ BK101.out 7
        have hfz7_8 := bf1_ BK101.out 8
        have hfz7_9 := bf1_ BK101.out 9
        go_wp2
        go_meet
        case rel => exact ⟨_, (true), (by first | rfl | (simp; done) | (simp [*]; done)), H', ⟨by first | omega | exact Nat.le_refl _⟩, ⟨by (with_reducible repeat (first | refine bN_ ?_ _ | refine bD_ ?_ | refine bA_ ?_ _)); exact BK101.out⟩, ⟨by repeat (first | (with_reducible first | exact HB.out | apply lA_ | apply lN_ | apply l1_ | refine below_set ?_ GE101.out) | exact HB.out)⟩⟩
      · rw [if_neg c6] at H
        have c6b0 : decide (5000 < (a0_4.size : Int)) = false := decide_eq_false c6
        have c6b1 : decide (5000 < a0_4.size) = false := decide_eq_false (by omega)
        clear c6
        have H' := Aside0.mk H
        clear H
        have hcz8_0 : w3.cell? ⟨gb101, 0, none⟩ = some (.int .u64 a0_0) := (bc1_ BK101.out 0).trans rfl
        have hcz8_1 : w3.cell? ⟨gb101, 1, none⟩ = some (.int .u64 a0_1) := (bc1_ BK101.out 1).trans rfl
        have hcz8_2 : w3.cell? ⟨gb101, 2, none⟩ = some (.int .u64 a0_2) := (bc1_ BK101.out 2).trans rfl
        have hcz8_3 : w3.cell? ⟨gb101, 3, none⟩ = some (.string a0_3) := (bc1_ BK101.out 3).trans rfl
        have hcz8_4 : w3.cell? ⟨gb101, 4, none⟩ = some (.string a0_4) := (bc1_ BK101.out 4).trans rfl
        have hcz8_5 : w3.cell? ⟨gb101, 5, none⟩ = some (.int .i64 a0_5) := (bc1_ BK101.out 5).trans rfl
        have hcz8_6 : w3.cell? ⟨gb101, 6, none⟩ = some (.int .i64 a0_6) := (bc1_ BK101.out 6).trans rfl
        have hcz8_7 : w3.cell? ⟨gb101, 7, none⟩ = some (.int .u64 a0_7) := (bc1_ BK101.out 7).trans rfl
        have hcz8_8 : w3.cell? ⟨gb101, 8, none⟩ = some (.int .u64 a0_8) := (bc1_ BK101.out 8).trans rfl
        have hcz8_9 : w3.cell? ⟨gb101, 9, none⟩ = some (.slice A0_9 l0_9.length c0_9) := (bc1_ BK101.out 9).trans rfl
        have hfz8_0 := bf1_ BK101.out 0
        have hfz8_1 := bf1_ BK101.out 1
        have hfz8_2 := bf1_ BK101.out 2
        have hfz8_3 := bf1_ BK101.out 3
        have hfz8_4 := bf1_ BK101.out 4
        have hfz8_5 := bf1_ BK101.out 5
        have hfz8_6 := bf1_ BK101.out 6
        have hfz8_7 := bf1_ BK101.out 7
        have hfz8_8 := bf1_ BK101.out 8
        have hfz8_9 := bf1_ BK101.out 9
        go_wp2
        go_meet
        case rel => exact ⟨_, (decide ((l0_9.length : Int) > 40)), (by first | rfl | (simp; done) | (simp [*]; done)), H', ⟨by first | omega | exact Nat.le_refl _⟩, ⟨by (with_reducible repeat (first | refine bN_ ?_ _ | refine bD_ ?_ | refine bA_ ?_ _)); exact BK101.out⟩, ⟨by repeat (first | (with_reducible first | exact HB.out | apply lA_ | apply lN_ | apply l1_ | refine below_set ?_ GE101.out) | exact HB.out)⟩⟩
  case rest =>
    clear HC2
    try clear c2
    try clear p2
    try clear c4
    try clear c4b0
    try clear c4b1
    try clear c6
    try clear c6b0
    try clear c6b1
    try clear hcz5_0
    try clear hcz5_1
    try clear hcz5_2
    try clear hcz5_3
    try clear hcz5_4
    try clear hcz5_5
    try clear hcz5_6
    try clear hcz5_7
    try clear hcz5_8
    try clear hcz5_9
    try clear hcz7_0
    try clear hcz7_1
    try clear hcz7_2
    try clear hcz7_3
    try clear hcz7_4
    try clear hcz7_5
    try clear hcz7_6
    try clear hcz7_7
    try clear hcz7_8
    try clear hcz7_9
    try clear hcz8_0
    try clear hcz8_1
    try clear hcz8_2
    try clear hcz8_3
    try clear hcz8_4
    try clear hcz8_5
    try clear hcz8_6
    try clear hcz8_7
    try clear hcz8_8
    try clear hcz8_9
    try clear hfz5_0
    try clear hfz5_1
    try clear hfz5_2
    try clear hfz5_3
    try clear hfz5_4
    try clear hfz5_5
    try clear hfz5_6
    try clear hfz5_7
    try clear hfz5_8
    try clear hfz5_9
    try clear hfz7_0
    try clear hfz7_1
    try clear hfz7_2
    try clear hfz7_3
    try clear hfz7_4
    try clear hfz7_5
    try clear hfz7_6
    try clear hfz7_7
    try clear hfz7_8
    try clear hfz7_9
    try clear hfz8_0
    try clear hfz8_1
    try clear hfz8_2
    try clear hfz8_3
    try clear hfz8_4
    try clear hfz8_5
    try clear hfz8_6
    try clear hfz8_7
    try clear hfz8_8
    try clear hfz8_9
    obtain ⟨kq, x19_1, rfl, HA, HJ1, BK101, HB⟩ := hcut
    cases kq with
    | zero => exact absurd HA.out (by simp [tallyroomlaw06_Far.j0])
    | succ kj1 =>
      have H := HA.out
      clear HA
      simp only [tallyroomlaw06_Far.j0] at H
      by_cases c9 : x19_1 = true
      · subst c9
        have H1 : (some true) = some r := by rw [if_pos rfl] at H; exact H
        clear H
        have H := H1
        clear H1
        obtain rfl := Option.some.inj H
        go_wp2
        go_ret
        exact ⟨by first | rfl | (simp [errW_none, errW_some] <;> rfl) | (simp [*, errW_none, errW_some] <;> rfl), by repeat (first | (with_reducible first | exact HB.out | apply lA_ | apply lN_ | apply l1_ | refine below_set ?_ GE101.out) | exact HB.out)⟩
      · replace c9 := Bool.eq_false_iff.mpr c9
        subst c9
        have H1 : (tallyroomlaw06_Far.l0 kj1 0 a0_0 a0_1 a0_2 a0_3 a0_4 a0_5 a0_6 a0_7 a0_8 l0_9) = some r := by rw [if_neg (show ¬ (false = true) by decide)] at H; exact H
        clear H
        have H := H1
        clear H1
        have H' := Aside0.mk H
        clear H
        go_wp2
        go_loopg [3] kj1 (fun kq v3 w' => ∃ (x3_2 : Int), v3 = .int .i64 x3_2 ∧ Aside0 (tallyroomlaw06_Far.l0 kq x3_2 a0_0 a0_1 a0_2 a0_3 a0_4 a0_5 a0_6 a0_7 a0_8 l0_9 = some r) ∧ Aside0 (kq ≤ kj1) ∧ Aside0 (w'.heap[gb101]? = some (.cells #[.int .u64 a0_0, .int .u64 a0_1, .int .u64 a0_2, .string a0_3, .string a0_4, .int .i64 a0_5, .int .i64 a0_6, .int .u64 a0_7, .int .u64 a0_8, (.slice A0_9 l0_9.length c0_9)] 37 (0, 0))) ∧ Aside0 (Below w.heap.size w w'))
        case atStart => exact ⟨(0), (by first | rfl | (simp; done) | (simp [*]; done)), H', ⟨Nat.le_refl _⟩, ⟨by (with_reducible repeat (first | refine bN_ ?_ _ | refine bD_ ?_ | refine bA_ ?_ _)); exact BK101.out⟩, ⟨by repeat (first | (with_reducible first | exact HB.out | apply lA_ | apply lN_ | apply l1_ | refine below_set ?_ GE101.out) | exact HB.out)⟩⟩
        case round =>
          clear H'
          try clear c2
          try clear p2
          try clear c4
          try clear c4b0
          try clear c4b1
          try clear c6
          try clear c6b0
          try clear c6b1
          try clear c9
          try clear hcz5_0
          try clear hcz5_1
          try clear hcz5_2
          try clear hcz5_3
          try clear hcz5_4
          try clear hcz5_5
          try clear hcz5_6
          try clear hcz5_7
          try clear hcz5_8
          try clear hcz5_9
          try clear hcz7_0
          try clear hcz7_1
          try clear hcz7_2
          try clear hcz7_3
          try clear hcz7_4
          try clear hcz7_5
          try clear hcz7_6
          try clear hcz7_7
          try clear hcz7_8
          try clear hcz7_9
          try clear hcz8_0
          try clear hcz8_1
          try clear hcz8_2
          try clear hcz8_3
          try clear hcz8_4
          try clear hcz8_5
          try clear hcz8_6
          try clear hcz8_7
          try clear hcz8_8
          try clear hcz8_9
          try clear hfz5_0
          try clear hfz5_1
          try clear hfz5_2
          try clear hfz5_3
          try clear hfz5_4
          try clear hfz5_5
          try clear hfz5_6
          try clear hfz5_7
          try clear hfz5_8
          try clear hfz5_9
          try clear hfz7_0
          try clear hfz7_1
          try clear hfz7_2
          try clear hfz7_3
          try clear hfz7_4
          try clear hfz7_5
          try clear hfz7_6
          try clear hfz7_7
          try clear hfz7_8
          try clear hfz7_9
          try clear hfz8_0
          try clear hfz8_1
          try clear hfz8_2
          try clear hfz8_3
          try clear hfz8_4
          try clear hfz8_5
          try clear hfz8_6
          try clear hfz8_7
          try clear hfz8_8
          try clear hfz8_9
          try clear p2
          obtain ⟨x3_2, rfl, HA, HK2, BK101, HB⟩ := hrel
          cases gk with
          | zero => exact absurd HA.out (by simp [tallyroomlaw06_Far.l0])
          | succ k2 =>
            have H := HA.out
            clear HA
            simp only [tallyroomlaw06_Far.l0] at H
            by_cases c10 : x3_2 < (l0_9.length : Int)
            · rw [if_pos c10] at H
              have c10b0 : decide (x3_2 < (l0_9.length : Int)) = true := decide_eq_true c10
              clear c10
              by_cases c11 : 0 ≤ x3_2
              · rw [if_pos c11] at H
                have c11b0 : decide (0 ≤ x3_2) = true := decide_eq_true c11
                clear c11
                by_cases c12 : (((rd_T63 l0_9 x3_2).f0).size : Int) > 300
                · rw [if_pos c12] at H
                  have c12b0 : decide (300 < (((rd_T63 l0_9 x3_2).f0).size : Int)) = true := decide_eq_true c12
                  have c12b1 : decide (300 < ((rd_T63 l0_9 x3_2).f0).size) = true := decide_eq_true (by omega)
                  clear c12
                  obtain rfl := Option.some.inj H
                  have hcz13_0 : wr.cell? ⟨gb101, 0, none⟩ = some (.int .u64 a0_0) := (bc1_ BK101.out 0).trans rfl
                  have hcz13_1 : wr.cell? ⟨gb101, 1, none⟩ = some (.int .u64 a0_1) := (bc1_ BK101.out 1).trans rfl
                  have hcz13_2 : wr.cell? ⟨gb101, 2, none⟩ = some (.int .u64 a0_2) := (bc1_ BK101.out 2).trans rfl
                  have hcz13_3 : wr.cell? ⟨gb101, 3, none⟩ = some (.string a0_3) := (bc1_ BK101.out 3).trans rfl
                  have hcz13_4 : wr.cell? ⟨gb101, 4, none⟩ = some (.string a0_4) := (bc1_ BK101.out 4).trans rfl
                  have hcz13_5 : wr.cell? ⟨gb101, 5, none⟩ = some (.int .i64 a0_5) := (bc1_ BK101.out 5).trans rfl
                  have hcz13_6 : wr.cell? ⟨gb101, 6, none⟩ = some (.int .i64 a0_6) := (bc1_ BK101.out 6).trans rfl
                  have hcz13_7 : wr.cell? ⟨gb101, 7, none⟩ = some (.int .u64 a0_7) := (bc1_ BK101.out 7).trans rfl
                  have hcz13_8 : wr.cell? ⟨gb101, 8, none⟩ = some (.int .u64 a0_8) := (bc1_ BK101.out 8).trans rfl
                  have hcz13_9 : wr.cell? ⟨gb101, 9, none⟩ = some (.slice A0_9 l0_9.length c0_9) := (bc1_ BK101.out 9).trans rfl
                  have hfz13_0 := bf1_ BK101.out 0
                  have hfz13_1 := bf1_ BK101.out 1
                  have hfz13_2 := bf1_ BK101.out 2
                  have hfz13_3 := bf1_ BK101.out 3
                  have hfz13_4 := bf1_ BK101.out 4
                  have hfz13_5 := bf1_ BK101.out 5
                  have hfz13_6 := bf1_ BK101.out 6
                  have hfz13_7 := bf1_ BK101.out 7
                  have hfz13_8 := bf1_ BK101.out 8
                  have hfz13_9 := bf1_ BK101.out 9
                  have p102 : 0 ≤ (x3_2 : Int) := of_decide_eq_true (by first | (with_reducible assumption) | assumption)
                  have q102 : x3_2 < (l0_9.length : Int) := of_decide_eq_true (by first | (with_reducible assumption) | assumption)
                  obtain ⟨ad102, e102, hx102_0, hx102_1, hx102_2, hx102_3⟩ := at_T63 HR0_9.out x3_2 p102 q102
                  cases e102
                  replace hx102_0 := bc_ HB.out hx102_0
                  replace hx102_1 := bc_ HB.out hx102_1
                  replace hx102_2 := bc_ HB.out hx102_2
                  replace hx102_3 := bc_ HB.out hx102_3
                  replace p102 := eq_true p102
                  replace q102 := eq_true q102
                  go_wp2
                  go_ret
                  exact ⟨by first | rfl | (simp [errW_none, errW_some] <;> rfl) | (simp [*, errW_none, errW_some] <;> rfl), by repeat (first | (with_reducible first | exact HB.out | apply lA_ | apply lN_ | apply l1_ | refine below_set ?_ GE101.out) | exact HB.out)⟩
                · rw [if_neg c12] at H
                  have c12b0 : decide (300 < (((rd_T63 l0_9 x3_2).f0).size : Int)) = false := decide_eq_false c12
                  have c12b1 : decide (300 < ((rd_T63 l0_9 x3_2).f0).size) = false := decide_eq_false (by omega)
                  clear c12
                  by_cases c14 : (((rd_T63 l0_9 x3_2).f1.f2).size : Int) > 5000
                  · rw [if_pos c14] at H
                    have c14b0 : decide (5000 < (((rd_T63 l0_9 x3_2).f1.f2).size : Int)) = true := decide_eq_true c14
                    have c14b1 : decide (5000 < ((rd_T63 l0_9 x3_2).f1.f2).size) = true := decide_eq_true (by omega)
                    clear c14
                    obtain rfl := Option.some.inj H
                    have hcz15_0 : wr.cell? ⟨gb101, 0, none⟩ = some (.int .u64 a0_0) := (bc1_ BK101.out 0).trans rfl
                    have hcz15_1 : wr.cell? ⟨gb101, 1, none⟩ = some (.int .u64 a0_1) := (bc1_ BK101.out 1).trans rfl
                    have hcz15_2 : wr.cell? ⟨gb101, 2, none⟩ = some (.int .u64 a0_2) := (bc1_ BK101.out 2).trans rfl
                    have hcz15_3 : wr.cell? ⟨gb101, 3, none⟩ = some (.string a0_3) := (bc1_ BK101.out 3).trans rfl
                    have hcz15_4 : wr.cell? ⟨gb101, 4, none⟩ = some (.string a0_4) := (bc1_ BK101.out 4).trans rfl
                    have hcz15_5 : wr.cell? ⟨gb101, 5, none⟩ = some (.int .i64 a0_5) := (bc1_ BK101.out 5).trans rfl
                    have hcz15_6 : wr.cell? ⟨gb101, 6, none⟩ = some (.int .i64 a0_6) := (bc1_ BK101.out 6).trans rfl
                    have hcz15_7 : wr.cell? ⟨gb101, 7, none⟩ = some (.int .u64 a0_7) := (bc1_ BK101.out 7).trans rfl
                    have hcz15_8 : wr.cell? ⟨gb101, 8, none⟩ = some (.int .u64 a0_8) := (bc1_ BK101.out 8).trans rfl
                    have hcz15_9 : wr.cell? ⟨gb101, 9, none⟩ = some (.slice A0_9 l0_9.length c0_9) := (bc1_ BK101.out 9).trans rfl
                    have hfz15_0 := bf1_ BK101.out 0
                    have hfz15_1 := bf1_ BK101.out 1
                    have hfz15_2 := bf1_ BK101.out 2
                    have hfz15_3 := bf1_ BK101.out 3
                    have hfz15_4 := bf1_ BK101.out 4
                    have hfz15_5 := bf1_ BK101.out 5
                    have hfz15_6 := bf1_ BK101.out 6
                    have hfz15_7 := bf1_ BK101.out 7
                    have hfz15_8 := bf1_ BK101.out 8
                    have hfz15_9 := bf1_ BK101.out 9
                    have p102 : 0 ≤ (x3_2 : Int) := of_decide_eq_true (by first | (with_reducible assumption) | assumption)
                    have q102 : x3_2 < (l0_9.length : Int) := of_decide_eq_true (by first | (with_reducible assumption) | assumption)
                    obtain ⟨ad102, e102, hx102_0, hx102_1, hx102_2, hx102_3⟩ := at_T63 HR0_9.out x3_2 p102 q102
                    cases e102
                    replace hx102_0 := bc_ HB.out hx102_0
                    replace hx102_1 := bc_ HB.out hx102_1
                    replace hx102_2 := bc_ HB.out hx102_2
                    replace hx102_3 := bc_ HB.out hx102_3
                    replace p102 := eq_true p102
                    replace q102 := eq_true q102
                    have p103 : 0 ≤ (x3_2 : Int) := of_decide_eq_true (by first | (with_reducible assumption) | assumption)
                    have q103 : x3_2 < (l0_9.length : Int) := of_decide_eq_true (by first | (with_reducible assumption) | assumption)
                    obtain ⟨ad103, e103, hx103_0, hx103_1, hx103_2, hx103_3⟩ := at_T63 HR0_9.out x3_2 p103 q103
                    obtain rfl : ad102 = ad103 := (by injection e103)
                    replace hx103_0 := bc_ HB.out hx103_0
                    replace hx103_1 := bc_ HB.out hx103_1
                    replace hx103_2 := bc_ HB.out hx103_2
                    replace hx103_3 := bc_ HB.out hx103_3
                    replace p103 := eq_true p103
                    replace q103 := eq_true q103
                    go_wp2
                    go_ret
                    exact ⟨by first | rfl | (simp [errW_none, errW_some] <;> rfl) | (simp [*, errW_none, errW_some] <;> rfl), by repeat (first | (with_reducible first | exact HB.out | apply lA_ | apply lN_ | apply l1_ | refine below_set ?_ GE101.out) | exact HB.out)⟩
                  · rw [if_neg c14] at H
                    have c14b0 : decide (5000 < (((rd_T63 l0_9 x3_2).f1.f2).size : Int)) = false := decide_eq_false c14
                    have c14b1 : decide (5000 < ((rd_T63 l0_9 x3_2).f1.f2).size) = false := decide_eq_false (by omega)
                    clear c14
                    have H' := Aside0.mk H
                    clear H
                    have hcz16_0 : wr.cell? ⟨gb101, 0, none⟩ = some (.int .u64 a0_0) := (bc1_ BK101.out 0).trans rfl
                    have hcz16_1 : wr.cell? ⟨gb101, 1, none⟩ = some (.int .u64 a0_1) := (bc1_ BK101.out 1).trans rfl
                    have hcz16_2 : wr.cell? ⟨gb101, 2, none⟩ = some (.int .u64 a0_2) := (bc1_ BK101.out 2).trans rfl
                    have hcz16_3 : wr.cell? ⟨gb101, 3, none⟩ = some (.string a0_3) := (bc1_ BK101.out 3).trans rfl
                    have hcz16_4 : wr.cell? ⟨gb101, 4, none⟩ = some (.string a0_4) := (bc1_ BK101.out 4).trans rfl
                    have hcz16_5 : wr.cell? ⟨gb101, 5, none⟩ = some (.int .i64 a0_5) := (bc1_ BK101.out 5).trans rfl
                    have hcz16_6 : wr.cell? ⟨gb101, 6, none⟩ = some (.int .i64 a0_6) := (bc1_ BK101.out 6).trans rfl
                    have hcz16_7 : wr.cell? ⟨gb101, 7, none⟩ = some (.int .u64 a0_7) := (bc1_ BK101.out 7).trans rfl
                    have hcz16_8 : wr.cell? ⟨gb101, 8, none⟩ = some (.int .u64 a0_8) := (bc1_ BK101.out 8).trans rfl
                    have hcz16_9 : wr.cell? ⟨gb101, 9, none⟩ = some (.slice A0_9 l0_9.length c0_9) := (bc1_ BK101.out 9).trans rfl
                    have hfz16_0 := bf1_ BK101.out 0
                    have hfz16_1 := bf1_ BK101.out 1
                    have hfz16_2 := bf1_ BK101.out 2
                    have hfz16_3 := bf1_ BK101.out 3
                    have hfz16_4 := bf1_ BK101.out 4
                    have hfz16_5 := bf1_ BK101.out 5
                    have hfz16_6 := bf1_ BK101.out 6
                    have hfz16_7 := bf1_ BK101.out 7
                    have hfz16_8 := bf1_ BK101.out 8
                    have hfz16_9 := bf1_ BK101.out 9
                    have p102 : 0 ≤ (x3_2 : Int) := of_decide_eq_true (by first | (with_reducible assumption) | assumption)
                    have q102 : x3_2 < (l0_9.length : Int) := of_decide_eq_true (by first | (with_reducible assumption) | assumption)
                    obtain ⟨ad102, e102, hx102_0, hx102_1, hx102_2, hx102_3⟩ := at_T63 HR0_9.out x3_2 p102 q102
                    cases e102
                    replace hx102_0 := bc_ HB.out hx102_0
                    replace hx102_1 := bc_ HB.out hx102_1
                    replace hx102_2 := bc_ HB.out hx102_2
                    replace hx102_3 := bc_ HB.out hx102_3
                    replace p102 := eq_true p102
                    replace q102 := eq_true q102
                    have p103 : 0 ≤ (x3_2 : Int) := of_decide_eq_true (by first | (with_reducible assumption) | assumption)
                    have q103 : x3_2 < (l0_9.length : Int) := of_decide_eq_true (by first | (with_reducible assumption) | assumption)
                    obtain ⟨ad103, e103, hx103_0, hx103_1, hx103_2, hx103_3⟩ := at_T63 HR0_9.out x3_2 p103 q103
                    obtain rfl : ad102 = ad103 := (by injection e103)
                    replace hx103_0 := bc_ HB.out hx103_0
                    replace hx103_1 := bc_ HB.out hx103_1
                    replace hx103_2 := bc_ HB.out hx103_2
                    replace hx103_3 := bc_ HB.out hx103_3
                    replace p103 := eq_true p103
                    replace q103 := eq_true q103
                    go_wp2
                    go_roundg k2
                    case measure => have := HJ1.out; have := HK2.out; omega
                    case rel => exact ⟨(wrap64 (x3_2 + 1)), (by first | rfl | (simp; done) | (simp [*]; done)), H', ⟨by have := HJ1.out; have := HK2.out; omega⟩, ⟨by (with_reducible repeat (first | refine bN_ ?_ _ | refine bD_ ?_ | refine bA_ ?_ _)); exact BK101.out⟩, ⟨by repeat (first | (with_reducible first | exact HB.out | apply lA_ | apply lN_ | apply l1_ | refine below_set ?_ GE101.out) | exact HB.out)⟩⟩
              · rw [if_neg c11] at H
                exact absurd H (by simp)
            · rw [if_neg c10] at H
              have c10b0 : decide (x3_2 < (l0_9.length : Int)) = false := decide_eq_false c10
              clear c10
              obtain rfl := Option.some.inj H
              have hcz17_0 : wr.cell? ⟨gb101, 0, none⟩ = some (.int .u64 a0_0) := (bc1_ BK101.out 0).trans rfl
              have hcz17_1 : wr.cell? ⟨gb101, 1, none⟩ = some (.int .u64 a0_1) := (bc1_ BK101.out 1).trans rfl
              have hcz17_2 : wr.cell? ⟨gb101, 2, none⟩ = some (.int .u64 a0_2) := (bc1_ BK101.out 2).trans rfl
              have hcz17_3 : wr.cell? ⟨gb101, 3, none⟩ = some (.string a0_3) := (bc1_ BK101.out 3).trans rfl
              have hcz17_4 : wr.cell? ⟨gb101, 4, none⟩ = some (.string a0_4) := (bc1_ BK101.out 4).trans rfl
              have hcz17_5 : wr.cell? ⟨gb101, 5, none⟩ = some (.int .i64 a0_5) := (bc1_ BK101.out 5).trans rfl
              have hcz17_6 : wr.cell? ⟨gb101, 6, none⟩ = some (.int .i64 a0_6) := (bc1_ BK101.out 6).trans rfl
              have hcz17_7 : wr.cell? ⟨gb101, 7, none⟩ = some (.int .u64 a0_7) := (bc1_ BK101.out 7).trans rfl
              have hcz17_8 : wr.cell? ⟨gb101, 8, none⟩ = some (.int .u64 a0_8) := (bc1_ BK101.out 8).trans rfl
              have hcz17_9 : wr.cell? ⟨gb101, 9, none⟩ = some (.slice A0_9 l0_9.length c0_9) := (bc1_ BK101.out 9).trans rfl
              have hfz17_0 := bf1_ BK101.out 0
              have hfz17_1 := bf1_ BK101.out 1
              have hfz17_2 := bf1_ BK101.out 2
              have hfz17_3 := bf1_ BK101.out 3
              have hfz17_4 := bf1_ BK101.out 4
              have hfz17_5 := bf1_ BK101.out 5
              have hfz17_6 := bf1_ BK101.out 6
              have hfz17_7 := bf1_ BK101.out 7
              have hfz17_8 := bf1_ BK101.out 8
              have hfz17_9 := bf1_ BK101.out 9
              go_wp2
              go_ret
              exact ⟨by first | rfl | (simp [errW_none, errW_some] <;> rfl) | (simp [*, errW_none, errW_some] <;> rfl), by repeat (first | (with_reducible first | exact HB.out | apply lA_ | apply lN_ | apply l1_ | refine below_set ?_ GE101.out) | exact HB.out)⟩
end Go.Proofs.Ytllepjhimkogjaa.XSf
