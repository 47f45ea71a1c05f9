-- Made by a program of this session (xprint.py), over the translation; Lean checks it.
import Derived.Test.YtfgpcoocbblkiaaXSvx0
namespace Go.Proofs.Ytfgpcoocbblkiaa.XSv
open Go.RowKit Go.Proofs.YtfgpcoocbblkiaaW.PrintWords Go.Proofs.YtfgpcoocbblkiaaW.PrintLast Go.Proofs.YtfgpcoocbblkiaaW.PrintMore
attribute [local go_sem] max2_int min2_int max_two min_two max_three min_three max_four min_four   -- for this text's walks alone
set_option linter.unusedVariables false
set_option linter.unusedSimpArgs false

/-! ### tallyroomref01_Get: function 48 -/
mutual
def tallyroomref01_Get.l0 : Nat → List Int → Int → Int → Int → Option (Int × Int × Int)
  | 0, _, _, _, _ => none
  | k + 1, x0, x5, x6, x7 => if x7 < (x0.length : Int) then (if 0 ≤ x7 then (if x7 = 10 then (tallyroomref01_Get.j1 k x0 x5 x6 x7 (IntKind.u64.wrap (Int.tmod (rd x0 x7) 128)) true) else (if x7 = 9 then (tallyroomref01_Get.j1 k x0 x5 x6 x7 (IntKind.u64.wrap (Int.tmod (rd x0 x7) 128)) (decide ((IntKind.u64.wrap (Int.tmod (rd x0 x7) 128)) > 1))) else (tallyroomref01_Get.j1 k x0 x5 x6 x7 (IntKind.u64.wrap (Int.tmod (rd x0 x7) 128)) false))) else (none)) else (some (0, 0, 10))
def tallyroomref01_Get.j1 : Nat → List Int → Int → Int → Int → Int → Bool → Option (Int × Int × Int)
  | 0, _, _, _, _, _, _ => none
  | k + 1, x0, x5, x6, x7, x8, x30 => if x30 = true then (some (0, 0, 11)) else (if 0 ≤ x7 then (if x7 < (x0.length : Int) then (if (rd x0 x7) < 128 then (if x7 > 0 then (if (rd x0 x7) = 0 then (some (0, 0, 11)) else (some (IntKind.u64.wrap (x5 + (IntKind.u64.wrap (x8 * x6))), wrap64 (x7 + 1), 0))) else (some (IntKind.u64.wrap (x5 + (IntKind.u64.wrap (x8 * x6))), wrap64 (x7 + 1), 0))) else (tallyroomref01_Get.l0 k x0 (IntKind.u64.wrap (x5 + (IntKind.u64.wrap (x8 * x6)))) (IntKind.u64.wrap (x6 * 128)) (wrap64 (x7 + 1)))) else (none)) else (none))
end
def tallyroomref01_Get.f (k : Nat) (l0 : List Int) : Option (Int × Int × Int) := tallyroomref01_Get.l0 k l0 0 1 0
theorem tallyroomref01_Get.mono_l : ∀ k, (∀ y0 y1 y2 y3, LeO (tallyroomref01_Get.l0 k y0 y1 y2 y3) (tallyroomref01_Get.l0 (k + 1) y0 y1 y2 y3)) ∧ (∀ y0 y1 y2 y3 y4 y5, LeO (tallyroomref01_Get.j1 k y0 y1 y2 y3 y4 y5) (tallyroomref01_Get.j1 (k + 1) y0 y1 y2 y3 y4 y5))
  | 0 => ⟨fun _ _ _ _ r h => by simp [tallyroomref01_Get.l0] at h, fun _ _ _ _ _ _ r h => by simp [tallyroomref01_Get.j1] at h⟩
  | k + 1 => by
    obtain ⟨ih0, ih1⟩ := tallyroomref01_Get.mono_l k
    refine ⟨?_, ?_⟩
    · intro y0 y1 y2 y3
      unfold tallyroomref01_Get.l0
      repeat' first
      | (with_reducible exact ih0 _ _ _ _)
      | (with_reducible exact ih1 _ _ _ _ _ _)
      | (with_reducible exact LeO.refl _)
      | (with_reducible exact LeO.none _)
      | (with_reducible refine LeO.ite ?_ ?_)
      | (with_reducible refine LeO.bind ?_ (fun _ => ?_))
      | exact ih0 _ _ _ _
      | exact ih1 _ _ _ _ _ _
      | exact LeO.none _
      | refine LeO.ite ?_ ?_
      | refine LeO.bind ?_ (fun _ => ?_)
    · intro y0 y1 y2 y3 y4 y5
      unfold tallyroomref01_Get.j1
      repeat' first
      | (with_reducible exact ih0 _ _ _ _)
      | (with_reducible exact ih1 _ _ _ _ _ _)
      | (with_reducible exact LeO.refl _)
      | (with_reducible exact LeO.none _)
      | (with_reducible refine LeO.ite ?_ ?_)
      | (with_reducible refine LeO.bind ?_ (fun _ => ?_))
      | exact ih0 _ _ _ _
      | exact ih1 _ _ _ _ _ _
      | exact LeO.none _
      | refine LeO.ite ?_ ?_
      | refine LeO.bind ?_ (fun _ => ?_)
theorem tallyroomref01_Get.mono : ∀ a0 k, LeO (tallyroomref01_Get.f k a0) (tallyroomref01_Get.f (k + 1) a0) := by
  intro a0 k
  obtain ⟨ih0, ih1⟩ := tallyroomref01_Get.mono_l k
  unfold tallyroomref01_Get.f
  repeat' first
      | (with_reducible exact ih0 _ _ _ _)
      | (with_reducible exact ih1 _ _ _ _ _ _)
      | (with_reducible exact LeO.refl _)
      | (with_reducible exact LeO.none _)
      | (with_reducible refine LeO.ite ?_ ?_)
      | (with_reducible refine LeO.bind ?_ (fun _ => ?_))
      | exact ih0 _ _ _ _
      | exact ih1 _ _ _ _ _ _
      | exact LeO.none _
      | refine LeO.ite ?_ ?_
      | refine LeO.bind ?_ (fun _ => ?_)
set_option maxHeartbeats 8000000 in
set_option maxRecDepth 100000 in
theorem tallyroomref01_Get.calls (k : Nat) (A0 : Option Addr) (c0 : Nat) (l0 : List Int) (r1 : Int) (r2 : Int) (r3 : Int) (w : World) (hr0 : Kd.C (Kd.int .u8) w A0 l0.length l0) (hc0 : l0.length ≤ c0) (h : tallyroomref01_Get.f k l0 = some (r1, r2, r3)) :
    Calls Try.prog 48 #[.slice A0 l0.length c0] w fun e w' => e = .returned (.tuple #[.int .u64 r1, .int .i64 r2, .int .i64 r3]) ∧ Drawn0 w w' := by
  have HR0 := Aside0.mk hr0
  have HC0 := Aside0.mk hc0
  clear hr0 hc0
  have H : (tallyroomref01_Get.l0 k l0 0 1 0) = some (r1, r2, r3) := h
  clear h
  have H' := Aside0.mk H
  clear H
  go_enter Try.func48, Try.ntmps48
  go_wp2
  go_loopg [5, 6, 7] k (fun kq v5 v6 v7 w' => ∃ (x5_1 : Int) (x6_1 : Int) (x7_1 : Int), v5 = .int .u64 x5_1 ∧ v6 = .int .u64 x6_1 ∧ v7 = .int .i64 x7_1 ∧ Aside0 (tallyroomref01_Get.l0 kq l0 x5_1 x6_1 x7_1 = some (r1, r2, r3)) ∧ Aside0 (kq ≤ k) ∧ Drawn0 w w')
  case atStart => exact ⟨(0), (1), (0), (by first | rfl | (simp; done) | (simp [*]; done)), (by first | rfl | (simp; done) | (simp [*]; done)), (by first | rfl | (simp; done) | (simp [*]; done)), H', ⟨Nat.le_refl _⟩, by repeat (first | exact Drawn0.refl _ | apply Drawn0.step)⟩
  case round =>
    clear H'
    obtain ⟨x5_1, x6_1, x7_1, rfl, rfl, rfl, HA, HK1, ⟨m1, rfl⟩⟩ := hrel
    cases gk with
    | zero => exact absurd HA.out (by simp [tallyroomref01_Get.l0])
    | succ k1 =>
      have H := HA.out
      clear HA
      simp only [tallyroomref01_Get.l0] at H
      by_cases c2 : x7_1 < (l0.length : Int)
      · rw [if_pos c2] at H
        have c2b0 : decide (x7_1 < (l0.length : Int)) = true := decide_eq_true c2
        clear c2
        by_cases c3 : 0 ≤ x7_1
        · rw [if_pos c3] at H
          have c3b0 : decide (0 ≤ x7_1) = true := decide_eq_true c3
          clear c3
          have HC4 := Aside0.mk H
          clear H
          have p143 : 0 ≤ (x7_1 : Int) := of_decide_eq_true (by first | (with_reducible assumption) | assumption)
          have q143 : x7_1 < (l0.length : Int) := of_decide_eq_true (by first | (with_reducible assumption) | assumption)
          obtain ⟨ad143, e143, hx143_0⟩ := Kd.at_int HR0.out x7_1 p143 q143
          cases e143
          replace p143 := eq_true p143
          replace q143 := eq_true q143
          go_upto_region 7 with (fail)
          go_cut [30] (fun v30 wc => ∃ (kq : Nat) (x30_3 : Bool), v30 = .bool x30_3 ∧ Aside0 (tallyroomref01_Get.j1 kq l0 x5_1 x6_1 x7_1 (IntKind.u64.wrap (Int.tmod (rd l0 x7_1) 128)) x30_3 = some (r1, r2, r3)) ∧ Aside0 (kq ≤ k1) ∧ Drawn0 w wc)
          case first =>
            have H := HC4.out
            clear HC4
            by_cases c5 : x7_1 = 10
            · rw [if_pos c5] at H
              have c5b0 : (x7_1 == 10) = true := beq_iff_eq.mpr c5
              have c5b1 : (x7_1 != 10) = false := bne_eq_false_iff_eq.mpr c5
              clear c5
              (first | rw [c5b0] | (simp only [i64_w, i32_w]; rw [c5b0]) | skip)
              have H' := Aside0.mk H
              clear H
              go_wp2
              go_meet
              case rel => exact ⟨_, (true), (by first | rfl | (simp; done) | (simp [*]; done)), H', ⟨by have := HK1.out; first | omega | exact Nat.le_refl _⟩, by repeat (first | exact Drawn0.refl _ | apply Drawn0.step)⟩
            · rw [if_neg c5] at H
              have c5b0 : (x7_1 == 10) = false := beq_eq_false_iff_ne.mpr c5
              have c5b1 : (x7_1 != 10) = true := bne_iff_ne.mpr c5
              (first | rw [c5b0] | (simp only [i64_w, i32_w]; rw [c5b0]) | skip)
              by_cases c6 : x7_1 = 9
              · rw [if_pos c6] at H
                have c6b0 : (x7_1 == 9) = true := beq_iff_eq.mpr c6
                have c6b1 : (x7_1 != 9) = false := bne_eq_false_iff_eq.mpr c6
                clear c6
                have H' := Aside0.mk H
                clear H
                go_wp2
                go_meet
                case rel => exact ⟨_, (decide ((IntKind.u64.wrap (Int.tmod (rd l0 x7_1) 128)) > 1)), (by first | rfl | (simp; done) | (simp [*]; done)), H', ⟨by have := HK1.out; first | omega | exact Nat.le_refl _⟩, by repeat (first | exact Drawn0.refl _ | apply Drawn0.step)⟩
              · rw [if_neg c6] at H
                have c6b0 : (x7_1 == 9) = false := beq_eq_false_iff_ne.mpr c6
                have c6b1 : (x7_1 != 9) = true := bne_iff_ne.mpr c6
                have H' := Aside0.mk H
                clear H
                go_wp2
                go_meet
                case rel => exact ⟨_, (false), (by first | rfl | (simp; done) | (simp [*]; done)), H', ⟨by have := HK1.out; first | omega | exact Nat.le_refl _⟩, by repeat (first | exact Drawn0.refl _ | apply Drawn0.step)⟩
          case rest =>
            clear HC4
            try clear p1
            try clear q1
            try clear hx1
            try clear c2
            try clear c2b0
            try clear p2
            try clear c3
            try clear c3b0
            try clear c4
            try clear c5
            try clear c5b0
            try clear c5b1
            try clear c6
            try clear c6b0
            try clear c6b1
            try clear hx143_0
            try clear p143
            try clear q143
            obtain ⟨kq, x30_3, rfl, HA, HJ3, ⟨mc3, rfl⟩⟩ := hcut
            cases kq with
            | zero => exact absurd HA.out (by simp [tallyroomref01_Get.j1])
            | succ kj3 =>
              have H := HA.out
              clear HA
              simp only [tallyroomref01_Get.j1] at H
              by_cases c7 : x30_3 = true
              · subst c7
                have H1 : (some (0, 0, 11)) = some (r1, r2, r3) := by rw [if_pos rfl] at H; exact H
                clear H
                have H := H1
                clear H1
                simp only [Option.some.injEq, Prod.mk.injEq] at H
                obtain ⟨rfl, rfl, rfl⟩ := H
                go_wp2
                go_ret3
                exact ⟨by first | rfl | (simp; done) | (simp [*]; done), by repeat (first | exact Drawn0.refl _ | apply Drawn0.step)⟩
              · replace c7 := Bool.eq_false_iff.mpr c7
                subst c7
                have H1 : (if 0 ≤ x7_1 then (if x7_1 < (l0.length : Int) then (if (rd l0 x7_1) < 128 then (if x7_1 > 0 then (if (rd l0 x7_1) = 0 then (some (0, 0, 11)) else (some (IntKind.u64.wrap (x5_1 + (IntKind.u64.wrap ((IntKind.u64.wrap (Int.tmod (rd l0 x7_1) 128)) * x6_1))), wrap64 (x7_1 + 1), 0))) else (some (IntKind.u64.wrap (x5_1 + (IntKind.u64.wrap ((IntKind.u64.wrap (Int.tmod (rd l0 x7_1) 128)) * x6_1))), wrap64 (x7_1 + 1), 0))) else (tallyroomref01_Get.l0 kj3 l0 (IntKind.u64.wrap (x5_1 + (IntKind.u64.wrap ((IntKind.u64.wrap (Int.tmod (rd l0 x7_1) 128)) * x6_1)))) (IntKind.u64.wrap (x6_1 * 128)) (wrap64 (x7_1 + 1)))) else (none)) else (none)) = some (r1, r2, r3) := by rw [if_neg (show ¬ (false = true) by decide)] at H; exact H
                clear H
                have H := H1
                clear H1
                by_cases c8 : 0 ≤ x7_1
                · rw [if_pos c8] at H
                  have c8b0 : decide (0 ≤ x7_1) = true := decide_eq_true c8
                  clear c8
                  by_cases c9 : x7_1 < (l0.length : Int)
                  · rw [if_pos c9] at H
                    have c9b0 : decide (x7_1 < (l0.length : Int)) = true := decide_eq_true c9
                    clear c9
                    by_cases c10 : (rd l0 x7_1) < 128
                    · rw [if_pos c10] at H
                      have c10b0 : decide ((rd l0 x7_1) < 128) = true := decide_eq_true c10
                      clear c10
                      by_cases c11 : x7_1 > 0
                      · rw [if_pos c11] at H
                        have c11b0 : decide (0 < x7_1) = true := decide_eq_true c11
                        clear c11
                        by_cases c12 : (rd l0 x7_1) = 0
                        · rw [if_pos c12] at H
                          have c12b0 : ((rd l0 x7_1) == 0) = true := beq_iff_eq.mpr c12
                          have c12b1 : ((rd l0 x7_1) != 0) = false := bne_eq_false_iff_eq.mpr c12
                          clear c12
                          simp only [Option.some.injEq, Prod.mk.injEq] at H
                          obtain ⟨rfl, rfl, rfl⟩ := H
                          have p144 : 0 ≤ (x7_1 : Int) := of_decide_eq_true (by first | (with_reducible assumption) | assumption)
                          have q144 : x7_1 < (l0.length : Int) := of_decide_eq_true (by first | (with_reducible assumption) | assumption)
                          obtain ⟨ad144, e144, hx144_0⟩ := Kd.at_int HR0.out x7_1 p144 q144
                          obtain rfl : ad143 = ad144 := (by injection e144)
                          replace p144 := eq_true p144
                          replace q144 := eq_true q144
                          have p145 : 0 ≤ (x7_1 : Int) := of_decide_eq_true (by first | (with_reducible assumption) | assumption)
                          have q145 : x7_1 < (l0.length : Int) := of_decide_eq_true (by first | (with_reducible assumption) | assumption)
                          obtain ⟨ad145, e145, hx145_0⟩ := Kd.at_int HR0.out x7_1 p145 q145
                          obtain rfl : ad143 = ad145 := (by injection e145)
                          replace p145 := eq_true p145
                          replace q145 := eq_true q145
                          go_wp2
                          go_ret3
                          exact ⟨by first | rfl | (simp; done) | (simp [*]; done), by repeat (first | exact Drawn0.refl _ | apply Drawn0.step)⟩
                        · rw [if_neg c12] at H
                          have c12b0 : ((rd l0 x7_1) == 0) = false := beq_eq_false_iff_ne.mpr c12
                          have c12b1 : ((rd l0 x7_1) != 0) = true := bne_iff_ne.mpr c12
                          simp only [Option.some.injEq, Prod.mk.injEq] at H
                          obtain ⟨rfl, rfl, rfl⟩ := H
                          have p144 : 0 ≤ (x7_1 : Int) := of_decide_eq_true (by first | (with_reducible assumption) | assumption)
                          have q144 : x7_1 < (l0.length : Int) := of_decide_eq_true (by first | (with_reducible assumption) | assumption)
                          obtain ⟨ad144, e144, hx144_0⟩ := Kd.at_int HR0.out x7_1 p144 q144
                          obtain rfl : ad143 = ad144 := (by injection e144)
                          replace p144 := eq_true p144
                          replace q144 := eq_true q144
                          have p145 : 0 ≤ (x7_1 : Int) := of_decide_eq_true (by first | (with_reducible assumption) | assumption)
                          have q145 : x7_1 < (l0.length : Int) := of_decide_eq_true (by first | (with_reducible assumption) | assumption)
                          obtain ⟨ad145, e145, hx145_0⟩ := Kd.at_int HR0.out x7_1 p145 q145
                          obtain rfl : ad143 = ad145 := (by injection e145)
                          replace p145 := eq_true p145
                          replace q145 := eq_true q145
                          go_wp2
                          go_ret3
                          exact ⟨by first | rfl | (simp; done) | (simp [*]; done), by repeat (first | exact Drawn0.refl _ | apply Drawn0.step)⟩
                      · rw [if_neg c11] at H
                        have c11b0 : decide (0 < x7_1) = false := decide_eq_false c11
                        clear c11
                        simp only [Option.some.injEq, Prod.mk.injEq] at H
                        obtain ⟨rfl, rfl, rfl⟩ := H
                        have p144 : 0 ≤ (x7_1 : Int) := of_decide_eq_true (by first | (with_reducible assumption) | assumption)
                        have q144 : x7_1 < (l0.length : Int) := of_decide_eq_true (by first | (with_reducible assumption) | assumption)
                        obtain ⟨ad144, e144, hx144_0⟩ := Kd.at_int HR0.out x7_1 p144 q144
                        obtain rfl : ad143 = ad144 := (by injection e144)
                        replace p144 := eq_true p144
                        replace q144 := eq_true q144
                        go_wp2
                        go_ret3
                        exact ⟨by first | rfl | (simp; done) | (simp [*]; done), by repeat (first | exact Drawn0.refl _ | apply Drawn0.step)⟩
                    · rw [if_neg c10] at H
                      have c10b0 : decide ((rd l0 x7_1) < 128) = false := decide_eq_false c10
                      clear c10
                      have H' := Aside0.mk H
                      clear H
                      have p144 : 0 ≤ (x7_1 : Int) := of_decide_eq_true (by first | (with_reducible assumption) | assumption)
                      have q144 : x7_1 < (l0.length : Int) := of_decide_eq_true (by first | (with_reducible assumption) | assumption)
                      obtain ⟨ad144, e144, hx144_0⟩ := Kd.at_int HR0.out x7_1 p144 q144
                      obtain rfl : ad143 = ad144 := (by injection e144)
                      replace p144 := eq_true p144
                      replace q144 := eq_true q144
                      go_wp2
                      go_roundg kj3
                      case measure => have := HK1.out; have := HJ3.out; omega
                      case rel => exact ⟨(IntKind.u64.wrap (x5_1 + (IntKind.u64.wrap ((IntKind.u64.wrap (Int.tmod (rd l0 x7_1) 128)) * x6_1)))), (IntKind.u64.wrap (x6_1 * 128)), (wrap64 (x7_1 + 1)), (by first | rfl | (simp; done) | (simp [*]; done)), (by first | rfl | (simp; done) | (simp [*]; done)), (by first | rfl | (simp; done) | (simp [*]; done)), H', ⟨by have := HK1.out; have := HJ3.out; omega⟩, by repeat (first | exact Drawn0.refl _ | apply Drawn0.step)⟩
                  · rw [if_neg c9] at H
                    exact absurd H (by simp)
                · rw [if_neg c8] at H
                  exact absurd H (by simp)
        · rw [if_neg c3] at H
          exact absurd H (by simp)
      · rw [if_neg c2] at H
        have c2b0 : decide (x7_1 < (l0.length : Int)) = false := decide_eq_false c2
        clear c2
        simp only [Option.some.injEq, Prod.mk.injEq] at H
        obtain ⟨rfl, rfl, rfl⟩ := H
        go_wp2
        go_ret3
        exact ⟨by first | rfl | (simp; done) | (simp [*]; done), by repeat (first | exact Drawn0.refl _ | apply Drawn0.step)⟩

end Go.Proofs.Ytfgpcoocbblkiaa.XSv
