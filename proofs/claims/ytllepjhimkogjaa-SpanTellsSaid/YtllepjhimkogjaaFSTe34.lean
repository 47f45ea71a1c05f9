/- The law's proof, part 34: the text XXx18 of this session, or words printed for this seat; what the theorem doesn't use is left out. No conditions. -/
import Derived.Test.YtllepjhimkogjaaFSTe7
import Derived.Test.YtllepjhimkogjaaFSTe33
namespace Go.Proofs.YtllepjhimkogjaaW.PrintLast
end Go.Proofs.YtllepjhimkogjaaW.PrintLast
namespace Go.Proofs.YtllepjhimkogjaaW.PrintMore
end Go.Proofs.YtllepjhimkogjaaW.PrintMore
namespace Go.Proofs.YtllepjhimkogjaaW.PrintWords
end Go.Proofs.YtllepjhimkogjaaW.PrintWords
namespace Go.Proofs.Ytllepjhimkogjaa.XX
open Go.RowKit Go.Proofs.YtllepjhimkogjaaW.PrintWords Go.Proofs.YtllepjhimkogjaaW.PrintLast Go.Proofs.YtllepjhimkogjaaW.PrintMore
set_option linter.unusedVariables false
set_option linter.unusedSimpArgs false
mutual
def tallyroomref03_Rune.j2 : Nat → ByteArray → Int → Int → Int → Option (Int × Int × Bool)
  | 0, _, _, _, _ => none
  | k + 1, x0, x6, x7, x8 => if (x0.size : Int) < x6 then (some (65533, 1, false)) else (tallyroomref03_Rune.l0 k x0 x6 x7 x8 1)
def tallyroomref03_Rune.l0 : Nat → ByteArray → Int → Int → Int → Int → Option (Int × Int × Bool)
  | 0, _, _, _, _, _ => none
  | k + 1, x0, x6, x7, x8, x9 => if x9 < x6 then (if 0 ≤ x9 then (if x9 < (x0.size : Int) then (if (bt x0 x9) < 128 then (some (65533, 1, false)) else (if (bt x0 x9) > 191 then (some (65533, 1, false)) else (tallyroomref03_Rune.l0 k x0 x6 x7 (wrap64 ((wrap64 ((wrap64 (x8 * 64)) + (wrap64 (bt x0 x9)))) - 128)) (wrap64 (x9 + 1))))) else (none)) else (none)) else (if x8 < x7 then (some (65533, 1, false)) else (if x8 > 1114111 then (some (65533, 1, false)) else (if x8 ≥ 55296 then (if x8 < 57344 then (some (65533, 1, false)) else (some (x8, x6, true))) else (some (x8, x6, true)))))
def tallyroomref03_Rune.j0 : Nat → ByteArray → Int → Bool → Option (Int × Int × Bool)
  | 0, _, _, _ => none
  | k + 1, x0, x5, x16 => if x16 = true then (tallyroomref03_Rune.j2 k x0 2 128 (wrap64 (x5 - 192))) else (if x5 ≥ 224 then (tallyroomref03_Rune.j1 k x0 x5 (decide (x5 < 240))) else (tallyroomref03_Rune.j1 k x0 x5 false))
def tallyroomref03_Rune.j1 : Nat → ByteArray → Int → Bool → Option (Int × Int × Bool)
  | 0, _, _, _ => none
  | k + 1, x0, x5, x25 => if x25 = true then (tallyroomref03_Rune.j2 k x0 3 2048 (wrap64 (x5 - 224))) else (if x5 ≥ 240 then (if x5 < 245 then (tallyroomref03_Rune.j2 k x0 4 65536 (wrap64 (x5 - 240))) else (some (65533, 1, false))) else (some (65533, 1, false)))
end
def tallyroomref03_Rune.f (k : Nat) (a0 : ByteArray) : Option (Int × Int × Bool) := if 0 < (a0.size : Int) then (if (wrap64 (bt a0 0)) ≥ 128 then (if (wrap64 (bt a0 0)) ≥ 194 then (tallyroomref03_Rune.j0 k a0 (wrap64 (bt a0 0)) (decide ((wrap64 (bt a0 0)) < 224))) else (tallyroomref03_Rune.j0 k a0 (wrap64 (bt a0 0)) false)) else (tallyroomref03_Rune.j2 k a0 1 0 (wrap64 (bt a0 0)))) else (none)
theorem tallyroomref03_Rune.mono_l : ∀ k, (∀ y0 y1 y2 y3, LeO (tallyroomref03_Rune.j2 k y0 y1 y2 y3) (tallyroomref03_Rune.j2 (k + 1) y0 y1 y2 y3)) ∧ (∀ y0 y1 y2 y3 y4, LeO (tallyroomref03_Rune.l0 k y0 y1 y2 y3 y4) (tallyroomref03_Rune.l0 (k + 1) y0 y1 y2 y3 y4)) ∧ (∀ y0 y1 y2, LeO (tallyroomref03_Rune.j0 k y0 y1 y2) (tallyroomref03_Rune.j0 (k + 1) y0 y1 y2)) ∧ (∀ y0 y1 y2, LeO (tallyroomref03_Rune.j1 k y0 y1 y2) (tallyroomref03_Rune.j1 (k + 1) y0 y1 y2))
  | 0 => ⟨fun _ _ _ _ r h => by simp [tallyroomref03_Rune.j2] at h, fun _ _ _ _ _ r h => by simp [tallyroomref03_Rune.l0] at h, fun _ _ _ r h => by simp [tallyroomref03_Rune.j0] at h, fun _ _ _ r h => by simp [tallyroomref03_Rune.j1] at h⟩
  | k + 1 => by
    obtain ⟨ih0, ih1, ih2, ih3⟩ := tallyroomref03_Rune.mono_l k
    refine ⟨?_, ?_, ?_, ?_⟩
    · intro y0 y1 y2 y3
      unfold tallyroomref03_Rune.j2
      repeat' first
      | (with_reducible exact ih0 _ _ _ _)
      | (with_reducible exact ih1 _ _ _ _ _)
      | (with_reducible exact ih2 _ _ _)
      | (with_reducible exact ih3 _ _ _)
      | (with_reducible exact LeO.refl _)
      | (with_reducible exact LeO.none _)
      | (with_reducible refine LeO.ite ?_ ?_)
      | (with_reducible refine LeO.bind ?_ (fun _ => ?_))
      | exact ih0 _ _ _ _
      | exact ih1 _ _ _ _ _
      | exact ih2 _ _ _
      | exact ih3 _ _ _
      | exact LeO.none _
      | refine LeO.ite ?_ ?_
      | refine LeO.bind ?_ (fun _ => ?_)
    · intro y0 y1 y2 y3 y4
      unfold tallyroomref03_Rune.l0
      repeat' first
      | (with_reducible exact ih0 _ _ _ _)
      | (with_reducible exact ih1 _ _ _ _ _)
      | (with_reducible exact ih2 _ _ _)
      | (with_reducible exact ih3 _ _ _)
      | (with_reducible exact LeO.refl _)
      | (with_reducible exact LeO.none _)
      | (with_reducible refine LeO.ite ?_ ?_)
      | (with_reducible refine LeO.bind ?_ (fun _ => ?_))
      | exact ih0 _ _ _ _
      | exact ih1 _ _ _ _ _
      | exact ih2 _ _ _
      | exact ih3 _ _ _
      | exact LeO.none _
      | refine LeO.ite ?_ ?_
      | refine LeO.bind ?_ (fun _ => ?_)
    · intro y0 y1 y2
      unfold tallyroomref03_Rune.j0
      repeat' first
      | (with_reducible exact ih0 _ _ _ _)
      | (with_reducible exact ih1 _ _ _ _ _)
      | (with_reducible exact ih2 _ _ _)
      | (with_reducible exact ih3 _ _ _)
      | (with_reducible exact LeO.refl _)
      | (with_reducible exact LeO.none _)
      | (with_reducible refine LeO.ite ?_ ?_)
      | (with_reducible refine LeO.bind ?_ (fun _ => ?_))
      | exact ih0 _ _ _ _
      | exact ih1 _ _ _ _ _
      | exact ih2 _ _ _
      | exact ih3 _ _ _
      | exact LeO.none _
      | refine LeO.ite ?_ ?_
      | refine LeO.bind ?_ (fun _ => ?_)
    · intro y0 y1 y2
      unfold tallyroomref03_Rune.j1
      repeat' first
      | (with_reducible exact ih0 _ _ _ _)
      | (with_reducible exact ih1 _ _ _ _ _)
      | (with_reducible exact ih2 _ _ _)
      | (with_reducible exact ih3 _ _ _)
      | (with_reducible exact LeO.refl _)
      | (with_reducible exact LeO.none _)
      | (with_reducible refine LeO.ite ?_ ?_)
      | (with_reducible refine LeO.bind ?_ (fun _ => ?_))
      | exact ih0 _ _ _ _
      | exact ih1 _ _ _ _ _
      | exact ih2 _ _ _
      | exact ih3 _ _ _
      | exact LeO.none _
      | refine LeO.ite ?_ ?_
      | refine LeO.bind ?_ (fun _ => ?_)
theorem tallyroomref03_Rune.mono : ∀ a0 k, LeO (tallyroomref03_Rune.f k a0) (tallyroomref03_Rune.f (k + 1) a0) := by
  intro a0 k
  obtain ⟨ih0, ih1, ih2, ih3⟩ := tallyroomref03_Rune.mono_l k
  unfold tallyroomref03_Rune.f
  repeat' first
      | (with_reducible exact ih0 _ _ _ _)
      | (with_reducible exact ih1 _ _ _ _ _)
      | (with_reducible exact ih2 _ _ _)
      | (with_reducible exact ih3 _ _ _)
      | (with_reducible exact LeO.refl _)
      | (with_reducible exact LeO.none _)
      | (with_reducible refine LeO.ite ?_ ?_)
      | (with_reducible refine LeO.bind ?_ (fun _ => ?_))
      | exact ih0 _ _ _ _
      | exact ih1 _ _ _ _ _
      | exact ih2 _ _ _
      | exact ih3 _ _ _
      | exact LeO.none _
      | refine LeO.ite ?_ ?_
      | refine LeO.bind ?_ (fun _ => ?_)
set_option maxHeartbeats 8000000 in
set_option maxRecDepth 100000 in
theorem tallyroomref03_Rune.calls (k : Nat) (a0 : ByteArray) (r1 : Int) (r2 : Int) (r3 : Bool) (w : World) (h : tallyroomref03_Rune.f k a0 = some (r1, r2, r3)) :
    Calls Try.prog 75 #[.string a0] w fun e w' => e = .returned (.tuple #[.int .i64 r1, .int .i64 r2, .bool r3]) ∧ Drawn0 w w' := by
  have H : (if 0 < (a0.size : Int) then (if (wrap64 (bt a0 0)) ≥ 128 then (if (wrap64 (bt a0 0)) ≥ 194 then (tallyroomref03_Rune.j0 k a0 (wrap64 (bt a0 0)) (decide ((wrap64 (bt a0 0)) < 224))) else (tallyroomref03_Rune.j0 k a0 (wrap64 (bt a0 0)) false)) else (tallyroomref03_Rune.j2 k a0 1 0 (wrap64 (bt a0 0)))) else (none)) = some (r1, r2, r3) := h
  clear h
  by_cases c2 : 0 < (a0.size : Int)
  · rw [if_pos c2] at H
    have c2b0 : decide (0 < (a0.size : Int)) = true := decide_eq_true c2
    have c2b1 : decide (0 < a0.size) = true := decide_eq_true (by omega)
    clear c2
    have HC4 := Aside0.mk H
    clear H
    have p3 : 0 ≤ (0 : Int) := (by omega)
    have q3 : 0 < a0.size := (by have : (0 : Int) < (a0.size : Int) := of_decide_eq_true (by first | (with_reducible assumption) | assumption); omega)
    have hx3 : ∀ h : 0 < a0.size, ((a0[0]'h).toNat : Int) = bt a0 0 := bt_at a0 0
    clear p3
    have qi3 : (0 < (a0.size : Int)) = True := eq_true (of_decide_eq_true (by first | (with_reducible assumption) | assumption))
    replace q3 := eq_true q3
    go_enter Try.func75, Try.ntmps75
    go_upto_if 15 with (fail)
    go_cut [6, 7, 8] (fun v6 v7 v8 wc => ∃ (kq : Nat) (x6_3 : Int) (x7_3 : Int) (x8_3 : Int), v6 = .int .i64 x6_3 ∧ v7 = .int .i64 x7_3 ∧ v8 = .int .i64 x8_3 ∧ Aside0 (tallyroomref03_Rune.j2 kq a0 x6_3 x7_3 x8_3 = some (r1, r2, r3)) ∧ Aside0 (kq ≤ k) ∧ Drawn0 w wc)
    case first =>
      have H := HC4.out
      clear HC4
      by_cases c5 : (wrap64 (bt a0 0)) ≥ 128
      · rw [if_pos c5] at H
        have c5b0 : decide (128 ≤ (wrap64 (bt a0 0))) = true := decide_eq_true c5
        clear c5
        (first | rw [c5b0] | (simp only [i64_w, i32_w]; rw [c5b0]) | skip)
        have HC6 := Aside0.mk H
        clear H
        go_upto_region 7 with (fail)
        go_cut [16] (fun v16 wc => ∃ (kq : Nat) (x16_5 : Bool), v16 = .bool x16_5 ∧ Aside0 (tallyroomref03_Rune.j0 kq a0 (wrap64 (bt a0 0)) x16_5 = some (r1, r2, r3)) ∧ Aside0 (kq ≤ k) ∧ Drawn0 w wc)
        case first =>
          have H := HC6.out
          clear HC6
          by_cases c7 : (wrap64 (bt a0 0)) ≥ 194
          · rw [if_pos c7] at H
            have c7b0 : decide (194 ≤ (wrap64 (bt a0 0))) = true := decide_eq_true c7
            clear c7
            (first | rw [c7b0] | (simp only [i64_w, i32_w]; rw [c7b0]) | skip)
            have H' := Aside0.mk H
            clear H
            go_wp2
            go_meet
            case rel => exact ⟨_, (decide ((wrap64 (bt a0 0)) < 224)), (by first | rfl | (simp; done) | (simp [*]; done)), H', ⟨by first | omega | exact Nat.le_refl _⟩, by repeat (first | exact Drawn0.refl _ | apply Drawn0.step)⟩
          · rw [if_neg c7] at H
            have c7b0 : decide (194 ≤ (wrap64 (bt a0 0))) = false := decide_eq_false c7
            clear c7
            (first | rw [c7b0] | (simp only [i64_w, i32_w]; rw [c7b0]) | skip)
            have H' := Aside0.mk H
            clear H
            go_wp2
            go_meet
            case rel => exact ⟨_, (false), (by first | rfl | (simp; done) | (simp [*]; done)), H', ⟨by first | omega | exact Nat.le_refl _⟩, by repeat (first | exact Drawn0.refl _ | apply Drawn0.step)⟩
        case rest =>
          clear HC6
          try clear c2
          try clear c2b0
          try clear c2b1
          try clear p2
          try clear p3
          try clear q3
          try clear hx3
          try clear qi3
          try clear c5
          try clear c5b0
          try clear p6
          try clear c7
          try clear c7b0
          try clear p3
          try clear q3
          obtain ⟨kq, x16_5, rfl, HA, HJ5, ⟨mc5, rfl⟩⟩ := hcut
          cases kq with
          | zero => exact absurd HA.out (by simp [tallyroomref03_Rune.j0])
          | succ kj5 =>
            have H := HA.out
            clear HA
            simp only [tallyroomref03_Rune.j0] at H
            by_cases c8 : x16_5 = true
            · subst c8
              have H1 : (tallyroomref03_Rune.j2 kj5 a0 2 128 (wrap64 ((wrap64 (bt a0 0)) - 192))) = some (r1, r2, r3) := by rw [if_pos rfl] at H; exact H
              clear H
              have H := H1
              clear H1
              have H' := Aside0.mk H
              clear H
              go_wp2
              go_meet
              case rel => exact ⟨_, (2), (128), (wrap64 ((wrap64 (bt a0 0)) - 192)), (by first | rfl | (simp; done) | (simp [*]; done)), (by first | rfl | (simp; done) | (simp [*]; done)), (by first | rfl | (simp; done) | (simp [*]; done)), H', ⟨by have := HJ5.out; first | omega | exact Nat.le_refl _⟩, by repeat (first | exact Drawn0.refl _ | apply Drawn0.step)⟩
            · replace c8 := Bool.eq_false_iff.mpr c8
              subst c8
              have H1 : (if (wrap64 (bt a0 0)) ≥ 224 then (tallyroomref03_Rune.j1 kj5 a0 (wrap64 (bt a0 0)) (decide ((wrap64 (bt a0 0)) < 240))) else (tallyroomref03_Rune.j1 kj5 a0 (wrap64 (bt a0 0)) false)) = some (r1, r2, r3) := by rw [if_neg (show ¬ (false = true) by decide)] at H; exact H
              clear H
              have H := H1
              clear H1
              have HC9 := Aside0.mk H
              clear H
              go_upto_region 11 with (fail)
              go_cut [25] (fun v25 wc => ∃ (kq : Nat) (x25_8 : Bool), v25 = .bool x25_8 ∧ Aside0 (tallyroomref03_Rune.j1 kq a0 (wrap64 (bt a0 0)) x25_8 = some (r1, r2, r3)) ∧ Aside0 (kq ≤ kj5) ∧ Drawn0 w wc)
              case first =>
                have H := HC9.out
                clear HC9
                by_cases c10 : (wrap64 (bt a0 0)) ≥ 224
                · rw [if_pos c10] at H
                  have c10b0 : decide (224 ≤ (wrap64 (bt a0 0))) = true := decide_eq_true c10
                  clear c10
                  (first | rw [c10b0] | (simp only [i64_w, i32_w]; rw [c10b0]) | skip)
                  have H' := Aside0.mk H
                  clear H
                  go_wp2
                  go_meet
                  case rel => exact ⟨_, (decide ((wrap64 (bt a0 0)) < 240)), (by first | rfl | (simp; done) | (simp [*]; done)), H', ⟨by have := HJ5.out; first | omega | exact Nat.le_refl _⟩, by repeat (first | exact Drawn0.refl _ | apply Drawn0.step)⟩
                · rw [if_neg c10] at H
                  have c10b0 : decide (224 ≤ (wrap64 (bt a0 0))) = false := decide_eq_false c10
                  clear c10
                  (first | rw [c10b0] | (simp only [i64_w, i32_w]; rw [c10b0]) | skip)
                  have H' := Aside0.mk H
                  clear H
                  go_wp2
                  go_meet
                  case rel => exact ⟨_, (false), (by first | rfl | (simp; done) | (simp [*]; done)), H', ⟨by have := HJ5.out; first | omega | exact Nat.le_refl _⟩, by repeat (first | exact Drawn0.refl _ | apply Drawn0.step)⟩
              case rest =>
                clear HC9
                try clear c1
                try clear c2
                try clear c2b0
                try clear c2b1
                try clear p2
                try clear p3
                try clear q3
                try clear hx3
                try clear qi3
                try clear c5
                try clear c5b0
                try clear p6
                try clear c7
                try clear c7b0
                try clear c8
                try clear c10
                try clear c10b0
                try clear p2
                try clear p3
                try clear p6
                try clear q3
                obtain ⟨kq, x25_8, rfl, HA, HJ8, ⟨mc8, rfl⟩⟩ := hcut
                cases kq with
                | zero => exact absurd HA.out (by simp [tallyroomref03_Rune.j1])
                | succ kj8 =>
                  have H := HA.out
                  clear HA
                  simp only [tallyroomref03_Rune.j1] at H
                  by_cases c11 : x25_8 = true
                  · subst c11
                    have H1 : (tallyroomref03_Rune.j2 kj8 a0 3 2048 (wrap64 ((wrap64 (bt a0 0)) - 224))) = some (r1, r2, r3) := by rw [if_pos rfl] at H; exact H
                    clear H
                    have H := H1
                    clear H1
                    have H' := Aside0.mk H
                    clear H
                    go_wp2
                    go_meet
                    case rel => exact ⟨_, (3), (2048), (wrap64 ((wrap64 (bt a0 0)) - 224)), (by first | rfl | (simp; done) | (simp [*]; done)), (by first | rfl | (simp; done) | (simp [*]; done)), (by first | rfl | (simp; done) | (simp [*]; done)), H', ⟨by have := HJ5.out; have := HJ8.out; first | omega | exact Nat.le_refl _⟩, by repeat (first | exact Drawn0.refl _ | apply Drawn0.step)⟩
                  · replace c11 := Bool.eq_false_iff.mpr c11
                    subst c11
                    have H1 : (if (wrap64 (bt a0 0)) ≥ 240 then (if (wrap64 (bt a0 0)) < 245 then (tallyroomref03_Rune.j2 kj8 a0 4 65536 (wrap64 ((wrap64 (bt a0 0)) - 240))) else (some (65533, 1, false))) else (some (65533, 1, false))) = some (r1, r2, r3) := by rw [if_neg (show ¬ (false = true) by decide)] at H; exact H
                    clear H
                    have H := H1
                    clear H1
                    by_cases c12 : (wrap64 (bt a0 0)) ≥ 240
                    · rw [if_pos c12] at H
                      have c12b0 : decide (240 ≤ (wrap64 (bt a0 0))) = true := decide_eq_true c12
                      clear c12
                      by_cases c13 : (wrap64 (bt a0 0)) < 245
                      · rw [if_pos c13] at H
                        have c13b0 : decide ((wrap64 (bt a0 0)) < 245) = true := decide_eq_true c13
                        clear c13
                        have H' := Aside0.mk H
                        clear H
                        go_wp2
                        go_meet
                        case rel => exact ⟨_, (4), (65536), (wrap64 ((wrap64 (bt a0 0)) - 240)), (by first | rfl | (simp; done) | (simp [*]; done)), (by first | rfl | (simp; done) | (simp [*]; done)), (by first | rfl | (simp; done) | (simp [*]; done)), H', ⟨by have := HJ5.out; have := HJ8.out; first | omega | exact Nat.le_refl _⟩, by repeat (first | exact Drawn0.refl _ | apply Drawn0.step)⟩
                      · rw [if_neg c13] at H
                        have c13b0 : decide ((wrap64 (bt a0 0)) < 245) = false := decide_eq_false c13
                        clear c13
                        simp only [Option.some.injEq, Prod.mk.injEq] at H
                        obtain ⟨rfl, rfl, rfl⟩ := H
                        go_wp2
                        go_ret3
                        exact ⟨by first | rfl | (simp; done) | (simp [*]; done), by repeat (first | exact Drawn0.refl _ | apply Drawn0.step)⟩
                    · rw [if_neg c12] at H
                      have c12b0 : decide (240 ≤ (wrap64 (bt a0 0))) = false := decide_eq_false c12
                      clear c12
                      simp only [Option.some.injEq, Prod.mk.injEq] at H
                      obtain ⟨rfl, rfl, rfl⟩ := H
                      go_wp2
                      go_ret3
                      exact ⟨by first | rfl | (simp; done) | (simp [*]; done), by repeat (first | exact Drawn0.refl _ | apply Drawn0.step)⟩
      · rw [if_neg c5] at H
        have c5b0 : decide (128 ≤ (wrap64 (bt a0 0))) = false := decide_eq_false c5
        clear c5
        (first | rw [c5b0] | (simp only [i64_w, i32_w]; rw [c5b0]) | skip)
        have H' := Aside0.mk H
        clear H
        go_wp2
        go_meet
        case rel => exact ⟨_, (1), (0), (wrap64 (bt a0 0)), (by first | rfl | (simp; done) | (simp [*]; done)), (by first | rfl | (simp; done) | (simp [*]; done)), (by first | rfl | (simp; done) | (simp [*]; done)), H', ⟨by first | omega | exact Nat.le_refl _⟩, by repeat (first | exact Drawn0.refl _ | apply Drawn0.step)⟩
    case rest =>
      clear HC4
      try clear c1
      try clear c2
      try clear c2b0
      try clear c2b1
      try clear p2
      try clear p3
      try clear q3
      try clear hx3
      try clear qi3
      try clear c5
      try clear c5b0
      try clear p6
      try clear c7
      try clear c7b0
      try clear c8
      try clear c10
      try clear c10b0
      try clear c11
      try clear c12
      try clear c12b0
      try clear c13
      try clear c13b0
      try clear p2
      try clear p3
      try clear p6
      try clear q3
      obtain ⟨kq, x6_3, x7_3, x8_3, rfl, rfl, rfl, HA, HJ3, ⟨mc3, rfl⟩⟩ := hcut
      cases kq with
      | zero => exact absurd HA.out (by simp [tallyroomref03_Rune.j2])
      | succ kj3 =>
        have H := HA.out
        clear HA
        simp only [tallyroomref03_Rune.j2] at H
        by_cases c14 : (a0.size : Int) < x6_3
        · rw [if_pos c14] at H
          have c14b0 : decide ((a0.size : Int) < x6_3) = true := decide_eq_true c14
          clear c14
          simp only [Option.some.injEq, Prod.mk.injEq] at H
          obtain ⟨rfl, rfl, rfl⟩ := H
          go_wp2
          go_ret3
          exact ⟨by first | rfl | (simp; done) | (simp [*]; done), by repeat (first | exact Drawn0.refl _ | apply Drawn0.step)⟩
        · rw [if_neg c14] at H
          have c14b0 : decide ((a0.size : Int) < x6_3) = false := decide_eq_false c14
          clear c14
          have H' := Aside0.mk H
          clear H
          go_wp2
          go_loopg [8, 9] kj3 (fun kq v8 v9 w' => ∃ (x8_2 : Int) (x9_2 : Int), v8 = .int .i64 x8_2 ∧ v9 = .int .i64 x9_2 ∧ Aside0 (tallyroomref03_Rune.l0 kq a0 x6_3 x7_3 x8_2 x9_2 = some (r1, r2, r3)) ∧ Aside0 (kq ≤ kj3) ∧ Drawn0 w w')
          case atStart => exact ⟨(x8_3), (1), (by first | rfl | (simp; done) | (simp [*]; done)), (by first | rfl | (simp; done) | (simp [*]; done)), H', ⟨Nat.le_refl _⟩, by repeat (first | exact Drawn0.refl _ | apply Drawn0.step)⟩
          case round =>
            clear H'
            try clear c1
            try clear c2
            try clear c2b0
            try clear c2b1
            try clear p2
            try clear c3
            try clear p3
            try clear q3
            try clear hx3
            try clear qi3
            try clear c5
            try clear c5b0
            try clear p6
            try clear c7
            try clear c7b0
            try clear c8
            try clear c10
            try clear c10b0
            try clear c11
            try clear c12
            try clear c12b0
            try clear c13
            try clear c13b0
            try clear c14
            try clear c14b0
            try clear p2
            try clear p3
            try clear p6
            try clear q3
            obtain ⟨x8_2, x9_2, rfl, rfl, HA, HK2, ⟨m2, rfl⟩⟩ := hrel
            cases gk with
            | zero => exact absurd HA.out (by simp [tallyroomref03_Rune.l0])
            | succ k2 =>
              have H := HA.out
              clear HA
              simp only [tallyroomref03_Rune.l0] at H
              by_cases c15 : x9_2 < x6_3
              · rw [if_pos c15] at H
                have c15b0 : decide (x9_2 < x6_3) = true := decide_eq_true c15
                clear c15
                by_cases c16 : 0 ≤ x9_2
                · rw [if_pos c16] at H
                  have c16b0 : decide (0 ≤ x9_2) = true := decide_eq_true c16
                  clear c16
                  by_cases c17 : x9_2 < (a0.size : Int)
                  · rw [if_pos c17] at H
                    have c17b0 : decide (x9_2 < (a0.size : Int)) = true := decide_eq_true c17
                    clear c17
                    by_cases c19 : (bt a0 x9_2) < 128
                    · rw [if_pos c19] at H
                      have c19b0 : decide ((bt a0 x9_2) < 128) = true := decide_eq_true c19
                      clear c19
                      simp only [Option.some.injEq, Prod.mk.injEq] at H
                      obtain ⟨rfl, rfl, rfl⟩ := H
                      have p18 : 0 ≤ (x9_2 : Int) := of_decide_eq_true (by first | (with_reducible assumption) | assumption)
                      have q18 : x9_2 < (a0.size : Int) := of_decide_eq_true (by first | (with_reducible assumption) | assumption)
                      have hx18 := bt_at a0 x9_2
                      replace p18 := eq_true p18
                      replace q18 := eq_true q18
                      go_wp2
                      go_ret3
                      exact ⟨by first | rfl | (simp; done) | (simp [*]; done), by repeat (first | exact Drawn0.refl _ | apply Drawn0.step)⟩
                    · rw [if_neg c19] at H
                      have c19b0 : decide ((bt a0 x9_2) < 128) = false := decide_eq_false c19
                      clear c19
                      by_cases c21 : (bt a0 x9_2) > 191
                      · rw [if_pos c21] at H
                        have c21b0 : decide (191 < (bt a0 x9_2)) = true := decide_eq_true c21
                        clear c21
                        simp only [Option.some.injEq, Prod.mk.injEq] at H
                        obtain ⟨rfl, rfl, rfl⟩ := H
                        have p18 : 0 ≤ (x9_2 : Int) := of_decide_eq_true (by first | (with_reducible assumption) | assumption)
                        have q18 : x9_2 < (a0.size : Int) := of_decide_eq_true (by first | (with_reducible assumption) | assumption)
                        have hx18 := bt_at a0 x9_2
                        replace p18 := eq_true p18
                        replace q18 := eq_true q18
                        have p20 : 0 ≤ (x9_2 : Int) := of_decide_eq_true (by first | (with_reducible assumption) | assumption)
                        have q20 : x9_2 < (a0.size : Int) := of_decide_eq_true (by first | (with_reducible assumption) | assumption)
                        have hx20 := bt_at a0 x9_2
                        replace p20 := eq_true p20
                        replace q20 := eq_true q20
                        go_wp2
                        go_ret3
                        exact ⟨by first | rfl | (simp; done) | (simp [*]; done), by repeat (first | exact Drawn0.refl _ | apply Drawn0.step)⟩
                      · rw [if_neg c21] at H
                        have c21b0 : decide (191 < (bt a0 x9_2)) = false := decide_eq_false c21
                        clear c21
                        have H' := Aside0.mk H
                        clear H
                        have p18 : 0 ≤ (x9_2 : Int) := of_decide_eq_true (by first | (with_reducible assumption) | assumption)
                        have q18 : x9_2 < (a0.size : Int) := of_decide_eq_true (by first | (with_reducible assumption) | assumption)
                        have hx18 := bt_at a0 x9_2
                        replace p18 := eq_true p18
                        replace q18 := eq_true q18
                        have p20 : 0 ≤ (x9_2 : Int) := of_decide_eq_true (by first | (with_reducible assumption) | assumption)
                        have q20 : x9_2 < (a0.size : Int) := of_decide_eq_true (by first | (with_reducible assumption) | assumption)
                        have hx20 := bt_at a0 x9_2
                        replace p20 := eq_true p20
                        replace q20 := eq_true q20
                        have p22 : 0 ≤ (x9_2 : Int) := of_decide_eq_true (by first | (with_reducible assumption) | assumption)
                        have q22 : x9_2 < (a0.size : Int) := of_decide_eq_true (by first | (with_reducible assumption) | assumption)
                        have hx22 := bt_at a0 x9_2
                        replace p22 := eq_true p22
                        replace q22 := eq_true q22
                        go_wp2
                        go_roundg k2
                        case measure => have := HJ3.out; have := HK2.out; omega
                        case rel => exact ⟨(wrap64 ((wrap64 ((wrap64 (x8_2 * 64)) + (wrap64 (bt a0 x9_2)))) - 128)), (wrap64 (x9_2 + 1)), (by first | rfl | (simp; done) | (simp [*]; done)), (by first | rfl | (simp; done) | (simp [*]; done)), H', ⟨by have := HJ3.out; have := HK2.out; omega⟩, by repeat (first | exact Drawn0.refl _ | apply Drawn0.step)⟩
                  · rw [if_neg c17] at H
                    exact absurd H (by simp)
                · rw [if_neg c16] at H
                  exact absurd H (by simp)
              · rw [if_neg c15] at H
                have c15b0 : decide (x9_2 < x6_3) = false := decide_eq_false c15
                clear c15
                by_cases c23 : x8_2 < x7_3
                · rw [if_pos c23] at H
                  have c23b0 : decide (x8_2 < x7_3) = true := decide_eq_true c23
                  clear c23
                  simp only [Option.some.injEq, Prod.mk.injEq] at H
                  obtain ⟨rfl, rfl, rfl⟩ := H
                  go_wp2
                  go_ret3
                  exact ⟨by first | rfl | (simp; done) | (simp [*]; done), by repeat (first | exact Drawn0.refl _ | apply Drawn0.step)⟩
                · rw [if_neg c23] at H
                  have c23b0 : decide (x8_2 < x7_3) = false := decide_eq_false c23
                  clear c23
                  by_cases c24 : x8_2 > 1114111
                  · rw [if_pos c24] at H
                    have c24b0 : decide (1114111 < x8_2) = true := decide_eq_true c24
                    clear c24
                    simp only [Option.some.injEq, Prod.mk.injEq] at H
                    obtain ⟨rfl, rfl, rfl⟩ := H
                    go_wp2
                    go_ret3
                    exact ⟨by first | rfl | (simp; done) | (simp [*]; done), by repeat (first | exact Drawn0.refl _ | apply Drawn0.step)⟩
                  · rw [if_neg c24] at H
                    have c24b0 : decide (1114111 < x8_2) = false := decide_eq_false c24
                    clear c24
                    by_cases c25 : x8_2 ≥ 55296
                    · rw [if_pos c25] at H
                      have c25b0 : decide (55296 ≤ x8_2) = true := decide_eq_true c25
                      clear c25
                      by_cases c26 : x8_2 < 57344
                      · rw [if_pos c26] at H
                        have c26b0 : decide (x8_2 < 57344) = true := decide_eq_true c26
                        clear c26
                        simp only [Option.some.injEq, Prod.mk.injEq] at H
                        obtain ⟨rfl, rfl, rfl⟩ := H
                        go_wp2
                        go_ret3
                        exact ⟨by first | rfl | (simp; done) | (simp [*]; done), by repeat (first | exact Drawn0.refl _ | apply Drawn0.step)⟩
                      · rw [if_neg c26] at H
                        have c26b0 : decide (x8_2 < 57344) = false := decide_eq_false c26
                        clear c26
                        simp only [Option.some.injEq, Prod.mk.injEq] at H
                        obtain ⟨rfl, rfl, rfl⟩ := H
                        go_wp2
                        go_ret3
                        exact ⟨by first | rfl | (simp; done) | (simp [*]; done), by repeat (first | exact Drawn0.refl _ | apply Drawn0.step)⟩
                    · rw [if_neg c25] at H
                      have c25b0 : decide (55296 ≤ x8_2) = false := decide_eq_false c25
                      clear c25
                      simp only [Option.some.injEq, Prod.mk.injEq] at H
                      obtain ⟨rfl, rfl, rfl⟩ := H
                      go_wp2
                      go_ret3
                      exact ⟨by first | rfl | (simp; done) | (simp [*]; done), by repeat (first | exact Drawn0.refl _ | apply Drawn0.step)⟩
  · rw [if_neg c2] at H
    exact absurd H (by simp)
end Go.Proofs.Ytllepjhimkogjaa.XX
namespace Go.Proofs.Ytllepjhimkogjaa.XX
open Go.RowKit Go.Proofs.YtllepjhimkogjaaW.PrintWords Go.Proofs.YtllepjhimkogjaaW.PrintLast Go.Proofs.YtllepjhimkogjaaW.PrintMore
set_option linter.unusedVariables false
set_option linter.unusedSimpArgs false
def tallyroomref03_Clean.l0 : Nat → ByteArray → ByteArray → Int → Option (ByteArray)
  | 0, _, _, _ => none
  | k + 1, x0, x3, x4 => if x4 < (x0.size : Int) then (if 0 ≤ x4 then (if x4 ≤ (x0.size : Int) then ((tallyroomref03_Rune.f k (x0.extract (x4 : Int).toNat x0.size)).bind fun bt143 => (if bt143.1 < 32 then (if x3.size + 1 ≤ 9223372036854775807 then (tallyroomref03_Clean.l0 k x0 (x3 ++ (⟨#[95]⟩ : ByteArray)) (wrap64 (x4 + bt143.2.1))) else (none)) else (if bt143.1 ≥ 127 then (if bt143.1 < 160 then (if x3.size + 1 ≤ 9223372036854775807 then (tallyroomref03_Clean.l0 k x0 (x3 ++ (⟨#[95]⟩ : ByteArray)) (wrap64 (x4 + bt143.2.1))) else (none)) else (if bt143.1 = 8232 then (if x3.size + 1 ≤ 9223372036854775807 then (tallyroomref03_Clean.l0 k x0 (x3 ++ (⟨#[95]⟩ : ByteArray)) (wrap64 (x4 + bt143.2.1))) else (none)) else (if bt143.1 = 8233 then (if x3.size + 1 ≤ 9223372036854775807 then (tallyroomref03_Clean.l0 k x0 (x3 ++ (⟨#[95]⟩ : ByteArray)) (wrap64 (x4 + bt143.2.1))) else (none)) else (if bt143.1 = 65533 then (if x3.size + 1 ≤ 9223372036854775807 then (tallyroomref03_Clean.l0 k x0 (x3 ++ (⟨#[95]⟩ : ByteArray)) (wrap64 (x4 + bt143.2.1))) else (none)) else (if x4 ≤ (wrap64 (x4 + bt143.2.1)) then (if (wrap64 (x4 + bt143.2.1)) ≤ (x0.size : Int) then (if x3.size + (x0.extract (x4 : Int).toNat ((wrap64 (x4 + bt143.2.1)) : Int).toNat).size ≤ 9223372036854775807 then (tallyroomref03_Clean.l0 k x0 (x3 ++ (x0.extract (x4 : Int).toNat ((wrap64 (x4 + bt143.2.1)) : Int).toNat)) (wrap64 (x4 + bt143.2.1))) else (none)) else (none)) else (none)))))) else (if bt143.1 = 8232 then (if x3.size + 1 ≤ 9223372036854775807 then (tallyroomref03_Clean.l0 k x0 (x3 ++ (⟨#[95]⟩ : ByteArray)) (wrap64 (x4 + bt143.2.1))) else (none)) else (if bt143.1 = 8233 then (if x3.size + 1 ≤ 9223372036854775807 then (tallyroomref03_Clean.l0 k x0 (x3 ++ (⟨#[95]⟩ : ByteArray)) (wrap64 (x4 + bt143.2.1))) else (none)) else (if bt143.1 = 65533 then (if x3.size + 1 ≤ 9223372036854775807 then (tallyroomref03_Clean.l0 k x0 (x3 ++ (⟨#[95]⟩ : ByteArray)) (wrap64 (x4 + bt143.2.1))) else (none)) else (if x4 ≤ (wrap64 (x4 + bt143.2.1)) then (if (wrap64 (x4 + bt143.2.1)) ≤ (x0.size : Int) then (if x3.size + (x0.extract (x4 : Int).toNat ((wrap64 (x4 + bt143.2.1)) : Int).toNat).size ≤ 9223372036854775807 then (tallyroomref03_Clean.l0 k x0 (x3 ++ (x0.extract (x4 : Int).toNat ((wrap64 (x4 + bt143.2.1)) : Int).toNat)) (wrap64 (x4 + bt143.2.1))) else (none)) else (none)) else (none)))))))) else (none)) else (none)) else (some x3)
def tallyroomref03_Clean.f (k : Nat) (a0 : ByteArray) : Option (ByteArray) := tallyroomref03_Clean.l0 k a0 (⟨#[]⟩ : ByteArray) 0
theorem tallyroomref03_Clean.mono_l : ∀ k, (∀ y0 y1 y2, LeO (tallyroomref03_Clean.l0 k y0 y1 y2) (tallyroomref03_Clean.l0 (k + 1) y0 y1 y2))
  | 0 => fun _ _ _ r h => by simp [tallyroomref03_Clean.l0] at h
  | k + 1 => by
    have ih0 := tallyroomref03_Clean.mono_l k
    · intro y0 y1 y2
      unfold tallyroomref03_Clean.l0
      repeat' first
      | (with_reducible exact ih0 _ _ _)
      | (with_reducible exact tallyroomref03_Rune.mono _ _)
      | (with_reducible exact LeO.refl _)
      | (with_reducible exact LeO.none _)
      | (with_reducible refine LeO.ite ?_ ?_)
      | (with_reducible refine LeO.bind ?_ (fun _ => ?_))
      | exact ih0 _ _ _
      | exact tallyroomref03_Rune.mono _ _
      | exact LeO.none _
      | refine LeO.ite ?_ ?_
      | refine LeO.bind ?_ (fun _ => ?_)
theorem tallyroomref03_Clean.mono : ∀ a0 k, LeO (tallyroomref03_Clean.f k a0) (tallyroomref03_Clean.f (k + 1) a0) := by
  intro a0 k
  have ih0 := tallyroomref03_Clean.mono_l k
  unfold tallyroomref03_Clean.f
  repeat' first
      | (with_reducible exact ih0 _ _ _)
      | (with_reducible exact tallyroomref03_Rune.mono _ _)
      | (with_reducible exact LeO.refl _)
      | (with_reducible exact LeO.none _)
      | (with_reducible refine LeO.ite ?_ ?_)
      | (with_reducible refine LeO.bind ?_ (fun _ => ?_))
      | exact ih0 _ _ _
      | exact tallyroomref03_Rune.mono _ _
      | exact LeO.none _
      | refine LeO.ite ?_ ?_
      | refine LeO.bind ?_ (fun _ => ?_)
set_option maxHeartbeats 8000000 in
set_option maxRecDepth 100000 in
theorem tallyroomref03_Clean.calls (k : Nat) (a0 : ByteArray) (r : ByteArray) (w : World) (h : tallyroomref03_Clean.f k a0 = some r) :
    Calls Try.prog 40 #[.string a0] w fun e w' => e = .returned (.string r) ∧ Drawn0 w w' := by
  have H : (tallyroomref03_Clean.l0 k a0 (⟨#[]⟩ : ByteArray) 0) = some r := h
  clear h
  have H' := Aside0.mk H
  clear H
  go_enter Try.func40, Try.ntmps40
  go_wp2
  go_loopg [3, 4] k (fun kq v3 v4 w' => ∃ (x3_1 : ByteArray) (x4_1 : Int), v3 = .string x3_1 ∧ v4 = .int .i64 x4_1 ∧ Aside0 (tallyroomref03_Clean.l0 kq a0 x3_1 x4_1 = some r) ∧ Aside0 (kq ≤ k) ∧ Drawn0 w w')
  case atStart => exact ⟨((⟨#[]⟩ : ByteArray)), (0), (by first | rfl | (simp; done) | (simp [*]; done)), (by first | rfl | (simp; done) | (simp [*]; done)), H', ⟨Nat.le_refl _⟩, by repeat (first | exact Drawn0.refl _ | apply Drawn0.step)⟩
  case round =>
    clear H'
    obtain ⟨x3_1, x4_1, rfl, rfl, HA, HK1, ⟨m1, rfl⟩⟩ := hrel
    cases gk with
    | zero => exact absurd HA.out (by simp [tallyroomref03_Clean.l0])
    | succ k1 =>
      have H := HA.out
      clear HA
      simp only [tallyroomref03_Clean.l0] at H
      by_cases c2 : x4_1 < (a0.size : Int)
      · rw [if_pos c2] at H
        have c2b0 : decide (x4_1 < (a0.size : Int)) = true := decide_eq_true c2
        clear c2
        by_cases c3 : 0 ≤ x4_1
        · rw [if_pos c3] at H
          have c3b0 := eq_true c3
          have c3b1 : decide (0 ≤ x4_1) = true := decide_eq_true c3
          clear c3
          by_cases c4 : x4_1 ≤ (a0.size : Int)
          · rw [if_pos c4] at H
            have c4b0 := eq_true c4
            have c4b1 : decide (x4_1 ≤ (a0.size : Int)) = true := decide_eq_true c4
            clear c4
            replace H := Option.bind_eq_some_iff.mp H
            obtain ⟨⟨t143, t144, t145⟩, A50, H⟩ := H
            replace H : (if t143 < 32 then (if x3_1.size + 1 ≤ 9223372036854775807 then (tallyroomref03_Clean.l0 k1 a0 (x3_1 ++ (⟨#[95]⟩ : ByteArray)) (wrap64 (x4_1 + t144))) else (none)) else (if t143 ≥ 127 then (if t143 < 160 then (if x3_1.size + 1 ≤ 9223372036854775807 then (tallyroomref03_Clean.l0 k1 a0 (x3_1 ++ (⟨#[95]⟩ : ByteArray)) (wrap64 (x4_1 + t144))) else (none)) else (if t143 = 8232 then (if x3_1.size + 1 ≤ 9223372036854775807 then (tallyroomref03_Clean.l0 k1 a0 (x3_1 ++ (⟨#[95]⟩ : ByteArray)) (wrap64 (x4_1 + t144))) else (none)) else (if t143 = 8233 then (if x3_1.size + 1 ≤ 9223372036854775807 then (tallyroomref03_Clean.l0 k1 a0 (x3_1 ++ (⟨#[95]⟩ : ByteArray)) (wrap64 (x4_1 + t144))) else (none)) else (if t143 = 65533 then (if x3_1.size + 1 ≤ 9223372036854775807 then (tallyroomref03_Clean.l0 k1 a0 (x3_1 ++ (⟨#[95]⟩ : ByteArray)) (wrap64 (x4_1 + t144))) else (none)) else (if x4_1 ≤ (wrap64 (x4_1 + t144)) then (if (wrap64 (x4_1 + t144)) ≤ (a0.size : Int) then (if x3_1.size + (a0.extract (x4_1 : Int).toNat ((wrap64 (x4_1 + t144)) : Int).toNat).size ≤ 9223372036854775807 then (tallyroomref03_Clean.l0 k1 a0 (x3_1 ++ (a0.extract (x4_1 : Int).toNat ((wrap64 (x4_1 + t144)) : Int).toNat)) (wrap64 (x4_1 + t144))) else (none)) else (none)) else (none)))))) else (if t143 = 8232 then (if x3_1.size + 1 ≤ 9223372036854775807 then (tallyroomref03_Clean.l0 k1 a0 (x3_1 ++ (⟨#[95]⟩ : ByteArray)) (wrap64 (x4_1 + t144))) else (none)) else (if t143 = 8233 then (if x3_1.size + 1 ≤ 9223372036854775807 then (tallyroomref03_Clean.l0 k1 a0 (x3_1 ++ (⟨#[95]⟩ : ByteArray)) (wrap64 (x4_1 + t144))) else (none)) else (if t143 = 65533 then (if x3_1.size + 1 ≤ 9223372036854775807 then (tallyroomref03_Clean.l0 k1 a0 (x3_1 ++ (⟨#[95]⟩ : ByteArray)) (wrap64 (x4_1 + t144))) else (none)) else (if x4_1 ≤ (wrap64 (x4_1 + t144)) then (if (wrap64 (x4_1 + t144)) ≤ (a0.size : Int) then (if x3_1.size + (a0.extract (x4_1 : Int).toNat ((wrap64 (x4_1 + t144)) : Int).toNat).size ≤ 9223372036854775807 then (tallyroomref03_Clean.l0 k1 a0 (x3_1 ++ (a0.extract (x4_1 : Int).toNat ((wrap64 (x4_1 + t144)) : Int).toNat)) (wrap64 (x4_1 + t144))) else (none)) else (none)) else (none))))))) = some r := H
            have A5 := Aside0.mk A50
            clear A50
            by_cases c6 : t143 < 32
            · rw [if_pos c6] at H
              have c6b0 : decide (t143 < 32) = true := decide_eq_true c6
              clear c6
              by_cases c7 : x3_1.size + 1 ≤ 9223372036854775807
              · rw [if_pos c7] at H
                have c7b0 := eq_true c7
                have c7b1 : decide (x3_1.size + 1 ≤ 9223372036854775807) = true := decide_eq_true c7
                try have c7b2 : (9223372036854775807 < x3_1.size + 1) = False := eq_false (Nat.not_lt.2 c7)
                have H' := Aside0.mk H
                clear H
                go_wp2_with (first | ((with_reducible refine gate_callee (f := 75) rfl ?_); refine goesL_ (some 16) rfl rfl Try.func75 (by kernel_rfl) rfl #[.string (a0.extract (x4_1 : Int).toNat a0.size)] rfl (by (try simp only [List.map_toArray, List.map_cons, List.map_nil]); first | done | rfl | (simp only [List.length_drop, List.length_take]; rfl)) ?_; (with_reducible refine (tallyroomref03_Rune.calls k1 (a0.extract (x4_1 : Int).toNat a0.size) t143 t144 t145 _ A5.out).mono ?_); rintro e w' ⟨rfl, ⟨nd, rfl⟩⟩; refine ⟨_, rfl, ?_⟩))
                go_roundg k1
                case measure => have := HK1.out; omega
                case rel => exact ⟨(x3_1 ++ (⟨#[95]⟩ : ByteArray)), (wrap64 (x4_1 + t144)), (by first | rfl | (simp; done) | (simp [*]; done)), (by first | rfl | (simp; done) | (simp [*]; done)), H', ⟨by have := HK1.out; omega⟩, by repeat (first | exact Drawn0.refl _ | apply Drawn0.step)⟩
              · rw [if_neg c7] at H
                exact absurd H (by simp)
            · rw [if_neg c6] at H
              have c6b0 : decide (t143 < 32) = false := decide_eq_false c6
              clear c6
              by_cases c8 : t143 ≥ 127
              · rw [if_pos c8] at H
                have c8b0 : decide (127 ≤ t143) = true := decide_eq_true c8
                clear c8
                by_cases c9 : t143 < 160
                · rw [if_pos c9] at H
                  have c9b0 : decide (t143 < 160) = true := decide_eq_true c9
                  clear c9
                  by_cases c10 : x3_1.size + 1 ≤ 9223372036854775807
                  · rw [if_pos c10] at H
                    have c10b0 := eq_true c10
                    have c10b1 : decide (x3_1.size + 1 ≤ 9223372036854775807) = true := decide_eq_true c10
                    try have c10b2 : (9223372036854775807 < x3_1.size + 1) = False := eq_false (Nat.not_lt.2 c10)
                    have H' := Aside0.mk H
                    clear H
                    go_wp2_with (first | ((with_reducible refine gate_callee (f := 75) rfl ?_); refine goesL_ (some 16) rfl rfl Try.func75 (by kernel_rfl) rfl #[.string (a0.extract (x4_1 : Int).toNat a0.size)] rfl (by (try simp only [List.map_toArray, List.map_cons, List.map_nil]); first | done | rfl | (simp only [List.length_drop, List.length_take]; rfl)) ?_; (with_reducible refine (tallyroomref03_Rune.calls k1 (a0.extract (x4_1 : Int).toNat a0.size) t143 t144 t145 _ A5.out).mono ?_); rintro e w' ⟨rfl, ⟨nd, rfl⟩⟩; refine ⟨_, rfl, ?_⟩))
                    go_roundg k1
                    case measure => have := HK1.out; omega
                    case rel => exact ⟨(x3_1 ++ (⟨#[95]⟩ : ByteArray)), (wrap64 (x4_1 + t144)), (by first | rfl | (simp; done) | (simp [*]; done)), (by first | rfl | (simp; done) | (simp [*]; done)), H', ⟨by have := HK1.out; omega⟩, by repeat (first | exact Drawn0.refl _ | apply Drawn0.step)⟩
                  · rw [if_neg c10] at H
                    exact absurd H (by simp)
                · rw [if_neg c9] at H
                  have c9b0 : decide (t143 < 160) = false := decide_eq_false c9
                  clear c9
                  by_cases c11 : t143 = 8232
                  · rw [if_pos c11] at H
                    have c11b0 : (t143 == 8232) = true := beq_iff_eq.mpr c11
                    have c11b1 : (t143 != 8232) = false := bne_eq_false_iff_eq.mpr c11
                    clear c11
                    by_cases c12 : x3_1.size + 1 ≤ 9223372036854775807
                    · rw [if_pos c12] at H
                      have c12b0 := eq_true c12
                      have c12b1 : decide (x3_1.size + 1 ≤ 9223372036854775807) = true := decide_eq_true c12
                      try have c12b2 : (9223372036854775807 < x3_1.size + 1) = False := eq_false (Nat.not_lt.2 c12)
                      have H' := Aside0.mk H
                      clear H
                      go_wp2_with (first | ((with_reducible refine gate_callee (f := 75) rfl ?_); refine goesL_ (some 16) rfl rfl Try.func75 (by kernel_rfl) rfl #[.string (a0.extract (x4_1 : Int).toNat a0.size)] rfl (by (try simp only [List.map_toArray, List.map_cons, List.map_nil]); first | done | rfl | (simp only [List.length_drop, List.length_take]; rfl)) ?_; (with_reducible refine (tallyroomref03_Rune.calls k1 (a0.extract (x4_1 : Int).toNat a0.size) t143 t144 t145 _ A5.out).mono ?_); rintro e w' ⟨rfl, ⟨nd, rfl⟩⟩; refine ⟨_, rfl, ?_⟩))
                      go_roundg k1
                      case measure => have := HK1.out; omega
                      case rel => exact ⟨(x3_1 ++ (⟨#[95]⟩ : ByteArray)), (wrap64 (x4_1 + t144)), (by first | rfl | (simp; done) | (simp [*]; done)), (by first | rfl | (simp; done) | (simp [*]; done)), H', ⟨by have := HK1.out; omega⟩, by repeat (first | exact Drawn0.refl _ | apply Drawn0.step)⟩
                    · rw [if_neg c12] at H
                      exact absurd H (by simp)
                  · rw [if_neg c11] at H
                    have c11b0 : (t143 == 8232) = false := beq_eq_false_iff_ne.mpr c11
                    have c11b1 : (t143 != 8232) = true := bne_iff_ne.mpr c11
                    by_cases c13 : t143 = 8233
                    · rw [if_pos c13] at H
                      have c13b0 : (t143 == 8233) = true := beq_iff_eq.mpr c13
                      have c13b1 : (t143 != 8233) = false := bne_eq_false_iff_eq.mpr c13
                      clear c13
                      by_cases c14 : x3_1.size + 1 ≤ 9223372036854775807
                      · rw [if_pos c14] at H
                        have c14b0 := eq_true c14
                        have c14b1 : decide (x3_1.size + 1 ≤ 9223372036854775807) = true := decide_eq_true c14
                        try have c14b2 : (9223372036854775807 < x3_1.size + 1) = False := eq_false (Nat.not_lt.2 c14)
                        have H' := Aside0.mk H
                        clear H
                        go_wp2_with (first | ((with_reducible refine gate_callee (f := 75) rfl ?_); refine goesL_ (some 16) rfl rfl Try.func75 (by kernel_rfl) rfl #[.string (a0.extract (x4_1 : Int).toNat a0.size)] rfl (by (try simp only [List.map_toArray, List.map_cons, List.map_nil]); first | done | rfl | (simp only [List.length_drop, List.length_take]; rfl)) ?_; (with_reducible refine (tallyroomref03_Rune.calls k1 (a0.extract (x4_1 : Int).toNat a0.size) t143 t144 t145 _ A5.out).mono ?_); rintro e w' ⟨rfl, ⟨nd, rfl⟩⟩; refine ⟨_, rfl, ?_⟩))
                        go_roundg k1
                        case measure => have := HK1.out; omega
                        case rel => exact ⟨(x3_1 ++ (⟨#[95]⟩ : ByteArray)), (wrap64 (x4_1 + t144)), (by first | rfl | (simp; done) | (simp [*]; done)), (by first | rfl | (simp; done) | (simp [*]; done)), H', ⟨by have := HK1.out; omega⟩, by repeat (first | exact Drawn0.refl _ | apply Drawn0.step)⟩
                      · rw [if_neg c14] at H
                        exact absurd H (by simp)
                    · rw [if_neg c13] at H
                      have c13b0 : (t143 == 8233) = false := beq_eq_false_iff_ne.mpr c13
                      have c13b1 : (t143 != 8233) = true := bne_iff_ne.mpr c13
                      by_cases c15 : t143 = 65533
                      · rw [if_pos c15] at H
                        have c15b0 : (t143 == 65533) = true := beq_iff_eq.mpr c15
                        have c15b1 : (t143 != 65533) = false := bne_eq_false_iff_eq.mpr c15
                        clear c15
                        by_cases c16 : x3_1.size + 1 ≤ 9223372036854775807
                        · rw [if_pos c16] at H
                          have c16b0 := eq_true c16
                          have c16b1 : decide (x3_1.size + 1 ≤ 9223372036854775807) = true := decide_eq_true c16
                          try have c16b2 : (9223372036854775807 < x3_1.size + 1) = False := eq_false (Nat.not_lt.2 c16)
                          have H' := Aside0.mk H
                          clear H
                          go_wp2_with (first | ((with_reducible refine gate_callee (f := 75) rfl ?_); refine goesL_ (some 16) rfl rfl Try.func75 (by kernel_rfl) rfl #[.string (a0.extract (x4_1 : Int).toNat a0.size)] rfl (by (try simp only [List.map_toArray, List.map_cons, List.map_nil]); first | done | rfl | (simp only [List.length_drop, List.length_take]; rfl)) ?_; (with_reducible refine (tallyroomref03_Rune.calls k1 (a0.extract (x4_1 : Int).toNat a0.size) t143 t144 t145 _ A5.out).mono ?_); rintro e w' ⟨rfl, ⟨nd, rfl⟩⟩; refine ⟨_, rfl, ?_⟩))
                          go_roundg k1
                          case measure => have := HK1.out; omega
                          case rel => exact ⟨(x3_1 ++ (⟨#[95]⟩ : ByteArray)), (wrap64 (x4_1 + t144)), (by first | rfl | (simp; done) | (simp [*]; done)), (by first | rfl | (simp; done) | (simp [*]; done)), H', ⟨by have := HK1.out; omega⟩, by repeat (first | exact Drawn0.refl _ | apply Drawn0.step)⟩
                        · rw [if_neg c16] at H
                          exact absurd H (by simp)
                      · rw [if_neg c15] at H
                        have c15b0 : (t143 == 65533) = false := beq_eq_false_iff_ne.mpr c15
                        have c15b1 : (t143 != 65533) = true := bne_iff_ne.mpr c15
                        have c17b0 := eq_true (of_decide_eq_true (by first | (with_reducible assumption) | assumption) : 0 ≤ x4_1)
                        by_cases c18 : x4_1 ≤ (wrap64 (x4_1 + t144))
                        · rw [if_pos c18] at H
                          have c18b0 := eq_true c18
                          have c18b1 : decide (x4_1 ≤ (wrap64 (x4_1 + t144))) = true := decide_eq_true c18
                          by_cases c19 : (wrap64 (x4_1 + t144)) ≤ (a0.size : Int)
                          · rw [if_pos c19] at H
                            have c19b0 := eq_true c19
                            have c19b1 : decide ((wrap64 (x4_1 + t144)) ≤ (a0.size : Int)) = true := decide_eq_true c19
                            by_cases c20 : x3_1.size + (a0.extract (x4_1 : Int).toNat ((wrap64 (x4_1 + t144)) : Int).toNat).size ≤ 9223372036854775807
                            · rw [if_pos c20] at H
                              have c20b0 := eq_true c20
                              have c20b1 : decide (x3_1.size + (a0.extract (x4_1 : Int).toNat ((wrap64 (x4_1 + t144)) : Int).toNat).size ≤ 9223372036854775807) = true := decide_eq_true c20
                              try have c20b2 : (9223372036854775807 < x3_1.size + (a0.extract (x4_1 : Int).toNat ((wrap64 (x4_1 + t144)) : Int).toNat).size) = False := eq_false (Nat.not_lt.2 c20)
                              have H' := Aside0.mk H
                              clear H
                              go_wp2_with (first | ((with_reducible refine gate_callee (f := 75) rfl ?_); refine goesL_ (some 16) rfl rfl Try.func75 (by kernel_rfl) rfl #[.string (a0.extract (x4_1 : Int).toNat a0.size)] rfl (by (try simp only [List.map_toArray, List.map_cons, List.map_nil]); first | done | rfl | (simp only [List.length_drop, List.length_take]; rfl)) ?_; (with_reducible refine (tallyroomref03_Rune.calls k1 (a0.extract (x4_1 : Int).toNat a0.size) t143 t144 t145 _ A5.out).mono ?_); rintro e w' ⟨rfl, ⟨nd, rfl⟩⟩; refine ⟨_, rfl, ?_⟩))
                              go_roundg k1
                              case measure => have := HK1.out; omega
                              case rel => exact ⟨(x3_1 ++ (a0.extract (x4_1 : Int).toNat ((wrap64 (x4_1 + t144)) : Int).toNat)), (wrap64 (x4_1 + t144)), (by first | rfl | (simp; done) | (simp [*]; done)), (by first | rfl | (simp; done) | (simp [*]; done)), H', ⟨by have := HK1.out; omega⟩, by repeat (first | exact Drawn0.refl _ | apply Drawn0.step)⟩
                            · rw [if_neg c20] at H
                              exact absurd H (by simp)
                          · rw [if_neg c19] at H
                            exact absurd H (by simp)
                        · rw [if_neg c18] at H
                          exact absurd H (by simp)
              · rw [if_neg c8] at H
                have c8b0 : decide (127 ≤ t143) = false := decide_eq_false c8
                clear c8
                by_cases c21 : t143 = 8232
                · rw [if_pos c21] at H
                  have c21b0 : (t143 == 8232) = true := beq_iff_eq.mpr c21
                  have c21b1 : (t143 != 8232) = false := bne_eq_false_iff_eq.mpr c21
                  clear c21
                  by_cases c22 : x3_1.size + 1 ≤ 9223372036854775807
                  · rw [if_pos c22] at H
                    have c22b0 := eq_true c22
                    have c22b1 : decide (x3_1.size + 1 ≤ 9223372036854775807) = true := decide_eq_true c22
                    try have c22b2 : (9223372036854775807 < x3_1.size + 1) = False := eq_false (Nat.not_lt.2 c22)
                    have H' := Aside0.mk H
                    clear H
                    go_wp2_with (first | ((with_reducible refine gate_callee (f := 75) rfl ?_); refine goesL_ (some 16) rfl rfl Try.func75 (by kernel_rfl) rfl #[.string (a0.extract (x4_1 : Int).toNat a0.size)] rfl (by (try simp only [List.map_toArray, List.map_cons, List.map_nil]); first | done | rfl | (simp only [List.length_drop, List.length_take]; rfl)) ?_; (with_reducible refine (tallyroomref03_Rune.calls k1 (a0.extract (x4_1 : Int).toNat a0.size) t143 t144 t145 _ A5.out).mono ?_); rintro e w' ⟨rfl, ⟨nd, rfl⟩⟩; refine ⟨_, rfl, ?_⟩))
                    go_roundg k1
                    case measure => have := HK1.out; omega
                    case rel => exact ⟨(x3_1 ++ (⟨#[95]⟩ : ByteArray)), (wrap64 (x4_1 + t144)), (by first | rfl | (simp; done) | (simp [*]; done)), (by first | rfl | (simp; done) | (simp [*]; done)), H', ⟨by have := HK1.out; omega⟩, by repeat (first | exact Drawn0.refl _ | apply Drawn0.step)⟩
                  · rw [if_neg c22] at H
                    exact absurd H (by simp)
                · rw [if_neg c21] at H
                  have c21b0 : (t143 == 8232) = false := beq_eq_false_iff_ne.mpr c21
                  have c21b1 : (t143 != 8232) = true := bne_iff_ne.mpr c21
                  by_cases c23 : t143 = 8233
                  · rw [if_pos c23] at H
                    have c23b0 : (t143 == 8233) = true := beq_iff_eq.mpr c23
                    have c23b1 : (t143 != 8233) = false := bne_eq_false_iff_eq.mpr c23
                    clear c23
                    by_cases c24 : x3_1.size + 1 ≤ 9223372036854775807
                    · rw [if_pos c24] at H
                      have c24b0 := eq_true c24
                      have c24b1 : decide (x3_1.size + 1 ≤ 9223372036854775807) = true := decide_eq_true c24
                      try have c24b2 : (9223372036854775807 < x3_1.size + 1) = False := eq_false (Nat.not_lt.2 c24)
                      have H' := Aside0.mk H
                      clear H
                      go_wp2_with (first | ((with_reducible refine gate_callee (f := 75) rfl ?_); refine goesL_ (some 16) rfl rfl Try.func75 (by kernel_rfl) rfl #[.string (a0.extract (x4_1 : Int).toNat a0.size)] rfl (by (try simp only [List.map_toArray, List.map_cons, List.map_nil]); first | done | rfl | (simp only [List.length_drop, List.length_take]; rfl)) ?_; (with_reducible refine (tallyroomref03_Rune.calls k1 (a0.extract (x4_1 : Int).toNat a0.size) t143 t144 t145 _ A5.out).mono ?_); rintro e w' ⟨rfl, ⟨nd, rfl⟩⟩; refine ⟨_, rfl, ?_⟩))
                      go_roundg k1
                      case measure => have := HK1.out; omega
                      case rel => exact ⟨(x3_1 ++ (⟨#[95]⟩ : ByteArray)), (wrap64 (x4_1 + t144)), (by first | rfl | (simp; done) | (simp [*]; done)), (by first | rfl | (simp; done) | (simp [*]; done)), H', ⟨by have := HK1.out; omega⟩, by repeat (first | exact Drawn0.refl _ | apply Drawn0.step)⟩
                    · rw [if_neg c24] at H
                      exact absurd H (by simp)
                  · rw [if_neg c23] at H
                    have c23b0 : (t143 == 8233) = false := beq_eq_false_iff_ne.mpr c23
                    have c23b1 : (t143 != 8233) = true := bne_iff_ne.mpr c23
                    by_cases c25 : t143 = 65533
                    · rw [if_pos c25] at H
                      have c25b0 : (t143 == 65533) = true := beq_iff_eq.mpr c25
                      have c25b1 : (t143 != 65533) = false := bne_eq_false_iff_eq.mpr c25
                      clear c25
                      by_cases c26 : x3_1.size + 1 ≤ 9223372036854775807
                      · rw [if_pos c26] at H
                        have c26b0 := eq_true c26
                        have c26b1 : decide (x3_1.size + 1 ≤ 9223372036854775807) = true := decide_eq_true c26
                        try have c26b2 : (9223372036854775807 < x3_1.size + 1) = False := eq_false (Nat.not_lt.2 c26)
                        have H' := Aside0.mk H
                        clear H
                        go_wp2_with (first | ((with_reducible refine gate_callee (f := 75) rfl ?_); refine goesL_ (some 16) rfl rfl Try.func75 (by kernel_rfl) rfl #[.string (a0.extract (x4_1 : Int).toNat a0.size)] rfl (by (try simp only [List.map_toArray, List.map_cons, List.map_nil]); first | done | rfl | (simp only [List.length_drop, List.length_take]; rfl)) ?_; (with_reducible refine (tallyroomref03_Rune.calls k1 (a0.extract (x4_1 : Int).toNat a0.size) t143 t144 t145 _ A5.out).mono ?_); rintro e w' ⟨rfl, ⟨nd, rfl⟩⟩; refine ⟨_, rfl, ?_⟩))
                        go_roundg k1
                        case measure => have := HK1.out; omega
                        case rel => exact ⟨(x3_1 ++ (⟨#[95]⟩ : ByteArray)), (wrap64 (x4_1 + t144)), (by first | rfl | (simp; done) | (simp [*]; done)), (by first | rfl | (simp; done) | (simp [*]; done)), H', ⟨by have := HK1.out; omega⟩, by repeat (first | exact Drawn0.refl _ | apply Drawn0.step)⟩
                      · rw [if_neg c26] at H
                        exact absurd H (by simp)
                    · rw [if_neg c25] at H
                      have c25b0 : (t143 == 65533) = false := beq_eq_false_iff_ne.mpr c25
                      have c25b1 : (t143 != 65533) = true := bne_iff_ne.mpr c25
                      have c27b0 := eq_true (of_decide_eq_true (by first | (with_reducible assumption) | assumption) : 0 ≤ x4_1)
                      by_cases c28 : x4_1 ≤ (wrap64 (x4_1 + t144))
                      · rw [if_pos c28] at H
                        have c28b0 := eq_true c28
                        have c28b1 : decide (x4_1 ≤ (wrap64 (x4_1 + t144))) = true := decide_eq_true c28
                        by_cases c29 : (wrap64 (x4_1 + t144)) ≤ (a0.size : Int)
                        · rw [if_pos c29] at H
                          have c29b0 := eq_true c29
                          have c29b1 : decide ((wrap64 (x4_1 + t144)) ≤ (a0.size : Int)) = true := decide_eq_true c29
                          by_cases c30 : x3_1.size + (a0.extract (x4_1 : Int).toNat ((wrap64 (x4_1 + t144)) : Int).toNat).size ≤ 9223372036854775807
                          · rw [if_pos c30] at H
                            have c30b0 := eq_true c30
                            have c30b1 : decide (x3_1.size + (a0.extract (x4_1 : Int).toNat ((wrap64 (x4_1 + t144)) : Int).toNat).size ≤ 9223372036854775807) = true := decide_eq_true c30
                            try have c30b2 : (9223372036854775807 < x3_1.size + (a0.extract (x4_1 : Int).toNat ((wrap64 (x4_1 + t144)) : Int).toNat).size) = False := eq_false (Nat.not_lt.2 c30)
                            have H' := Aside0.mk H
                            clear H
                            go_wp2_with (first | ((with_reducible refine gate_callee (f := 75) rfl ?_); refine goesL_ (some 16) rfl rfl Try.func75 (by kernel_rfl) rfl #[.string (a0.extract (x4_1 : Int).toNat a0.size)] rfl (by (try simp only [List.map_toArray, List.map_cons, List.map_nil]); first | done | rfl | (simp only [List.length_drop, List.length_take]; rfl)) ?_; (with_reducible refine (tallyroomref03_Rune.calls k1 (a0.extract (x4_1 : Int).toNat a0.size) t143 t144 t145 _ A5.out).mono ?_); rintro e w' ⟨rfl, ⟨nd, rfl⟩⟩; refine ⟨_, rfl, ?_⟩))
                            go_roundg k1
                            case measure => have := HK1.out; omega
                            case rel => exact ⟨(x3_1 ++ (a0.extract (x4_1 : Int).toNat ((wrap64 (x4_1 + t144)) : Int).toNat)), (wrap64 (x4_1 + t144)), (by first | rfl | (simp; done) | (simp [*]; done)), (by first | rfl | (simp; done) | (simp [*]; done)), H', ⟨by have := HK1.out; omega⟩, by repeat (first | exact Drawn0.refl _ | apply Drawn0.step)⟩
                          · rw [if_neg c30] at H
                            exact absurd H (by simp)
                        · rw [if_neg c29] at H
                          exact absurd H (by simp)
                      · rw [if_neg c28] at H
                        exact absurd H (by simp)
          · rw [if_neg c4] at H
            exact absurd H (by simp)
        · rw [if_neg c3] at H
          exact absurd H (by simp)
      · rw [if_neg c2] at H
        have c2b0 : decide (x4_1 < (a0.size : Int)) = false := decide_eq_false c2
        clear c2
        obtain rfl := Option.some.inj H
        go_wp2
        go_ret
        exact ⟨by first | rfl | (simp; done) | (simp [*]; done), by repeat (first | exact Drawn0.refl _ | apply Drawn0.step)⟩
end Go.Proofs.Ytllepjhimkogjaa.XX
namespace Go.Proofs.Ytllepjhimkogjaa.XX
open Go.RowKit Go.Proofs.YtllepjhimkogjaaW.PrintWords Go.Proofs.YtllepjhimkogjaaW.PrintLast Go.Proofs.YtllepjhimkogjaaW.PrintMore
set_option linter.unusedVariables false
set_option linter.unusedSimpArgs false
def tallyroomref03_Right.l0 : Nat → ByteArray → Int → Option (Bool)
  | 0, _, _ => none
  | k + 1, x0, x3 => if x3 < (x0.size : Int) then (if 0 ≤ x3 then (if x3 ≤ (x0.size : Int) then ((tallyroomref03_Rune.f k (x0.extract (x3 : Int).toNat x0.size)).bind fun bt146 => (if bt146.2.2 = true then (tallyroomref03_Right.l0 k x0 (wrap64 (x3 + bt146.2.1))) else (some false))) else (none)) else (none)) else (some true)
def tallyroomref03_Right.f (k : Nat) (a0 : ByteArray) : Option (Bool) := tallyroomref03_Right.l0 k a0 0
theorem tallyroomref03_Right.mono_l : ∀ k, (∀ y0 y1, LeO (tallyroomref03_Right.l0 k y0 y1) (tallyroomref03_Right.l0 (k + 1) y0 y1))
  | 0 => fun _ _ r h => by simp [tallyroomref03_Right.l0] at h
  | k + 1 => by
    have ih0 := tallyroomref03_Right.mono_l k
    · intro y0 y1
      unfold tallyroomref03_Right.l0
      repeat' first
      | (with_reducible exact ih0 _ _)
      | (with_reducible exact tallyroomref03_Rune.mono _ _)
      | (with_reducible exact LeO.refl _)
      | (with_reducible exact LeO.none _)
      | (with_reducible refine LeO.ite ?_ ?_)
      | (with_reducible refine LeO.bind ?_ (fun _ => ?_))
      | exact ih0 _ _
      | exact tallyroomref03_Rune.mono _ _
      | exact LeO.none _
      | refine LeO.ite ?_ ?_
      | refine LeO.bind ?_ (fun _ => ?_)
theorem tallyroomref03_Right.mono : ∀ a0 k, LeO (tallyroomref03_Right.f k a0) (tallyroomref03_Right.f (k + 1) a0) := by
  intro a0 k
  have ih0 := tallyroomref03_Right.mono_l k
  unfold tallyroomref03_Right.f
  repeat' first
      | (with_reducible exact ih0 _ _)
      | (with_reducible exact tallyroomref03_Rune.mono _ _)
      | (with_reducible exact LeO.refl _)
      | (with_reducible exact LeO.none _)
      | (with_reducible refine LeO.ite ?_ ?_)
      | (with_reducible refine LeO.bind ?_ (fun _ => ?_))
      | exact ih0 _ _
      | exact tallyroomref03_Rune.mono _ _
      | exact LeO.none _
      | refine LeO.ite ?_ ?_
      | refine LeO.bind ?_ (fun _ => ?_)
end Go.Proofs.Ytllepjhimkogjaa.XX
namespace Go.Proofs.Ytllepjhimkogjaa.XX
open Go.RowKit Go.Proofs.YtllepjhimkogjaaW.PrintWords Go.Proofs.YtllepjhimkogjaaW.PrintLast Go.Proofs.YtllepjhimkogjaaW.PrintMore
set_option linter.unusedVariables false
set_option linter.unusedSimpArgs false
def tallyroomref03_Count.l0 : Nat → ByteArray → Int → Int → Option (Int)
  | 0, _, _, _ => none
  | k + 1, x0, x3, x4 => if x4 < (x0.size : Int) then (if 0 ≤ x4 then (if x4 ≤ (x0.size : Int) then ((tallyroomref03_Rune.f k (x0.extract (x4 : Int).toNat x0.size)).bind fun bt149 => (tallyroomref03_Count.l0 k x0 (wrap64 (x3 + 1)) (wrap64 (x4 + bt149.2.1)))) else (none)) else (none)) else (some x3)
def tallyroomref03_Count.f (k : Nat) (a0 : ByteArray) : Option (Int) := tallyroomref03_Count.l0 k a0 0 0
theorem tallyroomref03_Count.mono_l : ∀ k, (∀ y0 y1 y2, LeO (tallyroomref03_Count.l0 k y0 y1 y2) (tallyroomref03_Count.l0 (k + 1) y0 y1 y2))
  | 0 => fun _ _ _ r h => by simp [tallyroomref03_Count.l0] at h
  | k + 1 => by
    have ih0 := tallyroomref03_Count.mono_l k
    · intro y0 y1 y2
      unfold tallyroomref03_Count.l0
      repeat' first
      | (with_reducible exact ih0 _ _ _)
      | (with_reducible exact tallyroomref03_Rune.mono _ _)
      | (with_reducible exact LeO.refl _)
      | (with_reducible exact LeO.none _)
      | (with_reducible refine LeO.ite ?_ ?_)
      | (with_reducible refine LeO.bind ?_ (fun _ => ?_))
      | exact ih0 _ _ _
      | exact tallyroomref03_Rune.mono _ _
      | exact LeO.none _
      | refine LeO.ite ?_ ?_
      | refine LeO.bind ?_ (fun _ => ?_)
theorem tallyroomref03_Count.mono : ∀ a0 k, LeO (tallyroomref03_Count.f k a0) (tallyroomref03_Count.f (k + 1) a0) := by
  intro a0 k
  have ih0 := tallyroomref03_Count.mono_l k
  unfold tallyroomref03_Count.f
  repeat' first
      | (with_reducible exact ih0 _ _ _)
      | (with_reducible exact tallyroomref03_Rune.mono _ _)
      | (with_reducible exact LeO.refl _)
      | (with_reducible exact LeO.none _)
      | (with_reducible refine LeO.ite ?_ ?_)
      | (with_reducible refine LeO.bind ?_ (fun _ => ?_))
      | exact ih0 _ _ _
      | exact tallyroomref03_Rune.mono _ _
      | exact LeO.none _
      | refine LeO.ite ?_ ?_
      | refine LeO.bind ?_ (fun _ => ?_)
end Go.Proofs.Ytllepjhimkogjaa.XX
namespace Go.Proofs.Ytllepjhimkogjaa.XX
open Go.RowKit Go.Proofs.YtllepjhimkogjaaW.PrintWords Go.Proofs.YtllepjhimkogjaaW.PrintLast Go.Proofs.YtllepjhimkogjaaW.PrintMore
set_option linter.unusedVariables false
set_option linter.unusedSimpArgs false
def tallyroomref03_Cut.l0 : Nat → ByteArray → Int → Int → Option (ByteArray)
  | 0, _, _, _ => none
  | k + 1, x0, x1, x5 => if x5 < (x0.size : Int) then (if 0 ≤ x5 then (if x5 ≤ (x0.size : Int) then ((tallyroomref03_Rune.f k (x0.extract (x5 : Int).toNat x0.size)).bind fun bt161 => (if (wrap64 (x5 + bt161.2.1)) > x1 then (some (x0.extract 0 (x5 : Int).toNat)) else (tallyroomref03_Cut.l0 k x0 x1 (wrap64 (x5 + bt161.2.1))))) else (none)) else (none)) else (some x0)
def tallyroomref03_Cut.f (k : Nat) (a0 : ByteArray) (a1 : Int) : Option (ByteArray) := tallyroomref03_Cut.l0 k a0 a1 0
theorem tallyroomref03_Cut.mono_l : ∀ k, (∀ y0 y1 y2, LeO (tallyroomref03_Cut.l0 k y0 y1 y2) (tallyroomref03_Cut.l0 (k + 1) y0 y1 y2))
  | 0 => fun _ _ _ r h => by simp [tallyroomref03_Cut.l0] at h
  | k + 1 => by
    have ih0 := tallyroomref03_Cut.mono_l k
    · intro y0 y1 y2
      unfold tallyroomref03_Cut.l0
      repeat' first
      | (with_reducible exact ih0 _ _ _)
      | (with_reducible exact tallyroomref03_Rune.mono _ _)
      | (with_reducible exact LeO.refl _)
      | (with_reducible exact LeO.none _)
      | (with_reducible refine LeO.ite ?_ ?_)
      | (with_reducible refine LeO.bind ?_ (fun _ => ?_))
      | exact ih0 _ _ _
      | exact tallyroomref03_Rune.mono _ _
      | exact LeO.none _
      | refine LeO.ite ?_ ?_
      | refine LeO.bind ?_ (fun _ => ?_)
theorem tallyroomref03_Cut.mono : ∀ a0 a1 k, LeO (tallyroomref03_Cut.f k a0 a1) (tallyroomref03_Cut.f (k + 1) a0 a1) := by
  intro a0 a1 k
  have ih0 := tallyroomref03_Cut.mono_l k
  unfold tallyroomref03_Cut.f
  repeat' first
      | (with_reducible exact ih0 _ _ _)
      | (with_reducible exact tallyroomref03_Rune.mono _ _)
      | (with_reducible exact LeO.refl _)
      | (with_reducible exact LeO.none _)
      | (with_reducible refine LeO.ite ?_ ?_)
      | (with_reducible refine LeO.bind ?_ (fun _ => ?_))
      | exact ih0 _ _ _
      | exact tallyroomref03_Rune.mono _ _
      | exact LeO.none _
      | refine LeO.ite ?_ ?_
      | refine LeO.bind ?_ (fun _ => ?_)
set_option maxHeartbeats 8000000 in
set_option maxRecDepth 100000 in
theorem tallyroomref03_Cut.calls (k : Nat) (a0 : ByteArray) (a1 : Int) (r : ByteArray) (w : World) (h : tallyroomref03_Cut.f k a0 a1 = some r) :
    Calls Try.prog 38 #[.string a0, .int .i64 a1] w fun e w' => e = .returned (.string r) ∧ Drawn0 w w' := by
  have H : (tallyroomref03_Cut.l0 k a0 a1 0) = some r := h
  clear h
  have H' := Aside0.mk H
  clear H
  go_enter Try.func38, Try.ntmps38
  go_wp2
  go_loopg [5] k (fun kq v5 w' => ∃ (x5_1 : Int), v5 = .int .i64 x5_1 ∧ Aside0 (tallyroomref03_Cut.l0 kq a0 a1 x5_1 = some r) ∧ Aside0 (kq ≤ k) ∧ Drawn0 w w')
  case atStart => exact ⟨(0), (by first | rfl | (simp; done) | (simp [*]; done)), H', ⟨Nat.le_refl _⟩, by repeat (first | exact Drawn0.refl _ | apply Drawn0.step)⟩
  case round =>
    clear H'
    try clear p2
    obtain ⟨x5_1, rfl, HA, HK1, ⟨m1, rfl⟩⟩ := hrel
    cases gk with
    | zero => exact absurd HA.out (by simp [tallyroomref03_Cut.l0])
    | succ k1 =>
      have H := HA.out
      clear HA
      simp only [tallyroomref03_Cut.l0] at H
      by_cases c3 : x5_1 < (a0.size : Int)
      · rw [if_pos c3] at H
        have c3b0 : decide (x5_1 < (a0.size : Int)) = true := decide_eq_true c3
        clear c3
        by_cases c4 : 0 ≤ x5_1
        · rw [if_pos c4] at H
          have c4b0 := eq_true c4
          have c4b1 : decide (0 ≤ x5_1) = true := decide_eq_true c4
          clear c4
          by_cases c5 : x5_1 ≤ (a0.size : Int)
          · rw [if_pos c5] at H
            have c5b0 := eq_true c5
            have c5b1 : decide (x5_1 ≤ (a0.size : Int)) = true := decide_eq_true c5
            clear c5
            replace H := Option.bind_eq_some_iff.mp H
            obtain ⟨⟨t161, t162, t163⟩, A60, H⟩ := H
            replace H : (if (wrap64 (x5_1 + t162)) > a1 then (some (a0.extract 0 (x5_1 : Int).toNat)) else (tallyroomref03_Cut.l0 k1 a0 a1 (wrap64 (x5_1 + t162)))) = some r := H
            have A6 := Aside0.mk A60
            clear A60
            by_cases c7 : (wrap64 (x5_1 + t162)) > a1
            · rw [if_pos c7] at H
              have c7b0 : decide (a1 < (wrap64 (x5_1 + t162))) = true := decide_eq_true c7
              clear c7
              have c8b0 := eq_true (of_decide_eq_true (by first | (with_reducible assumption) | assumption) : 0 ≤ x5_1)
              have c9b0 := eq_true (of_decide_eq_true (by first | (with_reducible assumption) | assumption) : x5_1 ≤ (a0.size : Int))
              obtain rfl := Option.some.inj H
              go_wp2_with (first | ((with_reducible refine gate_callee (f := 75) rfl ?_); refine goesL_ (some 17) rfl rfl Try.func75 (by kernel_rfl) rfl #[.string (a0.extract (x5_1 : Int).toNat a0.size)] rfl (by (try simp only [List.map_toArray, List.map_cons, List.map_nil]); first | done | rfl | (simp only [List.length_drop, List.length_take]; rfl)) ?_; (with_reducible refine (tallyroomref03_Rune.calls k1 (a0.extract (x5_1 : Int).toNat a0.size) t161 t162 t163 _ A6.out).mono ?_); rintro e w' ⟨rfl, ⟨nd, rfl⟩⟩; refine ⟨_, rfl, ?_⟩))
              go_ret
              exact ⟨by first | rfl | (simp; done) | (simp [*]; done), by repeat (first | exact Drawn0.refl _ | apply Drawn0.step)⟩
            · rw [if_neg c7] at H
              have c7b0 : decide (a1 < (wrap64 (x5_1 + t162))) = false := decide_eq_false c7
              clear c7
              have H' := Aside0.mk H
              clear H
              go_wp2_with (first | ((with_reducible refine gate_callee (f := 75) rfl ?_); refine goesL_ (some 17) rfl rfl Try.func75 (by kernel_rfl) rfl #[.string (a0.extract (x5_1 : Int).toNat a0.size)] rfl (by (try simp only [List.map_toArray, List.map_cons, List.map_nil]); first | done | rfl | (simp only [List.length_drop, List.length_take]; rfl)) ?_; (with_reducible refine (tallyroomref03_Rune.calls k1 (a0.extract (x5_1 : Int).toNat a0.size) t161 t162 t163 _ A6.out).mono ?_); rintro e w' ⟨rfl, ⟨nd, rfl⟩⟩; refine ⟨_, rfl, ?_⟩))
              go_roundg k1
              case measure => have := HK1.out; omega
              case rel => exact ⟨(wrap64 (x5_1 + t162)), (by first | rfl | (simp; done) | (simp [*]; done)), H', ⟨by have := HK1.out; omega⟩, by repeat (first | exact Drawn0.refl _ | apply Drawn0.step)⟩
          · rw [if_neg c5] at H
            exact absurd H (by simp)
        · rw [if_neg c4] at H
          exact absurd H (by simp)
      · rw [if_neg c3] at H
        have c3b0 : decide (x5_1 < (a0.size : Int)) = false := decide_eq_false c3
        clear c3
        obtain rfl := Option.some.inj H
        go_wp2
        go_ret
        exact ⟨by first | rfl | (simp; done) | (simp [*]; done), by repeat (first | exact Drawn0.refl _ | apply Drawn0.step)⟩
end Go.Proofs.Ytllepjhimkogjaa.XX
namespace Go.Proofs.Ytllepjhimkogjaa.XX
open Go.RowKit Go.Proofs.YtllepjhimkogjaaW.PrintWords Go.Proofs.YtllepjhimkogjaaW.PrintLast Go.Proofs.YtllepjhimkogjaaW.PrintMore
set_option linter.unusedVariables false
set_option linter.unusedSimpArgs false
def tallyroomref03_Key.l0 : Nat → ByteArray → Int → Option (Bool)
  | 0, _, _ => none
  | k + 1, x0, x3 => if x3 < (x0.size : Int) then (if 0 ≤ x3 then (if (bt x0 x3) ≥ 97 then (if (bt x0 x3) ≤ 122 then (tallyroomref03_Key.l0 k x0 (wrap64 (x3 + 1))) else (if (bt x0 x3) ≥ 65 then (if (bt x0 x3) ≤ 90 then (tallyroomref03_Key.l0 k x0 (wrap64 (x3 + 1))) else (if ((bt x0 x3) = 95) then (tallyroomref03_Key.l0 k x0 (wrap64 (x3 + 1))) else (if x3 = 0 then (some false) else (if (bt x0 x3) ≥ 48 then (if (bt x0 x3) ≤ 57 then (tallyroomref03_Key.l0 k x0 (wrap64 (x3 + 1))) else (if ((bt x0 x3) = 46) then (tallyroomref03_Key.l0 k x0 (wrap64 (x3 + 1))) else (some false))) else (if ((bt x0 x3) = 46) then (tallyroomref03_Key.l0 k x0 (wrap64 (x3 + 1))) else (some false)))))) else (if ((bt x0 x3) = 95) then (tallyroomref03_Key.l0 k x0 (wrap64 (x3 + 1))) else (if x3 = 0 then (some false) else (if (bt x0 x3) ≥ 48 then (if (bt x0 x3) ≤ 57 then (tallyroomref03_Key.l0 k x0 (wrap64 (x3 + 1))) else (if ((bt x0 x3) = 46) then (tallyroomref03_Key.l0 k x0 (wrap64 (x3 + 1))) else (some false))) else (if ((bt x0 x3) = 46) then (tallyroomref03_Key.l0 k x0 (wrap64 (x3 + 1))) else (some false))))))) else (if (bt x0 x3) ≥ 65 then (if (bt x0 x3) ≤ 90 then (tallyroomref03_Key.l0 k x0 (wrap64 (x3 + 1))) else (if ((bt x0 x3) = 95) then (tallyroomref03_Key.l0 k x0 (wrap64 (x3 + 1))) else (if x3 = 0 then (some false) else (if (bt x0 x3) ≥ 48 then (if (bt x0 x3) ≤ 57 then (tallyroomref03_Key.l0 k x0 (wrap64 (x3 + 1))) else (if ((bt x0 x3) = 46) then (tallyroomref03_Key.l0 k x0 (wrap64 (x3 + 1))) else (some false))) else (if ((bt x0 x3) = 46) then (tallyroomref03_Key.l0 k x0 (wrap64 (x3 + 1))) else (some false)))))) else (if ((bt x0 x3) = 95) then (tallyroomref03_Key.l0 k x0 (wrap64 (x3 + 1))) else (if x3 = 0 then (some false) else (if (bt x0 x3) ≥ 48 then (if (bt x0 x3) ≤ 57 then (tallyroomref03_Key.l0 k x0 (wrap64 (x3 + 1))) else (if ((bt x0 x3) = 46) then (tallyroomref03_Key.l0 k x0 (wrap64 (x3 + 1))) else (some false))) else (if ((bt x0 x3) = 46) then (tallyroomref03_Key.l0 k x0 (wrap64 (x3 + 1))) else (some false))))))) else (none)) else (if (x0.size : Int) ≥ 1 then (some (decide ((x0.size : Int) ≤ 64))) else (some false))
def tallyroomref03_Key.f (k : Nat) (a0 : ByteArray) : Option (Bool) := tallyroomref03_Key.l0 k a0 0
theorem tallyroomref03_Key.mono_l : ∀ k, (∀ y0 y1, LeO (tallyroomref03_Key.l0 k y0 y1) (tallyroomref03_Key.l0 (k + 1) y0 y1))
  | 0 => fun _ _ r h => by simp [tallyroomref03_Key.l0] at h
  | k + 1 => by
    have ih0 := tallyroomref03_Key.mono_l k
    · intro y0 y1
      unfold tallyroomref03_Key.l0
      repeat' first
      | (with_reducible exact ih0 _ _)
      | (with_reducible exact LeO.refl _)
      | (with_reducible exact LeO.none _)
      | (with_reducible refine LeO.ite ?_ ?_)
      | (with_reducible refine LeO.bind ?_ (fun _ => ?_))
      | exact ih0 _ _
      | exact LeO.none _
      | refine LeO.ite ?_ ?_
      | refine LeO.bind ?_ (fun _ => ?_)
theorem tallyroomref03_Key.mono : ∀ a0 k, LeO (tallyroomref03_Key.f k a0) (tallyroomref03_Key.f (k + 1) a0) := by
  intro a0 k
  have ih0 := tallyroomref03_Key.mono_l k
  unfold tallyroomref03_Key.f
  repeat' first
      | (with_reducible exact ih0 _ _)
      | (with_reducible exact LeO.refl _)
      | (with_reducible exact LeO.none _)
      | (with_reducible refine LeO.ite ?_ ?_)
      | (with_reducible refine LeO.bind ?_ (fun _ => ?_))
      | exact ih0 _ _
      | exact LeO.none _
      | refine LeO.ite ?_ ?_
      | refine LeO.bind ?_ (fun _ => ?_)
set_option maxHeartbeats 8000000 in
set_option maxRecDepth 100000 in
theorem tallyroomref03_Key.calls (k : Nat) (a0 : ByteArray) (r : Bool) (w : World) (h : tallyroomref03_Key.f k a0 = some r) :
    Calls Try.prog 47 #[.string a0] w fun e w' => e = .returned (.bool r) ∧ Drawn0 w w' := by
  have H : (tallyroomref03_Key.l0 k a0 0) = some r := h
  clear h
  have H' := Aside0.mk H
  clear H
  go_enter Try.func47, Try.ntmps47
  go_wp2
  go_loopg [3] k (fun kq v3 w' => ∃ (x3_1 : Int), v3 = .int .i64 x3_1 ∧ Aside0 (tallyroomref03_Key.l0 kq a0 x3_1 = some r) ∧ Aside0 (kq ≤ k) ∧ Drawn0 w w')
  case atStart => exact ⟨(0), (by first | rfl | (simp; done) | (simp [*]; done)), H', ⟨Nat.le_refl _⟩, by repeat (first | exact Drawn0.refl _ | apply Drawn0.step)⟩
  case round =>
    clear H'
    obtain ⟨x3_1, rfl, HA, HK1, ⟨m1, rfl⟩⟩ := hrel
    cases gk with
    | zero => exact absurd HA.out (by simp [tallyroomref03_Key.l0])
    | succ k1 =>
      have H := HA.out
      clear HA
      simp only [tallyroomref03_Key.l0] at H
      by_cases c2 : x3_1 < (a0.size : Int)
      · rw [if_pos c2] at H
        have c2b0 : decide (x3_1 < (a0.size : Int)) = true := decide_eq_true c2
        clear c2
        by_cases c3 : 0 ≤ x3_1
        · rw [if_pos c3] at H
          have c3b0 : decide (0 ≤ x3_1) = true := decide_eq_true c3
          clear c3
          by_cases c5 : (bt a0 x3_1) ≥ 97
          · rw [if_pos c5] at H
            have c5b0 : decide (97 ≤ (bt a0 x3_1)) = true := decide_eq_true c5
            clear c5
            by_cases c6 : (bt a0 x3_1) ≤ 122
            · rw [if_pos c6] at H
              have c6b0 : decide ((bt a0 x3_1) ≤ 122) = true := decide_eq_true c6
              clear c6
              have H' := Aside0.mk H
              clear H
              have p4 : 0 ≤ (x3_1 : Int) := of_decide_eq_true (by first | (with_reducible assumption) | assumption)
              have q4 : x3_1 < (a0.size : Int) := of_decide_eq_true (by first | (with_reducible assumption) | assumption)
              have hx4 := bt_at a0 x3_1
              replace p4 := eq_true p4
              replace q4 := eq_true q4
              go_wp2
              go_roundg k1
              case measure => have := HK1.out; omega
              case rel => exact ⟨(wrap64 (x3_1 + 1)), (by first | rfl | (simp; done) | (simp [*]; done)), H', ⟨by have := HK1.out; omega⟩, by repeat (first | exact Drawn0.refl _ | apply Drawn0.step)⟩
            · rw [if_neg c6] at H
              have c6b0 : decide ((bt a0 x3_1) ≤ 122) = false := decide_eq_false c6
              clear c6
              by_cases c7 : (bt a0 x3_1) ≥ 65
              · rw [if_pos c7] at H
                have c7b0 : decide (65 ≤ (bt a0 x3_1)) = true := decide_eq_true c7
                clear c7
                by_cases c8 : (bt a0 x3_1) ≤ 90
                · rw [if_pos c8] at H
                  have c8b0 : decide ((bt a0 x3_1) ≤ 90) = true := decide_eq_true c8
                  clear c8
                  have H' := Aside0.mk H
                  clear H
                  have p4 : 0 ≤ (x3_1 : Int) := of_decide_eq_true (by first | (with_reducible assumption) | assumption)
                  have q4 : x3_1 < (a0.size : Int) := of_decide_eq_true (by first | (with_reducible assumption) | assumption)
                  have hx4 := bt_at a0 x3_1
                  replace p4 := eq_true p4
                  replace q4 := eq_true q4
                  go_wp2
                  go_roundg k1
                  case measure => have := HK1.out; omega
                  case rel => exact ⟨(wrap64 (x3_1 + 1)), (by first | rfl | (simp; done) | (simp [*]; done)), H', ⟨by have := HK1.out; omega⟩, by repeat (first | exact Drawn0.refl _ | apply Drawn0.step)⟩
                · rw [if_neg c8] at H
                  have c8b0 : decide ((bt a0 x3_1) ≤ 90) = false := decide_eq_false c8
                  clear c8
                  by_cases c9 : ((bt a0 x3_1) = 95)
                  · rw [if_pos c9] at H
                    have c9b0 : ((bt a0 x3_1) == 95) = true := beq_iff_eq.mpr c9
                    have c9b1 : ((bt a0 x3_1) != 95) = false := bne_eq_false_iff_eq.mpr c9
                    clear c9
                    have H' := Aside0.mk H
                    clear H
                    have p4 : 0 ≤ (x3_1 : Int) := of_decide_eq_true (by first | (with_reducible assumption) | assumption)
                    have q4 : x3_1 < (a0.size : Int) := of_decide_eq_true (by first | (with_reducible assumption) | assumption)
                    have hx4 := bt_at a0 x3_1
                    replace p4 := eq_true p4
                    replace q4 := eq_true q4
                    go_wp2
                    go_roundg k1
                    case measure => have := HK1.out; omega
                    case rel => exact ⟨(wrap64 (x3_1 + 1)), (by first | rfl | (simp; done) | (simp [*]; done)), H', ⟨by have := HK1.out; omega⟩, by repeat (first | exact Drawn0.refl _ | apply Drawn0.step)⟩
                  · rw [if_neg c9] at H
                    have c9b0 : ((bt a0 x3_1) == 95) = false := beq_eq_false_iff_ne.mpr c9
                    have c9b1 : ((bt a0 x3_1) != 95) = true := bne_iff_ne.mpr c9
                    by_cases c10 : x3_1 = 0
                    · rw [if_pos c10] at H
                      have c10b0 : (x3_1 == 0) = true := beq_iff_eq.mpr c10
                      have c10b1 : (x3_1 != 0) = false := bne_eq_false_iff_eq.mpr c10
                      clear c10
                      obtain rfl := Option.some.inj H
                      have p4 : 0 ≤ (x3_1 : Int) := of_decide_eq_true (by first | (with_reducible assumption) | assumption)
                      have q4 : x3_1 < (a0.size : Int) := of_decide_eq_true (by first | (with_reducible assumption) | assumption)
                      have hx4 := bt_at a0 x3_1
                      replace p4 := eq_true p4
                      replace q4 := eq_true q4
                      go_wp2
                      go_ret
                      exact ⟨by first | rfl | (simp; done) | (simp [*]; done), by repeat (first | exact Drawn0.refl _ | apply Drawn0.step)⟩
                    · rw [if_neg c10] at H
                      have c10b0 : (x3_1 == 0) = false := beq_eq_false_iff_ne.mpr c10
                      have c10b1 : (x3_1 != 0) = true := bne_iff_ne.mpr c10
                      by_cases c11 : (bt a0 x3_1) ≥ 48
                      · rw [if_pos c11] at H
                        have c11b0 : decide (48 ≤ (bt a0 x3_1)) = true := decide_eq_true c11
                        clear c11
                        by_cases c12 : (bt a0 x3_1) ≤ 57
                        · rw [if_pos c12] at H
                          have c12b0 : decide ((bt a0 x3_1) ≤ 57) = true := decide_eq_true c12
                          clear c12
                          have H' := Aside0.mk H
                          clear H
                          have p4 : 0 ≤ (x3_1 : Int) := of_decide_eq_true (by first | (with_reducible assumption) | assumption)
                          have q4 : x3_1 < (a0.size : Int) := of_decide_eq_true (by first | (with_reducible assumption) | assumption)
                          have hx4 := bt_at a0 x3_1
                          replace p4 := eq_true p4
                          replace q4 := eq_true q4
                          go_wp2
                          go_roundg k1
                          case measure => have := HK1.out; omega
                          case rel => exact ⟨(wrap64 (x3_1 + 1)), (by first | rfl | (simp; done) | (simp [*]; done)), H', ⟨by have := HK1.out; omega⟩, by repeat (first | exact Drawn0.refl _ | apply Drawn0.step)⟩
                        · rw [if_neg c12] at H
                          have c12b0 : decide ((bt a0 x3_1) ≤ 57) = false := decide_eq_false c12
                          clear c12
                          by_cases c13 : ((bt a0 x3_1) = 46)
                          · rw [if_pos c13] at H
                            have c13b0 : ((bt a0 x3_1) == 46) = true := beq_iff_eq.mpr c13
                            have c13b1 : ((bt a0 x3_1) != 46) = false := bne_eq_false_iff_eq.mpr c13
                            clear c13
                            have H' := Aside0.mk H
                            clear H
                            have p4 : 0 ≤ (x3_1 : Int) := of_decide_eq_true (by first | (with_reducible assumption) | assumption)
                            have q4 : x3_1 < (a0.size : Int) := of_decide_eq_true (by first | (with_reducible assumption) | assumption)
                            have hx4 := bt_at a0 x3_1
                            replace p4 := eq_true p4
                            replace q4 := eq_true q4
                            go_wp2
                            go_roundg k1
                            case measure => have := HK1.out; omega
                            case rel => exact ⟨(wrap64 (x3_1 + 1)), (by first | rfl | (simp; done) | (simp [*]; done)), H', ⟨by have := HK1.out; omega⟩, by repeat (first | exact Drawn0.refl _ | apply Drawn0.step)⟩
                          · rw [if_neg c13] at H
                            have c13b0 : ((bt a0 x3_1) == 46) = false := beq_eq_false_iff_ne.mpr c13
                            have c13b1 : ((bt a0 x3_1) != 46) = true := bne_iff_ne.mpr c13
                            obtain rfl := Option.some.inj H
                            have p4 : 0 ≤ (x3_1 : Int) := of_decide_eq_true (by first | (with_reducible assumption) | assumption)
                            have q4 : x3_1 < (a0.size : Int) := of_decide_eq_true (by first | (with_reducible assumption) | assumption)
                            have hx4 := bt_at a0 x3_1
                            replace p4 := eq_true p4
                            replace q4 := eq_true q4
                            go_wp2
                            go_ret
                            exact ⟨by first | rfl | (simp; done) | (simp [*]; done), by repeat (first | exact Drawn0.refl _ | apply Drawn0.step)⟩
                      · rw [if_neg c11] at H
                        have c11b0 : decide (48 ≤ (bt a0 x3_1)) = false := decide_eq_false c11
                        clear c11
                        by_cases c14 : ((bt a0 x3_1) = 46)
                        · rw [if_pos c14] at H
                          have c14b0 : ((bt a0 x3_1) == 46) = true := beq_iff_eq.mpr c14
                          have c14b1 : ((bt a0 x3_1) != 46) = false := bne_eq_false_iff_eq.mpr c14
                          clear c14
                          have H' := Aside0.mk H
                          clear H
                          have p4 : 0 ≤ (x3_1 : Int) := of_decide_eq_true (by first | (with_reducible assumption) | assumption)
                          have q4 : x3_1 < (a0.size : Int) := of_decide_eq_true (by first | (with_reducible assumption) | assumption)
                          have hx4 := bt_at a0 x3_1
                          replace p4 := eq_true p4
                          replace q4 := eq_true q4
                          go_wp2
                          go_roundg k1
                          case measure => have := HK1.out; omega
                          case rel => exact ⟨(wrap64 (x3_1 + 1)), (by first | rfl | (simp; done) | (simp [*]; done)), H', ⟨by have := HK1.out; omega⟩, by repeat (first | exact Drawn0.refl _ | apply Drawn0.step)⟩
                        · rw [if_neg c14] at H
                          have c14b0 : ((bt a0 x3_1) == 46) = false := beq_eq_false_iff_ne.mpr c14
                          have c14b1 : ((bt a0 x3_1) != 46) = true := bne_iff_ne.mpr c14
                          obtain rfl := Option.some.inj H
                          have p4 : 0 ≤ (x3_1 : Int) := of_decide_eq_true (by first | (with_reducible assumption) | assumption)
                          have q4 : x3_1 < (a0.size : Int) := of_decide_eq_true (by first | (with_reducible assumption) | assumption)
                          have hx4 := bt_at a0 x3_1
                          replace p4 := eq_true p4
                          replace q4 := eq_true q4
                          go_wp2
                          go_ret
                          exact ⟨by first | rfl | (simp; done) | (simp [*]; done), by repeat (first | exact Drawn0.refl _ | apply Drawn0.step)⟩
              · rw [if_neg c7] at H
                have c7b0 : decide (65 ≤ (bt a0 x3_1)) = false := decide_eq_false c7
                clear c7
                by_cases c15 : ((bt a0 x3_1) = 95)
                · rw [if_pos c15] at H
                  have c15b0 : ((bt a0 x3_1) == 95) = true := beq_iff_eq.mpr c15
                  have c15b1 : ((bt a0 x3_1) != 95) = false := bne_eq_false_iff_eq.mpr c15
                  clear c15
                  have H' := Aside0.mk H
                  clear H
                  have p4 : 0 ≤ (x3_1 : Int) := of_decide_eq_true (by first | (with_reducible assumption) | assumption)
                  have q4 : x3_1 < (a0.size : Int) := of_decide_eq_true (by first | (with_reducible assumption) | assumption)
                  have hx4 := bt_at a0 x3_1
                  replace p4 := eq_true p4
                  replace q4 := eq_true q4
                  go_wp2
                  go_roundg k1
                  case measure => have := HK1.out; omega
                  case rel => exact ⟨(wrap64 (x3_1 + 1)), (by first | rfl | (simp; done) | (simp [*]; done)), H', ⟨by have := HK1.out; omega⟩, by repeat (first | exact Drawn0.refl _ | apply Drawn0.step)⟩
                · rw [if_neg c15] at H
                  have c15b0 : ((bt a0 x3_1) == 95) = false := beq_eq_false_iff_ne.mpr c15
                  have c15b1 : ((bt a0 x3_1) != 95) = true := bne_iff_ne.mpr c15
                  by_cases c16 : x3_1 = 0
                  · rw [if_pos c16] at H
                    have c16b0 : (x3_1 == 0) = true := beq_iff_eq.mpr c16
                    have c16b1 : (x3_1 != 0) = false := bne_eq_false_iff_eq.mpr c16
                    clear c16
                    obtain rfl := Option.some.inj H
                    have p4 : 0 ≤ (x3_1 : Int) := of_decide_eq_true (by first | (with_reducible assumption) | assumption)
                    have q4 : x3_1 < (a0.size : Int) := of_decide_eq_true (by first | (with_reducible assumption) | assumption)
                    have hx4 := bt_at a0 x3_1
                    replace p4 := eq_true p4
                    replace q4 := eq_true q4
                    go_wp2
                    go_ret
                    exact ⟨by first | rfl | (simp; done) | (simp [*]; done), by repeat (first | exact Drawn0.refl _ | apply Drawn0.step)⟩
                  · rw [if_neg c16] at H
                    have c16b0 : (x3_1 == 0) = false := beq_eq_false_iff_ne.mpr c16
                    have c16b1 : (x3_1 != 0) = true := bne_iff_ne.mpr c16
                    by_cases c17 : (bt a0 x3_1) ≥ 48
                    · rw [if_pos c17] at H
                      have c17b0 : decide (48 ≤ (bt a0 x3_1)) = true := decide_eq_true c17
                      clear c17
                      by_cases c18 : (bt a0 x3_1) ≤ 57
                      · rw [if_pos c18] at H
                        have c18b0 : decide ((bt a0 x3_1) ≤ 57) = true := decide_eq_true c18
                        clear c18
                        have H' := Aside0.mk H
                        clear H
                        have p4 : 0 ≤ (x3_1 : Int) := of_decide_eq_true (by first | (with_reducible assumption) | assumption)
                        have q4 : x3_1 < (a0.size : Int) := of_decide_eq_true (by first | (with_reducible assumption) | assumption)
                        have hx4 := bt_at a0 x3_1
                        replace p4 := eq_true p4
                        replace q4 := eq_true q4
                        go_wp2
                        go_roundg k1
                        case measure => have := HK1.out; omega
                        case rel => exact ⟨(wrap64 (x3_1 + 1)), (by first | rfl | (simp; done) | (simp [*]; done)), H', ⟨by have := HK1.out; omega⟩, by repeat (first | exact Drawn0.refl _ | apply Drawn0.step)⟩
                      · rw [if_neg c18] at H
                        have c18b0 : decide ((bt a0 x3_1) ≤ 57) = false := decide_eq_false c18
                        clear c18
                        by_cases c19 : ((bt a0 x3_1) = 46)
                        · rw [if_pos c19] at H
                          have c19b0 : ((bt a0 x3_1) == 46) = true := beq_iff_eq.mpr c19
                          have c19b1 : ((bt a0 x3_1) != 46) = false := bne_eq_false_iff_eq.mpr c19
                          clear c19
                          have H' := Aside0.mk H
                          clear H
                          have p4 : 0 ≤ (x3_1 : Int) := of_decide_eq_true (by first | (with_reducible assumption) | assumption)
                          have q4 : x3_1 < (a0.size : Int) := of_decide_eq_true (by first | (with_reducible assumption) | assumption)
                          have hx4 := bt_at a0 x3_1
                          replace p4 := eq_true p4
                          replace q4 := eq_true q4
                          go_wp2
                          go_roundg k1
                          case measure => have := HK1.out; omega
                          case rel => exact ⟨(wrap64 (x3_1 + 1)), (by first | rfl | (simp; done) | (simp [*]; done)), H', ⟨by have := HK1.out; omega⟩, by repeat (first | exact Drawn0.refl _ | apply Drawn0.step)⟩
                        · rw [if_neg c19] at H
                          have c19b0 : ((bt a0 x3_1) == 46) = false := beq_eq_false_iff_ne.mpr c19
                          have c19b1 : ((bt a0 x3_1) != 46) = true := bne_iff_ne.mpr c19
                          obtain rfl := Option.some.inj H
                          have p4 : 0 ≤ (x3_1 : Int) := of_decide_eq_true (by first | (with_reducible assumption) | assumption)
                          have q4 : x3_1 < (a0.size : Int) := of_decide_eq_true (by first | (with_reducible assumption) | assumption)
                          have hx4 := bt_at a0 x3_1
                          replace p4 := eq_true p4
                          replace q4 := eq_true q4
                          go_wp2
                          go_ret
                          exact ⟨by first | rfl | (simp; done) | (simp [*]; done), by repeat (first | exact Drawn0.refl _ | apply Drawn0.step)⟩
                    · rw [if_neg c17] at H
                      have c17b0 : decide (48 ≤ (bt a0 x3_1)) = false := decide_eq_false c17
                      clear c17
                      by_cases c20 : ((bt a0 x3_1) = 46)
                      · rw [if_pos c20] at H
                        have c20b0 : ((bt a0 x3_1) == 46) = true := beq_iff_eq.mpr c20
                        have c20b1 : ((bt a0 x3_1) != 46) = false := bne_eq_false_iff_eq.mpr c20
                        clear c20
                        have H' := Aside0.mk H
                        clear H
                        have p4 : 0 ≤ (x3_1 : Int) := of_decide_eq_true (by first | (with_reducible assumption) | assumption)
                        have q4 : x3_1 < (a0.size : Int) := of_decide_eq_true (by first | (with_reducible assumption) | assumption)
                        have hx4 := bt_at a0 x3_1
                        replace p4 := eq_true p4
                        replace q4 := eq_true q4
                        go_wp2
                        go_roundg k1
                        case measure => have := HK1.out; omega
                        case rel => exact ⟨(wrap64 (x3_1 + 1)), (by first | rfl | (simp; done) | (simp [*]; done)), H', ⟨by have := HK1.out; omega⟩, by repeat (first | exact Drawn0.refl _ | apply Drawn0.step)⟩
                      · rw [if_neg c20] at H
                        have c20b0 : ((bt a0 x3_1) == 46) = false := beq_eq_false_iff_ne.mpr c20
                        have c20b1 : ((bt a0 x3_1) != 46) = true := bne_iff_ne.mpr c20
                        obtain rfl := Option.some.inj H
                        have p4 : 0 ≤ (x3_1 : Int) := of_decide_eq_true (by first | (with_reducible assumption) | assumption)
                        have q4 : x3_1 < (a0.size : Int) := of_decide_eq_true (by first | (with_reducible assumption) | assumption)
                        have hx4 := bt_at a0 x3_1
                        replace p4 := eq_true p4
                        replace q4 := eq_true q4
                        go_wp2
                        go_ret
                        exact ⟨by first | rfl | (simp; done) | (simp [*]; done), by repeat (first | exact Drawn0.refl _ | apply Drawn0.step)⟩
          · rw [if_neg c5] at H
            have c5b0 : decide (97 ≤ (bt a0 x3_1)) = false := decide_eq_false c5
            clear c5
            by_cases c21 : (bt a0 x3_1) ≥ 65
            · rw [if_pos c21] at H
              have c21b0 : decide (65 ≤ (bt a0 x3_1)) = true := decide_eq_true c21
              clear c21
              by_cases c22 : (bt a0 x3_1) ≤ 90
              · rw [if_pos c22] at H
                have c22b0 : decide ((bt a0 x3_1) ≤ 90) = true := decide_eq_true c22
                clear c22
                have H' := Aside0.mk H
                clear H
                have p4 : 0 ≤ (x3_1 : Int) := of_decide_eq_true (by first | (with_reducible assumption) | assumption)
                have q4 : x3_1 < (a0.size : Int) := of_decide_eq_true (by first | (with_reducible assumption) | assumption)
                have hx4 := bt_at a0 x3_1
                replace p4 := eq_true p4
                replace q4 := eq_true q4
                go_wp2
                go_roundg k1
                case measure => have := HK1.out; omega
                case rel => exact ⟨(wrap64 (x3_1 + 1)), (by first | rfl | (simp; done) | (simp [*]; done)), H', ⟨by have := HK1.out; omega⟩, by repeat (first | exact Drawn0.refl _ | apply Drawn0.step)⟩
              · rw [if_neg c22] at H
                have c22b0 : decide ((bt a0 x3_1) ≤ 90) = false := decide_eq_false c22
                clear c22
                by_cases c23 : ((bt a0 x3_1) = 95)
                · rw [if_pos c23] at H
                  have c23b0 : ((bt a0 x3_1) == 95) = true := beq_iff_eq.mpr c23
                  have c23b1 : ((bt a0 x3_1) != 95) = false := bne_eq_false_iff_eq.mpr c23
                  clear c23
                  have H' := Aside0.mk H
                  clear H
                  have p4 : 0 ≤ (x3_1 : Int) := of_decide_eq_true (by first | (with_reducible assumption) | assumption)
                  have q4 : x3_1 < (a0.size : Int) := of_decide_eq_true (by first | (with_reducible assumption) | assumption)
                  have hx4 := bt_at a0 x3_1
                  replace p4 := eq_true p4
                  replace q4 := eq_true q4
                  go_wp2
                  go_roundg k1
                  case measure => have := HK1.out; omega
                  case rel => exact ⟨(wrap64 (x3_1 + 1)), (by first | rfl | (simp; done) | (simp [*]; done)), H', ⟨by have := HK1.out; omega⟩, by repeat (first | exact Drawn0.refl _ | apply Drawn0.step)⟩
                · rw [if_neg c23] at H
                  have c23b0 : ((bt a0 x3_1) == 95) = false := beq_eq_false_iff_ne.mpr c23
                  have c23b1 : ((bt a0 x3_1) != 95) = true := bne_iff_ne.mpr c23
                  by_cases c24 : x3_1 = 0
                  · rw [if_pos c24] at H
                    have c24b0 : (x3_1 == 0) = true := beq_iff_eq.mpr c24
                    have c24b1 : (x3_1 != 0) = false := bne_eq_false_iff_eq.mpr c24
                    clear c24
                    obtain rfl := Option.some.inj H
                    have p4 : 0 ≤ (x3_1 : Int) := of_decide_eq_true (by first | (with_reducible assumption) | assumption)
                    have q4 : x3_1 < (a0.size : Int) := of_decide_eq_true (by first | (with_reducible assumption) | assumption)
                    have hx4 := bt_at a0 x3_1
                    replace p4 := eq_true p4
                    replace q4 := eq_true q4
                    go_wp2
                    go_ret
                    exact ⟨by first | rfl | (simp; done) | (simp [*]; done), by repeat (first | exact Drawn0.refl _ | apply Drawn0.step)⟩
                  · rw [if_neg c24] at H
                    have c24b0 : (x3_1 == 0) = false := beq_eq_false_iff_ne.mpr c24
                    have c24b1 : (x3_1 != 0) = true := bne_iff_ne.mpr c24
                    by_cases c25 : (bt a0 x3_1) ≥ 48
                    · rw [if_pos c25] at H
                      have c25b0 : decide (48 ≤ (bt a0 x3_1)) = true := decide_eq_true c25
                      clear c25
                      by_cases c26 : (bt a0 x3_1) ≤ 57
                      · rw [if_pos c26] at H
                        have c26b0 : decide ((bt a0 x3_1) ≤ 57) = true := decide_eq_true c26
                        clear c26
                        have H' := Aside0.mk H
                        clear H
                        have p4 : 0 ≤ (x3_1 : Int) := of_decide_eq_true (by first | (with_reducible assumption) | assumption)
                        have q4 : x3_1 < (a0.size : Int) := of_decide_eq_true (by first | (with_reducible assumption) | assumption)
                        have hx4 := bt_at a0 x3_1
                        replace p4 := eq_true p4
                        replace q4 := eq_true q4
                        go_wp2
                        go_roundg k1
                        case measure => have := HK1.out; omega
                        case rel => exact ⟨(wrap64 (x3_1 + 1)), (by first | rfl | (simp; done) | (simp [*]; done)), H', ⟨by have := HK1.out; omega⟩, by repeat (first | exact Drawn0.refl _ | apply Drawn0.step)⟩
                      · rw [if_neg c26] at H
                        have c26b0 : decide ((bt a0 x3_1) ≤ 57) = false := decide_eq_false c26
                        clear c26
                        by_cases c27 : ((bt a0 x3_1) = 46)
                        · rw [if_pos c27] at H
                          have c27b0 : ((bt a0 x3_1) == 46) = true := beq_iff_eq.mpr c27
                          have c27b1 : ((bt a0 x3_1) != 46) = false := bne_eq_false_iff_eq.mpr c27
                          clear c27
                          have H' := Aside0.mk H
                          clear H
                          have p4 : 0 ≤ (x3_1 : Int) := of_decide_eq_true (by first | (with_reducible assumption) | assumption)
                          have q4 : x3_1 < (a0.size : Int) := of_decide_eq_true (by first | (with_reducible assumption) | assumption)
                          have hx4 := bt_at a0 x3_1
                          replace p4 := eq_true p4
                          replace q4 := eq_true q4
                          go_wp2
                          go_roundg k1
                          case measure => have := HK1.out; omega
                          case rel => exact ⟨(wrap64 (x3_1 + 1)), (by first | rfl | (simp; done) | (simp [*]; done)), H', ⟨by have := HK1.out; omega⟩, by repeat (first | exact Drawn0.refl _ | apply Drawn0.step)⟩
                        · rw [if_neg c27] at H
                          have c27b0 : ((bt a0 x3_1) == 46) = false := beq_eq_false_iff_ne.mpr c27
                          have c27b1 : ((bt a0 x3_1) != 46) = true := bne_iff_ne.mpr c27
                          obtain rfl := Option.some.inj H
                          have p4 : 0 ≤ (x3_1 : Int) := of_decide_eq_true (by first | (with_reducible assumption) | assumption)
                          have q4 : x3_1 < (a0.size : Int) := of_decide_eq_true (by first | (with_reducible assumption) | assumption)
                          have hx4 := bt_at a0 x3_1
                          replace p4 := eq_true p4
                          replace q4 := eq_true q4
                          go_wp2
                          go_ret
                          exact ⟨by first | rfl | (simp; done) | (simp [*]; done), by repeat (first | exact Drawn0.refl _ | apply Drawn0.step)⟩
                    · rw [if_neg c25] at H
                      have c25b0 : decide (48 ≤ (bt a0 x3_1)) = false := decide_eq_false c25
                      clear c25
                      by_cases c28 : ((bt a0 x3_1) = 46)
                      · rw [if_pos c28] at H
                        have c28b0 : ((bt a0 x3_1) == 46) = true := beq_iff_eq.mpr c28
                        have c28b1 : ((bt a0 x3_1) != 46) = false := bne_eq_false_iff_eq.mpr c28
                        clear c28
                        have H' := Aside0.mk H
                        clear H
                        have p4 : 0 ≤ (x3_1 : Int) := of_decide_eq_true (by first | (with_reducible assumption) | assumption)
                        have q4 : x3_1 < (a0.size : Int) := of_decide_eq_true (by first | (with_reducible assumption) | assumption)
                        have hx4 := bt_at a0 x3_1
                        replace p4 := eq_true p4
                        replace q4 := eq_true q4
                        go_wp2
                        go_roundg k1
                        case measure => have := HK1.out; omega
                        case rel => exact ⟨(wrap64 (x3_1 + 1)), (by first | rfl | (simp; done) | (simp [*]; done)), H', ⟨by have := HK1.out; omega⟩, by repeat (first | exact Drawn0.refl _ | apply Drawn0.step)⟩
                      · rw [if_neg c28] at H
                        have c28b0 : ((bt a0 x3_1) == 46) = false := beq_eq_false_iff_ne.mpr c28
                        have c28b1 : ((bt a0 x3_1) != 46) = true := bne_iff_ne.mpr c28
                        obtain rfl := Option.some.inj H
                        have p4 : 0 ≤ (x3_1 : Int) := of_decide_eq_true (by first | (with_reducible assumption) | assumption)
                        have q4 : x3_1 < (a0.size : Int) := of_decide_eq_true (by first | (with_reducible assumption) | assumption)
                        have hx4 := bt_at a0 x3_1
                        replace p4 := eq_true p4
                        replace q4 := eq_true q4
                        go_wp2
                        go_ret
                        exact ⟨by first | rfl | (simp; done) | (simp [*]; done), by repeat (first | exact Drawn0.refl _ | apply Drawn0.step)⟩
            · rw [if_neg c21] at H
              have c21b0 : decide (65 ≤ (bt a0 x3_1)) = false := decide_eq_false c21
              clear c21
              by_cases c29 : ((bt a0 x3_1) = 95)
              · rw [if_pos c29] at H
                have c29b0 : ((bt a0 x3_1) == 95) = true := beq_iff_eq.mpr c29
                have c29b1 : ((bt a0 x3_1) != 95) = false := bne_eq_false_iff_eq.mpr c29
                clear c29
                have H' := Aside0.mk H
                clear H
                have p4 : 0 ≤ (x3_1 : Int) := of_decide_eq_true (by first | (with_reducible assumption) | assumption)
                have q4 : x3_1 < (a0.size : Int) := of_decide_eq_true (by first | (with_reducible assumption) | assumption)
                have hx4 := bt_at a0 x3_1
                replace p4 := eq_true p4
                replace q4 := eq_true q4
                go_wp2
                go_roundg k1
                case measure => have := HK1.out; omega
                case rel => exact ⟨(wrap64 (x3_1 + 1)), (by first | rfl | (simp; done) | (simp [*]; done)), H', ⟨by have := HK1.out; omega⟩, by repeat (first | exact Drawn0.refl _ | apply Drawn0.step)⟩
              · rw [if_neg c29] at H
                have c29b0 : ((bt a0 x3_1) == 95) = false := beq_eq_false_iff_ne.mpr c29
                have c29b1 : ((bt a0 x3_1) != 95) = true := bne_iff_ne.mpr c29
                by_cases c30 : x3_1 = 0
                · rw [if_pos c30] at H
                  have c30b0 : (x3_1 == 0) = true := beq_iff_eq.mpr c30
                  have c30b1 : (x3_1 != 0) = false := bne_eq_false_iff_eq.mpr c30
                  clear c30
                  obtain rfl := Option.some.inj H
                  have p4 : 0 ≤ (x3_1 : Int) := of_decide_eq_true (by first | (with_reducible assumption) | assumption)
                  have q4 : x3_1 < (a0.size : Int) := of_decide_eq_true (by first | (with_reducible assumption) | assumption)
                  have hx4 := bt_at a0 x3_1
                  replace p4 := eq_true p4
                  replace q4 := eq_true q4
                  go_wp2
                  go_ret
                  exact ⟨by first | rfl | (simp; done) | (simp [*]; done), by repeat (first | exact Drawn0.refl _ | apply Drawn0.step)⟩
                · rw [if_neg c30] at H
                  have c30b0 : (x3_1 == 0) = false := beq_eq_false_iff_ne.mpr c30
                  have c30b1 : (x3_1 != 0) = true := bne_iff_ne.mpr c30
                  by_cases c31 : (bt a0 x3_1) ≥ 48
                  · rw [if_pos c31] at H
                    have c31b0 : decide (48 ≤ (bt a0 x3_1)) = true := decide_eq_true c31
                    clear c31
                    by_cases c32 : (bt a0 x3_1) ≤ 57
                    · rw [if_pos c32] at H
                      have c32b0 : decide ((bt a0 x3_1) ≤ 57) = true := decide_eq_true c32
                      clear c32
                      have H' := Aside0.mk H
                      clear H
                      have p4 : 0 ≤ (x3_1 : Int) := of_decide_eq_true (by first | (with_reducible assumption) | assumption)
                      have q4 : x3_1 < (a0.size : Int) := of_decide_eq_true (by first | (with_reducible assumption) | assumption)
                      have hx4 := bt_at a0 x3_1
                      replace p4 := eq_true p4
                      replace q4 := eq_true q4
                      go_wp2
                      go_roundg k1
                      case measure => have := HK1.out; omega
                      case rel => exact ⟨(wrap64 (x3_1 + 1)), (by first | rfl | (simp; done) | (simp [*]; done)), H', ⟨by have := HK1.out; omega⟩, by repeat (first | exact Drawn0.refl _ | apply Drawn0.step)⟩
                    · rw [if_neg c32] at H
                      have c32b0 : decide ((bt a0 x3_1) ≤ 57) = false := decide_eq_false c32
                      clear c32
                      by_cases c33 : ((bt a0 x3_1) = 46)
                      · rw [if_pos c33] at H
                        have c33b0 : ((bt a0 x3_1) == 46) = true := beq_iff_eq.mpr c33
                        have c33b1 : ((bt a0 x3_1) != 46) = false := bne_eq_false_iff_eq.mpr c33
                        clear c33
                        have H' := Aside0.mk H
                        clear H
                        have p4 : 0 ≤ (x3_1 : Int) := of_decide_eq_true (by first | (with_reducible assumption) | assumption)
                        have q4 : x3_1 < (a0.size : Int) := of_decide_eq_true (by first | (with_reducible assumption) | assumption)
                        have hx4 := bt_at a0 x3_1
                        replace p4 := eq_true p4
                        replace q4 := eq_true q4
                        go_wp2
                        go_roundg k1
                        case measure => have := HK1.out; omega
                        case rel => exact ⟨(wrap64 (x3_1 + 1)), (by first | rfl | (simp; done) | (simp [*]; done)), H', ⟨by have := HK1.out; omega⟩, by repeat (first | exact Drawn0.refl _ | apply Drawn0.step)⟩
                      · rw [if_neg c33] at H
                        have c33b0 : ((bt a0 x3_1) == 46) = false := beq_eq_false_iff_ne.mpr c33
                        have c33b1 : ((bt a0 x3_1) != 46) = true := bne_iff_ne.mpr c33
                        obtain rfl := Option.some.inj H
                        have p4 : 0 ≤ (x3_1 : Int) := of_decide_eq_true (by first | (with_reducible assumption) | assumption)
                        have q4 : x3_1 < (a0.size : Int) := of_decide_eq_true (by first | (with_reducible assumption) | assumption)
                        have hx4 := bt_at a0 x3_1
                        replace p4 := eq_true p4
                        replace q4 := eq_true q4
                        go_wp2
                        go_ret
                        exact ⟨by first | rfl | (simp; done) | (simp [*]; done), by repeat (first | exact Drawn0.refl _ | apply Drawn0.step)⟩
                  · rw [if_neg c31] at H
                    have c31b0 : decide (48 ≤ (bt a0 x3_1)) = false := decide_eq_false c31
                    clear c31
                    by_cases c34 : ((bt a0 x3_1) = 46)
                    · rw [if_pos c34] at H
                      have c34b0 : ((bt a0 x3_1) == 46) = true := beq_iff_eq.mpr c34
                      have c34b1 : ((bt a0 x3_1) != 46) = false := bne_eq_false_iff_eq.mpr c34
                      clear c34
                      have H' := Aside0.mk H
                      clear H
                      have p4 : 0 ≤ (x3_1 : Int) := of_decide_eq_true (by first | (with_reducible assumption) | assumption)
                      have q4 : x3_1 < (a0.size : Int) := of_decide_eq_true (by first | (with_reducible assumption) | assumption)
                      have hx4 := bt_at a0 x3_1
                      replace p4 := eq_true p4
                      replace q4 := eq_true q4
                      go_wp2
                      go_roundg k1
                      case measure => have := HK1.out; omega
                      case rel => exact ⟨(wrap64 (x3_1 + 1)), (by first | rfl | (simp; done) | (simp [*]; done)), H', ⟨by have := HK1.out; omega⟩, by repeat (first | exact Drawn0.refl _ | apply Drawn0.step)⟩
                    · rw [if_neg c34] at H
                      have c34b0 : ((bt a0 x3_1) == 46) = false := beq_eq_false_iff_ne.mpr c34
                      have c34b1 : ((bt a0 x3_1) != 46) = true := bne_iff_ne.mpr c34
                      obtain rfl := Option.some.inj H
                      have p4 : 0 ≤ (x3_1 : Int) := of_decide_eq_true (by first | (with_reducible assumption) | assumption)
                      have q4 : x3_1 < (a0.size : Int) := of_decide_eq_true (by first | (with_reducible assumption) | assumption)
                      have hx4 := bt_at a0 x3_1
                      replace p4 := eq_true p4
                      replace q4 := eq_true q4
                      go_wp2
                      go_ret
                      exact ⟨by first | rfl | (simp; done) | (simp [*]; done), by repeat (first | exact Drawn0.refl _ | apply Drawn0.step)⟩
        · rw [if_neg c3] at H
          exact absurd H (by simp)
      · rw [if_neg c2] at H
        have c2b0 : decide (x3_1 < (a0.size : Int)) = false := decide_eq_false c2
        clear c2
        by_cases c35 : (a0.size : Int) ≥ 1
        · rw [if_pos c35] at H
          have c35b0 : decide (1 ≤ (a0.size : Int)) = true := decide_eq_true c35
          have c35b1 : decide (1 ≤ a0.size) = true := decide_eq_true (by omega)
          clear c35
          obtain rfl := Option.some.inj H
          go_wp2
          go_ret
          exact ⟨by first | rfl | (simp; done) | (simp [*]; done), by repeat (first | exact Drawn0.refl _ | apply Drawn0.step)⟩
        · rw [if_neg c35] at H
          have c35b0 : decide (1 ≤ (a0.size : Int)) = false := decide_eq_false c35
          have c35b1 : decide (1 ≤ a0.size) = false := decide_eq_false (by omega)
          clear c35
          obtain rfl := Option.some.inj H
          go_wp2
          go_ret
          exact ⟨by first | rfl | (simp; done) | (simp [*]; done), by repeat (first | exact Drawn0.refl _ | apply Drawn0.step)⟩
end Go.Proofs.Ytllepjhimkogjaa.XX
