-- Made by a program of this session (xprint.py), over the translation; Lean checks it.
import Derived.Test.YtllepjhimkogjaaXXx0
import Derived.Test.YtllepjhimkogjaaXXx13
namespace Go.Proofs.Ytllepjhimkogjaa.XX
open Go.RowKit Go.Proofs.YtllepjhimkogjaaW.PrintWords Go.Proofs.YtllepjhimkogjaaW.PrintLast Go.Proofs.YtllepjhimkogjaaW.PrintMore
attribute [local go_sem] max2_int min2_int max_two min_two max_three min_three max_four min_four   -- for this text's walks alone
set_option linter.unusedVariables false
set_option linter.unusedSimpArgs false

/-! ### tallyroomref03_Clean: function 40 -/
def tallyroomref03_Clean.l0 : Nat → ByteArray → ByteArray → Int → Option (ByteArray)
  | 0, _, _, _ => none
  | k + 1, x0, x3, x4 => if x4 < (x0.size : Int) then (if 0 ≤ x4 then (if x4 ≤ (x0.size : Int) then ((tallyroomref03_Rune.f k (x0.extract (x4 : Int).toNat x0.size)).bind fun bt143 => (if bt143.1 < 32 then (if x3.size + 1 ≤ 9223372036854775807 then (tallyroomref03_Clean.l0 k x0 (x3 ++ (⟨#[95]⟩ : ByteArray)) (wrap64 (x4 + bt143.2.1))) else (none)) else (if bt143.1 ≥ 127 then (if bt143.1 < 160 then (if x3.size + 1 ≤ 9223372036854775807 then (tallyroomref03_Clean.l0 k x0 (x3 ++ (⟨#[95]⟩ : ByteArray)) (wrap64 (x4 + bt143.2.1))) else (none)) else (if bt143.1 = 8232 then (if x3.size + 1 ≤ 9223372036854775807 then (tallyroomref03_Clean.l0 k x0 (x3 ++ (⟨#[95]⟩ : ByteArray)) (wrap64 (x4 + bt143.2.1))) else (none)) else (if bt143.1 = 8233 then (if x3.size + 1 ≤ 9223372036854775807 then (tallyroomref03_Clean.l0 k x0 (x3 ++ (⟨#[95]⟩ : ByteArray)) (wrap64 (x4 + bt143.2.1))) else (none)) else (if bt143.1 = 65533 then (if x3.size + 1 ≤ 9223372036854775807 then (tallyroomref03_Clean.l0 k x0 (x3 ++ (⟨#[95]⟩ : ByteArray)) (wrap64 (x4 + bt143.2.1))) else (none)) else (if x4 ≤ (wrap64 (x4 + bt143.2.1)) then (if (wrap64 (x4 + bt143.2.1)) ≤ (x0.size : Int) then (if x3.size + (x0.extract (x4 : Int).toNat ((wrap64 (x4 + bt143.2.1)) : Int).toNat).size ≤ 9223372036854775807 then (tallyroomref03_Clean.l0 k x0 (x3 ++ (x0.extract (x4 : Int).toNat ((wrap64 (x4 + bt143.2.1)) : Int).toNat)) (wrap64 (x4 + bt143.2.1))) else (none)) else (none)) else (none)))))) else (if bt143.1 = 8232 then (if x3.size + 1 ≤ 9223372036854775807 then (tallyroomref03_Clean.l0 k x0 (x3 ++ (⟨#[95]⟩ : ByteArray)) (wrap64 (x4 + bt143.2.1))) else (none)) else (if bt143.1 = 8233 then (if x3.size + 1 ≤ 9223372036854775807 then (tallyroomref03_Clean.l0 k x0 (x3 ++ (⟨#[95]⟩ : ByteArray)) (wrap64 (x4 + bt143.2.1))) else (none)) else (if bt143.1 = 65533 then (if x3.size + 1 ≤ 9223372036854775807 then (tallyroomref03_Clean.l0 k x0 (x3 ++ (⟨#[95]⟩ : ByteArray)) (wrap64 (x4 + bt143.2.1))) else (none)) else (if x4 ≤ (wrap64 (x4 + bt143.2.1)) then (if (wrap64 (x4 + bt143.2.1)) ≤ (x0.size : Int) then (if x3.size + (x0.extract (x4 : Int).toNat ((wrap64 (x4 + bt143.2.1)) : Int).toNat).size ≤ 9223372036854775807 then (tallyroomref03_Clean.l0 k x0 (x3 ++ (x0.extract (x4 : Int).toNat ((wrap64 (x4 + bt143.2.1)) : Int).toNat)) (wrap64 (x4 + bt143.2.1))) else (none)) else (none)) else (none)))))))) else (none)) else (none)) else (some x3)
def tallyroomref03_Clean.f (k : Nat) (a0 : ByteArray) : Option (ByteArray) := tallyroomref03_Clean.l0 k a0 (⟨#[]⟩ : ByteArray) 0
theorem tallyroomref03_Clean.mono_l : ∀ k, (∀ y0 y1 y2, LeO (tallyroomref03_Clean.l0 k y0 y1 y2) (tallyroomref03_Clean.l0 (k + 1) y0 y1 y2))
  | 0 => fun _ _ _ r h => by simp [tallyroomref03_Clean.l0] at h
  | k + 1 => by
    have ih0 := tallyroomref03_Clean.mono_l k
    · intro y0 y1 y2
      unfold tallyroomref03_Clean.l0
      repeat' first
      | (with_reducible exact ih0 _ _ _)
      | (with_reducible exact tallyroomref03_Rune.mono _ _)
      | (with_reducible exact LeO.refl _)
      | (with_reducible exact LeO.none _)
      | (with_reducible refine LeO.ite ?_ ?_)
      | (with_reducible refine LeO.bind ?_ (fun _ => ?_))
      | exact ih0 _ _ _
      | exact tallyroomref03_Rune.mono _ _
      | exact LeO.none _
      | refine LeO.ite ?_ ?_
      | refine LeO.bind ?_ (fun _ => ?_)
theorem tallyroomref03_Clean.mono : ∀ a0 k, LeO (tallyroomref03_Clean.f k a0) (tallyroomref03_Clean.f (k + 1) a0) := by
  intro a0 k
  have ih0 := tallyroomref03_Clean.mono_l k
  unfold tallyroomref03_Clean.f
  repeat' first
      | (with_reducible exact ih0 _ _ _)
      | (with_reducible exact tallyroomref03_Rune.mono _ _)
      | (with_reducible exact LeO.refl _)
      | (with_reducible exact LeO.none _)
      | (with_reducible refine LeO.ite ?_ ?_)
      | (with_reducible refine LeO.bind ?_ (fun _ => ?_))
      | exact ih0 _ _ _
      | exact tallyroomref03_Rune.mono _ _
      | exact LeO.none _
      | refine LeO.ite ?_ ?_
      | refine LeO.bind ?_ (fun _ => ?_)
set_option maxHeartbeats 8000000 in
set_option maxRecDepth 100000 in
theorem tallyroomref03_Clean.calls (k : Nat) (a0 : ByteArray) (r : ByteArray) (w : World) (h : tallyroomref03_Clean.f k a0 = some r) :
    Calls Try.prog 40 #[.string a0] w fun e w' => e = .returned (.string r) ∧ Drawn0 w w' := by
  have H : (tallyroomref03_Clean.l0 k a0 (⟨#[]⟩ : ByteArray) 0) = some r := h
  clear h
  have H' := Aside0.mk H
  clear H
  go_enter Try.func40, Try.ntmps40
  go_wp2
  go_loopg [3, 4] k (fun kq v3 v4 w' => ∃ (x3_1 : ByteArray) (x4_1 : Int), v3 = .string x3_1 ∧ v4 = .int .i64 x4_1 ∧ Aside0 (tallyroomref03_Clean.l0 kq a0 x3_1 x4_1 = some r) ∧ Aside0 (kq ≤ k) ∧ Drawn0 w w')
  case atStart => exact ⟨((⟨#[]⟩ : ByteArray)), (0), (by first | rfl | (simp; done) | (simp [*]; done)), (by first | rfl | (simp; done) | (simp [*]; done)), H', ⟨Nat.le_refl _⟩, by repeat (first | exact Drawn0.refl _ | apply Drawn0.step)⟩
  case round =>
    clear H'
    obtain ⟨x3_1, x4_1, rfl, rfl, HA, HK1, ⟨m1, rfl⟩⟩ := hrel
    cases gk with
    | zero => exact absurd HA.out (by simp [tallyroomref03_Clean.l0])
    | succ k1 =>
      have H := HA.out
      clear HA
      simp only [tallyroomref03_Clean.l0] at H
      by_cases c2 : x4_1 < (a0.size : Int)
      · rw [if_pos c2] at H
        have c2b0 : decide (x4_1 < (a0.size : Int)) = true := decide_eq_true c2
        clear c2
        by_cases c3 : 0 ≤ x4_1
        · rw [if_pos c3] at H
          have c3b0 := eq_true c3
          have c3b1 : decide (0 ≤ x4_1) = true := decide_eq_true c3
          clear c3
          by_cases c4 : x4_1 ≤ (a0.size : Int)
          · rw [if_pos c4] at H
            have c4b0 := eq_true c4
            have c4b1 : decide (x4_1 ≤ (a0.size : Int)) = true := decide_eq_true c4
            clear c4
            replace H := Option.bind_eq_some_iff.mp H
            obtain ⟨⟨t143, t144, t145⟩, A50, H⟩ := H
            replace H : (if t143 < 32 then (if x3_1.size + 1 ≤ 9223372036854775807 then (tallyroomref03_Clean.l0 k1 a0 (x3_1 ++ (⟨#[95]⟩ : ByteArray)) (wrap64 (x4_1 + t144))) else (none)) else (if t143 ≥ 127 then (if t143 < 160 then (if x3_1.size + 1 ≤ 9223372036854775807 then (tallyroomref03_Clean.l0 k1 a0 (x3_1 ++ (⟨#[95]⟩ : ByteArray)) (wrap64 (x4_1 + t144))) else (none)) else (if t143 = 8232 then (if x3_1.size + 1 ≤ 9223372036854775807 then (tallyroomref03_Clean.l0 k1 a0 (x3_1 ++ (⟨#[95]⟩ : ByteArray)) (wrap64 (x4_1 + t144))) else (none)) else (if t143 = 8233 then (if x3_1.size + 1 ≤ 9223372036854775807 then (tallyroomref03_Clean.l0 k1 a0 (x3_1 ++ (⟨#[95]⟩ : ByteArray)) (wrap64 (x4_1 + t144))) else (none)) else (if t143 = 65533 then (if x3_1.size + 1 ≤ 9223372036854775807 then (tallyroomref03_Clean.l0 k1 a0 (x3_1 ++ (⟨#[95]⟩ : ByteArray)) (wrap64 (x4_1 + t144))) else (none)) else (if x4_1 ≤ (wrap64 (x4_1 + t144)) then (if (wrap64 (x4_1 + t144)) ≤ (a0.size : Int) then (if x3_1.size + (a0.extract (x4_1 : Int).toNat ((wrap64 (x4_1 + t144)) : Int).toNat).size ≤ 9223372036854775807 then (tallyroomref03_Clean.l0 k1 a0 (x3_1 ++ (a0.extract (x4_1 : Int).toNat ((wrap64 (x4_1 + t144)) : Int).toNat)) (wrap64 (x4_1 + t144))) else (none)) else (none)) else (none)))))) else (if t143 = 8232 then (if x3_1.size + 1 ≤ 9223372036854775807 then (tallyroomref03_Clean.l0 k1 a0 (x3_1 ++ (⟨#[95]⟩ : ByteArray)) (wrap64 (x4_1 + t144))) else (none)) else (if t143 = 8233 then (if x3_1.size + 1 ≤ 9223372036854775807 then (tallyroomref03_Clean.l0 k1 a0 (x3_1 ++ (⟨#[95]⟩ : ByteArray)) (wrap64 (x4_1 + t144))) else (none)) else (if t143 = 65533 then (if x3_1.size + 1 ≤ 9223372036854775807 then (tallyroomref03_Clean.l0 k1 a0 (x3_1 ++ (⟨#[95]⟩ : ByteArray)) (wrap64 (x4_1 + t144))) else (none)) else (if x4_1 ≤ (wrap64 (x4_1 + t144)) then (if (wrap64 (x4_1 + t144)) ≤ (a0.size : Int) then (if x3_1.size + (a0.extract (x4_1 : Int).toNat ((wrap64 (x4_1 + t144)) : Int).toNat).size ≤ 9223372036854775807 then (tallyroomref03_Clean.l0 k1 a0 (x3_1 ++ (a0.extract (x4_1 : Int).toNat ((wrap64 (x4_1 + t144)) : Int).toNat)) (wrap64 (x4_1 + t144))) else (none)) else (none)) else (none))))))) = some r := H
            have A5 := Aside0.mk A50
            clear A50
            by_cases c6 : t143 < 32
            · rw [if_pos c6] at H
              have c6b0 : decide (t143 < 32) = true := decide_eq_true c6
              clear c6
              by_cases c7 : x3_1.size + 1 ≤ 9223372036854775807
              · rw [if_pos c7] at H
                have c7b0 := eq_true c7
                have c7b1 : decide (x3_1.size + 1 ≤ 9223372036854775807) = true := decide_eq_true c7
                try have c7b2 : (9223372036854775807 < x3_1.size + 1) = False := eq_false (Nat.not_lt.2 c7)
                have H' := Aside0.mk H
                clear H
                go_wp2_with (first | ((with_reducible refine gate_callee (f := 75) rfl ?_); refine goesL_ (some 16) rfl rfl Try.func75 (by kernel_rfl) rfl #[.string (a0.extract (x4_1 : Int).toNat a0.size)] rfl (by (try simp only [List.map_toArray, List.map_cons, List.map_nil]); first | done | rfl | (simp only [List.length_drop, List.length_take]; rfl)) ?_; (with_reducible refine (tallyroomref03_Rune.calls k1 (a0.extract (x4_1 : Int).toNat a0.size) t143 t144 t145 _ A5.out).mono ?_); rintro e w' ⟨rfl, ⟨nd, rfl⟩⟩; refine ⟨_, rfl, ?_⟩))
                go_roundg k1
                case measure => have := HK1.out; omega
                case rel => exact ⟨(x3_1 ++ (⟨#[95]⟩ : ByteArray)), (wrap64 (x4_1 + t144)), (by first | rfl | (simp; done) | (simp [*]; done)), (by first | rfl | (simp; done) | (simp [*]; done)), H', ⟨by have := HK1.out; omega⟩, by repeat (first | exact Drawn0.refl _ | apply Drawn0.step)⟩
              · rw [if_neg c7] at H
                exact absurd H (by simp)
            · rw [if_neg c6] at H
              have c6b0 : decide (t143 < 32) = false := decide_eq_false c6
              clear c6
              by_cases c8 : t143 ≥ 127
              · rw [if_pos c8] at H
                have c8b0 : decide (127 ≤ t143) = true := decide_eq_true c8
                clear c8
                by_cases c9 : t143 < 160
                · rw [if_pos c9] at H
                  have c9b0 : decide (t143 < 160) = true := decide_eq_true c9
                  clear c9
                  by_cases c10 : x3_1.size + 1 ≤ 9223372036854775807
                  · rw [if_pos c10] at H
                    have c10b0 := eq_true c10
                    have c10b1 : decide (x3_1.size + 1 ≤ 9223372036854775807) = true := decide_eq_true c10
                    try have c10b2 : (9223372036854775807 < x3_1.size + 1) = False := eq_false (Nat.not_lt.2 c10)
                    have H' := Aside0.mk H
                    clear H
                    go_wp2_with (first | ((with_reducible refine gate_callee (f := 75) rfl ?_); refine goesL_ (some 16) rfl rfl Try.func75 (by kernel_rfl) rfl #[.string (a0.extract (x4_1 : Int).toNat a0.size)] rfl (by (try simp only [List.map_toArray, List.map_cons, List.map_nil]); first | done | rfl | (simp only [List.length_drop, List.length_take]; rfl)) ?_; (with_reducible refine (tallyroomref03_Rune.calls k1 (a0.extract (x4_1 : Int).toNat a0.size) t143 t144 t145 _ A5.out).mono ?_); rintro e w' ⟨rfl, ⟨nd, rfl⟩⟩; refine ⟨_, rfl, ?_⟩))
                    go_roundg k1
                    case measure => have := HK1.out; omega
                    case rel => exact ⟨(x3_1 ++ (⟨#[95]⟩ : ByteArray)), (wrap64 (x4_1 + t144)), (by first | rfl | (simp; done) | (simp [*]; done)), (by first | rfl | (simp; done) | (simp [*]; done)), H', ⟨by have := HK1.out; omega⟩, by repeat (first | exact Drawn0.refl _ | apply Drawn0.step)⟩
                  · rw [if_neg c10] at H
                    exact absurd H (by simp)
                · rw [if_neg c9] at H
                  have c9b0 : decide (t143 < 160) = false := decide_eq_false c9
                  clear c9
                  by_cases c11 : t143 = 8232
                  · rw [if_pos c11] at H
                    have c11b0 : (t143 == 8232) = true := beq_iff_eq.mpr c11
                    have c11b1 : (t143 != 8232) = false := bne_eq_false_iff_eq.mpr c11
                    clear c11
                    by_cases c12 : x3_1.size + 1 ≤ 9223372036854775807
                    · rw [if_pos c12] at H
                      have c12b0 := eq_true c12
                      have c12b1 : decide (x3_1.size + 1 ≤ 9223372036854775807) = true := decide_eq_true c12
                      try have c12b2 : (9223372036854775807 < x3_1.size + 1) = False := eq_false (Nat.not_lt.2 c12)
                      have H' := Aside0.mk H
                      clear H
                      go_wp2_with (first | ((with_reducible refine gate_callee (f := 75) rfl ?_); refine goesL_ (some 16) rfl rfl Try.func75 (by kernel_rfl) rfl #[.string (a0.extract (x4_1 : Int).toNat a0.size)] rfl (by (try simp only [List.map_toArray, List.map_cons, List.map_nil]); first | done | rfl | (simp only [List.length_drop, List.length_take]; rfl)) ?_; (with_reducible refine (tallyroomref03_Rune.calls k1 (a0.extract (x4_1 : Int).toNat a0.size) t143 t144 t145 _ A5.out).mono ?_); rintro e w' ⟨rfl, ⟨nd, rfl⟩⟩; refine ⟨_, rfl, ?_⟩))
                      go_roundg k1
                      case measure => have := HK1.out; omega
                      case rel => exact ⟨(x3_1 ++ (⟨#[95]⟩ : ByteArray)), (wrap64 (x4_1 + t144)), (by first | rfl | (simp; done) | (simp [*]; done)), (by first | rfl | (simp; done) | (simp [*]; done)), H', ⟨by have := HK1.out; omega⟩, by repeat (first | exact Drawn0.refl _ | apply Drawn0.step)⟩
                    · rw [if_neg c12] at H
                      exact absurd H (by simp)
                  · rw [if_neg c11] at H
                    have c11b0 : (t143 == 8232) = false := beq_eq_false_iff_ne.mpr c11
                    have c11b1 : (t143 != 8232) = true := bne_iff_ne.mpr c11
                    by_cases c13 : t143 = 8233
                    · rw [if_pos c13] at H
                      have c13b0 : (t143 == 8233) = true := beq_iff_eq.mpr c13
                      have c13b1 : (t143 != 8233) = false := bne_eq_false_iff_eq.mpr c13
                      clear c13
                      by_cases c14 : x3_1.size + 1 ≤ 9223372036854775807
                      · rw [if_pos c14] at H
                        have c14b0 := eq_true c14
                        have c14b1 : decide (x3_1.size + 1 ≤ 9223372036854775807) = true := decide_eq_true c14
                        try have c14b2 : (9223372036854775807 < x3_1.size + 1) = False := eq_false (Nat.not_lt.2 c14)
                        have H' := Aside0.mk H
                        clear H
                        go_wp2_with (first | ((with_reducible refine gate_callee (f := 75) rfl ?_); refine goesL_ (some 16) rfl rfl Try.func75 (by kernel_rfl) rfl #[.string (a0.extract (x4_1 : Int).toNat a0.size)] rfl (by (try simp only [List.map_toArray, List.map_cons, List.map_nil]); first | done | rfl | (simp only [List.length_drop, List.length_take]; rfl)) ?_; (with_reducible refine (tallyroomref03_Rune.calls k1 (a0.extract (x4_1 : Int).toNat a0.size) t143 t144 t145 _ A5.out).mono ?_); rintro e w' ⟨rfl, ⟨nd, rfl⟩⟩; refine ⟨_, rfl, ?_⟩))
                        go_roundg k1
                        case measure => have := HK1.out; omega
                        case rel => exact ⟨(x3_1 ++ (⟨#[95]⟩ : ByteArray)), (wrap64 (x4_1 + t144)), (by first | rfl | (simp; done) | (simp [*]; done)), (by first | rfl | (simp; done) | (simp [*]; done)), H', ⟨by have := HK1.out; omega⟩, by repeat (first | exact Drawn0.refl _ | apply Drawn0.step)⟩
                      · rw [if_neg c14] at H
                        exact absurd H (by simp)
                    · rw [if_neg c13] at H
                      have c13b0 : (t143 == 8233) = false := beq_eq_false_iff_ne.mpr c13
                      have c13b1 : (t143 != 8233) = true := bne_iff_ne.mpr c13
                      by_cases c15 : t143 = 65533
                      · rw [if_pos c15] at H
                        have c15b0 : (t143 == 65533) = true := beq_iff_eq.mpr c15
                        have c15b1 : (t143 != 65533) = false := bne_eq_false_iff_eq.mpr c15
                        clear c15
                        by_cases c16 : x3_1.size + 1 ≤ 9223372036854775807
                        · rw [if_pos c16] at H
                          have c16b0 := eq_true c16
                          have c16b1 : decide (x3_1.size + 1 ≤ 9223372036854775807) = true := decide_eq_true c16
                          try have c16b2 : (9223372036854775807 < x3_1.size + 1) = False := eq_false (Nat.not_lt.2 c16)
                          have H' := Aside0.mk H
                          clear H
                          go_wp2_with (first | ((with_reducible refine gate_callee (f := 75) rfl ?_); refine goesL_ (some 16) rfl rfl Try.func75 (by kernel_rfl) rfl #[.string (a0.extract (x4_1 : Int).toNat a0.size)] rfl (by (try simp only [List.map_toArray, List.map_cons, List.map_nil]); first | done | rfl | (simp only [List.length_drop, List.length_take]; rfl)) ?_; (with_reducible refine (tallyroomref03_Rune.calls k1 (a0.extract (x4_1 : Int).toNat a0.size) t143 t144 t145 _ A5.out).mono ?_); rintro e w' ⟨rfl, ⟨nd, rfl⟩⟩; refine ⟨_, rfl, ?_⟩))
                          go_roundg k1
                          case measure => have := HK1.out; omega
                          case rel => exact ⟨(x3_1 ++ (⟨#[95]⟩ : ByteArray)), (wrap64 (x4_1 + t144)), (by first | rfl | (simp; done) | (simp [*]; done)), (by first | rfl | (simp; done) | (simp [*]; done)), H', ⟨by have := HK1.out; omega⟩, by repeat (first | exact Drawn0.refl _ | apply Drawn0.step)⟩
                        · rw [if_neg c16] at H
                          exact absurd H (by simp)
                      · rw [if_neg c15] at H
                        have c15b0 : (t143 == 65533) = false := beq_eq_false_iff_ne.mpr c15
                        have c15b1 : (t143 != 65533) = true := bne_iff_ne.mpr c15
                        have c17b0 := eq_true (of_decide_eq_true (by first | (with_reducible assumption) | assumption) : 0 ≤ x4_1)
                        by_cases c18 : x4_1 ≤ (wrap64 (x4_1 + t144))
                        · rw [if_pos c18] at H
                          have c18b0 := eq_true c18
                          have c18b1 : decide (x4_1 ≤ (wrap64 (x4_1 + t144))) = true := decide_eq_true c18
                          by_cases c19 : (wrap64 (x4_1 + t144)) ≤ (a0.size : Int)
                          · rw [if_pos c19] at H
                            have c19b0 := eq_true c19
                            have c19b1 : decide ((wrap64 (x4_1 + t144)) ≤ (a0.size : Int)) = true := decide_eq_true c19
                            by_cases c20 : x3_1.size + (a0.extract (x4_1 : Int).toNat ((wrap64 (x4_1 + t144)) : Int).toNat).size ≤ 9223372036854775807
                            · rw [if_pos c20] at H
                              have c20b0 := eq_true c20
                              have c20b1 : decide (x3_1.size + (a0.extract (x4_1 : Int).toNat ((wrap64 (x4_1 + t144)) : Int).toNat).size ≤ 9223372036854775807) = true := decide_eq_true c20
                              try have c20b2 : (9223372036854775807 < x3_1.size + (a0.extract (x4_1 : Int).toNat ((wrap64 (x4_1 + t144)) : Int).toNat).size) = False := eq_false (Nat.not_lt.2 c20)
                              have H' := Aside0.mk H
                              clear H
                              go_wp2_with (first | ((with_reducible refine gate_callee (f := 75) rfl ?_); refine goesL_ (some 16) rfl rfl Try.func75 (by kernel_rfl) rfl #[.string (a0.extract (x4_1 : Int).toNat a0.size)] rfl (by (try simp only [List.map_toArray, List.map_cons, List.map_nil]); first | done | rfl | (simp only [List.length_drop, List.length_take]; rfl)) ?_; (with_reducible refine (tallyroomref03_Rune.calls k1 (a0.extract (x4_1 : Int).toNat a0.size) t143 t144 t145 _ A5.out).mono ?_); rintro e w' ⟨rfl, ⟨nd, rfl⟩⟩; refine ⟨_, rfl, ?_⟩))
                              go_roundg k1
                              case measure => have := HK1.out; omega
                              case rel => exact ⟨(x3_1 ++ (a0.extract (x4_1 : Int).toNat ((wrap64 (x4_1 + t144)) : Int).toNat)), (wrap64 (x4_1 + t144)), (by first | rfl | (simp; done) | (simp [*]; done)), (by first | rfl | (simp; done) | (simp [*]; done)), H', ⟨by have := HK1.out; omega⟩, by repeat (first | exact Drawn0.refl _ | apply Drawn0.step)⟩
                            · rw [if_neg c20] at H
                              exact absurd H (by simp)
                          · rw [if_neg c19] at H
                            exact absurd H (by simp)
                        · rw [if_neg c18] at H
                          exact absurd H (by simp)
              · rw [if_neg c8] at H
                have c8b0 : decide (127 ≤ t143) = false := decide_eq_false c8
                clear c8
                by_cases c21 : t143 = 8232
                · rw [if_pos c21] at H
                  have c21b0 : (t143 == 8232) = true := beq_iff_eq.mpr c21
                  have c21b1 : (t143 != 8232) = false := bne_eq_false_iff_eq.mpr c21
                  clear c21
                  by_cases c22 : x3_1.size + 1 ≤ 9223372036854775807
                  · rw [if_pos c22] at H
                    have c22b0 := eq_true c22
                    have c22b1 : decide (x3_1.size + 1 ≤ 9223372036854775807) = true := decide_eq_true c22
                    try have c22b2 : (9223372036854775807 < x3_1.size + 1) = False := eq_false (Nat.not_lt.2 c22)
                    have H' := Aside0.mk H
                    clear H
                    go_wp2_with (first | ((with_reducible refine gate_callee (f := 75) rfl ?_); refine goesL_ (some 16) rfl rfl Try.func75 (by kernel_rfl) rfl #[.string (a0.extract (x4_1 : Int).toNat a0.size)] rfl (by (try simp only [List.map_toArray, List.map_cons, List.map_nil]); first | done | rfl | (simp only [List.length_drop, List.length_take]; rfl)) ?_; (with_reducible refine (tallyroomref03_Rune.calls k1 (a0.extract (x4_1 : Int).toNat a0.size) t143 t144 t145 _ A5.out).mono ?_); rintro e w' ⟨rfl, ⟨nd, rfl⟩⟩; refine ⟨_, rfl, ?_⟩))
                    go_roundg k1
                    case measure => have := HK1.out; omega
                    case rel => exact ⟨(x3_1 ++ (⟨#[95]⟩ : ByteArray)), (wrap64 (x4_1 + t144)), (by first | rfl | (simp; done) | (simp [*]; done)), (by first | rfl | (simp; done) | (simp [*]; done)), H', ⟨by have := HK1.out; omega⟩, by repeat (first | exact Drawn0.refl _ | apply Drawn0.step)⟩
                  · rw [if_neg c22] at H
                    exact absurd H (by simp)
                · rw [if_neg c21] at H
                  have c21b0 : (t143 == 8232) = false := beq_eq_false_iff_ne.mpr c21
                  have c21b1 : (t143 != 8232) = true := bne_iff_ne.mpr c21
                  by_cases c23 : t143 = 8233
                  · rw [if_pos c23] at H
                    have c23b0 : (t143 == 8233) = true := beq_iff_eq.mpr c23
                    have c23b1 : (t143 != 8233) = false := bne_eq_false_iff_eq.mpr c23
                    clear c23
                    by_cases c24 : x3_1.size + 1 ≤ 9223372036854775807
                    · rw [if_pos c24] at H
                      have c24b0 := eq_true c24
                      have c24b1 : decide (x3_1.size + 1 ≤ 9223372036854775807) = true := decide_eq_true c24
                      try have c24b2 : (9223372036854775807 < x3_1.size + 1) = False := eq_false (Nat.not_lt.2 c24)
                      have H' := Aside0.mk H
                      clear H
                      go_wp2_with (first | ((with_reducible refine gate_callee (f := 75) rfl ?_); refine goesL_ (some 16) rfl rfl Try.func75 (by kernel_rfl) rfl #[.string (a0.extract (x4_1 : Int).toNat a0.size)] rfl (by (try simp only [List.map_toArray, List.map_cons, List.map_nil]); first | done | rfl | (simp only [List.length_drop, List.length_take]; rfl)) ?_; (with_reducible refine (tallyroomref03_Rune.calls k1 (a0.extract (x4_1 : Int).toNat a0.size) t143 t144 t145 _ A5.out).mono ?_); rintro e w' ⟨rfl, ⟨nd, rfl⟩⟩; refine ⟨_, rfl, ?_⟩))
                      go_roundg k1
                      case measure => have := HK1.out; omega
                      case rel => exact ⟨(x3_1 ++ (⟨#[95]⟩ : ByteArray)), (wrap64 (x4_1 + t144)), (by first | rfl | (simp; done) | (simp [*]; done)), (by first | rfl | (simp; done) | (simp [*]; done)), H', ⟨by have := HK1.out; omega⟩, by repeat (first | exact Drawn0.refl _ | apply Drawn0.step)⟩
                    · rw [if_neg c24] at H
                      exact absurd H (by simp)
                  · rw [if_neg c23] at H
                    have c23b0 : (t143 == 8233) = false := beq_eq_false_iff_ne.mpr c23
                    have c23b1 : (t143 != 8233) = true := bne_iff_ne.mpr c23
                    by_cases c25 : t143 = 65533
                    · rw [if_pos c25] at H
                      have c25b0 : (t143 == 65533) = true := beq_iff_eq.mpr c25
                      have c25b1 : (t143 != 65533) = false := bne_eq_false_iff_eq.mpr c25
                      clear c25
                      by_cases c26 : x3_1.size + 1 ≤ 9223372036854775807
                      · rw [if_pos c26] at H
                        have c26b0 := eq_true c26
                        have c26b1 : decide (x3_1.size + 1 ≤ 9223372036854775807) = true := decide_eq_true c26
                        try have c26b2 : (9223372036854775807 < x3_1.size + 1) = False := eq_false (Nat.not_lt.2 c26)
                        have H' := Aside0.mk H
                        clear H
                        go_wp2_with (first | ((with_reducible refine gate_callee (f := 75) rfl ?_); refine goesL_ (some 16) rfl rfl Try.func75 (by kernel_rfl) rfl #[.string (a0.extract (x4_1 : Int).toNat a0.size)] rfl (by (try simp only [List.map_toArray, List.map_cons, List.map_nil]); first | done | rfl | (simp only [List.length_drop, List.length_take]; rfl)) ?_; (with_reducible refine (tallyroomref03_Rune.calls k1 (a0.extract (x4_1 : Int).toNat a0.size) t143 t144 t145 _ A5.out).mono ?_); rintro e w' ⟨rfl, ⟨nd, rfl⟩⟩; refine ⟨_, rfl, ?_⟩))
                        go_roundg k1
                        case measure => have := HK1.out; omega
                        case rel => exact ⟨(x3_1 ++ (⟨#[95]⟩ : ByteArray)), (wrap64 (x4_1 + t144)), (by first | rfl | (simp; done) | (simp [*]; done)), (by first | rfl | (simp; done) | (simp [*]; done)), H', ⟨by have := HK1.out; omega⟩, by repeat (first | exact Drawn0.refl _ | apply Drawn0.step)⟩
                      · rw [if_neg c26] at H
                        exact absurd H (by simp)
                    · rw [if_neg c25] at H
                      have c25b0 : (t143 == 65533) = false := beq_eq_false_iff_ne.mpr c25
                      have c25b1 : (t143 != 65533) = true := bne_iff_ne.mpr c25
                      have c27b0 := eq_true (of_decide_eq_true (by first | (with_reducible assumption) | assumption) : 0 ≤ x4_1)
                      by_cases c28 : x4_1 ≤ (wrap64 (x4_1 + t144))
                      · rw [if_pos c28] at H
                        have c28b0 := eq_true c28
                        have c28b1 : decide (x4_1 ≤ (wrap64 (x4_1 + t144))) = true := decide_eq_true c28
                        by_cases c29 : (wrap64 (x4_1 + t144)) ≤ (a0.size : Int)
                        · rw [if_pos c29] at H
                          have c29b0 := eq_true c29
                          have c29b1 : decide ((wrap64 (x4_1 + t144)) ≤ (a0.size : Int)) = true := decide_eq_true c29
                          by_cases c30 : x3_1.size + (a0.extract (x4_1 : Int).toNat ((wrap64 (x4_1 + t144)) : Int).toNat).size ≤ 9223372036854775807
                          · rw [if_pos c30] at H
                            have c30b0 := eq_true c30
                            have c30b1 : decide (x3_1.size + (a0.extract (x4_1 : Int).toNat ((wrap64 (x4_1 + t144)) : Int).toNat).size ≤ 9223372036854775807) = true := decide_eq_true c30
                            try have c30b2 : (9223372036854775807 < x3_1.size + (a0.extract (x4_1 : Int).toNat ((wrap64 (x4_1 + t144)) : Int).toNat).size) = False := eq_false (Nat.not_lt.2 c30)
                            have H' := Aside0.mk H
                            clear H
                            go_wp2_with (first | ((with_reducible refine gate_callee (f := 75) rfl ?_); refine goesL_ (some 16) rfl rfl Try.func75 (by kernel_rfl) rfl #[.string (a0.extract (x4_1 : Int).toNat a0.size)] rfl (by (try simp only [List.map_toArray, List.map_cons, List.map_nil]); first | done | rfl | (simp only [List.length_drop, List.length_take]; rfl)) ?_; (with_reducible refine (tallyroomref03_Rune.calls k1 (a0.extract (x4_1 : Int).toNat a0.size) t143 t144 t145 _ A5.out).mono ?_); rintro e w' ⟨rfl, ⟨nd, rfl⟩⟩; refine ⟨_, rfl, ?_⟩))
                            go_roundg k1
                            case measure => have := HK1.out; omega
                            case rel => exact ⟨(x3_1 ++ (a0.extract (x4_1 : Int).toNat ((wrap64 (x4_1 + t144)) : Int).toNat)), (wrap64 (x4_1 + t144)), (by first | rfl | (simp; done) | (simp [*]; done)), (by first | rfl | (simp; done) | (simp [*]; done)), H', ⟨by have := HK1.out; omega⟩, by repeat (first | exact Drawn0.refl _ | apply Drawn0.step)⟩
                          · rw [if_neg c30] at H
                            exact absurd H (by simp)
                        · rw [if_neg c29] at H
                          exact absurd H (by simp)
                      · rw [if_neg c28] at H
                        exact absurd H (by simp)
          · rw [if_neg c4] at H
            exact absurd H (by simp)
        · rw [if_neg c3] at H
          exact absurd H (by simp)
      · rw [if_neg c2] at H
        have c2b0 : decide (x4_1 < (a0.size : Int)) = false := decide_eq_false c2
        clear c2
        obtain rfl := Option.some.inj H
        go_wp2
        go_ret
        exact ⟨by first | rfl | (simp; done) | (simp [*]; done), by repeat (first | exact Drawn0.refl _ | apply Drawn0.step)⟩

end Go.Proofs.Ytllepjhimkogjaa.XX
