-- Made by a program of this session (xprint.py), over the translation; Lean checks it.
import Derived.Test.YtgpkihnihmbomaaXWpx0
import Derived.Test.YtgpkihnihmbomaaXWpx9
import Derived.Test.YtgpkihnihmbomaaXWpx10
namespace Go.Proofs.Ytgpkihnihmbomaa.XWp
open Go.RowKit Go.Proofs.YtgpkihnihmbomaaW.PrintWords Go.Proofs.YtgpkihnihmbomaaW.PrintLast Go.Proofs.YtgpkihnihmbomaaW.PrintMore
attribute [local go_sem] max2_int min2_int max_two min_two max_three min_three max_four min_four   -- for this text's walks alone
set_option linter.unusedVariables false
set_option linter.unusedSimpArgs false

/-! ### tallyroomref13_Least: function 55 -/
def tallyroomref13_Least.l0 : Nat → List (S80) → Int → Int → Int → Int → Bool → Int → Option (Int × Bool)
  | 0, _, _, _, _, _, _, _ => none
  | k + 1, x0, x1, x2, x3, x10, x11, x12 => if x12 < x1 then ((tallyroomref13_Idle.f k x0 x12 x3).bind fun t114 => (if t114 = true then (tallyroomref13_Least.l0 k x0 x1 x2 x3 x10 x11 (wrap64 (x12 + 1))) else ((tallyroomref13_Mark.f k x0 x12 x2).bind fun t115 => (if x11 = true then (if t115 < x10 then (tallyroomref13_Least.l0 k x0 x1 x2 x3 t115 true (wrap64 (x12 + 1))) else (tallyroomref13_Least.l0 k x0 x1 x2 x3 x10 true (wrap64 (x12 + 1)))) else (tallyroomref13_Least.l0 k x0 x1 x2 x3 t115 true (wrap64 (x12 + 1))))))) else (some (x10, x11))
def tallyroomref13_Least.f (k : Nat) (l0 : List (S80)) (a1 : Int) (a2 : Int) (a3 : Int) : Option (Int × Bool) := tallyroomref13_Least.l0 k l0 a1 a2 a3 0 false 0
theorem tallyroomref13_Least.mono_l : ∀ k, (∀ y0 y1 y2 y3 y4 y5 y6, LeO (tallyroomref13_Least.l0 k y0 y1 y2 y3 y4 y5 y6) (tallyroomref13_Least.l0 (k + 1) y0 y1 y2 y3 y4 y5 y6))
  | 0 => fun _ _ _ _ _ _ _ r h => by simp [tallyroomref13_Least.l0] at h
  | k + 1 => by
    have ih0 := tallyroomref13_Least.mono_l k
    · intro y0 y1 y2 y3 y4 y5 y6
      unfold tallyroomref13_Least.l0
      repeat' first
      | (with_reducible exact ih0 _ _ _ _ _ _ _)
      | (with_reducible exact tallyroomref13_Idle.mono _ _ _ _)
      | (with_reducible exact tallyroomref13_Mark.mono _ _ _ _)
      | (with_reducible exact LeO.refl _)
      | (with_reducible exact LeO.none _)
      | (with_reducible refine LeO.ite ?_ ?_)
      | (with_reducible refine LeO.bind ?_ (fun _ => ?_))
      | exact ih0 _ _ _ _ _ _ _
      | exact tallyroomref13_Idle.mono _ _ _ _
      | exact tallyroomref13_Mark.mono _ _ _ _
      | exact LeO.none _
      | refine LeO.ite ?_ ?_
      | refine LeO.bind ?_ (fun _ => ?_)
theorem tallyroomref13_Least.mono : ∀ a0 a1 a2 a3 k, LeO (tallyroomref13_Least.f k a0 a1 a2 a3) (tallyroomref13_Least.f (k + 1) a0 a1 a2 a3) := by
  intro a0 a1 a2 a3 k
  have ih0 := tallyroomref13_Least.mono_l k
  unfold tallyroomref13_Least.f
  repeat' first
      | (with_reducible exact ih0 _ _ _ _ _ _ _)
      | (with_reducible exact tallyroomref13_Idle.mono _ _ _ _)
      | (with_reducible exact tallyroomref13_Mark.mono _ _ _ _)
      | (with_reducible exact LeO.refl _)
      | (with_reducible exact LeO.none _)
      | (with_reducible refine LeO.ite ?_ ?_)
      | (with_reducible refine LeO.bind ?_ (fun _ => ?_))
      | exact ih0 _ _ _ _ _ _ _
      | exact tallyroomref13_Idle.mono _ _ _ _
      | exact tallyroomref13_Mark.mono _ _ _ _
      | exact LeO.none _
      | refine LeO.ite ?_ ?_
      | refine LeO.bind ?_ (fun _ => ?_)
set_option maxHeartbeats 8000000 in
set_option maxRecDepth 100000 in
theorem tallyroomref13_Least.calls (k : Nat) (A0 : Option Addr) (c0 : Nat) (l0 : List (S80)) (a1 : Int) (a2 : Int) (a3 : Int) (r1 : Int) (r2 : Bool) (w : World) (hr0 : Kd.C k80 w A0 l0.length l0) (hc0 : l0.length ≤ c0) (h : tallyroomref13_Least.f k l0 a1 a2 a3 = some (r1, r2)) :
    Calls Try.prog 55 #[.slice A0 l0.length c0, .int .i64 a1, .int .u64 a2, .int .u64 a3] w fun e w' => e = .returned (.tuple #[.int .u64 r1, .bool r2]) ∧ Drawn0 w w' := by
  have HR0 := Aside0.mk hr0
  have HC0 := Aside0.mk hc0
  clear hr0 hc0
  have H : (tallyroomref13_Least.l0 k l0 a1 a2 a3 0 false 0) = some (r1, r2) := h
  clear h
  have H' := Aside0.mk H
  clear H
  go_enter Try.func55, Try.ntmps55
  go_wp2
  go_loopg [10, 11, 12] k (fun kq v10 v11 v12 w' => ∃ (x10_1 : Int) (x11_1 : Bool) (x12_1 : Int), v10 = .int .u64 x10_1 ∧ v11 = .bool x11_1 ∧ v12 = .int .i64 x12_1 ∧ Aside0 (tallyroomref13_Least.l0 kq l0 a1 a2 a3 x10_1 x11_1 x12_1 = some (r1, r2)) ∧ Aside0 (kq ≤ k) ∧ Drawn0 w w')
  case atStart => exact ⟨(0), (false), (0), (by first | rfl | (simp; done) | (simp [*]; done)), (by first | rfl | (simp; done) | (simp [*]; done)), (by first | rfl | (simp; done) | (simp [*]; done)), H', ⟨Nat.le_refl _⟩, by repeat (first | exact Drawn0.refl _ | apply Drawn0.step)⟩
  case round =>
    clear H'
    try clear p2
    obtain ⟨x10_1, x11_1, x12_1, rfl, rfl, rfl, HA, HK1, ⟨m1, rfl⟩⟩ := hrel
    cases gk with
    | zero => exact absurd HA.out (by simp [tallyroomref13_Least.l0])
    | succ k1 =>
      have H := HA.out
      clear HA
      simp only [tallyroomref13_Least.l0] at H
      by_cases c5 : x12_1 < a1
      · rw [if_pos c5] at H
        have c5b0 : decide (x12_1 < a1) = true := decide_eq_true c5
        clear c5
        replace H := Option.bind_eq_some_iff.mp H
        obtain ⟨t114, A60, H⟩ := H
        replace H : (if t114 = true then (tallyroomref13_Least.l0 k1 l0 a1 a2 a3 x10_1 x11_1 (wrap64 (x12_1 + 1))) else ((tallyroomref13_Mark.f k1 l0 x12_1 a2).bind fun t115 => (if x11_1 = true then (if t115 < x10_1 then (tallyroomref13_Least.l0 k1 l0 a1 a2 a3 t115 true (wrap64 (x12_1 + 1))) else (tallyroomref13_Least.l0 k1 l0 a1 a2 a3 x10_1 true (wrap64 (x12_1 + 1)))) else (tallyroomref13_Least.l0 k1 l0 a1 a2 a3 t115 true (wrap64 (x12_1 + 1)))))) = some (r1, r2) := H
        have A6 := Aside0.mk A60
        clear A60
        by_cases c7 : t114 = true
        · subst c7
          have H1 : (tallyroomref13_Least.l0 k1 l0 a1 a2 a3 x10_1 x11_1 (wrap64 (x12_1 + 1))) = some (r1, r2) := by rw [if_pos rfl] at H; exact H
          clear H
          have H := H1
          clear H1
          have H' := Aside0.mk H
          clear H
          go_wp2_with (first | ((with_reducible refine gate_callee (f := 43) rfl ?_); refine goesL_ (some 22) rfl rfl Try.func43 (by kernel_rfl) rfl #[.slice A0 l0.length c0, .int .i64 x12_1, .int .u64 a3] rfl (by (try simp only [List.map_toArray, List.map_cons, List.map_nil]); first | done | rfl | (simp only [List.length_drop, List.length_take]; rfl)) ?_; (with_reducible refine (tallyroomref13_Idle.calls k1 _ _ l0 x12_1 a3 true _ ?side1 ?side2 A6.out).mono ?_); (case side1 => repeat (first | exact HR0.out | (with_reducible refine Kd.C_alloc ?_ _) | (with_reducible refine Kd.C_drewN ?_ _) | (with_reducible refine Kd.C_drew ?_))); (case side2 => exact HC0.out); rintro e w' ⟨rfl, ⟨nd, rfl⟩⟩; refine ⟨_, rfl, ?_⟩))
          go_roundg k1
          case measure => have := HK1.out; omega
          case rel => exact ⟨(x10_1), (x11_1), (wrap64 (x12_1 + 1)), (by first | rfl | (simp; done) | (simp [*]; done)), (by first | rfl | (simp; done) | (simp [*]; done)), (by first | rfl | (simp; done) | (simp [*]; done)), H', ⟨by have := HK1.out; omega⟩, by repeat (first | exact Drawn0.refl _ | apply Drawn0.step)⟩
        · replace c7 := Bool.eq_false_iff.mpr c7
          subst c7
          have H1 : ((tallyroomref13_Mark.f k1 l0 x12_1 a2).bind fun t115 => (if x11_1 = true then (if t115 < x10_1 then (tallyroomref13_Least.l0 k1 l0 a1 a2 a3 t115 true (wrap64 (x12_1 + 1))) else (tallyroomref13_Least.l0 k1 l0 a1 a2 a3 x10_1 true (wrap64 (x12_1 + 1)))) else (tallyroomref13_Least.l0 k1 l0 a1 a2 a3 t115 true (wrap64 (x12_1 + 1))))) = some (r1, r2) := by rw [if_neg (show ¬ (false = true) by decide)] at H; exact H
          clear H
          have H := H1
          clear H1
          replace H := Option.bind_eq_some_iff.mp H
          obtain ⟨t115, A80, H⟩ := H
          replace H : (if x11_1 = true then (if t115 < x10_1 then (tallyroomref13_Least.l0 k1 l0 a1 a2 a3 t115 true (wrap64 (x12_1 + 1))) else (tallyroomref13_Least.l0 k1 l0 a1 a2 a3 x10_1 true (wrap64 (x12_1 + 1)))) else (tallyroomref13_Least.l0 k1 l0 a1 a2 a3 t115 true (wrap64 (x12_1 + 1)))) = some (r1, r2) := H
          have A8 := Aside0.mk A80
          clear A80
          by_cases c9 : x11_1 = true
          · subst c9
            have H1 : (if t115 < x10_1 then (tallyroomref13_Least.l0 k1 l0 a1 a2 a3 t115 true (wrap64 (x12_1 + 1))) else (tallyroomref13_Least.l0 k1 l0 a1 a2 a3 x10_1 true (wrap64 (x12_1 + 1)))) = some (r1, r2) := by rw [if_pos rfl] at H; exact H
            clear H
            have H := H1
            clear H1
            by_cases c10 : t115 < x10_1
            · rw [if_pos c10] at H
              have c10b0 : decide (t115 < x10_1) = true := decide_eq_true c10
              clear c10
              have H' := Aside0.mk H
              clear H
              go_wp2_with (first | ((with_reducible refine gate_callee (f := 43) rfl ?_); refine goesL_ (some 22) rfl rfl Try.func43 (by kernel_rfl) rfl #[.slice A0 l0.length c0, .int .i64 x12_1, .int .u64 a3] rfl (by (try simp only [List.map_toArray, List.map_cons, List.map_nil]); first | done | rfl | (simp only [List.length_drop, List.length_take]; rfl)) ?_; (with_reducible refine (tallyroomref13_Idle.calls k1 _ _ l0 x12_1 a3 false _ ?side1 ?side2 A6.out).mono ?_); (case side1 => repeat (first | exact HR0.out | (with_reducible refine Kd.C_alloc ?_ _) | (with_reducible refine Kd.C_drewN ?_ _) | (with_reducible refine Kd.C_drew ?_))); (case side2 => exact HC0.out); rintro e w' ⟨rfl, ⟨nd, rfl⟩⟩; refine ⟨_, rfl, ?_⟩) | ((with_reducible refine gate_callee (f := 72) rfl ?_); refine goesL_ (some 26) rfl rfl Try.func72 (by kernel_rfl) rfl #[.slice A0 l0.length c0, .int .i64 x12_1, .int .u64 a2] rfl (by (try simp only [List.map_toArray, List.map_cons, List.map_nil]); first | done | rfl | (simp only [List.length_drop, List.length_take]; rfl)) ?_; (with_reducible refine (tallyroomref13_Mark.calls k1 _ _ l0 x12_1 a2 t115 _ ?side1 ?side2 A8.out).mono ?_); (case side1 => repeat (first | exact HR0.out | (with_reducible refine Kd.C_alloc ?_ _) | (with_reducible refine Kd.C_drewN ?_ _) | (with_reducible refine Kd.C_drew ?_))); (case side2 => exact HC0.out); rintro e w' ⟨rfl, ⟨nd, rfl⟩⟩; refine ⟨_, rfl, ?_⟩))
              go_roundg k1
              case measure => have := HK1.out; omega
              case rel => exact ⟨(t115), (true), (wrap64 (x12_1 + 1)), (by first | rfl | (simp; done) | (simp [*]; done)), (by first | rfl | (simp; done) | (simp [*]; done)), (by first | rfl | (simp; done) | (simp [*]; done)), H', ⟨by have := HK1.out; omega⟩, by repeat (first | exact Drawn0.refl _ | apply Drawn0.step)⟩
            · rw [if_neg c10] at H
              have c10b0 : decide (t115 < x10_1) = false := decide_eq_false c10
              clear c10
              have H' := Aside0.mk H
              clear H
              go_wp2_with (first | ((with_reducible refine gate_callee (f := 43) rfl ?_); refine goesL_ (some 22) rfl rfl Try.func43 (by kernel_rfl) rfl #[.slice A0 l0.length c0, .int .i64 x12_1, .int .u64 a3] rfl (by (try simp only [List.map_toArray, List.map_cons, List.map_nil]); first | done | rfl | (simp only [List.length_drop, List.length_take]; rfl)) ?_; (with_reducible refine (tallyroomref13_Idle.calls k1 _ _ l0 x12_1 a3 false _ ?side1 ?side2 A6.out).mono ?_); (case side1 => repeat (first | exact HR0.out | (with_reducible refine Kd.C_alloc ?_ _) | (with_reducible refine Kd.C_drewN ?_ _) | (with_reducible refine Kd.C_drew ?_))); (case side2 => exact HC0.out); rintro e w' ⟨rfl, ⟨nd, rfl⟩⟩; refine ⟨_, rfl, ?_⟩) | ((with_reducible refine gate_callee (f := 72) rfl ?_); refine goesL_ (some 26) rfl rfl Try.func72 (by kernel_rfl) rfl #[.slice A0 l0.length c0, .int .i64 x12_1, .int .u64 a2] rfl (by (try simp only [List.map_toArray, List.map_cons, List.map_nil]); first | done | rfl | (simp only [List.length_drop, List.length_take]; rfl)) ?_; (with_reducible refine (tallyroomref13_Mark.calls k1 _ _ l0 x12_1 a2 t115 _ ?side1 ?side2 A8.out).mono ?_); (case side1 => repeat (first | exact HR0.out | (with_reducible refine Kd.C_alloc ?_ _) | (with_reducible refine Kd.C_drewN ?_ _) | (with_reducible refine Kd.C_drew ?_))); (case side2 => exact HC0.out); rintro e w' ⟨rfl, ⟨nd, rfl⟩⟩; refine ⟨_, rfl, ?_⟩))
              go_roundg k1
              case measure => have := HK1.out; omega
              case rel => exact ⟨(x10_1), (true), (wrap64 (x12_1 + 1)), (by first | rfl | (simp; done) | (simp [*]; done)), (by first | rfl | (simp; done) | (simp [*]; done)), (by first | rfl | (simp; done) | (simp [*]; done)), H', ⟨by have := HK1.out; omega⟩, by repeat (first | exact Drawn0.refl _ | apply Drawn0.step)⟩
          · replace c9 := Bool.eq_false_iff.mpr c9
            subst c9
            have H1 : (tallyroomref13_Least.l0 k1 l0 a1 a2 a3 t115 true (wrap64 (x12_1 + 1))) = some (r1, r2) := by rw [if_neg (show ¬ (false = true) by decide)] at H; exact H
            clear H
            have H := H1
            clear H1
            have H' := Aside0.mk H
            clear H
            go_wp2_with (first | ((with_reducible refine gate_callee (f := 43) rfl ?_); refine goesL_ (some 22) rfl rfl Try.func43 (by kernel_rfl) rfl #[.slice A0 l0.length c0, .int .i64 x12_1, .int .u64 a3] rfl (by (try simp only [List.map_toArray, List.map_cons, List.map_nil]); first | done | rfl | (simp only [List.length_drop, List.length_take]; rfl)) ?_; (with_reducible refine (tallyroomref13_Idle.calls k1 _ _ l0 x12_1 a3 false _ ?side1 ?side2 A6.out).mono ?_); (case side1 => repeat (first | exact HR0.out | (with_reducible refine Kd.C_alloc ?_ _) | (with_reducible refine Kd.C_drewN ?_ _) | (with_reducible refine Kd.C_drew ?_))); (case side2 => exact HC0.out); rintro e w' ⟨rfl, ⟨nd, rfl⟩⟩; refine ⟨_, rfl, ?_⟩) | ((with_reducible refine gate_callee (f := 72) rfl ?_); refine goesL_ (some 26) rfl rfl Try.func72 (by kernel_rfl) rfl #[.slice A0 l0.length c0, .int .i64 x12_1, .int .u64 a2] rfl (by (try simp only [List.map_toArray, List.map_cons, List.map_nil]); first | done | rfl | (simp only [List.length_drop, List.length_take]; rfl)) ?_; (with_reducible refine (tallyroomref13_Mark.calls k1 _ _ l0 x12_1 a2 t115 _ ?side1 ?side2 A8.out).mono ?_); (case side1 => repeat (first | exact HR0.out | (with_reducible refine Kd.C_alloc ?_ _) | (with_reducible refine Kd.C_drewN ?_ _) | (with_reducible refine Kd.C_drew ?_))); (case side2 => exact HC0.out); rintro e w' ⟨rfl, ⟨nd, rfl⟩⟩; refine ⟨_, rfl, ?_⟩))
            go_roundg k1
            case measure => have := HK1.out; omega
            case rel => exact ⟨(t115), (true), (wrap64 (x12_1 + 1)), (by first | rfl | (simp; done) | (simp [*]; done)), (by first | rfl | (simp; done) | (simp [*]; done)), (by first | rfl | (simp; done) | (simp [*]; done)), H', ⟨by have := HK1.out; omega⟩, by repeat (first | exact Drawn0.refl _ | apply Drawn0.step)⟩
      · rw [if_neg c5] at H
        have c5b0 : decide (x12_1 < a1) = false := decide_eq_false c5
        clear c5
        simp only [Option.some.injEq, Prod.mk.injEq] at H
        obtain ⟨rfl, rfl⟩ := H
        go_wp2
        go_ret2
        exact ⟨by first | rfl | (simp; done) | (simp [*]; done), by repeat (first | exact Drawn0.refl _ | apply Drawn0.step)⟩

end Go.Proofs.Ytgpkihnihmbomaa.XWp
