-- Made by a program of this session (xprint.py), over the translation; Lean checks it.
import Derived.Test.YtgpkihnihmbomaaXWpx0
import Derived.Test.YtgpkihnihmbomaaXWpx11
namespace Go.Proofs.Ytgpkihnihmbomaa.XWp
open Go.RowKit Go.Proofs.YtgpkihnihmbomaaW.PrintWords Go.Proofs.YtgpkihnihmbomaaW.PrintLast Go.Proofs.YtgpkihnihmbomaaW.PrintMore
attribute [local go_sem] max2_int min2_int max_two min_two max_three min_three max_four min_four   -- for this text's walks alone
set_option linter.unusedVariables false
set_option linter.unusedSimpArgs false

/-! ### tallyroomref13_Global: function 39 -/
def tallyroomref13_Global.l0 : Nat → List (S80) → Int → Int → Int → Int → Int → Option (Int)
  | 0, _, _, _, _, _, _ => none
  | k + 1, x0, x1, x2, x3, x9, x10 => if x10 ≤ (x0.length : Int) then (if 0 ≤ x10 then ((tallyroomref13_Least.f k (x0.take (x10 : Int).toNat) x1 x2 x3).bind fun bt120 => (if bt120.2 = true then (if bt120.1 > x9 then (tallyroomref13_Global.l0 k x0 x1 x2 x3 bt120.1 (wrap64 (x10 + 1))) else (tallyroomref13_Global.l0 k x0 x1 x2 x3 x9 (wrap64 (x10 + 1)))) else (tallyroomref13_Global.l0 k x0 x1 x2 x3 x9 (wrap64 (x10 + 1))))) else (none)) else (some x9)
def tallyroomref13_Global.f (k : Nat) (l0 : List (S80)) (a1 : Int) (a2 : Int) (a3 : Int) : Option (Int) := tallyroomref13_Global.l0 k l0 a1 a2 a3 0 1
theorem tallyroomref13_Global.mono_l : ∀ k, (∀ y0 y1 y2 y3 y4 y5, LeO (tallyroomref13_Global.l0 k y0 y1 y2 y3 y4 y5) (tallyroomref13_Global.l0 (k + 1) y0 y1 y2 y3 y4 y5))
  | 0 => fun _ _ _ _ _ _ r h => by simp [tallyroomref13_Global.l0] at h
  | k + 1 => by
    have ih0 := tallyroomref13_Global.mono_l k
    · intro y0 y1 y2 y3 y4 y5
      unfold tallyroomref13_Global.l0
      repeat' first
      | (with_reducible exact ih0 _ _ _ _ _ _)
      | (with_reducible exact tallyroomref13_Least.mono _ _ _ _ _)
      | (with_reducible exact LeO.refl _)
      | (with_reducible exact LeO.none _)
      | (with_reducible refine LeO.ite ?_ ?_)
      | (with_reducible refine LeO.bind ?_ (fun _ => ?_))
      | exact ih0 _ _ _ _ _ _
      | exact tallyroomref13_Least.mono _ _ _ _ _
      | exact LeO.none _
      | refine LeO.ite ?_ ?_
      | refine LeO.bind ?_ (fun _ => ?_)
theorem tallyroomref13_Global.mono : ∀ a0 a1 a2 a3 k, LeO (tallyroomref13_Global.f k a0 a1 a2 a3) (tallyroomref13_Global.f (k + 1) a0 a1 a2 a3) := by
  intro a0 a1 a2 a3 k
  have ih0 := tallyroomref13_Global.mono_l k
  unfold tallyroomref13_Global.f
  repeat' first
      | (with_reducible exact ih0 _ _ _ _ _ _)
      | (with_reducible exact tallyroomref13_Least.mono _ _ _ _ _)
      | (with_reducible exact LeO.refl _)
      | (with_reducible exact LeO.none _)
      | (with_reducible refine LeO.ite ?_ ?_)
      | (with_reducible refine LeO.bind ?_ (fun _ => ?_))
      | exact ih0 _ _ _ _ _ _
      | exact tallyroomref13_Least.mono _ _ _ _ _
      | exact LeO.none _
      | refine LeO.ite ?_ ?_
      | refine LeO.bind ?_ (fun _ => ?_)
set_option maxHeartbeats 8000000 in
set_option maxRecDepth 100000 in
theorem tallyroomref13_Global.calls (k : Nat) (A0 : Option Addr) (c0 : Nat) (l0 : List (S80)) (a1 : Int) (a2 : Int) (a3 : Int) (r : Int) (w : World) (hr0 : Kd.C k80 w A0 l0.length l0) (hc0 : l0.length ≤ c0) (h : tallyroomref13_Global.f k l0 a1 a2 a3 = some r) :
    Calls Try.prog 39 #[.slice A0 l0.length c0, .int .i64 a1, .int .u64 a2, .int .u64 a3] w fun e w' => e = .returned (.int .u64 r) ∧ Drawn0 w w' := by
  have HR0 := Aside0.mk hr0
  have HC0 := Aside0.mk hc0
  clear hr0 hc0
  have H : (tallyroomref13_Global.l0 k l0 a1 a2 a3 0 1) = some r := h
  clear h
  have H' := Aside0.mk H
  clear H
  go_enter Try.func39, Try.ntmps39
  go_wp2
  go_loopg [9, 10] k (fun kq v9 v10 w' => ∃ (x9_1 : Int) (x10_1 : Int), v9 = .int .u64 x9_1 ∧ v10 = .int .i64 x10_1 ∧ Aside0 (tallyroomref13_Global.l0 kq l0 a1 a2 a3 x9_1 x10_1 = some r) ∧ Aside0 (kq ≤ k) ∧ Drawn0 w w')
  case atStart => exact ⟨(0), (1), (by first | rfl | (simp; done) | (simp [*]; done)), (by first | rfl | (simp; done) | (simp [*]; done)), H', ⟨Nat.le_refl _⟩, by repeat (first | exact Drawn0.refl _ | apply Drawn0.step)⟩
  case round =>
    clear H'
    try clear p2
    try clear c3
    obtain ⟨x9_1, x10_1, rfl, rfl, HA, HK1, ⟨m1, rfl⟩⟩ := hrel
    cases gk with
    | zero => exact absurd HA.out (by simp [tallyroomref13_Global.l0])
    | succ k1 =>
      have H := HA.out
      clear HA
      simp only [tallyroomref13_Global.l0] at H
      by_cases c5 : x10_1 ≤ (l0.length : Int)
      · rw [if_pos c5] at H
        have c5b0 : decide (x10_1 ≤ (l0.length : Int)) = true := decide_eq_true c5
        clear c5
        by_cases c6 : 0 ≤ x10_1
        · rw [if_pos c6] at H
          have c6b0 := eq_true c6
          have c6b1 : decide (0 ≤ x10_1) = true := decide_eq_true c6
          clear c6
          have c7b0 := eq_true (of_decide_eq_true (by first | (with_reducible assumption) | assumption) : x10_1 ≤ (l0.length : Int))
          obtain ⟨y116, hy116⟩ : ∃ y_ : List (S80), y_ = (l0.take (x10_1 : Int).toNat) := ⟨_, rfl⟩
          replace H : ((tallyroomref13_Least.f k1 y116 a1 a2 a3).bind fun bt120 => (if bt120.2 = true then (if bt120.1 > x9_1 then (tallyroomref13_Global.l0 k1 l0 a1 a2 a3 bt120.1 (wrap64 (x10_1 + 1))) else (tallyroomref13_Global.l0 k1 l0 a1 a2 a3 x9_1 (wrap64 (x10_1 + 1)))) else (tallyroomref13_Global.l0 k1 l0 a1 a2 a3 x9_1 (wrap64 (x10_1 + 1))))) = some r := by first | (rw [hy116]; with_reducible exact H) | (have H2_ := (Option.bind_some _ _).symm.trans H; rw [hy116]; with_reducible exact H2_) | (have H2_ := (Option.bind_some _ _).symm.trans H; with_reducible exact H2_) | with_reducible exact H | (rw [hy116]; exact H) | exact H
          have Ny116 := Aside0.mk hy116
          clear hy116
          replace H := Option.bind_eq_some_iff.mp H
          obtain ⟨⟨t120, t121⟩, A80, H⟩ := H
          replace H : (if t121 = true then (if t120 > x9_1 then (tallyroomref13_Global.l0 k1 l0 a1 a2 a3 t120 (wrap64 (x10_1 + 1))) else (tallyroomref13_Global.l0 k1 l0 a1 a2 a3 x9_1 (wrap64 (x10_1 + 1)))) else (tallyroomref13_Global.l0 k1 l0 a1 a2 a3 x9_1 (wrap64 (x10_1 + 1)))) = some r := H
          have A8 := Aside0.mk A80
          clear A80
          by_cases c9 : t121 = true
          · subst c9
            have H1 : (if t120 > x9_1 then (tallyroomref13_Global.l0 k1 l0 a1 a2 a3 t120 (wrap64 (x10_1 + 1))) else (tallyroomref13_Global.l0 k1 l0 a1 a2 a3 x9_1 (wrap64 (x10_1 + 1)))) = some r := by rw [if_pos rfl] at H; exact H
            clear H
            have H := H1
            clear H1
            by_cases c10 : t120 > x9_1
            · rw [if_pos c10] at H
              have c10b0 : decide (x9_1 < t120) = true := decide_eq_true c10
              clear c10
              have H' := Aside0.mk H
              clear H
              have q11 : (x10_1 : Int) ≤ ((l0.length : Int) : Int) := of_decide_eq_true (by first | (with_reducible assumption) | assumption)
              obtain ⟨i011, hi011, _, hsz11, _⟩ := info_parts info80
              have hroom11 : l0.length ≤ c0 := HC0.out
              have hC11 : Kd.C k80 _ A0 l0.length l0 := HR0.out
              have hcut11 := cut_to (P := Try.prog) 75 80 .i64 Try.underlying75 hi011 A0 l0.length c0 x10_1 (of_decide_eq_true (by first | (with_reducible assumption) | assumption)) q11 hroom11
              have hr11 := Kd.C_take (m := (x10_1 : Int).toNat) hC11 (by omega)
              have hy11 : y116.length = (x10_1 : Int).toNat := (by rw [Ny116.out, List.length_take]; omega)
              rw [← Ny116.out] at hr11
              rw [← hy11] at hcut11
              have HR119 := Aside0.mk hr11
              have HC119 := Aside0.mk (show y116.length ≤ c0 from by omega)
              clear hr11 hC11 hroom11 hi011 hsz11
              have KY11 := Aside0.mk hy11
              clear hy11
              replace q11 := eq_true q11
              go_wp2_with (first | ((with_reducible refine gate_callee (f := 55) rfl ?_); refine goesL_ (some 26) rfl rfl Try.func55 (by kernel_rfl) rfl #[.slice A0 y116.length c0, .int .i64 a1, .int .u64 a2, .int .u64 a3] rfl (by (try simp only [List.map_toArray, List.map_cons, List.map_nil]); first | done | rfl | (simp only [List.length_drop, List.length_take]; rfl)) ?_; (with_reducible refine (tallyroomref13_Least.calls k1 _ _ y116 a1 a2 a3 t120 true _ ?side1 ?side2 A8.out).mono ?_); (case side1 => repeat (first | exact HR119.out | (with_reducible refine Kd.C_alloc ?_ _) | (with_reducible refine Kd.C_drewN ?_ _) | (with_reducible refine Kd.C_drew ?_))); (case side2 => exact HC119.out); rintro e w' ⟨rfl, ⟨nd, rfl⟩⟩; refine ⟨_, rfl, ?_⟩))
              go_roundg k1
              case measure => have := HK1.out; omega
              case rel => exact ⟨(t120), (wrap64 (x10_1 + 1)), (by first | rfl | (simp; done) | (simp [*]; done)), (by first | rfl | (simp; done) | (simp [*]; done)), H', ⟨by have := HK1.out; omega⟩, by repeat (first | exact Drawn0.refl _ | apply Drawn0.step)⟩
            · rw [if_neg c10] at H
              have c10b0 : decide (x9_1 < t120) = false := decide_eq_false c10
              clear c10
              have H' := Aside0.mk H
              clear H
              have q12 : (x10_1 : Int) ≤ ((l0.length : Int) : Int) := of_decide_eq_true (by first | (with_reducible assumption) | assumption)
              obtain ⟨i012, hi012, _, hsz12, _⟩ := info_parts info80
              have hroom12 : l0.length ≤ c0 := HC0.out
              have hC12 : Kd.C k80 _ A0 l0.length l0 := HR0.out
              have hcut12 := cut_to (P := Try.prog) 75 80 .i64 Try.underlying75 hi012 A0 l0.length c0 x10_1 (of_decide_eq_true (by first | (with_reducible assumption) | assumption)) q12 hroom12
              have hr12 := Kd.C_take (m := (x10_1 : Int).toNat) hC12 (by omega)
              have hy12 : y116.length = (x10_1 : Int).toNat := (by rw [Ny116.out, List.length_take]; omega)
              rw [← Ny116.out] at hr12
              rw [← hy12] at hcut12
              have HR119 := Aside0.mk hr12
              have HC119 := Aside0.mk (show y116.length ≤ c0 from by omega)
              clear hr12 hC12 hroom12 hi012 hsz12
              have KY12 := Aside0.mk hy12
              clear hy12
              replace q12 := eq_true q12
              go_wp2_with (first | ((with_reducible refine gate_callee (f := 55) rfl ?_); refine goesL_ (some 26) rfl rfl Try.func55 (by kernel_rfl) rfl #[.slice A0 y116.length c0, .int .i64 a1, .int .u64 a2, .int .u64 a3] rfl (by (try simp only [List.map_toArray, List.map_cons, List.map_nil]); first | done | rfl | (simp only [List.length_drop, List.length_take]; rfl)) ?_; (with_reducible refine (tallyroomref13_Least.calls k1 _ _ y116 a1 a2 a3 t120 true _ ?side1 ?side2 A8.out).mono ?_); (case side1 => repeat (first | exact HR119.out | (with_reducible refine Kd.C_alloc ?_ _) | (with_reducible refine Kd.C_drewN ?_ _) | (with_reducible refine Kd.C_drew ?_))); (case side2 => exact HC119.out); rintro e w' ⟨rfl, ⟨nd, rfl⟩⟩; refine ⟨_, rfl, ?_⟩))
              go_roundg k1
              case measure => have := HK1.out; omega
              case rel => exact ⟨(x9_1), (wrap64 (x10_1 + 1)), (by first | rfl | (simp; done) | (simp [*]; done)), (by first | rfl | (simp; done) | (simp [*]; done)), H', ⟨by have := HK1.out; omega⟩, by repeat (first | exact Drawn0.refl _ | apply Drawn0.step)⟩
          · replace c9 := Bool.eq_false_iff.mpr c9
            subst c9
            have H1 : (tallyroomref13_Global.l0 k1 l0 a1 a2 a3 x9_1 (wrap64 (x10_1 + 1))) = some r := by rw [if_neg (show ¬ (false = true) by decide)] at H; exact H
            clear H
            have H := H1
            clear H1
            have H' := Aside0.mk H
            clear H
            have q13 : (x10_1 : Int) ≤ ((l0.length : Int) : Int) := of_decide_eq_true (by first | (with_reducible assumption) | assumption)
            obtain ⟨i013, hi013, _, hsz13, _⟩ := info_parts info80
            have hroom13 : l0.length ≤ c0 := HC0.out
            have hC13 : Kd.C k80 _ A0 l0.length l0 := HR0.out
            have hcut13 := cut_to (P := Try.prog) 75 80 .i64 Try.underlying75 hi013 A0 l0.length c0 x10_1 (of_decide_eq_true (by first | (with_reducible assumption) | assumption)) q13 hroom13
            have hr13 := Kd.C_take (m := (x10_1 : Int).toNat) hC13 (by omega)
            have hy13 : y116.length = (x10_1 : Int).toNat := (by rw [Ny116.out, List.length_take]; omega)
            rw [← Ny116.out] at hr13
            rw [← hy13] at hcut13
            have HR119 := Aside0.mk hr13
            have HC119 := Aside0.mk (show y116.length ≤ c0 from by omega)
            clear hr13 hC13 hroom13 hi013 hsz13
            have KY13 := Aside0.mk hy13
            clear hy13
            replace q13 := eq_true q13
            go_wp2_with (first | ((with_reducible refine gate_callee (f := 55) rfl ?_); refine goesL_ (some 26) rfl rfl Try.func55 (by kernel_rfl) rfl #[.slice A0 y116.length c0, .int .i64 a1, .int .u64 a2, .int .u64 a3] rfl (by (try simp only [List.map_toArray, List.map_cons, List.map_nil]); first | done | rfl | (simp only [List.length_drop, List.length_take]; rfl)) ?_; (with_reducible refine (tallyroomref13_Least.calls k1 _ _ y116 a1 a2 a3 t120 false _ ?side1 ?side2 A8.out).mono ?_); (case side1 => repeat (first | exact HR119.out | (with_reducible refine Kd.C_alloc ?_ _) | (with_reducible refine Kd.C_drewN ?_ _) | (with_reducible refine Kd.C_drew ?_))); (case side2 => exact HC119.out); rintro e w' ⟨rfl, ⟨nd, rfl⟩⟩; refine ⟨_, rfl, ?_⟩))
            go_roundg k1
            case measure => have := HK1.out; omega
            case rel => exact ⟨(x9_1), (wrap64 (x10_1 + 1)), (by first | rfl | (simp; done) | (simp [*]; done)), (by first | rfl | (simp; done) | (simp [*]; done)), H', ⟨by have := HK1.out; omega⟩, by repeat (first | exact Drawn0.refl _ | apply Drawn0.step)⟩
        · rw [if_neg c6] at H
          exact absurd H (by simp)
      · rw [if_neg c5] at H
        have c5b0 : decide (x10_1 ≤ (l0.length : Int)) = false := decide_eq_false c5
        clear c5
        obtain rfl := Option.some.inj H
        go_wp2
        go_ret
        exact ⟨by first | rfl | (simp; done) | (simp [*]; done), by repeat (first | exact Drawn0.refl _ | apply Drawn0.step)⟩

end Go.Proofs.Ytgpkihnihmbomaa.XWp
