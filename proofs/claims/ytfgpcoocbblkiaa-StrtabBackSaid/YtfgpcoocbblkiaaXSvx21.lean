-- Made by a program of this session (xprint.py), over the translation; Lean checks it.
import Derived.Test.YtfgpcoocbblkiaaXSvx0
import Derived.Test.YtfgpcoocbblkiaaXSvx8
import Derived.Test.YtfgpcoocbblkiaaXSvx20
namespace Go.Proofs.Ytfgpcoocbblkiaa.XSv
open Go.RowKit Go.Proofs.YtfgpcoocbblkiaaW.PrintWords Go.Proofs.YtfgpcoocbblkiaaW.PrintLast Go.Proofs.YtfgpcoocbblkiaaW.PrintMore
attribute [local go_sem] max2_int min2_int max_two min_two max_three min_three max_four min_four   -- for this text's walks alone
set_option linter.unusedVariables false
set_option linter.unusedSimpArgs false

/-! ### tallyroomref05_Read: function 23 -/
def tallyroomref05_Read.l0 : Nat → List Int → Int → Int → List ByteArray → Int → Option (List ByteArray × Int × Int)
  | 0, _, _, _, _, _ => none
  | k + 1, x0, x5, x6, x8, x9 => if x9 < (wrap64 (x5)) then (if 0 ≤ x6 then (if x6 ≤ (x0.length : Int) then ((tallyroomref01_Get.f k (x0.drop (x6 : Int).toNat)).bind fun bt150 => (if bt150.2.2 = 0 then (if bt150.1 > 4096 then (some (([] : List ByteArray), 0, 11)) else (if (wrap64 ((x0.length : Int) - (wrap64 (x6 + bt150.2.1)))) < (wrap64 (bt150.1)) then (some (([] : List ByteArray), 0, 10)) else (if 0 ≤ (wrap64 (x6 + bt150.2.1)) then (if (wrap64 (x6 + bt150.2.1)) ≤ (wrap64 ((wrap64 (x6 + bt150.2.1)) + (wrap64 (bt150.1)))) then (if (wrap64 ((wrap64 (x6 + bt150.2.1)) + (wrap64 (bt150.1)))) ≤ (x0.length : Int) then ((tallyroomref05_Find.f k x8 (strOfNums ((x0.take ((wrap64 ((wrap64 (x6 + bt150.2.1)) + (wrap64 (bt150.1)))) : Int).toNat).drop ((wrap64 (x6 + bt150.2.1)) : Int).toNat))).bind fun t154 => (if t154 ≥ 0 then (some (([] : List ByteArray), 0, 11)) else (if x8.length < 8796093022208 then (tallyroomref05_Read.l0 k x0 x5 (wrap64 ((wrap64 (x6 + bt150.2.1)) + (wrap64 (bt150.1)))) (x8 ++ [strOfNums ((x0.take ((wrap64 ((wrap64 (x6 + bt150.2.1)) + (wrap64 (bt150.1)))) : Int).toNat).drop ((wrap64 (x6 + bt150.2.1)) : Int).toNat)]) (wrap64 (x9 + 1))) else (none)))) else (none)) else (none)) else (none)))) else (some (([] : List ByteArray), 0, bt150.2.2)))) else (none)) else (none)) else (some (x8, x6, 0))
def tallyroomref05_Read.f (k : Nat) (l0 : List Int) : Option (List ByteArray × Int × Int) := (tallyroomref01_Get.f k l0).bind fun bt146 => (if bt146.2.2 = 0 then (if bt146.1 > 4096 then (some (([] : List ByteArray), 0, 11)) else (tallyroomref05_Read.l0 k l0 bt146.1 bt146.2.1 ([] : List ByteArray) 0)) else (some (([] : List ByteArray), 0, bt146.2.2)))
theorem tallyroomref05_Read.mono_l : ∀ k, (∀ y0 y1 y2 y3 y4, LeO (tallyroomref05_Read.l0 k y0 y1 y2 y3 y4) (tallyroomref05_Read.l0 (k + 1) y0 y1 y2 y3 y4))
  | 0 => fun _ _ _ _ _ r h => by simp [tallyroomref05_Read.l0] at h
  | k + 1 => by
    have ih0 := tallyroomref05_Read.mono_l k
    · intro y0 y1 y2 y3 y4
      unfold tallyroomref05_Read.l0
      repeat' first
      | (with_reducible exact ih0 _ _ _ _ _)
      | (with_reducible exact tallyroomref01_Get.mono _ _)
      | (with_reducible exact tallyroomref05_Find.mono _ _ _)
      | (with_reducible exact LeO.refl _)
      | (with_reducible exact LeO.none _)
      | (with_reducible refine LeO.ite ?_ ?_)
      | (with_reducible refine LeO.bind ?_ (fun _ => ?_))
      | exact ih0 _ _ _ _ _
      | exact tallyroomref01_Get.mono _ _
      | exact tallyroomref05_Find.mono _ _ _
      | exact LeO.none _
      | refine LeO.ite ?_ ?_
      | refine LeO.bind ?_ (fun _ => ?_)
theorem tallyroomref05_Read.mono : ∀ a0 k, LeO (tallyroomref05_Read.f k a0) (tallyroomref05_Read.f (k + 1) a0) := by
  intro a0 k
  have ih0 := tallyroomref05_Read.mono_l k
  unfold tallyroomref05_Read.f
  repeat' first
      | (with_reducible exact ih0 _ _ _ _ _)
      | (with_reducible exact tallyroomref01_Get.mono _ _)
      | (with_reducible exact tallyroomref05_Find.mono _ _ _)
      | (with_reducible exact LeO.refl _)
      | (with_reducible exact LeO.none _)
      | (with_reducible refine LeO.ite ?_ ?_)
      | (with_reducible refine LeO.bind ?_ (fun _ => ?_))
      | exact ih0 _ _ _ _ _
      | exact tallyroomref01_Get.mono _ _
      | exact tallyroomref05_Find.mono _ _ _
      | exact LeO.none _
      | refine LeO.ite ?_ ?_
      | refine LeO.bind ?_ (fun _ => ?_)
set_option maxHeartbeats 8000000 in
set_option maxRecDepth 100000 in
theorem tallyroomref05_Read.calls (k : Nat) (A0 : Option Addr) (c0 : Nat) (l0 : List Int) (r1 : List ByteArray) (r2 : Int) (r3 : Int) (w : World) (hr0 : Kd.C (Kd.int .u8) w A0 l0.length l0) (hc0 : l0.length ≤ c0) (h : tallyroomref05_Read.f k l0 = some (r1, r2, r3)) :
    Calls Try.prog 23 #[.slice A0 l0.length c0] w fun e w' => ∃ v0_ : Value, e = .returned (.tuple #[v0_, .int .i64 r2, .int .i64 r3]) ∧ Kd.R Kd.string 9 w' w.heap.size (fun _ => True) v0_ r1 ∧ Below w.heap.size w w' := by
  have HR0 := Aside0.mk hr0
  have HC0 := Aside0.mk hc0
  clear hr0 hc0
  have HB := Aside0.mk (Below.refl w.heap.size w)
  have H : ((tallyroomref01_Get.f k l0).bind fun bt146 => (if bt146.2.2 = 0 then (if bt146.1 > 4096 then (some (([] : List ByteArray), 0, 11)) else (tallyroomref05_Read.l0 k l0 bt146.1 bt146.2.1 ([] : List ByteArray) 0)) else (some (([] : List ByteArray), 0, bt146.2.2)))) = some (r1, r2, r3) := h
  clear h
  replace H := Option.bind_eq_some_iff.mp H
  obtain ⟨⟨t146, t147, t148⟩, A20, H⟩ := H
  replace H : (if t148 = 0 then (if t146 > 4096 then (some (([] : List ByteArray), 0, 11)) else (tallyroomref05_Read.l0 k l0 t146 t147 ([] : List ByteArray) 0)) else (some (([] : List ByteArray), 0, t148))) = some (r1, r2, r3) := H
  have A2 := Aside0.mk A20
  clear A20
  by_cases c3 : t148 = 0
  · rw [if_pos c3] at H
    have c3b0 : (t148 == 0) = true := beq_iff_eq.mpr c3
    have c3b1 : (t148 != 0) = false := bne_eq_false_iff_eq.mpr c3
    clear c3
    by_cases c4 : t146 > 4096
    · rw [if_pos c4] at H
      have c4b0 : decide (4096 < t146) = true := decide_eq_true c4
      clear c4
      simp only [Option.some.injEq, Prod.mk.injEq] at H
      obtain ⟨rfl, rfl, rfl⟩ := H
      go_enter Try.func23, Try.ntmps23
      go_wp2_with (first | ((with_reducible refine gate_callee (f := 48) rfl ?_); refine goesL_ (some 16) rfl rfl Try.func48 (by kernel_rfl) rfl #[.slice A0 l0.length c0] rfl (by (try simp only [List.map_toArray, List.map_cons, List.map_nil]); first | done | rfl | (simp only [List.length_drop, List.length_take]; rfl)) ?_; (with_reducible refine (tallyroomref01_Get.calls k _ _ l0 t146 t147 t148 _ ?side1 ?side2 A2.out).mono ?_); (case side1 => repeat (first | exact HR0.out | (with_reducible refine Kd.C_alloc ?_ _) | (with_reducible refine Kd.C_drewN ?_ _) | (with_reducible refine Kd.C_drew ?_))); (case side2 => exact HC0.out); rintro e w' ⟨rfl, ⟨nd, rfl⟩⟩; refine ⟨_, rfl, ?_⟩))
      go_ret3
      exact ⟨_, by first | rfl | (simp [errW_none, errW_some] <;> rfl) | (simp [*, errW_none, errW_some] <;> rfl), by first | exact Kd.R_nil _ _ _ _ _ | exact Kd.N_nil _ _ _ _ _ | exact Kd.V_nil _ _ _ _ _ | exact Kd.Q_nil _ _ _ _ _ | exact Kd.S_nil _ _ _ _ _, by repeat (first | (with_reducible first | exact HB.out | apply below_alloc | apply pw_below_drewN | apply below_drew1) | exact HB.out)⟩
    · rw [if_neg c4] at H
      have c4b0 : decide (4096 < t146) = false := decide_eq_false c4
      clear c4
      have H' := Aside0.mk H
      clear H
      go_enter Try.func23, Try.ntmps23
      go_wp2_with (first | ((with_reducible refine gate_callee (f := 48) rfl ?_); refine goesL_ (some 16) rfl rfl Try.func48 (by kernel_rfl) rfl #[.slice A0 l0.length c0] rfl (by (try simp only [List.map_toArray, List.map_cons, List.map_nil]); first | done | rfl | (simp only [List.length_drop, List.length_take]; rfl)) ?_; (with_reducible refine (tallyroomref01_Get.calls k _ _ l0 t146 t147 t148 _ ?side1 ?side2 A2.out).mono ?_); (case side1 => repeat (first | exact HR0.out | (with_reducible refine Kd.C_alloc ?_ _) | (with_reducible refine Kd.C_drewN ?_ _) | (with_reducible refine Kd.C_drew ?_))); (case side2 => exact HC0.out); rintro e w' ⟨rfl, ⟨nd, rfl⟩⟩; refine ⟨_, rfl, ?_⟩))
      go_loopg [6, 8, 9] k (fun kq v6 v8 v9 w' => ∃ (x6_1 : Int) (x8_1 : List ByteArray) (x9_1 : Int), v6 = .int .i64 x6_1 ∧ v9 = .int .i64 x9_1 ∧ Aside0 (tallyroomref05_Read.l0 kq l0 t146 x6_1 x8_1 x9_1 = some (r1, r2, r3)) ∧ Aside0 (kq ≤ k) ∧ Aside0 (Kd.R Kd.string 9 w' w.heap.size (fun _ => True) v8 x8_1) ∧ Aside0 (Below w.heap.size w w'))
      case atStart => exact ⟨(t147), (([] : List ByteArray)), (0), (by first | rfl | (simp; done) | (simp [*]; done)), (by first | rfl | (simp; done) | (simp [*]; done)), H', ⟨Nat.le_refl _⟩, ⟨by first | exact Kd.R_nil _ _ _ _ _ | exact Kd.N_nil _ _ _ _ _ | exact Kd.V_nil _ _ _ _ _ | exact Kd.Q_nil _ _ _ _ _ | exact Kd.S_nil _ _ _ _ _⟩, ⟨by repeat (first | (with_reducible first | exact HB.out | apply below_alloc | apply pw_below_drewN | apply below_drew1) | exact HB.out)⟩⟩
      case round =>
        clear H'
        try clear c2
        try clear p2
        try clear c3
        try clear c3b0
        try clear c3b1
        try clear c4
        try clear c4b0
        obtain ⟨x6_1, x8_1, x9_1, rfl, rfl, HA, HK1, HO_8, HB⟩ := hrel
        cases gk with
        | zero => exact absurd HA.out (by simp [tallyroomref05_Read.l0])
        | succ k1 =>
          have H := HA.out
          clear HA
          simp only [tallyroomref05_Read.l0] at H
          by_cases c5 : x9_1 < (wrap64 (t146))
          · rw [if_pos c5] at H
            have c5b0 : decide (x9_1 < (wrap64 (t146))) = true := decide_eq_true c5
            clear c5
            by_cases c6 : 0 ≤ x6_1
            · rw [if_pos c6] at H
              have c6b0 := eq_true c6
              have c6b1 : decide (0 ≤ x6_1) = true := decide_eq_true c6
              clear c6
              by_cases c7 : x6_1 ≤ (l0.length : Int)
              · rw [if_pos c7] at H
                have c7b0 := eq_true c7
                have c7b1 : decide (x6_1 ≤ (l0.length : Int)) = true := decide_eq_true c7
                clear c7
                replace H := Option.bind_eq_some_iff.mp H
                obtain ⟨⟨t150, t151, t152⟩, A80, H⟩ := H
                replace H : (if t152 = 0 then (if t150 > 4096 then (some (([] : List ByteArray), 0, 11)) else (if (wrap64 ((l0.length : Int) - (wrap64 (x6_1 + t151)))) < (wrap64 (t150)) then (some (([] : List ByteArray), 0, 10)) else (if 0 ≤ (wrap64 (x6_1 + t151)) then (if (wrap64 (x6_1 + t151)) ≤ (wrap64 ((wrap64 (x6_1 + t151)) + (wrap64 (t150)))) then (if (wrap64 ((wrap64 (x6_1 + t151)) + (wrap64 (t150)))) ≤ (l0.length : Int) then ((tallyroomref05_Find.f k1 x8_1 (strOfNums ((l0.take ((wrap64 ((wrap64 (x6_1 + t151)) + (wrap64 (t150)))) : Int).toNat).drop ((wrap64 (x6_1 + t151)) : Int).toNat))).bind fun t154 => (if t154 ≥ 0 then (some (([] : List ByteArray), 0, 11)) else (if x8_1.length < 8796093022208 then (tallyroomref05_Read.l0 k1 l0 t146 (wrap64 ((wrap64 (x6_1 + t151)) + (wrap64 (t150)))) (x8_1 ++ [strOfNums ((l0.take ((wrap64 ((wrap64 (x6_1 + t151)) + (wrap64 (t150)))) : Int).toNat).drop ((wrap64 (x6_1 + t151)) : Int).toNat)]) (wrap64 (x9_1 + 1))) else (none)))) else (none)) else (none)) else (none)))) else (some (([] : List ByteArray), 0, t152))) = some (r1, r2, r3) := H
                have A8 := Aside0.mk A80
                clear A80
                by_cases c9 : t152 = 0
                · rw [if_pos c9] at H
                  have c9b0 : (t152 == 0) = true := beq_iff_eq.mpr c9
                  have c9b1 : (t152 != 0) = false := bne_eq_false_iff_eq.mpr c9
                  clear c9
                  by_cases c10 : t150 > 4096
                  · rw [if_pos c10] at H
                    have c10b0 : decide (4096 < t150) = true := decide_eq_true c10
                    clear c10
                    simp only [Option.some.injEq, Prod.mk.injEq] at H
                    obtain ⟨rfl, rfl, rfl⟩ := H
                    obtain ⟨i011, hi011, _, hsz11, _⟩ := info_parts info5
                    obtain ⟨A11, hcut11, hA11, hC11⟩ := print_drop_of (P := Try.prog) (Value.int .u8) 0 32 5 .i64 Try.underlying32 hi011 hsz11 A0 c0 l0 x6_1 (of_decide_eq_true (by first | (with_reducible assumption) | assumption)) (of_decide_eq_true (by first | (with_reducible assumption) | assumption)) HC0.out
                    have HR149 := Aside0.mk (Kd.C_of_reads (h1 := fun _ => rfl) (hA11 _ (Kd.reads_of_C HR0.out)))
                    have HC149 := Aside0.mk hC11
                    clear hA11 hC11 hi011 hsz11
                    go_wp2_with (first | ((with_reducible refine gate_callee (f := 48) rfl ?_); refine goesL_ (some 35) rfl rfl Try.func48 (by kernel_rfl) rfl #[.slice A11 (l0.drop (x6_1 : Int).toNat).length (c0 - x6_1.toNat)] rfl (by (try simp only [List.map_toArray, List.map_cons, List.map_nil]); first | done | (rw [show (l0.drop (x6_1 : Int).toNat).length = (l0.length - x6_1.toNat) from List.length_drop] <;> rfl) | rfl | (simp only [List.length_drop, List.length_take]; rfl)) ?_; (with_reducible refine (tallyroomref01_Get.calls k1 _ _ (l0.drop (x6_1 : Int).toNat) t150 t151 t152 _ ?side1 ?side2 A8.out).mono ?_); (case side1 => repeat (first | exact (Kd.C_below HR149.out HB.out) | (with_reducible refine Kd.C_alloc ?_ _) | (with_reducible refine Kd.C_drewN ?_ _) | (with_reducible refine Kd.C_drew ?_))); (case side2 => exact HC149.out); rintro e w' ⟨rfl, ⟨nd, rfl⟩⟩; refine ⟨_, rfl, ?_⟩))
                    go_ret3
                    exact ⟨_, by first | rfl | (simp [errW_none, errW_some] <;> rfl) | (simp [*, errW_none, errW_some] <;> rfl), by first | exact Kd.R_nil _ _ _ _ _ | exact Kd.N_nil _ _ _ _ _ | exact Kd.V_nil _ _ _ _ _ | exact Kd.Q_nil _ _ _ _ _ | exact Kd.S_nil _ _ _ _ _, by repeat (first | (with_reducible first | exact HB.out | apply below_alloc | apply pw_below_drewN | apply below_drew1) | exact HB.out)⟩
                  · rw [if_neg c10] at H
                    have c10b0 : decide (4096 < t150) = false := decide_eq_false c10
                    clear c10
                    by_cases c12 : (wrap64 ((l0.length : Int) - (wrap64 (x6_1 + t151)))) < (wrap64 (t150))
                    · rw [if_pos c12] at H
                      have c12b0 : decide ((wrap64 ((l0.length : Int) - (wrap64 (x6_1 + t151)))) < (wrap64 (t150))) = true := decide_eq_true c12
                      clear c12
                      simp only [Option.some.injEq, Prod.mk.injEq] at H
                      obtain ⟨rfl, rfl, rfl⟩ := H
                      obtain ⟨i013, hi013, _, hsz13, _⟩ := info_parts info5
                      obtain ⟨A13, hcut13, hA13, hC13⟩ := print_drop_of (P := Try.prog) (Value.int .u8) 0 32 5 .i64 Try.underlying32 hi013 hsz13 A0 c0 l0 x6_1 (of_decide_eq_true (by first | (with_reducible assumption) | assumption)) (of_decide_eq_true (by first | (with_reducible assumption) | assumption)) HC0.out
                      have HR149 := Aside0.mk (Kd.C_of_reads (h1 := fun _ => rfl) (hA13 _ (Kd.reads_of_C HR0.out)))
                      have HC149 := Aside0.mk hC13
                      clear hA13 hC13 hi013 hsz13
                      go_wp2_with (first | ((with_reducible refine gate_callee (f := 48) rfl ?_); refine goesL_ (some 35) rfl rfl Try.func48 (by kernel_rfl) rfl #[.slice A13 (l0.drop (x6_1 : Int).toNat).length (c0 - x6_1.toNat)] rfl (by (try simp only [List.map_toArray, List.map_cons, List.map_nil]); first | done | (rw [show (l0.drop (x6_1 : Int).toNat).length = (l0.length - x6_1.toNat) from List.length_drop] <;> rfl) | rfl | (simp only [List.length_drop, List.length_take]; rfl)) ?_; (with_reducible refine (tallyroomref01_Get.calls k1 _ _ (l0.drop (x6_1 : Int).toNat) t150 t151 t152 _ ?side1 ?side2 A8.out).mono ?_); (case side1 => repeat (first | exact (Kd.C_below HR149.out HB.out) | (with_reducible refine Kd.C_alloc ?_ _) | (with_reducible refine Kd.C_drewN ?_ _) | (with_reducible refine Kd.C_drew ?_))); (case side2 => exact HC149.out); rintro e w' ⟨rfl, ⟨nd, rfl⟩⟩; refine ⟨_, rfl, ?_⟩))
                      go_ret3
                      exact ⟨_, by first | rfl | (simp [errW_none, errW_some] <;> rfl) | (simp [*, errW_none, errW_some] <;> rfl), by first | exact Kd.R_nil _ _ _ _ _ | exact Kd.N_nil _ _ _ _ _ | exact Kd.V_nil _ _ _ _ _ | exact Kd.Q_nil _ _ _ _ _ | exact Kd.S_nil _ _ _ _ _, by repeat (first | (with_reducible first | exact HB.out | apply below_alloc | apply pw_below_drewN | apply below_drew1) | exact HB.out)⟩
                    · rw [if_neg c12] at H
                      have c12b0 : decide ((wrap64 ((l0.length : Int) - (wrap64 (x6_1 + t151)))) < (wrap64 (t150))) = false := decide_eq_false c12
                      clear c12
                      obtain ⟨ji14, hji14⟩ : ∃ j_ : Int, (wrap64 (x6_1 + t151)) = j_ := ⟨_, rfl⟩
                      replace H : (if 0 ≤ (ji14) then (if (ji14) ≤ (wrap64 ((ji14) + (wrap64 (t150)))) then (if (wrap64 ((ji14) + (wrap64 (t150)))) ≤ (l0.length : Int) then ((tallyroomref05_Find.f k1 x8_1 (strOfNums ((l0.take ((wrap64 ((ji14) + (wrap64 (t150)))) : Int).toNat).drop ((ji14) : Int).toNat))).bind fun t154 => (if t154 ≥ 0 then (some (([] : List ByteArray), 0, 11)) else (if x8_1.length < 8796093022208 then (tallyroomref05_Read.l0 k1 l0 t146 (wrap64 ((ji14) + (wrap64 (t150)))) (x8_1 ++ [strOfNums ((l0.take ((wrap64 ((ji14) + (wrap64 (t150)))) : Int).toNat).drop ((ji14) : Int).toNat)]) (wrap64 (x9_1 + 1))) else (none)))) else (none)) else (none)) else (none)) = some (r1, r2, r3) := by first | (rw [hji14] at H; exact H) | (simp only [hji14] at H ⊢; exact H)
                      (try rw [hji14] at c12b0)
                      (try rw [hji14] at A8)
                      have hji14w : (IntKind.i64.wrap (x6_1 + t151)) = ji14 := (i64_w _).trans hji14
                      by_cases c15 : 0 ≤ (ji14)
                      · rw [if_pos c15] at H
                        have c15b0 := eq_true c15
                        have c15b1 : decide (0 ≤ (ji14)) = true := decide_eq_true c15
                        clear c15
                        by_cases c16 : (ji14) ≤ (wrap64 ((ji14) + (wrap64 (t150))))
                        · rw [if_pos c16] at H
                          have c16b0 := eq_true c16
                          have c16b1 : decide ((ji14) ≤ (wrap64 ((ji14) + (wrap64 (t150))))) = true := decide_eq_true c16
                          by_cases c17 : (wrap64 ((ji14) + (wrap64 (t150)))) ≤ (l0.length : Int)
                          · rw [if_pos c17] at H
                            have c17b0 := eq_true c17
                            have c17b1 : decide ((wrap64 ((ji14) + (wrap64 (t150)))) ≤ (l0.length : Int)) = true := decide_eq_true c17
                            replace H := Option.bind_eq_some_iff.mp H
                            obtain ⟨t154, A180, H⟩ := H
                            replace H : (if t154 ≥ 0 then (some (([] : List ByteArray), 0, 11)) else (if x8_1.length < 8796093022208 then (tallyroomref05_Read.l0 k1 l0 t146 (wrap64 ((ji14) + (wrap64 (t150)))) (x8_1 ++ [strOfNums ((l0.take ((wrap64 ((ji14) + (wrap64 (t150)))) : Int).toNat).drop ((ji14) : Int).toNat)]) (wrap64 (x9_1 + 1))) else (none))) = some (r1, r2, r3) := H
                            have A18 := Aside0.mk A180
                            clear A180
                            by_cases c19 : t154 ≥ 0
                            · rw [if_pos c19] at H
                              have c19b0 : decide (0 ≤ t154) = true := decide_eq_true c19
                              clear c19
                              simp only [Option.some.injEq, Prod.mk.injEq] at H
                              obtain ⟨rfl, rfl, rfl⟩ := H
                              obtain ⟨i020, hi020, _, hsz20, _⟩ := info_parts info5
                              obtain ⟨A20, hcut20, hA20, hC20⟩ := print_drop_of (P := Try.prog) (Value.int .u8) 0 32 5 .i64 Try.underlying32 hi020 hsz20 A0 c0 l0 x6_1 (of_decide_eq_true (by first | (with_reducible assumption) | assumption)) (of_decide_eq_true (by first | (with_reducible assumption) | assumption)) HC0.out
                              have HR149 := Aside0.mk (Kd.C_of_reads (h1 := fun _ => rfl) (hA20 _ (Kd.reads_of_C HR0.out)))
                              have HC149 := Aside0.mk hC20
                              clear hA20 hC20 hi020 hsz20
                              go_wp2_with (first | ((with_reducible refine gate_callee (f := 48) rfl ?_); refine goesL_ (some 35) rfl rfl Try.func48 (by kernel_rfl) rfl #[.slice A20 (l0.drop (x6_1 : Int).toNat).length (c0 - x6_1.toNat)] rfl (by (try simp only [List.map_toArray, List.map_cons, List.map_nil]); first | done | (rw [show (l0.drop (x6_1 : Int).toNat).length = (l0.length - x6_1.toNat) from List.length_drop] <;> rfl) | rfl | (simp only [List.length_drop, List.length_take]; rfl)) ?_; (with_reducible refine (tallyroomref01_Get.calls k1 _ _ (l0.drop (x6_1 : Int).toNat) t150 t151 t152 _ ?side1 ?side2 A8.out).mono ?_); (case side1 => repeat (first | exact (Kd.C_below HR149.out HB.out) | (with_reducible refine Kd.C_alloc ?_ _) | (with_reducible refine Kd.C_drewN ?_ _) | (with_reducible refine Kd.C_drew ?_))); (case side2 => exact HC149.out); rintro e w' ⟨rfl, ⟨nd, rfl⟩⟩; refine ⟨_, rfl, ?_⟩; obtain ⟨i021, hi021, _, hsz21, _⟩ := info_parts info5; obtain ⟨A21, hcut21, hA21, hC21⟩ := print_mid_of (P := Try.prog) (Value.int .u8) 0 32 5 .i64 .i64 Try.underlying32 hi021 hsz21 A0 c0 l0 (ji14) (wrap64 ((ji14) + (wrap64 (t150)))) (of_decide_eq_true (by first | (with_reducible assumption) | assumption)) (by first | omega | exact of_decide_eq_true (by first | (with_reducible assumption) | assumption)) (of_decide_eq_true (by first | (with_reducible assumption) | assumption)) HC0.out; have HR153 := Aside0.mk (Kd.C_of_reads (h1 := fun _ => rfl) (hA21 _ (Kd.reads_of_C HR0.out))); have HC153 := Aside0.mk hC21; clear hA21 hC21 hi021 hsz21; have hcv22 := Kd.C_string (P := Try.prog) (A := A21) (c := (c0 - (ji14).toNat)) Try.underlying32 Try.underlying5 Try.underlying9 (Kd.C_drewN (Kd.C_below HR153.out HB.out) nd); rw [show ((l0.take (wrap64 ((ji14) + (wrap64 (t150)))).toNat).drop ji14.toNat).length = (wrap64 ((ji14) + (wrap64 (t150)))).toNat - ji14.toNat from by rw [List.length_drop, List.length_take, Nat.min_eq_left (by have := of_decide_eq_true c17b1; omega)]] at hcv22; obtain ⟨Ao23, co23, eo23⟩ := Kd.R_slice HO_8.out; subst eo23) | ((with_reducible refine gate_callee (f := 15) rfl ?_); refine goesL_ (some 64) rfl rfl Try.func15 (by kernel_rfl) rfl #[.slice Ao23 x8_1.length co23, .string (strOfNums ((l0.take ((wrap64 ((ji14) + (wrap64 (t150)))) : Int).toNat).drop ((ji14) : Int).toNat))] rfl (by (try simp only [List.map_toArray, List.map_cons, List.map_nil]); first | done | (simp only [hji14]; rfl) | rfl | (simp only [List.length_drop, List.length_take]; rfl)) ?_; (with_reducible refine (tallyroomref05_Find.calls k1 _ _ x8_1 (strOfNums ((l0.take ((wrap64 ((ji14) + (wrap64 (t150)))) : Int).toNat).drop ((ji14) : Int).toNat)) t154 _ ?side1 ?side2 A18.out).mono ?_); (case side1 => repeat (first | exact (Kd.R_reads' HO_8.out).2.2 | (with_reducible refine Kd.C_alloc ?_ _) | (with_reducible refine Kd.C_drewN ?_ _) | (with_reducible refine Kd.C_drew ?_))); (case side2 => exact (Kd.R_reads' HO_8.out).2.1); rintro e w' ⟨rfl, ⟨nd, rfl⟩⟩; refine ⟨_, rfl, ?_⟩))
                              go_ret3
                              exact ⟨_, by first | rfl | (simp [errW_none, errW_some] <;> rfl) | (simp only [← hji14]; first | rfl | (simp [errW_none, errW_some] <;> rfl)) | (simp [*, errW_none, errW_some] <;> rfl), by first | exact Kd.R_nil _ _ _ _ _ | exact Kd.N_nil _ _ _ _ _ | exact Kd.V_nil _ _ _ _ _ | exact Kd.Q_nil _ _ _ _ _ | exact Kd.S_nil _ _ _ _ _, by repeat (first | (with_reducible first | exact HB.out | apply below_alloc | apply pw_below_drewN | apply below_drew1) | exact HB.out)⟩
                            · rw [if_neg c19] at H
                              have c19b0 : decide (0 ≤ t154) = false := decide_eq_false c19
                              clear c19
                              by_cases c24 : x8_1.length < 8796093022208
                              · rw [if_pos c24] at H
                                have LMc24 := Aside0.mk c24
                                clear c24
                                obtain ⟨y155, hy155⟩ : ∃ y_ : List ByteArray, y_ = (x8_1 ++ [strOfNums ((l0.take ((wrap64 ((ji14) + (wrap64 (t150)))) : Int).toNat).drop ((ji14) : Int).toNat)]) := ⟨_, rfl⟩
                                replace H : (tallyroomref05_Read.l0 k1 l0 t146 (wrap64 ((ji14) + (wrap64 (t150)))) y155 (wrap64 (x9_1 + 1))) = some (r1, r2, r3) := by first | (rw [hy155]; with_reducible exact H) | (have H2_ := (Option.bind_some _ _).symm.trans H; rw [hy155]; with_reducible exact H2_) | (have H2_ := (Option.bind_some _ _).symm.trans H; with_reducible exact H2_) | with_reducible exact H | (rw [hy155]; exact H) | exact H
                                have Ny155 := Aside0.mk hy155
                                clear hy155
                                have H' := Aside0.mk H
                                clear H
                                obtain ⟨i025, hi025, _, hsz25, _⟩ := info_parts info5
                                obtain ⟨A25, hcut25, hA25, hC25⟩ := print_drop_of (P := Try.prog) (Value.int .u8) 0 32 5 .i64 Try.underlying32 hi025 hsz25 A0 c0 l0 x6_1 (of_decide_eq_true (by first | (with_reducible assumption) | assumption)) (of_decide_eq_true (by first | (with_reducible assumption) | assumption)) HC0.out
                                have HR149 := Aside0.mk (Kd.C_of_reads (h1 := fun _ => rfl) (hA25 _ (Kd.reads_of_C HR0.out)))
                                have HC149 := Aside0.mk hC25
                                clear hA25 hC25 hi025 hsz25
                                go_wp2_with (first | ((with_reducible refine gate_callee (f := 48) rfl ?_); refine goesL_ (some 35) rfl rfl Try.func48 (by kernel_rfl) rfl #[.slice A25 (l0.drop (x6_1 : Int).toNat).length (c0 - x6_1.toNat)] rfl (by (try simp only [List.map_toArray, List.map_cons, List.map_nil]); first | done | (rw [show (l0.drop (x6_1 : Int).toNat).length = (l0.length - x6_1.toNat) from List.length_drop] <;> rfl) | rfl | (simp only [List.length_drop, List.length_take]; rfl)) ?_; (with_reducible refine (tallyroomref01_Get.calls k1 _ _ (l0.drop (x6_1 : Int).toNat) t150 t151 t152 _ ?side1 ?side2 A8.out).mono ?_); (case side1 => repeat (first | exact (Kd.C_below HR149.out HB.out) | (with_reducible refine Kd.C_alloc ?_ _) | (with_reducible refine Kd.C_drewN ?_ _) | (with_reducible refine Kd.C_drew ?_))); (case side2 => exact HC149.out); rintro e w' ⟨rfl, ⟨nd, rfl⟩⟩; refine ⟨_, rfl, ?_⟩; obtain ⟨i026, hi026, _, hsz26, _⟩ := info_parts info5; obtain ⟨A26, hcut26, hA26, hC26⟩ := print_mid_of (P := Try.prog) (Value.int .u8) 0 32 5 .i64 .i64 Try.underlying32 hi026 hsz26 A0 c0 l0 (ji14) (wrap64 ((ji14) + (wrap64 (t150)))) (of_decide_eq_true (by first | (with_reducible assumption) | assumption)) (by first | omega | exact of_decide_eq_true (by first | (with_reducible assumption) | assumption)) (of_decide_eq_true (by first | (with_reducible assumption) | assumption)) HC0.out; have HR153 := Aside0.mk (Kd.C_of_reads (h1 := fun _ => rfl) (hA26 _ (Kd.reads_of_C HR0.out))); have HC153 := Aside0.mk hC26; clear hA26 hC26 hi026 hsz26; have hcv27 := Kd.C_string (P := Try.prog) (A := A26) (c := (c0 - (ji14).toNat)) Try.underlying32 Try.underlying5 Try.underlying9 (Kd.C_drewN (Kd.C_below HR153.out HB.out) nd); rw [show ((l0.take (wrap64 ((ji14) + (wrap64 (t150)))).toNat).drop ji14.toNat).length = (wrap64 ((ji14) + (wrap64 (t150)))).toNat - ji14.toNat from by rw [List.length_drop, List.length_take, Nat.min_eq_left (by have := of_decide_eq_true c17b1; omega)]] at hcv27; obtain ⟨Ao28, co28, eo28⟩ := Kd.R_slice HO_8.out; subst eo28) | ((with_reducible refine gate_callee (f := 15) rfl ?_); refine goesL_ (some 64) rfl rfl Try.func15 (by kernel_rfl) rfl #[.slice Ao28 x8_1.length co28, .string (strOfNums ((l0.take ((wrap64 ((ji14) + (wrap64 (t150)))) : Int).toNat).drop ((ji14) : Int).toNat))] rfl (by (try simp only [List.map_toArray, List.map_cons, List.map_nil]); first | done | (simp only [hji14]; rfl) | rfl | (simp only [List.length_drop, List.length_take]; rfl)) ?_; (with_reducible refine (tallyroomref05_Find.calls k1 _ _ x8_1 (strOfNums ((l0.take ((wrap64 ((ji14) + (wrap64 (t150)))) : Int).toNat).drop ((ji14) : Int).toNat)) t154 _ ?side1 ?side2 A18.out).mono ?_); (case side1 => repeat (first | exact (Kd.R_reads' HO_8.out).2.2 | (with_reducible refine Kd.C_alloc ?_ _) | (with_reducible refine Kd.C_drewN ?_ _) | (with_reducible refine Kd.C_drew ?_))); (case side2 => exact (Kd.R_reads' HO_8.out).2.1); rintro e w' ⟨rfl, ⟨nd, rfl⟩⟩; refine ⟨_, rfl, ?_⟩) | ((with_reducible refine gate_builtin (b := .append) (xs := #[.tmp 66, .tmp 68]) rfl ?_); at_builtin; refine Kd.R_append Kd.string (w0 := w) w.heap.size rfl (.tmp 66) (.tmp 68) 22 9 (.string ⟨#[]⟩) 16 rfl Try.underlying22 info9 rfl (by decide) (by omega) (.slice Ao28 x8_1.length co28) x8_1 (strOfNums ((l0.take ((wrap64 ((ji14) + (wrap64 (t150)))) : Int).toNat).drop ((ji14) : Int).toNat)) [.string (strOfNums ((l0.take ((wrap64 ((ji14) + (wrap64 (t150)))) : Int).toNat).drop ((ji14) : Int).toNat))] (fun _ => True) (fun _ => False) rfl rfl ?aP (fun _ hk => hk.elim) ?aF ?aO ?aB ?aS ?aL ?_; (case aP => exact rfl); (case aB => exact (by repeat (first | (with_reducible first | exact HB.out | apply below_alloc | apply pw_below_drewN | apply below_drew1) | exact HB.out))); (case aF => exact (fun _ _ => trivial)); (case aO => exact (by (with_reducible repeat (first | apply Kd.R_alloc | apply Kd.R_drewN | apply Kd.R_drew)); exact HO_8.out)); (case aS => exact (below_size (by repeat (first | (with_reducible first | exact HB.out | apply below_alloc | apply pw_below_drewN | apply below_drew1) | exact HB.out)))); (case aL => have := LMc24.out; omega); intro v156 w29 ho hb hg hat; rw [← Ny155.out] at ho; have n0_ := Aside0.mk (hb); have n1_ := Aside0.mk (ho); clear HB; clear HO_8; have HB := n0_; have HO157 := n1_; clear n0_ n1_; clear ho hb hg hat))
                                go_roundg k1
                                case measure => have := HK1.out; omega
                                case rel => exact ⟨(wrap64 ((ji14) + (wrap64 (t150)))), (y155), (wrap64 (x9_1 + 1)), (by first | rfl | (simp; done) | (simp only [← hji14] <;> (first | rfl | simp)) | (simp [*]; done)), (by first | rfl | (simp; done) | (simp [*]; done)), H', ⟨by have := HK1.out; omega⟩, ⟨by (with_reducible repeat (first | apply Kd.R_alloc | apply Kd.R_drewN | apply Kd.R_drew)); exact HO157.out⟩, ⟨by repeat (first | (with_reducible first | exact HB.out | apply below_alloc | apply pw_below_drewN | apply below_drew1) | exact HB.out)⟩⟩
                              · rw [if_neg c24] at H
                                exact absurd H (by simp)
                          · rw [if_neg c17] at H
                            exact absurd H (by simp)
                        · rw [if_neg c16] at H
                          exact absurd H (by simp)
                      · rw [if_neg c15] at H
                        exact absurd H (by simp)
                · rw [if_neg c9] at H
                  have c9b0 : (t152 == 0) = false := beq_eq_false_iff_ne.mpr c9
                  have c9b1 : (t152 != 0) = true := bne_iff_ne.mpr c9
                  simp only [Option.some.injEq, Prod.mk.injEq] at H
                  obtain ⟨rfl, rfl, rfl⟩ := H
                  obtain ⟨i030, hi030, _, hsz30, _⟩ := info_parts info5
                  obtain ⟨A30, hcut30, hA30, hC30⟩ := print_drop_of (P := Try.prog) (Value.int .u8) 0 32 5 .i64 Try.underlying32 hi030 hsz30 A0 c0 l0 x6_1 (of_decide_eq_true (by first | (with_reducible assumption) | assumption)) (of_decide_eq_true (by first | (with_reducible assumption) | assumption)) HC0.out
                  have HR149 := Aside0.mk (Kd.C_of_reads (h1 := fun _ => rfl) (hA30 _ (Kd.reads_of_C HR0.out)))
                  have HC149 := Aside0.mk hC30
                  clear hA30 hC30 hi030 hsz30
                  go_wp2_with (first | ((with_reducible refine gate_callee (f := 48) rfl ?_); refine goesL_ (some 35) rfl rfl Try.func48 (by kernel_rfl) rfl #[.slice A30 (l0.drop (x6_1 : Int).toNat).length (c0 - x6_1.toNat)] rfl (by (try simp only [List.map_toArray, List.map_cons, List.map_nil]); first | done | (rw [show (l0.drop (x6_1 : Int).toNat).length = (l0.length - x6_1.toNat) from List.length_drop] <;> rfl) | rfl | (simp only [List.length_drop, List.length_take]; rfl)) ?_; (with_reducible refine (tallyroomref01_Get.calls k1 _ _ (l0.drop (x6_1 : Int).toNat) t150 t151 t152 _ ?side1 ?side2 A8.out).mono ?_); (case side1 => repeat (first | exact (Kd.C_below HR149.out HB.out) | (with_reducible refine Kd.C_alloc ?_ _) | (with_reducible refine Kd.C_drewN ?_ _) | (with_reducible refine Kd.C_drew ?_))); (case side2 => exact HC149.out); rintro e w' ⟨rfl, ⟨nd, rfl⟩⟩; refine ⟨_, rfl, ?_⟩))
                  go_ret3
                  exact ⟨_, by first | rfl | (simp [errW_none, errW_some] <;> rfl) | (simp [*, errW_none, errW_some] <;> rfl), by first | exact Kd.R_nil _ _ _ _ _ | exact Kd.N_nil _ _ _ _ _ | exact Kd.V_nil _ _ _ _ _ | exact Kd.Q_nil _ _ _ _ _ | exact Kd.S_nil _ _ _ _ _, by repeat (first | (with_reducible first | exact HB.out | apply below_alloc | apply pw_below_drewN | apply below_drew1) | exact HB.out)⟩
              · rw [if_neg c7] at H
                exact absurd H (by simp)
            · rw [if_neg c6] at H
              exact absurd H (by simp)
          · rw [if_neg c5] at H
            have c5b0 : decide (x9_1 < (wrap64 (t146))) = false := decide_eq_false c5
            clear c5
            simp only [Option.some.injEq, Prod.mk.injEq] at H
            obtain ⟨rfl, rfl, rfl⟩ := H
            go_wp2
            go_ret3
            exact ⟨_, by first | rfl | (simp [errW_none, errW_some] <;> rfl) | (simp [*, errW_none, errW_some] <;> rfl), by (with_reducible repeat (first | apply Kd.R_alloc | apply Kd.R_drewN | apply Kd.R_drew)); exact HO_8.out, by repeat (first | (with_reducible first | exact HB.out | apply below_alloc | apply pw_below_drewN | apply below_drew1) | exact HB.out)⟩
  · rw [if_neg c3] at H
    have c3b0 : (t148 == 0) = false := beq_eq_false_iff_ne.mpr c3
    have c3b1 : (t148 != 0) = true := bne_iff_ne.mpr c3
    simp only [Option.some.injEq, Prod.mk.injEq] at H
    obtain ⟨rfl, rfl, rfl⟩ := H
    go_enter Try.func23, Try.ntmps23
    go_wp2_with (first | ((with_reducible refine gate_callee (f := 48) rfl ?_); refine goesL_ (some 16) rfl rfl Try.func48 (by kernel_rfl) rfl #[.slice A0 l0.length c0] rfl (by (try simp only [List.map_toArray, List.map_cons, List.map_nil]); first | done | rfl | (simp only [List.length_drop, List.length_take]; rfl)) ?_; (with_reducible refine (tallyroomref01_Get.calls k _ _ l0 t146 t147 t148 _ ?side1 ?side2 A2.out).mono ?_); (case side1 => repeat (first | exact HR0.out | (with_reducible refine Kd.C_alloc ?_ _) | (with_reducible refine Kd.C_drewN ?_ _) | (with_reducible refine Kd.C_drew ?_))); (case side2 => exact HC0.out); rintro e w' ⟨rfl, ⟨nd, rfl⟩⟩; refine ⟨_, rfl, ?_⟩))
    go_ret3
    exact ⟨_, by first | rfl | (simp [errW_none, errW_some] <;> rfl) | (simp [*, errW_none, errW_some] <;> rfl), by first | exact Kd.R_nil _ _ _ _ _ | exact Kd.N_nil _ _ _ _ _ | exact Kd.V_nil _ _ _ _ _ | exact Kd.Q_nil _ _ _ _ _ | exact Kd.S_nil _ _ _ _ _, by repeat (first | (with_reducible first | exact HB.out | apply below_alloc | apply pw_below_drewN | apply below_drew1) | exact HB.out)⟩

end Go.Proofs.Ytfgpcoocbblkiaa.XSv
