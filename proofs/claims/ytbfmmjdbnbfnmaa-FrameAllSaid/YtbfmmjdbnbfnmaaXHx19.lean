-- Made by a program of this session (xprint.py), over the translation; Lean checks it.
import Derived.Test.YtbfmmjdbnbfnmaaXHx0
import Derived.Test.YtbfmmjdbnbfnmaaXHx16
import Derived.Test.YtbfmmjdbnbfnmaaXHx17
import Derived.Test.YtbfmmjdbnbfnmaaXHx18
namespace Go.Proofs.Ytbfmmjdbnbfnmaa.XH
open Go.RowKit Go.Proofs.YtbfmmjdbnbfnmaaW.PrintWords Go.Proofs.YtbfmmjdbnbfnmaaW.PrintLast Go.Proofs.YtbfmmjdbnbfnmaaW.PrintMore
attribute [local go_sem] max2_int min2_int max_two min_two max_three min_three max_four min_four   -- for this text's walks alone
set_option linter.unusedVariables false
set_option linter.unusedSimpArgs false

/-! ### tallyroomref08_Next: function 34 -/
def tallyroomref08_Next.f (k : Nat) (l0 : List Int) : Option (List Int × Int × Int) := (tallyroomref01_Get.f k l0).bind fun bt188 => (if bt188.2.2 = 0 then (if bt188.1 > 65536 then (some (([] : List Int), 0, 2)) else (if (l0.length : Int) < (wrap64 ((wrap64 (bt188.2.1 + (wrap64 (bt188.1)))) + 4)) then (some (([] : List Int), 0, 10)) else (if 0 ≤ bt188.2.1 then (if bt188.2.1 ≤ (wrap64 (bt188.2.1 + (wrap64 (bt188.1)))) then (if (wrap64 (bt188.2.1 + (wrap64 (bt188.1)))) ≤ (l0.length : Int) then ((some ((l0.take ((wrap64 (bt188.2.1 + (wrap64 (bt188.1)))) : Int).toNat).drop (bt188.2.1 : Int).toNat : List Int)).bind fun y191 => (if 0 ≤ (wrap64 (bt188.2.1 + (wrap64 (bt188.1)))) then (if (wrap64 (bt188.2.1 + (wrap64 (bt188.1)))) ≤ (wrap64 ((wrap64 (bt188.2.1 + (wrap64 (bt188.1)))) + 4)) then (if (wrap64 ((wrap64 (bt188.2.1 + (wrap64 (bt188.1)))) + 4)) ≤ (l0.length : Int) then ((tallyroomref02_Sum.f k y191).bind fun t201 => ((tallyroomref02_Tail.f t201).bind fun t202 => (if (strOfNums ((l0.take ((wrap64 ((wrap64 (bt188.2.1 + (wrap64 (bt188.1)))) + 4)) : Int).toNat).drop ((wrap64 (bt188.2.1 + (wrap64 (bt188.1)))) : Int).toNat)).toList = (strOfNums t202).toList then (some (y191, wrap64 ((wrap64 (bt188.2.1 + (wrap64 (bt188.1)))) + 4), 0)) else (some (([] : List Int), wrap64 ((wrap64 (bt188.2.1 + (wrap64 (bt188.1)))) + 4), 12))))) else (none)) else (none)) else (none))) else (none)) else (none)) else (none)))) else (some (([] : List Int), 0, bt188.2.2)))
theorem tallyroomref08_Next.mono : ∀ a0 k, LeO (tallyroomref08_Next.f k a0) (tallyroomref08_Next.f (k + 1) a0) := by
  intro a0 k
  unfold tallyroomref08_Next.f
  repeat' first
      | (with_reducible exact tallyroomref01_Get.mono _ _)
      | (with_reducible exact tallyroomref02_Sum.mono _ _)
      | (with_reducible exact LeO.refl _)
      | (with_reducible exact LeO.none _)
      | (with_reducible refine LeO.ite ?_ ?_)
      | (with_reducible refine LeO.bind ?_ (fun _ => ?_))
      | exact tallyroomref01_Get.mono _ _
      | exact tallyroomref02_Sum.mono _ _
      | exact LeO.none _
      | refine LeO.ite ?_ ?_
      | refine LeO.bind ?_ (fun _ => ?_)
set_option maxHeartbeats 8000000 in
set_option maxRecDepth 100000 in
theorem tallyroomref08_Next.calls (k : Nat) (P0_ : Nat → Prop) (A0 : Option Addr) (c0 : Nat) (l0 : List Int) (r1 : List Int) (r2 : Int) (r3 : Int) (w : World) (hs0 : Kd.V (Kd.int .u8) 5 w w.heap.size (fun k_ => P0_ k_) (.slice A0 l0.length c0) l0) (h : tallyroomref08_Next.f k l0 = some (r1, r2, r3)) :
    Calls Try.prog 34 #[.slice A0 l0.length c0] w fun e w' => ∃ v0_ : Value, e = .returned (.tuple #[v0_, .int .i64 r2, .int .i64 r3]) ∧ Kd.V (Kd.int .u8) 5 w' w.heap.size (fun k_ => (P0_ k_ ∨ w.heap.size ≤ k_)) v0_ r1 ∧ Below w.heap.size w w' := by
  have HO0 := Aside0.mk (show Kd.V (Kd.int .u8) 5 w w.heap.size (fun k_ => (P0_ k_ ∨ w.heap.size ≤ k_)) (.slice A0 l0.length c0) l0 from Kd.V_mono hs0 (fun k_ hk => .inl hk))
  have HB := Aside0.mk (Below.refl w.heap.size w)
  have H : ((tallyroomref01_Get.f k l0).bind fun bt188 => (if bt188.2.2 = 0 then (if bt188.1 > 65536 then (some (([] : List Int), 0, 2)) else (if (l0.length : Int) < (wrap64 ((wrap64 (bt188.2.1 + (wrap64 (bt188.1)))) + 4)) then (some (([] : List Int), 0, 10)) else (if 0 ≤ bt188.2.1 then (if bt188.2.1 ≤ (wrap64 (bt188.2.1 + (wrap64 (bt188.1)))) then (if (wrap64 (bt188.2.1 + (wrap64 (bt188.1)))) ≤ (l0.length : Int) then ((some ((l0.take ((wrap64 (bt188.2.1 + (wrap64 (bt188.1)))) : Int).toNat).drop (bt188.2.1 : Int).toNat : List Int)).bind fun y191 => (if 0 ≤ (wrap64 (bt188.2.1 + (wrap64 (bt188.1)))) then (if (wrap64 (bt188.2.1 + (wrap64 (bt188.1)))) ≤ (wrap64 ((wrap64 (bt188.2.1 + (wrap64 (bt188.1)))) + 4)) then (if (wrap64 ((wrap64 (bt188.2.1 + (wrap64 (bt188.1)))) + 4)) ≤ (l0.length : Int) then ((tallyroomref02_Sum.f k y191).bind fun t201 => ((tallyroomref02_Tail.f t201).bind fun t202 => (if (strOfNums ((l0.take ((wrap64 ((wrap64 (bt188.2.1 + (wrap64 (bt188.1)))) + 4)) : Int).toNat).drop ((wrap64 (bt188.2.1 + (wrap64 (bt188.1)))) : Int).toNat)).toList = (strOfNums t202).toList then (some (y191, wrap64 ((wrap64 (bt188.2.1 + (wrap64 (bt188.1)))) + 4), 0)) else (some (([] : List Int), wrap64 ((wrap64 (bt188.2.1 + (wrap64 (bt188.1)))) + 4), 12))))) else (none)) else (none)) else (none))) else (none)) else (none)) else (none)))) else (some (([] : List Int), 0, bt188.2.2)))) = some (r1, r2, r3) := h
  clear h
  replace H := Option.bind_eq_some_iff.mp H
  obtain ⟨⟨t188, t189, t190⟩, A20, H⟩ := H
  replace H : (if t190 = 0 then (if t188 > 65536 then (some (([] : List Int), 0, 2)) else (if (l0.length : Int) < (wrap64 ((wrap64 (t189 + (wrap64 (t188)))) + 4)) then (some (([] : List Int), 0, 10)) else (if 0 ≤ t189 then (if t189 ≤ (wrap64 (t189 + (wrap64 (t188)))) then (if (wrap64 (t189 + (wrap64 (t188)))) ≤ (l0.length : Int) then ((some ((l0.take ((wrap64 (t189 + (wrap64 (t188)))) : Int).toNat).drop (t189 : Int).toNat : List Int)).bind fun y191 => (if 0 ≤ (wrap64 (t189 + (wrap64 (t188)))) then (if (wrap64 (t189 + (wrap64 (t188)))) ≤ (wrap64 ((wrap64 (t189 + (wrap64 (t188)))) + 4)) then (if (wrap64 ((wrap64 (t189 + (wrap64 (t188)))) + 4)) ≤ (l0.length : Int) then ((tallyroomref02_Sum.f k y191).bind fun t201 => ((tallyroomref02_Tail.f t201).bind fun t202 => (if (strOfNums ((l0.take ((wrap64 ((wrap64 (t189 + (wrap64 (t188)))) + 4)) : Int).toNat).drop ((wrap64 (t189 + (wrap64 (t188)))) : Int).toNat)).toList = (strOfNums t202).toList then (some (y191, wrap64 ((wrap64 (t189 + (wrap64 (t188)))) + 4), 0)) else (some (([] : List Int), wrap64 ((wrap64 (t189 + (wrap64 (t188)))) + 4), 12))))) else (none)) else (none)) else (none))) else (none)) else (none)) else (none)))) else (some (([] : List Int), 0, t190))) = some (r1, r2, r3) := H
  have A2 := Aside0.mk A20
  clear A20
  by_cases c3 : t190 = 0
  · rw [if_pos c3] at H
    have c3b0 : (t190 == 0) = true := beq_iff_eq.mpr c3
    have c3b1 : (t190 != 0) = false := bne_eq_false_iff_eq.mpr c3
    clear c3
    by_cases c4 : t188 > 65536
    · rw [if_pos c4] at H
      have c4b0 : decide (65536 < t188) = true := decide_eq_true c4
      clear c4
      simp only [Option.some.injEq, Prod.mk.injEq] at H
      obtain ⟨rfl, rfl, rfl⟩ := H
      go_enter Try.func34, Try.ntmps34
      go_wp2_with (first | ((with_reducible refine gate_callee (f := 17) rfl ?_); refine goesL_ (some 12) rfl rfl Try.func17 (by kernel_rfl) rfl #[.slice A0 l0.length c0] rfl (by (try simp only [List.map_toArray, List.map_cons, List.map_nil]); first | done | rfl | (simp only [List.length_drop, List.length_take]; rfl)) ?_; (with_reducible refine (tallyroomref01_Get.calls k _ _ l0 t188 t189 t190 _ ?side1 ?side2 A2.out).mono ?_); (case side1 => repeat (first | exact (Kd.V_reads' HO0.out).2.2 | (with_reducible refine Kd.C_alloc ?_ _) | (with_reducible refine Kd.C_drewN ?_ _) | (with_reducible refine Kd.C_drew ?_))); (case side2 => exact (Kd.V_reads' HO0.out).2.1); rintro e w' ⟨rfl, ⟨nd, rfl⟩⟩; refine ⟨_, rfl, ?_⟩))
      go_ret3
      exact ⟨_, by first | rfl | (simp [errW_none, errW_some] <;> rfl) | (simp [*, errW_none, errW_some] <;> rfl), Kd.V_nil _ _ _ _ _, by repeat (first | (with_reducible first | exact HB.out | apply below_alloc | apply pw_below_drewN | apply below_drew1) | exact HB.out)⟩
    · rw [if_neg c4] at H
      have c4b0 : decide (65536 < t188) = false := decide_eq_false c4
      clear c4
      by_cases c5 : (l0.length : Int) < (wrap64 ((wrap64 (t189 + (wrap64 (t188)))) + 4))
      · rw [if_pos c5] at H
        have c5b0 : decide ((l0.length : Int) < (wrap64 ((wrap64 (t189 + (wrap64 (t188)))) + 4))) = true := decide_eq_true c5
        clear c5
        simp only [Option.some.injEq, Prod.mk.injEq] at H
        obtain ⟨rfl, rfl, rfl⟩ := H
        go_enter Try.func34, Try.ntmps34
        go_wp2_with (first | ((with_reducible refine gate_callee (f := 17) rfl ?_); refine goesL_ (some 12) rfl rfl Try.func17 (by kernel_rfl) rfl #[.slice A0 l0.length c0] rfl (by (try simp only [List.map_toArray, List.map_cons, List.map_nil]); first | done | rfl | (simp only [List.length_drop, List.length_take]; rfl)) ?_; (with_reducible refine (tallyroomref01_Get.calls k _ _ l0 t188 t189 t190 _ ?side1 ?side2 A2.out).mono ?_); (case side1 => repeat (first | exact (Kd.V_reads' HO0.out).2.2 | (with_reducible refine Kd.C_alloc ?_ _) | (with_reducible refine Kd.C_drewN ?_ _) | (with_reducible refine Kd.C_drew ?_))); (case side2 => exact (Kd.V_reads' HO0.out).2.1); rintro e w' ⟨rfl, ⟨nd, rfl⟩⟩; refine ⟨_, rfl, ?_⟩))
        go_ret3
        exact ⟨_, by first | rfl | (simp [errW_none, errW_some] <;> rfl) | (simp [*, errW_none, errW_some] <;> rfl), Kd.V_nil _ _ _ _ _, by repeat (first | (with_reducible first | exact HB.out | apply below_alloc | apply pw_below_drewN | apply below_drew1) | exact HB.out)⟩
      · rw [if_neg c5] at H
        have c5b0 : decide ((l0.length : Int) < (wrap64 ((wrap64 (t189 + (wrap64 (t188)))) + 4))) = false := decide_eq_false c5
        clear c5
        by_cases c6 : 0 ≤ t189
        · rw [if_pos c6] at H
          have c6b0 := eq_true c6
          have c6b1 : decide (0 ≤ t189) = true := decide_eq_true c6
          clear c6
          by_cases c7 : t189 ≤ (wrap64 (t189 + (wrap64 (t188))))
          · rw [if_pos c7] at H
            have c7b0 := eq_true c7
            have c7b1 : decide (t189 ≤ (wrap64 (t189 + (wrap64 (t188))))) = true := decide_eq_true c7
            by_cases c8 : (wrap64 (t189 + (wrap64 (t188)))) ≤ (l0.length : Int)
            · rw [if_pos c8] at H
              have c8b0 := eq_true c8
              have c8b1 : decide ((wrap64 (t189 + (wrap64 (t188)))) ≤ (l0.length : Int)) = true := decide_eq_true c8
              obtain ⟨y191, hy191⟩ : ∃ y_ : List Int, y_ = ((l0.take ((wrap64 (t189 + (wrap64 (t188)))) : Int).toNat).drop (t189 : Int).toNat) := ⟨_, rfl⟩
              replace H : (if 0 ≤ (wrap64 (t189 + (wrap64 (t188)))) then (if (wrap64 (t189 + (wrap64 (t188)))) ≤ (wrap64 ((wrap64 (t189 + (wrap64 (t188)))) + 4)) then (if (wrap64 ((wrap64 (t189 + (wrap64 (t188)))) + 4)) ≤ (l0.length : Int) then ((tallyroomref02_Sum.f k y191).bind fun t201 => ((tallyroomref02_Tail.f t201).bind fun t202 => (if (strOfNums ((l0.take ((wrap64 ((wrap64 (t189 + (wrap64 (t188)))) + 4)) : Int).toNat).drop ((wrap64 (t189 + (wrap64 (t188)))) : Int).toNat)).toList = (strOfNums t202).toList then (some (y191, wrap64 ((wrap64 (t189 + (wrap64 (t188)))) + 4), 0)) else (some (([] : List Int), wrap64 ((wrap64 (t189 + (wrap64 (t188)))) + 4), 12))))) else (none)) else (none)) else (none)) = some (r1, r2, r3) := by first | (rw [hy191]; with_reducible exact H) | (have H2_ := (Option.bind_some _ _).symm.trans H; rw [hy191]; with_reducible exact H2_) | (have H2_ := (Option.bind_some _ _).symm.trans H; with_reducible exact H2_) | with_reducible exact H | (rw [hy191]; exact H) | exact H
              have Ny191 := Aside0.mk hy191
              clear hy191
              obtain ⟨ji9, hji9⟩ : ∃ j_ : Int, (wrap64 (t189 + (wrap64 (t188)))) = j_ := ⟨_, rfl⟩
              replace H : (if 0 ≤ (ji9) then (if (ji9) ≤ (wrap64 ((ji9) + 4)) then (if (wrap64 ((ji9) + 4)) ≤ (l0.length : Int) then ((tallyroomref02_Sum.f k y191).bind fun t201 => ((tallyroomref02_Tail.f t201).bind fun t202 => (if (strOfNums ((l0.take ((wrap64 ((ji9) + 4)) : Int).toNat).drop ((ji9) : Int).toNat)).toList = (strOfNums t202).toList then (some (y191, wrap64 ((ji9) + 4), 0)) else (some (([] : List Int), wrap64 ((ji9) + 4), 12))))) else (none)) else (none)) else (none)) = some (r1, r2, r3) := by first | (rw [hji9] at H; exact H) | (simp only [hji9] at H ⊢; exact H)
              (try rw [hji9] at c5b0)
              (try rw [hji9] at c7b0)
              (try rw [hji9] at c7b1)
              (try rw [hji9] at c7)
              (try rw [hji9] at c8b0)
              (try rw [hji9] at c8b1)
              (try rw [hji9] at c8)
              (try rw [hji9] at A2)
              (try rw [hji9] at Ny191)
              have hji9w : (IntKind.i64.wrap (t189 + (wrap64 (t188)))) = ji9 := (i64_w _).trans hji9
              by_cases c10 : 0 ≤ (ji9)
              · rw [if_pos c10] at H
                have c10b0 := eq_true c10
                have c10b1 : decide (0 ≤ (ji9)) = true := decide_eq_true c10
                clear c10
                by_cases c11 : (ji9) ≤ (wrap64 ((ji9) + 4))
                · rw [if_pos c11] at H
                  have c11b0 := eq_true c11
                  have c11b1 : decide ((ji9) ≤ (wrap64 ((ji9) + 4))) = true := decide_eq_true c11
                  by_cases c12 : (wrap64 ((ji9) + 4)) ≤ (l0.length : Int)
                  · rw [if_pos c12] at H
                    have c12b0 := eq_true c12
                    have c12b1 : decide ((wrap64 ((ji9) + 4)) ≤ (l0.length : Int)) = true := decide_eq_true c12
                    obtain ⟨y196, hy196⟩ : ∃ y_ : List Int, y_ = ((l0.take ((wrap64 ((ji9) + 4)) : Int).toNat).drop ((ji9) : Int).toNat) := ⟨_, rfl⟩
                    replace H : ((tallyroomref02_Sum.f k y191).bind fun t201 => ((tallyroomref02_Tail.f t201).bind fun t202 => (if (strOfNums y196).toList = (strOfNums t202).toList then (some (y191, wrap64 ((ji9) + 4), 0)) else (some (([] : List Int), wrap64 ((ji9) + 4), 12))))) = some (r1, r2, r3) := by first | (rw [hy196]; with_reducible exact H) | (have H2_ := (Option.bind_some _ _).symm.trans H; rw [hy196]; with_reducible exact H2_) | (have H2_ := (Option.bind_some _ _).symm.trans H; with_reducible exact H2_) | with_reducible exact H | (rw [hy196]; exact H) | exact H
                    have Ny196 := Aside0.mk hy196
                    clear hy196
                    replace H := Option.bind_eq_some_iff.mp H
                    obtain ⟨t201, A130, H⟩ := H
                    replace H : ((tallyroomref02_Tail.f t201).bind fun t202 => (if (strOfNums y196).toList = (strOfNums t202).toList then (some (y191, wrap64 ((ji9) + 4), 0)) else (some (([] : List Int), wrap64 ((ji9) + 4), 12)))) = some (r1, r2, r3) := H
                    have A13 := Aside0.mk A130
                    clear A130
                    replace H := Option.bind_eq_some_iff.mp H
                    obtain ⟨t202, A140, H⟩ := H
                    replace H : (if (strOfNums y196).toList = (strOfNums t202).toList then (some (y191, wrap64 ((ji9) + 4), 0)) else (some (([] : List Int), wrap64 ((ji9) + 4), 12))) = some (r1, r2, r3) := H
                    have A14 := Aside0.mk A140
                    clear A140
                    by_cases c15 : (strOfNums y196).toList = (strOfNums t202).toList
                    · rw [if_pos c15] at H
                      have c15b0 : ((strOfNums y196).toList == (strOfNums t202).toList) = true := beq_iff_eq.mpr c15
                      have c15b1 : ((strOfNums y196).toList != (strOfNums t202).toList) = false := bne_eq_false_iff_eq.mpr c15
                      clear c15
                      simp only [Option.some.injEq, Prod.mk.injEq] at H
                      obtain ⟨rfl, rfl, rfl⟩ := H
                      go_enter Try.func34, Try.ntmps34
                      try go_wp2_with (first | ((with_reducible refine gate_callee (f := 17) rfl ?_); refine goesL_ (some 12) rfl rfl Try.func17 (by kernel_rfl) rfl #[.slice A0 l0.length c0] rfl (by (try simp only [List.map_toArray, List.map_cons, List.map_nil]); first | done | rfl | (simp only [List.length_drop, List.length_take]; rfl)) ?_; (with_reducible refine (tallyroomref01_Get.calls k _ _ l0 t188 t189 t190 _ ?side1 ?side2 A2.out).mono ?_); (case side1 => repeat (first | exact (Kd.V_reads' HO0.out).2.2 | (with_reducible refine Kd.C_alloc ?_ _) | (with_reducible refine Kd.C_drewN ?_ _) | (with_reducible refine Kd.C_drew ?_))); (case side2 => exact (Kd.V_reads' HO0.out).2.1); rintro e w' ⟨rfl, ⟨nd, rfl⟩⟩; refine ⟨_, rfl, ?_⟩; have q16 : ((ji9) : Int) ≤ ((l0.length : Int) : Int) := of_decide_eq_true (by first | (with_reducible assumption) | assumption); obtain ⟨i016, hi016, _, hsz16, _⟩ := info_parts info5; have hroom16 : l0.length ≤ c0 := (Kd.V_reads' HO0.out).2.1; have hC16 : Kd.F (Kd.int .u8) _ _ A0 l0.length l0 := (Kd.V_at (base := w.heap.size) HO0.out).2.2; have ql16 : (t189 : Int) ≤ ((ji9) : Int) := of_decide_eq_true (by first | (with_reducible assumption) | assumption); have q016 : (0 : Int) ≤ (t189 : Int) := of_decide_eq_true (by first | (with_reducible assumption) | assumption); have hcut16 := cut_mid (P := Try.prog) 22 5 .i64 .i64 Try.underlying22 hi016 1 hsz16 A0 l0.length c0 t189 (ji9) q016 ql16 q16 hroom16; have hr16 := Kd.F_mid (lo := (t189 : Int).toNat) (hi := ((ji9) : Int).toNat) (c := c0) hC16 (by omega) (by omega) hroom16; obtain ⟨A16, hA16⟩ : ∃ A1, A1 = (if c0 = (t189 : Int).toNat then A0 else (A0 : Option Addr).map (·.add ((t189 : Int).toNat * 1))) := ⟨_, rfl⟩; obtain ⟨c16, hc16⟩ : ∃ c1, c1 = c0 - (t189 : Int).toNat := ⟨_, rfl⟩; have hy16 : y191.length = ((ji9) : Int).toNat - (t189 : Int).toNat := (by rw [Ny191.out, List.length_drop, List.length_take] <;> omega); rw [show ((l0).take ((ji9) : Int).toNat).drop (t189 : Int).toNat = y191 from Ny191.out.symm] at hr16; replace hr16 : Kd.F (Kd.int .u8) _ _ A16 y191.length y191 := (by rw [hA16]; exact hr16); rw [← hy16, ← hA16, ← hc16] at hcut16; have HO195 := Aside0.mk (show Kd.V (Kd.int .u8) 5 _ w.heap.size _ (.slice A16 y191.length c16) y191 from Kd.V_mk (by rw [hy16, hc16]; exact Nat.sub_le_sub_right (Nat.le_trans (by omega) hroom16) _) hr16); have HC195 := Aside0.mk (show y191.length ≤ c16 from by rw [hy16, hc16]; exact Nat.sub_le_sub_right (Nat.le_trans (by omega) hroom16) _); clear hr16 hC16 hroom16 hi016 hsz16 hc16; have KY16 := Aside0.mk hy16; have KA16 := Aside0.mk hA16; clear hy16 hA16; replace q16 := eq_true q16; have q17 : ((wrap64 ((ji9) + 4)) : Int) ≤ ((l0.length : Int) : Int) := of_decide_eq_true (by first | (with_reducible assumption) | assumption); obtain ⟨i017, hi017, _, hsz17, _⟩ := info_parts info5; have hroom17 : l0.length ≤ c0 := (Kd.V_reads' HO0.out).2.1; have hC17 : Kd.F (Kd.int .u8) _ _ A0 l0.length l0 := (Kd.V_at (base := w.heap.size) HO0.out).2.2; have ql17 : ((ji9) : Int) ≤ ((wrap64 ((ji9) + 4)) : Int) := of_decide_eq_true (by first | (with_reducible assumption) | assumption); have q017 : (0 : Int) ≤ ((ji9) : Int) := of_decide_eq_true (by first | (with_reducible assumption) | assumption); have hcut17 := cut_mid (P := Try.prog) 22 5 .i64 .i64 Try.underlying22 hi017 1 hsz17 A0 l0.length c0 (ji9) (wrap64 ((ji9) + 4)) q017 ql17 q17 hroom17; have hr17 := Kd.F_mid (lo := ((ji9) : Int).toNat) (hi := ((wrap64 ((ji9) + 4)) : Int).toNat) (c := c0) hC17 (by omega) (by omega) hroom17; obtain ⟨A17, hA17⟩ : ∃ A1, A1 = (if c0 = ((ji9) : Int).toNat then A0 else (A0 : Option Addr).map (·.add (((ji9) : Int).toNat * 1))) := ⟨_, rfl⟩; obtain ⟨c17, hc17⟩ : ∃ c1, c1 = c0 - ((ji9) : Int).toNat := ⟨_, rfl⟩; have hy17 : y196.length = ((wrap64 ((ji9) + 4)) : Int).toNat - ((ji9) : Int).toNat := (by rw [Ny196.out, List.length_drop, List.length_take] <;> omega); rw [show ((l0).take ((wrap64 ((ji9) + 4)) : Int).toNat).drop ((ji9) : Int).toNat = y196 from Ny196.out.symm] at hr17; replace hr17 : Kd.F (Kd.int .u8) _ _ A17 y196.length y196 := (by rw [hA17]; exact hr17); rw [← hy17, ← hA17, ← hc17] at hcut17; have HO200 := Aside0.mk (show Kd.V (Kd.int .u8) 5 _ w.heap.size _ (.slice A17 y196.length c17) y196 from Kd.V_mk (by rw [hy17, hc17]; exact Nat.sub_le_sub_right (Nat.le_trans (by omega) hroom17) _) hr17); have HC200 := Aside0.mk (show y196.length ≤ c17 from by rw [hy17, hc17]; exact Nat.sub_le_sub_right (Nat.le_trans (by omega) hroom17) _); clear hr17 hC17 hroom17 hi017 hsz17 hc17; have KY17 := Aside0.mk hy17; have KA17 := Aside0.mk hA17; clear hy17 hA17; replace q17 := eq_true q17))
                      have n0_ := Aside0.mk (Kd.V_drew (Kd.V_drewN HO0.out nd))
                      have n1_ := Aside0.mk (Kd.V_drew (Kd.V_drewN HO195.out nd))
                      have n2_ := Aside0.mk (Kd.V_drew (Kd.V_drewN HO200.out nd))
                      have n3_ := Aside0.mk (below_drew1 (pw_below_drewN HB.out nd))
                      clear HO0
                      clear HO195
                      clear HO200
                      clear HB
                      have HO0 := n0_
                      have HO195 := n1_
                      have HO200 := n2_
                      have HB := n3_
                      clear n0_ n1_ n2_ n3_
                      have hcv19 := Kd.C_string (P := Try.prog) (c := c17) Try.underlying22 Try.underlying5 Try.underlying9 (Kd.V_reads' HO200.out).2.2
                      refine start_ (n := 7) (S := fun w' => Kd.C (Kd.int .u8) w' A17 y196.length y196) (ds := []) #[false, false, false, false, false, false, false] (by kernel_rfl) rfl rfl (Kd.V_reads' HO200.out).2.2 (fun hHeld => ?_)
                      generalize (w.drewN nd).drew = w18 at HO0 HO195 HO200 HB hHeld ⊢
                      refine pure_ (i := 0) (N := some 47) (v := ?_) (a' := ?_) #[true, false, false, false, false, false, false] rfl rfl (by kernel_rfl) (fun _ _ _ h => h) (Or.inl ⟨by rfl, ?_⟩) ?_ ?_
                      rotate_left
                      · intro w'
                        go_simp
                        with_reducible rfl
                      rotate_left
                      · simp only [Act.put, List.setIfInBounds_toArray, List.set_cons_zero, List.set_cons_succ, i64_w, i32_w]
                        rfl
                      refine take_ (i := 1) (N := some 48) (v := ?_) (a' := ?_) #[true, true, false, false, false, false, false] rfl rfl (by kernel_rfl) (fun _ _ _ h => h) (Or.inl ⟨by rfl, ?_⟩) hHeld ?_ ?_
                      rotate_left
                      · rintro w' hs
                        have hcv_ := Kd.C_string (P := Try.prog) (A := A17) (c := c17) Try.underlying22 Try.underlying5 Try.underlying9 hs
                        go_simp
                        with_reducible rfl
                      rotate_left
                      · simp only [Act.put, List.setIfInBounds_toArray, List.set_cons_zero, List.set_cons_succ, i64_w, i32_w]
                        rfl
                      refine pure_ (i := 2) (N := some 49) (v := ?_) (a' := ?_) #[true, true, true, false, false, false, false] rfl rfl (by kernel_rfl) (fun _ _ _ h => h) (Or.inl ⟨by rfl, ?_⟩) ?_ ?_
                      rotate_left
                      · intro w'
                        go_simp
                        with_reducible rfl
                      rotate_left
                      · simp only [Act.put, List.setIfInBounds_toArray, List.set_cons_zero, List.set_cons_succ, i64_w, i32_w]
                        rfl
                      refine one_ (i := 3) (N := some 50) #[true, true, true, true, false, false, false] rfl rfl (by kernel_rfl) (by decide) (fun K hK => ?_)
                      refine goes_ Try.func26 (by kernel_rfl) rfl #[.slice A16 y191.length c16] (by rfl) rfl rfl (by (try simp only [List.map_toArray, List.map_cons, List.map_nil]); first | done | rfl | (simp only [List.length_drop, List.length_take]; rfl)) ?_
                      with_reducible refine (tallyroomref02_Sum.calls k _ _ y191 t201 _ ?side1 ?side2 A13.out).mono ?_
                      (case side1 => repeat (first | exact (Kd.V_reads' HO195.out).2.2 | (with_reducible refine Kd.C_alloc ?_ _) | (with_reducible refine Kd.C_drewN ?_ _) | (with_reducible refine Kd.C_drew ?_)))
                      (case side2 => exact (Kd.V_reads' HO195.out).2.1)
                      rintro e w' ⟨rfl, ⟨nd, rfl⟩⟩
                      refine ⟨_, rfl, ?_⟩
                      refine hK.out _ _ (Kd.C_drewN (Kd.V_reads' HO200.out).2.2 _) (fun hHeld => ?_)
                      clear hK K
                      refine norm_ (a' := ?_) ?_ ?_
                      rotate_left
                      · show Act.put _ (some 50) _ = _
                        simp only [Act.put, List.setIfInBounds_toArray, List.set_cons_zero, List.set_cons_succ, i64_w, i32_w]
                        rfl
                      refine one_ (i := 4) (N := some 51) #[true, true, true, true, true, false, false] rfl rfl (by kernel_rfl) (by decide) (fun K hK => ?_)
                      refine goes_ Try.func30 (by kernel_rfl) rfl #[.int .u32 t201] (by rfl) rfl rfl (by (try simp only [List.map_toArray, List.map_cons, List.map_nil]); first | done | rfl | (simp only [List.length_drop, List.length_take]; rfl)) ?_
                      with_reducible refine (tallyroomref02_Tail.calls t201 t202 _ A14.out).mono ?_
                      rintro e w20 ⟨v203, rfl, ho0, hb⟩
                      refine ⟨_, rfl, ?_⟩
                      have n0_ := Aside0.mk (Kd.V_elder' (by (with_reducible repeat (first | apply Kd.V_alloc | apply Kd.V_drewN | apply Kd.V_drew)); exact HO0.out) (Kd.R_base ho0) hb)
                      have n1_ := Aside0.mk (Kd.V_elder' (by (with_reducible repeat (first | apply Kd.V_alloc | apply Kd.V_drewN | apply Kd.V_drew)); exact HO195.out) (Kd.R_base ho0) hb)
                      have n2_ := Aside0.mk (Kd.V_elder' (by (with_reducible repeat (first | apply Kd.V_alloc | apply Kd.V_drewN | apply Kd.V_drew)); exact HO200.out) (Kd.R_base ho0) hb)
                      have n3_ := Aside0.mk (Kd.R_lower (Kd.R_newM (M := fun k_ => (w.heap.size ≤ k_)) ho0 (below_size (by repeat (first | (with_reducible first | exact HB.out | apply below_alloc | apply pw_below_drewN | apply below_drew1) | exact HB.out))) (fun k_ h_ => h_)) (below_size (by repeat (first | (with_reducible first | exact HB.out | apply below_alloc | apply pw_below_drewN | apply below_drew1) | exact HB.out))))
                      have n4_ := Aside0.mk (below_step (by repeat (first | (with_reducible first | exact HB.out | apply below_alloc | apply pw_below_drewN | apply below_drew1) | exact HB.out)) hb)
                      clear HO0
                      clear HO195
                      clear HO200
                      clear HB
                      have HO0 := n0_
                      have HO195 := n1_
                      have HO200 := n2_
                      have HO204 := n3_
                      have HB := n4_
                      clear n0_ n1_ n2_ n3_ n4_
                      (try clear hb)
                      (try clear hb2)
                      (try clear hk)
                      (try clear hi)
                      (try clear ho0)
                      refine hK.out _ _ (Kd.V_reads' HO200.out).2.2 (fun hHeld => ?_)
                      clear hK K
                      refine norm_ (a' := ?_) ?_ ?_
                      rotate_left
                      · show Act.put _ (some 51) _ = _
                        simp only [Act.put, List.setIfInBounds_toArray, List.set_cons_zero, List.set_cons_succ, i64_w, i32_w]
                        rfl
                      refine one_ (i := 5) (N := some 52) #[true, true, true, true, true, true, false] rfl rfl (by kernel_rfl) (by decide) (fun K hK => ?_)
                      have hcv21 := own_string (P := Try.prog) Try.underlying22 Try.underlying5 Try.underlying9 (Kd.own_of_R HO204.out)
                      refine value_ (w1 := ?_) (v := ?_) (by rfl) rfl ?_ ?_
                      rotate_left 2
                      · go_simp
                        constructor
                        · rfl
                        · rfl
                      clear hcv21
                      refine hK.out _ _ hHeld (fun hHeld => ?_)
                      clear hK K
                      refine norm_ (a' := ?_) ?_ ?_
                      rotate_left
                      · show Act.put _ (some 52) _ = _
                        simp only [Act.put, List.setIfInBounds_toArray, List.set_cons_zero, List.set_cons_succ, i64_w, i32_w]
                        rfl
                      refine pure_ (i := 6) (N := some 53) (v := ?_) (a' := ?_) #[true, true, true, true, true, true, true] rfl rfl (by kernel_rfl) (fun _ _ _ h => h) (Or.inl ⟨by rfl, ?_⟩) ?_ ?_
                      rotate_left
                      · intro w'
                        go_simp
                        with_reducible rfl
                      rotate_left
                      · simp only [Act.put, List.setIfInBounds_toArray, List.set_cons_zero, List.set_cons_succ, i64_w, i32_w]
                        rfl
                      refine done_ (by kernel_rfl) ?_
                      try go_wp2
                      go_ret3
                      exact ⟨_, by first | rfl | (simp [errW_none, errW_some] <;> rfl) | (simp only [← hji9]; first | rfl | (simp [errW_none, errW_some] <;> rfl)) | (simp [*, errW_none, errW_some] <;> rfl), by (with_reducible repeat (first | apply Kd.V_alloc | apply Kd.V_drewN | apply Kd.V_drew)); exact Kd.V_mono HO195.out (fun _ hk => hk.1), by repeat (first | (with_reducible first | exact HB.out | apply below_alloc | apply pw_below_drewN | apply below_drew1) | exact HB.out)⟩
                    · rw [if_neg c15] at H
                      have c15b0 : ((strOfNums y196).toList == (strOfNums t202).toList) = false := beq_eq_false_iff_ne.mpr c15
                      have c15b1 : ((strOfNums y196).toList != (strOfNums t202).toList) = true := bne_iff_ne.mpr c15
                      simp only [Option.some.injEq, Prod.mk.injEq] at H
                      obtain ⟨rfl, rfl, rfl⟩ := H
                      go_enter Try.func34, Try.ntmps34
                      try go_wp2_with (first | ((with_reducible refine gate_callee (f := 17) rfl ?_); refine goesL_ (some 12) rfl rfl Try.func17 (by kernel_rfl) rfl #[.slice A0 l0.length c0] rfl (by (try simp only [List.map_toArray, List.map_cons, List.map_nil]); first | done | rfl | (simp only [List.length_drop, List.length_take]; rfl)) ?_; (with_reducible refine (tallyroomref01_Get.calls k _ _ l0 t188 t189 t190 _ ?side1 ?side2 A2.out).mono ?_); (case side1 => repeat (first | exact (Kd.V_reads' HO0.out).2.2 | (with_reducible refine Kd.C_alloc ?_ _) | (with_reducible refine Kd.C_drewN ?_ _) | (with_reducible refine Kd.C_drew ?_))); (case side2 => exact (Kd.V_reads' HO0.out).2.1); rintro e w' ⟨rfl, ⟨nd, rfl⟩⟩; refine ⟨_, rfl, ?_⟩; have q23 : ((ji9) : Int) ≤ ((l0.length : Int) : Int) := of_decide_eq_true (by first | (with_reducible assumption) | assumption); obtain ⟨i023, hi023, _, hsz23, _⟩ := info_parts info5; have hroom23 : l0.length ≤ c0 := (Kd.V_reads' HO0.out).2.1; have hC23 : Kd.F (Kd.int .u8) _ _ A0 l0.length l0 := (Kd.V_at (base := w.heap.size) HO0.out).2.2; have ql23 : (t189 : Int) ≤ ((ji9) : Int) := of_decide_eq_true (by first | (with_reducible assumption) | assumption); have q023 : (0 : Int) ≤ (t189 : Int) := of_decide_eq_true (by first | (with_reducible assumption) | assumption); have hcut23 := cut_mid (P := Try.prog) 22 5 .i64 .i64 Try.underlying22 hi023 1 hsz23 A0 l0.length c0 t189 (ji9) q023 ql23 q23 hroom23; have hr23 := Kd.F_mid (lo := (t189 : Int).toNat) (hi := ((ji9) : Int).toNat) (c := c0) hC23 (by omega) (by omega) hroom23; obtain ⟨A23, hA23⟩ : ∃ A1, A1 = (if c0 = (t189 : Int).toNat then A0 else (A0 : Option Addr).map (·.add ((t189 : Int).toNat * 1))) := ⟨_, rfl⟩; obtain ⟨c23, hc23⟩ : ∃ c1, c1 = c0 - (t189 : Int).toNat := ⟨_, rfl⟩; have hy23 : y191.length = ((ji9) : Int).toNat - (t189 : Int).toNat := (by rw [Ny191.out, List.length_drop, List.length_take] <;> omega); rw [show ((l0).take ((ji9) : Int).toNat).drop (t189 : Int).toNat = y191 from Ny191.out.symm] at hr23; replace hr23 : Kd.F (Kd.int .u8) _ _ A23 y191.length y191 := (by rw [hA23]; exact hr23); rw [← hy23, ← hA23, ← hc23] at hcut23; have HO195 := Aside0.mk (show Kd.V (Kd.int .u8) 5 _ w.heap.size _ (.slice A23 y191.length c23) y191 from Kd.V_mk (by rw [hy23, hc23]; exact Nat.sub_le_sub_right (Nat.le_trans (by omega) hroom23) _) hr23); have HC195 := Aside0.mk (show y191.length ≤ c23 from by rw [hy23, hc23]; exact Nat.sub_le_sub_right (Nat.le_trans (by omega) hroom23) _); clear hr23 hC23 hroom23 hi023 hsz23 hc23; have KY23 := Aside0.mk hy23; have KA23 := Aside0.mk hA23; clear hy23 hA23; replace q23 := eq_true q23; have q24 : ((wrap64 ((ji9) + 4)) : Int) ≤ ((l0.length : Int) : Int) := of_decide_eq_true (by first | (with_reducible assumption) | assumption); obtain ⟨i024, hi024, _, hsz24, _⟩ := info_parts info5; have hroom24 : l0.length ≤ c0 := (Kd.V_reads' HO0.out).2.1; have hC24 : Kd.F (Kd.int .u8) _ _ A0 l0.length l0 := (Kd.V_at (base := w.heap.size) HO0.out).2.2; have ql24 : ((ji9) : Int) ≤ ((wrap64 ((ji9) + 4)) : Int) := of_decide_eq_true (by first | (with_reducible assumption) | assumption); have q024 : (0 : Int) ≤ ((ji9) : Int) := of_decide_eq_true (by first | (with_reducible assumption) | assumption); have hcut24 := cut_mid (P := Try.prog) 22 5 .i64 .i64 Try.underlying22 hi024 1 hsz24 A0 l0.length c0 (ji9) (wrap64 ((ji9) + 4)) q024 ql24 q24 hroom24; have hr24 := Kd.F_mid (lo := ((ji9) : Int).toNat) (hi := ((wrap64 ((ji9) + 4)) : Int).toNat) (c := c0) hC24 (by omega) (by omega) hroom24; obtain ⟨A24, hA24⟩ : ∃ A1, A1 = (if c0 = ((ji9) : Int).toNat then A0 else (A0 : Option Addr).map (·.add (((ji9) : Int).toNat * 1))) := ⟨_, rfl⟩; obtain ⟨c24, hc24⟩ : ∃ c1, c1 = c0 - ((ji9) : Int).toNat := ⟨_, rfl⟩; have hy24 : y196.length = ((wrap64 ((ji9) + 4)) : Int).toNat - ((ji9) : Int).toNat := (by rw [Ny196.out, List.length_drop, List.length_take] <;> omega); rw [show ((l0).take ((wrap64 ((ji9) + 4)) : Int).toNat).drop ((ji9) : Int).toNat = y196 from Ny196.out.symm] at hr24; replace hr24 : Kd.F (Kd.int .u8) _ _ A24 y196.length y196 := (by rw [hA24]; exact hr24); rw [← hy24, ← hA24, ← hc24] at hcut24; have HO200 := Aside0.mk (show Kd.V (Kd.int .u8) 5 _ w.heap.size _ (.slice A24 y196.length c24) y196 from Kd.V_mk (by rw [hy24, hc24]; exact Nat.sub_le_sub_right (Nat.le_trans (by omega) hroom24) _) hr24); have HC200 := Aside0.mk (show y196.length ≤ c24 from by rw [hy24, hc24]; exact Nat.sub_le_sub_right (Nat.le_trans (by omega) hroom24) _); clear hr24 hC24 hroom24 hi024 hsz24 hc24; have KY24 := Aside0.mk hy24; have KA24 := Aside0.mk hA24; clear hy24 hA24; replace q24 := eq_true q24))
                      have n0_ := Aside0.mk (Kd.V_drew (Kd.V_drewN HO0.out nd))
                      have n1_ := Aside0.mk (Kd.V_drew (Kd.V_drewN HO195.out nd))
                      have n2_ := Aside0.mk (Kd.V_drew (Kd.V_drewN HO200.out nd))
                      have n3_ := Aside0.mk (below_drew1 (pw_below_drewN HB.out nd))
                      clear HO0
                      clear HO195
                      clear HO200
                      clear HB
                      have HO0 := n0_
                      have HO195 := n1_
                      have HO200 := n2_
                      have HB := n3_
                      clear n0_ n1_ n2_ n3_
                      have hcv26 := Kd.C_string (P := Try.prog) (c := c24) Try.underlying22 Try.underlying5 Try.underlying9 (Kd.V_reads' HO200.out).2.2
                      refine start_ (n := 7) (S := fun w' => Kd.C (Kd.int .u8) w' A24 y196.length y196) (ds := []) #[false, false, false, false, false, false, false] (by kernel_rfl) rfl rfl (Kd.V_reads' HO200.out).2.2 (fun hHeld => ?_)
                      generalize (w.drewN nd).drew = w25 at HO0 HO195 HO200 HB hHeld ⊢
                      refine pure_ (i := 0) (N := some 47) (v := ?_) (a' := ?_) #[true, false, false, false, false, false, false] rfl rfl (by kernel_rfl) (fun _ _ _ h => h) (Or.inl ⟨by rfl, ?_⟩) ?_ ?_
                      rotate_left
                      · intro w'
                        go_simp
                        with_reducible rfl
                      rotate_left
                      · simp only [Act.put, List.setIfInBounds_toArray, List.set_cons_zero, List.set_cons_succ, i64_w, i32_w]
                        rfl
                      refine take_ (i := 1) (N := some 48) (v := ?_) (a' := ?_) #[true, true, false, false, false, false, false] rfl rfl (by kernel_rfl) (fun _ _ _ h => h) (Or.inl ⟨by rfl, ?_⟩) hHeld ?_ ?_
                      rotate_left
                      · rintro w' hs
                        have hcv_ := Kd.C_string (P := Try.prog) (A := A24) (c := c24) Try.underlying22 Try.underlying5 Try.underlying9 hs
                        go_simp
                        with_reducible rfl
                      rotate_left
                      · simp only [Act.put, List.setIfInBounds_toArray, List.set_cons_zero, List.set_cons_succ, i64_w, i32_w]
                        rfl
                      refine pure_ (i := 2) (N := some 49) (v := ?_) (a' := ?_) #[true, true, true, false, false, false, false] rfl rfl (by kernel_rfl) (fun _ _ _ h => h) (Or.inl ⟨by rfl, ?_⟩) ?_ ?_
                      rotate_left
                      · intro w'
                        go_simp
                        with_reducible rfl
                      rotate_left
                      · simp only [Act.put, List.setIfInBounds_toArray, List.set_cons_zero, List.set_cons_succ, i64_w, i32_w]
                        rfl
                      refine one_ (i := 3) (N := some 50) #[true, true, true, true, false, false, false] rfl rfl (by kernel_rfl) (by decide) (fun K hK => ?_)
                      refine goes_ Try.func26 (by kernel_rfl) rfl #[.slice A23 y191.length c23] (by rfl) rfl rfl (by (try simp only [List.map_toArray, List.map_cons, List.map_nil]); first | done | rfl | (simp only [List.length_drop, List.length_take]; rfl)) ?_
                      with_reducible refine (tallyroomref02_Sum.calls k _ _ y191 t201 _ ?side1 ?side2 A13.out).mono ?_
                      (case side1 => repeat (first | exact (Kd.V_reads' HO195.out).2.2 | (with_reducible refine Kd.C_alloc ?_ _) | (with_reducible refine Kd.C_drewN ?_ _) | (with_reducible refine Kd.C_drew ?_)))
                      (case side2 => exact (Kd.V_reads' HO195.out).2.1)
                      rintro e w' ⟨rfl, ⟨nd, rfl⟩⟩
                      refine ⟨_, rfl, ?_⟩
                      refine hK.out _ _ (Kd.C_drewN (Kd.V_reads' HO200.out).2.2 _) (fun hHeld => ?_)
                      clear hK K
                      refine norm_ (a' := ?_) ?_ ?_
                      rotate_left
                      · show Act.put _ (some 50) _ = _
                        simp only [Act.put, List.setIfInBounds_toArray, List.set_cons_zero, List.set_cons_succ, i64_w, i32_w]
                        rfl
                      refine one_ (i := 4) (N := some 51) #[true, true, true, true, true, false, false] rfl rfl (by kernel_rfl) (by decide) (fun K hK => ?_)
                      refine goes_ Try.func30 (by kernel_rfl) rfl #[.int .u32 t201] (by rfl) rfl rfl (by (try simp only [List.map_toArray, List.map_cons, List.map_nil]); first | done | rfl | (simp only [List.length_drop, List.length_take]; rfl)) ?_
                      with_reducible refine (tallyroomref02_Tail.calls t201 t202 _ A14.out).mono ?_
                      rintro e w27 ⟨v203, rfl, ho0, hb⟩
                      refine ⟨_, rfl, ?_⟩
                      have n0_ := Aside0.mk (Kd.V_elder' (by (with_reducible repeat (first | apply Kd.V_alloc | apply Kd.V_drewN | apply Kd.V_drew)); exact HO0.out) (Kd.R_base ho0) hb)
                      have n1_ := Aside0.mk (Kd.V_elder' (by (with_reducible repeat (first | apply Kd.V_alloc | apply Kd.V_drewN | apply Kd.V_drew)); exact HO195.out) (Kd.R_base ho0) hb)
                      have n2_ := Aside0.mk (Kd.V_elder' (by (with_reducible repeat (first | apply Kd.V_alloc | apply Kd.V_drewN | apply Kd.V_drew)); exact HO200.out) (Kd.R_base ho0) hb)
                      have n3_ := Aside0.mk (Kd.R_lower (Kd.R_newM (M := fun k_ => (w.heap.size ≤ k_)) ho0 (below_size (by repeat (first | (with_reducible first | exact HB.out | apply below_alloc | apply pw_below_drewN | apply below_drew1) | exact HB.out))) (fun k_ h_ => h_)) (below_size (by repeat (first | (with_reducible first | exact HB.out | apply below_alloc | apply pw_below_drewN | apply below_drew1) | exact HB.out))))
                      have n4_ := Aside0.mk (below_step (by repeat (first | (with_reducible first | exact HB.out | apply below_alloc | apply pw_below_drewN | apply below_drew1) | exact HB.out)) hb)
                      clear HO0
                      clear HO195
                      clear HO200
                      clear HB
                      have HO0 := n0_
                      have HO195 := n1_
                      have HO200 := n2_
                      have HO204 := n3_
                      have HB := n4_
                      clear n0_ n1_ n2_ n3_ n4_
                      (try clear hb)
                      (try clear hb2)
                      (try clear hk)
                      (try clear hi)
                      (try clear ho0)
                      refine hK.out _ _ (Kd.V_reads' HO200.out).2.2 (fun hHeld => ?_)
                      clear hK K
                      refine norm_ (a' := ?_) ?_ ?_
                      rotate_left
                      · show Act.put _ (some 51) _ = _
                        simp only [Act.put, List.setIfInBounds_toArray, List.set_cons_zero, List.set_cons_succ, i64_w, i32_w]
                        rfl
                      refine one_ (i := 5) (N := some 52) #[true, true, true, true, true, true, false] rfl rfl (by kernel_rfl) (by decide) (fun K hK => ?_)
                      have hcv28 := own_string (P := Try.prog) Try.underlying22 Try.underlying5 Try.underlying9 (Kd.own_of_R HO204.out)
                      refine value_ (w1 := ?_) (v := ?_) (by rfl) rfl ?_ ?_
                      rotate_left 2
                      · go_simp
                        constructor
                        · rfl
                        · rfl
                      clear hcv28
                      refine hK.out _ _ hHeld (fun hHeld => ?_)
                      clear hK K
                      refine norm_ (a' := ?_) ?_ ?_
                      rotate_left
                      · show Act.put _ (some 52) _ = _
                        simp only [Act.put, List.setIfInBounds_toArray, List.set_cons_zero, List.set_cons_succ, i64_w, i32_w]
                        rfl
                      refine pure_ (i := 6) (N := some 53) (v := ?_) (a' := ?_) #[true, true, true, true, true, true, true] rfl rfl (by kernel_rfl) (fun _ _ _ h => h) (Or.inl ⟨by rfl, ?_⟩) ?_ ?_
                      rotate_left
                      · intro w'
                        go_simp
                        with_reducible rfl
                      rotate_left
                      · simp only [Act.put, List.setIfInBounds_toArray, List.set_cons_zero, List.set_cons_succ, i64_w, i32_w]
                        rfl
                      refine done_ (by kernel_rfl) ?_
                      try go_wp2
                      go_ret3
                      exact ⟨_, by first | rfl | (simp [errW_none, errW_some] <;> rfl) | (simp only [← hji9]; first | rfl | (simp [errW_none, errW_some] <;> rfl)) | (simp [*, errW_none, errW_some] <;> rfl), Kd.V_nil _ _ _ _ _, by repeat (first | (with_reducible first | exact HB.out | apply below_alloc | apply pw_below_drewN | apply below_drew1) | exact HB.out)⟩
                  · rw [if_neg c12] at H
                    exact absurd H (by simp)
                · rw [if_neg c11] at H
                  exact absurd H (by simp)
              · rw [if_neg c10] at H
                exact absurd H (by simp)
            · rw [if_neg c8] at H
              exact absurd H (by simp)
          · rw [if_neg c7] at H
            exact absurd H (by simp)
        · rw [if_neg c6] at H
          exact absurd H (by simp)
  · rw [if_neg c3] at H
    have c3b0 : (t190 == 0) = false := beq_eq_false_iff_ne.mpr c3
    have c3b1 : (t190 != 0) = true := bne_iff_ne.mpr c3
    simp only [Option.some.injEq, Prod.mk.injEq] at H
    obtain ⟨rfl, rfl, rfl⟩ := H
    go_enter Try.func34, Try.ntmps34
    go_wp2_with (first | ((with_reducible refine gate_callee (f := 17) rfl ?_); refine goesL_ (some 12) rfl rfl Try.func17 (by kernel_rfl) rfl #[.slice A0 l0.length c0] rfl (by (try simp only [List.map_toArray, List.map_cons, List.map_nil]); first | done | rfl | (simp only [List.length_drop, List.length_take]; rfl)) ?_; (with_reducible refine (tallyroomref01_Get.calls k _ _ l0 t188 t189 t190 _ ?side1 ?side2 A2.out).mono ?_); (case side1 => repeat (first | exact (Kd.V_reads' HO0.out).2.2 | (with_reducible refine Kd.C_alloc ?_ _) | (with_reducible refine Kd.C_drewN ?_ _) | (with_reducible refine Kd.C_drew ?_))); (case side2 => exact (Kd.V_reads' HO0.out).2.1); rintro e w' ⟨rfl, ⟨nd, rfl⟩⟩; refine ⟨_, rfl, ?_⟩))
    go_ret3
    exact ⟨_, by first | rfl | (simp [errW_none, errW_some] <;> rfl) | (simp [*, errW_none, errW_some] <;> rfl), Kd.V_nil _ _ _ _ _, by repeat (first | (with_reducible first | exact HB.out | apply below_alloc | apply pw_below_drewN | apply below_drew1) | exact HB.out)⟩

end Go.Proofs.Ytbfmmjdbnbfnmaa.XH
