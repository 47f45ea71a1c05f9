-- Made by a program of this session (xprint.py), over the translation; Lean checks it.
import Derived.Test.YtfgpcoocbblkiaaXSvx0
import Derived.Test.YtfgpcoocbblkiaaXSvx17
namespace Go.Proofs.Ytfgpcoocbblkiaa.XSv
open Go.RowKit Go.Proofs.YtfgpcoocbblkiaaW.PrintWords Go.Proofs.YtfgpcoocbblkiaaW.PrintLast Go.Proofs.YtfgpcoocbblkiaaW.PrintMore
attribute [local go_sem] max2_int min2_int max_two min_two max_three min_three max_four min_four   -- for this text's walks alone
set_option linter.unusedVariables false
set_option linter.unusedSimpArgs false

/-! ### strtab_one: function 47 -/
def strtab_one.f (k : Nat) (l0 : List Int) : Option (ByteArray × Int × Int) := (varint_Get.f k l0).bind fun bt139 => (if bt139.2.2 = 0 then (if bt139.1 > 4096 then (some ((⟨#[]⟩ : ByteArray), 0, 11)) else (if (wrap64 (bt139.1)) > (wrap64 ((l0.length : Int) - bt139.2.1)) then (some ((⟨#[]⟩ : ByteArray), 0, 10)) else (if 0 ≤ bt139.2.1 then (if bt139.2.1 ≤ (wrap64 (bt139.2.1 + (wrap64 (bt139.1)))) then (if (wrap64 (bt139.2.1 + (wrap64 (bt139.1)))) ≤ (l0.length : Int) then (some (strOfNums ((l0.take ((wrap64 (bt139.2.1 + (wrap64 (bt139.1)))) : Int).toNat).drop (bt139.2.1 : Int).toNat), wrap64 (bt139.2.1 + (wrap64 (bt139.1))), 0)) else (none)) else (none)) else (none)))) else (some ((⟨#[]⟩ : ByteArray), 0, bt139.2.2)))
theorem strtab_one.mono : ∀ a0 k, LeO (strtab_one.f k a0) (strtab_one.f (k + 1) a0) := by
  intro a0 k
  unfold strtab_one.f
  repeat' first
      | (with_reducible exact varint_Get.mono _ _)
      | (with_reducible exact LeO.refl _)
      | (with_reducible exact LeO.none _)
      | (with_reducible refine LeO.ite ?_ ?_)
      | (with_reducible refine LeO.bind ?_ (fun _ => ?_))
      | exact varint_Get.mono _ _
      | exact LeO.none _
      | refine LeO.ite ?_ ?_
      | refine LeO.bind ?_ (fun _ => ?_)
set_option maxHeartbeats 8000000 in
set_option maxRecDepth 100000 in
theorem strtab_one.calls (k : Nat) (A0 : Option Addr) (c0 : Nat) (l0 : List Int) (r1 : ByteArray) (r2 : Int) (r3 : Int) (w : World) (hr0 : Kd.C (Kd.int .u8) w A0 l0.length l0) (hc0 : l0.length ≤ c0) (h : strtab_one.f k l0 = some (r1, r2, r3)) :
    Calls Try.prog 47 #[.slice A0 l0.length c0] w fun e w' => e = .returned (.tuple #[.string r1, .int .i64 r2, .int .i64 r3]) ∧ Drawn0 w w' := by
  have HR0 := Aside0.mk hr0
  have HC0 := Aside0.mk hc0
  clear hr0 hc0
  have H : ((varint_Get.f k l0).bind fun bt139 => (if bt139.2.2 = 0 then (if bt139.1 > 4096 then (some ((⟨#[]⟩ : ByteArray), 0, 11)) else (if (wrap64 (bt139.1)) > (wrap64 ((l0.length : Int) - bt139.2.1)) then (some ((⟨#[]⟩ : ByteArray), 0, 10)) else (if 0 ≤ bt139.2.1 then (if bt139.2.1 ≤ (wrap64 (bt139.2.1 + (wrap64 (bt139.1)))) then (if (wrap64 (bt139.2.1 + (wrap64 (bt139.1)))) ≤ (l0.length : Int) then (some (strOfNums ((l0.take ((wrap64 (bt139.2.1 + (wrap64 (bt139.1)))) : Int).toNat).drop (bt139.2.1 : Int).toNat), wrap64 (bt139.2.1 + (wrap64 (bt139.1))), 0)) else (none)) else (none)) else (none)))) else (some ((⟨#[]⟩ : ByteArray), 0, bt139.2.2)))) = some (r1, r2, r3) := h
  clear h
  replace H := Option.bind_eq_some_iff.mp H
  obtain ⟨⟨t139, t140, t141⟩, A20, H⟩ := H
  replace H : (if t141 = 0 then (if t139 > 4096 then (some ((⟨#[]⟩ : ByteArray), 0, 11)) else (if (wrap64 (t139)) > (wrap64 ((l0.length : Int) - t140)) then (some ((⟨#[]⟩ : ByteArray), 0, 10)) else (if 0 ≤ t140 then (if t140 ≤ (wrap64 (t140 + (wrap64 (t139)))) then (if (wrap64 (t140 + (wrap64 (t139)))) ≤ (l0.length : Int) then (some (strOfNums ((l0.take ((wrap64 (t140 + (wrap64 (t139)))) : Int).toNat).drop (t140 : Int).toNat), wrap64 (t140 + (wrap64 (t139))), 0)) else (none)) else (none)) else (none)))) else (some ((⟨#[]⟩ : ByteArray), 0, t141))) = some (r1, r2, r3) := H
  have A2 := Aside0.mk A20
  clear A20
  by_cases c3 : t141 = 0
  · rw [if_pos c3] at H
    have c3b0 : (t141 == 0) = true := beq_iff_eq.mpr c3
    have c3b1 : (t141 != 0) = false := bne_eq_false_iff_eq.mpr c3
    clear c3
    by_cases c4 : t139 > 4096
    · rw [if_pos c4] at H
      have c4b0 : decide (4096 < t139) = true := decide_eq_true c4
      clear c4
      simp only [Option.some.injEq, Prod.mk.injEq] at H
      obtain ⟨rfl, rfl, rfl⟩ := H
      go_enter Try.func47, Try.ntmps47
      go_wp2_with (first | ((with_reducible refine gate_callee (f := 46) rfl ?_); refine goesL_ (some 10) rfl rfl Try.func46 (by kernel_rfl) rfl #[.slice A0 l0.length c0] rfl (by (try simp only [List.map_toArray, List.map_cons, List.map_nil]); first | done | rfl | (simp only [List.length_drop, List.length_take]; rfl)) ?_; (with_reducible refine (varint_Get.calls k _ _ l0 t139 t140 t141 _ ?side1 ?side2 A2.out).mono ?_); (case side1 => repeat (first | exact HR0.out | (with_reducible refine Kd.C_alloc ?_ _) | (with_reducible refine Kd.C_drewN ?_ _) | (with_reducible refine Kd.C_drew ?_))); (case side2 => exact HC0.out); rintro e w' ⟨rfl, ⟨nd, rfl⟩⟩; refine ⟨_, rfl, ?_⟩))
      go_ret3
      exact ⟨by first | rfl | (simp; done) | (simp [*]; done), by repeat (first | exact Drawn0.refl _ | apply Drawn0.step)⟩
    · rw [if_neg c4] at H
      have c4b0 : decide (4096 < t139) = false := decide_eq_false c4
      clear c4
      by_cases c5 : (wrap64 (t139)) > (wrap64 ((l0.length : Int) - t140))
      · rw [if_pos c5] at H
        have c5b0 : decide ((wrap64 ((l0.length : Int) - t140)) < (wrap64 (t139))) = true := decide_eq_true c5
        clear c5
        simp only [Option.some.injEq, Prod.mk.injEq] at H
        obtain ⟨rfl, rfl, rfl⟩ := H
        go_enter Try.func47, Try.ntmps47
        go_wp2_with (first | ((with_reducible refine gate_callee (f := 46) rfl ?_); refine goesL_ (some 10) rfl rfl Try.func46 (by kernel_rfl) rfl #[.slice A0 l0.length c0] rfl (by (try simp only [List.map_toArray, List.map_cons, List.map_nil]); first | done | rfl | (simp only [List.length_drop, List.length_take]; rfl)) ?_; (with_reducible refine (varint_Get.calls k _ _ l0 t139 t140 t141 _ ?side1 ?side2 A2.out).mono ?_); (case side1 => repeat (first | exact HR0.out | (with_reducible refine Kd.C_alloc ?_ _) | (with_reducible refine Kd.C_drewN ?_ _) | (with_reducible refine Kd.C_drew ?_))); (case side2 => exact HC0.out); rintro e w' ⟨rfl, ⟨nd, rfl⟩⟩; refine ⟨_, rfl, ?_⟩))
        go_ret3
        exact ⟨by first | rfl | (simp; done) | (simp [*]; done), by repeat (first | exact Drawn0.refl _ | apply Drawn0.step)⟩
      · rw [if_neg c5] at H
        have c5b0 : decide ((wrap64 ((l0.length : Int) - t140)) < (wrap64 (t139))) = false := decide_eq_false c5
        clear c5
        by_cases c6 : 0 ≤ t140
        · rw [if_pos c6] at H
          have c6b0 := eq_true c6
          have c6b1 : decide (0 ≤ t140) = true := decide_eq_true c6
          clear c6
          by_cases c7 : t140 ≤ (wrap64 (t140 + (wrap64 (t139))))
          · rw [if_pos c7] at H
            have c7b0 := eq_true c7
            have c7b1 : decide (t140 ≤ (wrap64 (t140 + (wrap64 (t139))))) = true := decide_eq_true c7
            by_cases c8 : (wrap64 (t140 + (wrap64 (t139)))) ≤ (l0.length : Int)
            · rw [if_pos c8] at H
              have c8b0 := eq_true c8
              have c8b1 : decide ((wrap64 (t140 + (wrap64 (t139)))) ≤ (l0.length : Int)) = true := decide_eq_true c8
              simp only [Option.some.injEq, Prod.mk.injEq] at H
              obtain ⟨rfl, rfl, rfl⟩ := H
              go_enter Try.func47, Try.ntmps47
              go_wp2_with (first | ((with_reducible refine gate_callee (f := 46) rfl ?_); refine goesL_ (some 10) rfl rfl Try.func46 (by kernel_rfl) rfl #[.slice A0 l0.length c0] rfl (by (try simp only [List.map_toArray, List.map_cons, List.map_nil]); first | done | rfl | (simp only [List.length_drop, List.length_take]; rfl)) ?_; (with_reducible refine (varint_Get.calls k _ _ l0 t139 t140 t141 _ ?side1 ?side2 A2.out).mono ?_); (case side1 => repeat (first | exact HR0.out | (with_reducible refine Kd.C_alloc ?_ _) | (with_reducible refine Kd.C_drewN ?_ _) | (with_reducible refine Kd.C_drew ?_))); (case side2 => exact HC0.out); rintro e w' ⟨rfl, ⟨nd, rfl⟩⟩; refine ⟨_, rfl, ?_⟩; obtain ⟨i09, hi09, _, hsz9, _⟩ := info_parts info5; obtain ⟨A9, hcut9, hA9, hC9⟩ := print_mid_of (P := Try.prog) (Value.int .u8) 0 32 5 .i64 .i64 Try.underlying32 hi09 hsz9 A0 c0 l0 t140 (wrap64 (t140 + (wrap64 (t139)))) (of_decide_eq_true (by first | (with_reducible assumption) | assumption)) (by first | omega | exact of_decide_eq_true (by first | (with_reducible assumption) | assumption)) (of_decide_eq_true (by first | (with_reducible assumption) | assumption)) HC0.out; have HR142 := Aside0.mk (Kd.C_of_reads (h1 := fun _ => rfl) (hA9 _ (Kd.reads_of_C HR0.out))); have HC142 := Aside0.mk hC9; clear hA9 hC9 hi09 hsz9; have hcv10 := Kd.C_string (P := Try.prog) (A := A9) (c := (c0 - t140.toNat)) Try.underlying32 Try.underlying5 Try.underlying9 (Kd.C_drewN HR142.out nd); rw [show ((l0.take (wrap64 (t140 + wrap64 t139)).toNat).drop t140.toNat).length = (wrap64 (t140 + wrap64 t139)).toNat - t140.toNat from by rw [List.length_drop, List.length_take, Nat.min_eq_left (by have := of_decide_eq_true c8b1; omega)]] at hcv10))
              go_ret3
              exact ⟨by first | rfl | (simp; done) | (simp [*]; done), by repeat (first | exact Drawn0.refl _ | apply Drawn0.step)⟩
            · rw [if_neg c8] at H
              exact absurd H (by simp)
          · rw [if_neg c7] at H
            exact absurd H (by simp)
        · rw [if_neg c6] at H
          exact absurd H (by simp)
  · rw [if_neg c3] at H
    have c3b0 : (t141 == 0) = false := beq_eq_false_iff_ne.mpr c3
    have c3b1 : (t141 != 0) = true := bne_iff_ne.mpr c3
    simp only [Option.some.injEq, Prod.mk.injEq] at H
    obtain ⟨rfl, rfl, rfl⟩ := H
    go_enter Try.func47, Try.ntmps47
    go_wp2_with (first | ((with_reducible refine gate_callee (f := 46) rfl ?_); refine goesL_ (some 10) rfl rfl Try.func46 (by kernel_rfl) rfl #[.slice A0 l0.length c0] rfl (by (try simp only [List.map_toArray, List.map_cons, List.map_nil]); first | done | rfl | (simp only [List.length_drop, List.length_take]; rfl)) ?_; (with_reducible refine (varint_Get.calls k _ _ l0 t139 t140 t141 _ ?side1 ?side2 A2.out).mono ?_); (case side1 => repeat (first | exact HR0.out | (with_reducible refine Kd.C_alloc ?_ _) | (with_reducible refine Kd.C_drewN ?_ _) | (with_reducible refine Kd.C_drew ?_))); (case side2 => exact HC0.out); rintro e w' ⟨rfl, ⟨nd, rfl⟩⟩; refine ⟨_, rfl, ?_⟩))
    go_ret3
    exact ⟨by first | rfl | (simp; done) | (simp [*]; done), by repeat (first | exact Drawn0.refl _ | apply Drawn0.step)⟩

end Go.Proofs.Ytfgpcoocbblkiaa.XSv
