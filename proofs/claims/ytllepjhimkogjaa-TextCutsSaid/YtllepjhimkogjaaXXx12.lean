-- Made by a program of this session (xprint.py), over the translation; Lean checks it.
import Derived.Test.YtllepjhimkogjaaXXx0
import Derived.Test.YtllepjhimkogjaaXXx1
import Derived.Test.YtllepjhimkogjaaXXx2
import Derived.Test.YtllepjhimkogjaaXXx10
import Derived.Test.YtllepjhimkogjaaXXx11
namespace Go.Proofs.Ytllepjhimkogjaa.XX
open Go.RowKit Go.Proofs.YtllepjhimkogjaaW.PrintWords Go.Proofs.YtllepjhimkogjaaW.PrintLast Go.Proofs.YtllepjhimkogjaaW.PrintMore
attribute [local go_sem] max2_int min2_int max_two min_two max_three min_three max_four min_four   -- for this text's walks alone
set_option linter.unusedVariables false
set_option linter.unusedSimpArgs false

/-! ### tallyroomlaw03_alive: function 36 -/
def tallyroomlaw03_alive.f  : Option (Bool) := (text_Clean.f (⟨#[97, 255, 195, 169, 10]⟩ : ByteArray)).bind fun t137 => (if t137.toList = ([97, 95, 195, 169, 95] : List UInt8) then ((text_Cut.f (⟨#[97, 195, 169]⟩ : ByteArray) 2).bind fun t138 => (if t138.toList = ([97] : List UInt8) then ((text_Right.f (⟨#[195, 169]⟩ : ByteArray)).bind fun t139 => (if t139 = true then ((text_Right.f (⟨#[195]⟩ : ByteArray)).bind fun t140 => (if t140 = true then (some false) else ((text_Key.f (⟨#[97, 46, 49]⟩ : ByteArray)).bind fun t141 => (if t141 = true then ((text_Key.f (⟨#[49, 97]⟩ : ByteArray)).bind fun t142 => (some (!t142))) else (some false))))) else (some false))) else (some false))) else (some false))
set_option maxHeartbeats 8000000 in
set_option maxRecDepth 100000 in
theorem tallyroomlaw03_alive.calls  (r : Bool) (w : World) (h : tallyroomlaw03_alive.f  = some r) :
    Calls Try.prog 36 #[] w fun e w' => e = .returned (.bool r) ∧ Below w.heap.size w w' := by
  have HB := Aside0.mk (Below.refl w.heap.size w)
  have H : ((text_Clean.f (⟨#[97, 255, 195, 169, 10]⟩ : ByteArray)).bind fun t137 => (if t137.toList = ([97, 95, 195, 169, 95] : List UInt8) then ((text_Cut.f (⟨#[97, 195, 169]⟩ : ByteArray) 2).bind fun t138 => (if t138.toList = ([97] : List UInt8) then ((text_Right.f (⟨#[195, 169]⟩ : ByteArray)).bind fun t139 => (if t139 = true then ((text_Right.f (⟨#[195]⟩ : ByteArray)).bind fun t140 => (if t140 = true then (some false) else ((text_Key.f (⟨#[97, 46, 49]⟩ : ByteArray)).bind fun t141 => (if t141 = true then ((text_Key.f (⟨#[49, 97]⟩ : ByteArray)).bind fun t142 => (some (!t142))) else (some false))))) else (some false))) else (some false))) else (some false))) = some r := h
  clear h
  replace H := Option.bind_eq_some_iff.mp H
  obtain ⟨t137, A10, H⟩ := H
  replace H : (if t137.toList = ([97, 95, 195, 169, 95] : List UInt8) then ((text_Cut.f (⟨#[97, 195, 169]⟩ : ByteArray) 2).bind fun t138 => (if t138.toList = ([97] : List UInt8) then ((text_Right.f (⟨#[195, 169]⟩ : ByteArray)).bind fun t139 => (if t139 = true then ((text_Right.f (⟨#[195]⟩ : ByteArray)).bind fun t140 => (if t140 = true then (some false) else ((text_Key.f (⟨#[97, 46, 49]⟩ : ByteArray)).bind fun t141 => (if t141 = true then ((text_Key.f (⟨#[49, 97]⟩ : ByteArray)).bind fun t142 => (some (!t142))) else (some false))))) else (some false))) else (some false))) else (some false)) = some r := H
  have A1 := Aside0.mk A10
  clear A10
  by_cases c2 : t137.toList = ([97, 95, 195, 169, 95] : List UInt8)
  · rw [if_pos c2] at H
    have c2b0 : (t137.toList == ([97, 95, 195, 169, 95] : List UInt8)) = true := beq_iff_eq.mpr c2
    have c2b1 : (t137.toList != ([97, 95, 195, 169, 95] : List UInt8)) = false := bne_eq_false_iff_eq.mpr c2
    clear c2
    replace H := Option.bind_eq_some_iff.mp H
    obtain ⟨t138, A30, H⟩ := H
    replace H : (if t138.toList = ([97] : List UInt8) then ((text_Right.f (⟨#[195, 169]⟩ : ByteArray)).bind fun t139 => (if t139 = true then ((text_Right.f (⟨#[195]⟩ : ByteArray)).bind fun t140 => (if t140 = true then (some false) else ((text_Key.f (⟨#[97, 46, 49]⟩ : ByteArray)).bind fun t141 => (if t141 = true then ((text_Key.f (⟨#[49, 97]⟩ : ByteArray)).bind fun t142 => (some (!t142))) else (some false))))) else (some false))) else (some false)) = some r := H
    have A3 := Aside0.mk A30
    clear A30
    by_cases c4 : t138.toList = ([97] : List UInt8)
    · rw [if_pos c4] at H
      have c4b0 : (t138.toList == ([97] : List UInt8)) = true := beq_iff_eq.mpr c4
      have c4b1 : (t138.toList != ([97] : List UInt8)) = false := bne_eq_false_iff_eq.mpr c4
      clear c4
      replace H := Option.bind_eq_some_iff.mp H
      obtain ⟨t139, A50, H⟩ := H
      replace H : (if t139 = true then ((text_Right.f (⟨#[195]⟩ : ByteArray)).bind fun t140 => (if t140 = true then (some false) else ((text_Key.f (⟨#[97, 46, 49]⟩ : ByteArray)).bind fun t141 => (if t141 = true then ((text_Key.f (⟨#[49, 97]⟩ : ByteArray)).bind fun t142 => (some (!t142))) else (some false))))) else (some false)) = some r := H
      have A5 := Aside0.mk A50
      clear A50
      by_cases c6 : t139 = true
      · subst c6
        have H1 : ((text_Right.f (⟨#[195]⟩ : ByteArray)).bind fun t140 => (if t140 = true then (some false) else ((text_Key.f (⟨#[97, 46, 49]⟩ : ByteArray)).bind fun t141 => (if t141 = true then ((text_Key.f (⟨#[49, 97]⟩ : ByteArray)).bind fun t142 => (some (!t142))) else (some false))))) = some r := by rw [if_pos rfl] at H; exact H
        clear H
        have H := H1
        clear H1
        replace H := Option.bind_eq_some_iff.mp H
        obtain ⟨t140, A70, H⟩ := H
        replace H : (if t140 = true then (some false) else ((text_Key.f (⟨#[97, 46, 49]⟩ : ByteArray)).bind fun t141 => (if t141 = true then ((text_Key.f (⟨#[49, 97]⟩ : ByteArray)).bind fun t142 => (some (!t142))) else (some false)))) = some r := H
        have A7 := Aside0.mk A70
        clear A70
        by_cases c8 : t140 = true
        · subst c8
          have H1 : (some false) = some r := by rw [if_pos rfl] at H; exact H
          clear H
          have H := H1
          clear H1
          obtain rfl := Option.some.inj H
          go_enter Try.func36, Try.ntmps36
          go_wp2_with (first | ((with_reducible refine gate_callee (f := 45) rfl ?_); refine goesL_ (some 1) rfl rfl Try.func45 (by kernel_rfl) rfl #[.string (⟨#[97, 255, 195, 169, 10]⟩ : ByteArray)] rfl (by (try simp only [List.map_toArray, List.map_cons, List.map_nil]); first | done | rfl | (simp only [List.length_drop, List.length_take]; rfl)) ?_; (with_reducible refine (text_Clean.calls (⟨#[97, 255, 195, 169, 10]⟩ : ByteArray) t137 _ A1.out).mono ?_); rintro e w9 ⟨rfl, hb⟩; refine ⟨_, rfl, ?_⟩; have n0_ := Aside0.mk (below_step (by repeat (first | (with_reducible first | exact HB.out | apply below_alloc | apply pw_below_drewN | apply below_drew1) | exact HB.out)) hb); clear HB; have HB := n0_; clear n0_; (try clear hb); (try clear hb2); (try clear hk); (try clear hi)) | (go_at_call 37; (with_reducible refine (text_Cut.calls (⟨#[97, 195, 169]⟩ : ByteArray) 2 t138 _ A3.out).mono ?_); rintro e w10 ⟨rfl, hb⟩; have n0_ := Aside0.mk (below_step (by repeat (first | (with_reducible first | exact HB.out | apply below_alloc | apply pw_below_drewN | apply below_drew1) | exact HB.out)) hb); clear HB; have HB := n0_; clear n0_; (try clear hb); (try clear hb2); (try clear hk); (try clear hi)) | (go_at_call 41; (with_reducible refine (text_Right.calls (⟨#[195, 169]⟩ : ByteArray) true _ A5.out).mono ?_); rintro e w11 ⟨rfl, hb⟩; have n0_ := Aside0.mk (below_step (by repeat (first | (with_reducible first | exact HB.out | apply below_alloc | apply pw_below_drewN | apply below_drew1) | exact HB.out)) hb); clear HB; have HB := n0_; clear n0_; (try clear hb); (try clear hb2); (try clear hk); (try clear hi)) | (go_at_call 41; (with_reducible refine (text_Right.calls (⟨#[195]⟩ : ByteArray) true _ A7.out).mono ?_); rintro e w12 ⟨rfl, hb⟩; have n0_ := Aside0.mk (below_step (by repeat (first | (with_reducible first | exact HB.out | apply below_alloc | apply pw_below_drewN | apply below_drew1) | exact HB.out)) hb); clear HB; have HB := n0_; clear n0_; (try clear hb); (try clear hb2); (try clear hk); (try clear hi)))
          go_ret
          exact ⟨by first | rfl | (simp [errW_none, errW_some] <;> rfl) | (simp [*, errW_none, errW_some] <;> rfl), by repeat (first | (with_reducible first | exact HB.out | apply below_alloc | apply pw_below_drewN | apply below_drew1) | exact HB.out)⟩
        · replace c8 := Bool.eq_false_iff.mpr c8
          subst c8
          have H1 : ((text_Key.f (⟨#[97, 46, 49]⟩ : ByteArray)).bind fun t141 => (if t141 = true then ((text_Key.f (⟨#[49, 97]⟩ : ByteArray)).bind fun t142 => (some (!t142))) else (some false))) = some r := by rw [if_neg (show ¬ (false = true) by decide)] at H; exact H
          clear H
          have H := H1
          clear H1
          replace H := Option.bind_eq_some_iff.mp H
          obtain ⟨t141, A130, H⟩ := H
          replace H : (if t141 = true then ((text_Key.f (⟨#[49, 97]⟩ : ByteArray)).bind fun t142 => (some (!t142))) else (some false)) = some r := H
          have A13 := Aside0.mk A130
          clear A130
          by_cases c14 : t141 = true
          · subst c14
            have H1 : ((text_Key.f (⟨#[49, 97]⟩ : ByteArray)).bind fun t142 => (some (!t142))) = some r := by rw [if_pos rfl] at H; exact H
            clear H
            have H := H1
            clear H1
            replace H := Option.bind_eq_some_iff.mp H
            obtain ⟨t142, A150, H⟩ := H
            replace H : (some (!t142)) = some r := H
            have A15 := Aside0.mk A150
            clear A150
            obtain rfl := Option.some.inj H
            go_enter Try.func36, Try.ntmps36
            go_wp2_with (first | ((with_reducible refine gate_callee (f := 45) rfl ?_); refine goesL_ (some 1) rfl rfl Try.func45 (by kernel_rfl) rfl #[.string (⟨#[97, 255, 195, 169, 10]⟩ : ByteArray)] rfl (by (try simp only [List.map_toArray, List.map_cons, List.map_nil]); first | done | rfl | (simp only [List.length_drop, List.length_take]; rfl)) ?_; (with_reducible refine (text_Clean.calls (⟨#[97, 255, 195, 169, 10]⟩ : ByteArray) t137 _ A1.out).mono ?_); rintro e w16 ⟨rfl, hb⟩; refine ⟨_, rfl, ?_⟩; have n0_ := Aside0.mk (below_step (by repeat (first | (with_reducible first | exact HB.out | apply below_alloc | apply pw_below_drewN | apply below_drew1) | exact HB.out)) hb); clear HB; have HB := n0_; clear n0_; (try clear hb); (try clear hb2); (try clear hk); (try clear hi)) | (go_at_call 37; (with_reducible refine (text_Cut.calls (⟨#[97, 195, 169]⟩ : ByteArray) 2 t138 _ A3.out).mono ?_); rintro e w17 ⟨rfl, hb⟩; have n0_ := Aside0.mk (below_step (by repeat (first | (with_reducible first | exact HB.out | apply below_alloc | apply pw_below_drewN | apply below_drew1) | exact HB.out)) hb); clear HB; have HB := n0_; clear n0_; (try clear hb); (try clear hb2); (try clear hk); (try clear hi)) | (go_at_call 41; (with_reducible refine (text_Right.calls (⟨#[195, 169]⟩ : ByteArray) true _ A5.out).mono ?_); rintro e w18 ⟨rfl, hb⟩; have n0_ := Aside0.mk (below_step (by repeat (first | (with_reducible first | exact HB.out | apply below_alloc | apply pw_below_drewN | apply below_drew1) | exact HB.out)) hb); clear HB; have HB := n0_; clear n0_; (try clear hb); (try clear hb2); (try clear hk); (try clear hi)) | (go_at_call 41; (with_reducible refine (text_Right.calls (⟨#[195]⟩ : ByteArray) false _ A7.out).mono ?_); rintro e w19 ⟨rfl, hb⟩; have n0_ := Aside0.mk (below_step (by repeat (first | (with_reducible first | exact HB.out | apply below_alloc | apply pw_below_drewN | apply below_drew1) | exact HB.out)) hb); clear HB; have HB := n0_; clear n0_; (try clear hb); (try clear hb2); (try clear hk); (try clear hi)) | (go_at_call 46; (with_reducible refine (text_Key.calls (⟨#[97, 46, 49]⟩ : ByteArray) true _ A13.out).mono ?_); rintro e w20 ⟨rfl, hb⟩; have n0_ := Aside0.mk (below_step (by repeat (first | (with_reducible first | exact HB.out | apply below_alloc | apply pw_below_drewN | apply below_drew1) | exact HB.out)) hb); clear HB; have HB := n0_; clear n0_; (try clear hb); (try clear hb2); (try clear hk); (try clear hi)) | (go_at_call 46; (with_reducible refine (text_Key.calls (⟨#[49, 97]⟩ : ByteArray) t142 _ A15.out).mono ?_); rintro e w21 ⟨rfl, hb⟩; have n0_ := Aside0.mk (below_step (by repeat (first | (with_reducible first | exact HB.out | apply below_alloc | apply pw_below_drewN | apply below_drew1) | exact HB.out)) hb); clear HB; have HB := n0_; clear n0_; (try clear hb); (try clear hb2); (try clear hk); (try clear hi)))
            go_ret
            exact ⟨by first | rfl | (simp [errW_none, errW_some] <;> rfl) | (simp [*, errW_none, errW_some] <;> rfl), by repeat (first | (with_reducible first | exact HB.out | apply below_alloc | apply pw_below_drewN | apply below_drew1) | exact HB.out)⟩
          · replace c14 := Bool.eq_false_iff.mpr c14
            subst c14
            have H1 : (some false) = some r := by rw [if_neg (show ¬ (false = true) by decide)] at H; exact H
            clear H
            have H := H1
            clear H1
            obtain rfl := Option.some.inj H
            go_enter Try.func36, Try.ntmps36
            go_wp2_with (first | ((with_reducible refine gate_callee (f := 45) rfl ?_); refine goesL_ (some 1) rfl rfl Try.func45 (by kernel_rfl) rfl #[.string (⟨#[97, 255, 195, 169, 10]⟩ : ByteArray)] rfl (by (try simp only [List.map_toArray, List.map_cons, List.map_nil]); first | done | rfl | (simp only [List.length_drop, List.length_take]; rfl)) ?_; (with_reducible refine (text_Clean.calls (⟨#[97, 255, 195, 169, 10]⟩ : ByteArray) t137 _ A1.out).mono ?_); rintro e w22 ⟨rfl, hb⟩; refine ⟨_, rfl, ?_⟩; have n0_ := Aside0.mk (below_step (by repeat (first | (with_reducible first | exact HB.out | apply below_alloc | apply pw_below_drewN | apply below_drew1) | exact HB.out)) hb); clear HB; have HB := n0_; clear n0_; (try clear hb); (try clear hb2); (try clear hk); (try clear hi)) | (go_at_call 37; (with_reducible refine (text_Cut.calls (⟨#[97, 195, 169]⟩ : ByteArray) 2 t138 _ A3.out).mono ?_); rintro e w23 ⟨rfl, hb⟩; have n0_ := Aside0.mk (below_step (by repeat (first | (with_reducible first | exact HB.out | apply below_alloc | apply pw_below_drewN | apply below_drew1) | exact HB.out)) hb); clear HB; have HB := n0_; clear n0_; (try clear hb); (try clear hb2); (try clear hk); (try clear hi)) | (go_at_call 41; (with_reducible refine (text_Right.calls (⟨#[195, 169]⟩ : ByteArray) true _ A5.out).mono ?_); rintro e w24 ⟨rfl, hb⟩; have n0_ := Aside0.mk (below_step (by repeat (first | (with_reducible first | exact HB.out | apply below_alloc | apply pw_below_drewN | apply below_drew1) | exact HB.out)) hb); clear HB; have HB := n0_; clear n0_; (try clear hb); (try clear hb2); (try clear hk); (try clear hi)) | (go_at_call 41; (with_reducible refine (text_Right.calls (⟨#[195]⟩ : ByteArray) false _ A7.out).mono ?_); rintro e w25 ⟨rfl, hb⟩; have n0_ := Aside0.mk (below_step (by repeat (first | (with_reducible first | exact HB.out | apply below_alloc | apply pw_below_drewN | apply below_drew1) | exact HB.out)) hb); clear HB; have HB := n0_; clear n0_; (try clear hb); (try clear hb2); (try clear hk); (try clear hi)) | (go_at_call 46; (with_reducible refine (text_Key.calls (⟨#[97, 46, 49]⟩ : ByteArray) false _ A13.out).mono ?_); rintro e w26 ⟨rfl, hb⟩; have n0_ := Aside0.mk (below_step (by repeat (first | (with_reducible first | exact HB.out | apply below_alloc | apply pw_below_drewN | apply below_drew1) | exact HB.out)) hb); clear HB; have HB := n0_; clear n0_; (try clear hb); (try clear hb2); (try clear hk); (try clear hi)))
            go_ret
            exact ⟨by first | rfl | (simp [errW_none, errW_some] <;> rfl) | (simp [*, errW_none, errW_some] <;> rfl), by repeat (first | (with_reducible first | exact HB.out | apply below_alloc | apply pw_below_drewN | apply below_drew1) | exact HB.out)⟩
      · replace c6 := Bool.eq_false_iff.mpr c6
        subst c6
        have H1 : (some false) = some r := by rw [if_neg (show ¬ (false = true) by decide)] at H; exact H
        clear H
        have H := H1
        clear H1
        obtain rfl := Option.some.inj H
        go_enter Try.func36, Try.ntmps36
        go_wp2_with (first | ((with_reducible refine gate_callee (f := 45) rfl ?_); refine goesL_ (some 1) rfl rfl Try.func45 (by kernel_rfl) rfl #[.string (⟨#[97, 255, 195, 169, 10]⟩ : ByteArray)] rfl (by (try simp only [List.map_toArray, List.map_cons, List.map_nil]); first | done | rfl | (simp only [List.length_drop, List.length_take]; rfl)) ?_; (with_reducible refine (text_Clean.calls (⟨#[97, 255, 195, 169, 10]⟩ : ByteArray) t137 _ A1.out).mono ?_); rintro e w27 ⟨rfl, hb⟩; refine ⟨_, rfl, ?_⟩; have n0_ := Aside0.mk (below_step (by repeat (first | (with_reducible first | exact HB.out | apply below_alloc | apply pw_below_drewN | apply below_drew1) | exact HB.out)) hb); clear HB; have HB := n0_; clear n0_; (try clear hb); (try clear hb2); (try clear hk); (try clear hi)) | (go_at_call 37; (with_reducible refine (text_Cut.calls (⟨#[97, 195, 169]⟩ : ByteArray) 2 t138 _ A3.out).mono ?_); rintro e w28 ⟨rfl, hb⟩; have n0_ := Aside0.mk (below_step (by repeat (first | (with_reducible first | exact HB.out | apply below_alloc | apply pw_below_drewN | apply below_drew1) | exact HB.out)) hb); clear HB; have HB := n0_; clear n0_; (try clear hb); (try clear hb2); (try clear hk); (try clear hi)) | (go_at_call 41; (with_reducible refine (text_Right.calls (⟨#[195, 169]⟩ : ByteArray) false _ A5.out).mono ?_); rintro e w29 ⟨rfl, hb⟩; have n0_ := Aside0.mk (below_step (by repeat (first | (with_reducible first | exact HB.out | apply below_alloc | apply pw_below_drewN | apply below_drew1) | exact HB.out)) hb); clear HB; have HB := n0_; clear n0_; (try clear hb); (try clear hb2); (try clear hk); (try clear hi)))
        go_ret
        exact ⟨by first | rfl | (simp [errW_none, errW_some] <;> rfl) | (simp [*, errW_none, errW_some] <;> rfl), by repeat (first | (with_reducible first | exact HB.out | apply below_alloc | apply pw_below_drewN | apply below_drew1) | exact HB.out)⟩
    · rw [if_neg c4] at H
      have c4b0 : (t138.toList == ([97] : List UInt8)) = false := beq_eq_false_iff_ne.mpr c4
      have c4b1 : (t138.toList != ([97] : List UInt8)) = true := bne_iff_ne.mpr c4
      obtain rfl := Option.some.inj H
      go_enter Try.func36, Try.ntmps36
      go_wp2_with (first | ((with_reducible refine gate_callee (f := 45) rfl ?_); refine goesL_ (some 1) rfl rfl Try.func45 (by kernel_rfl) rfl #[.string (⟨#[97, 255, 195, 169, 10]⟩ : ByteArray)] rfl (by (try simp only [List.map_toArray, List.map_cons, List.map_nil]); first | done | rfl | (simp only [List.length_drop, List.length_take]; rfl)) ?_; (with_reducible refine (text_Clean.calls (⟨#[97, 255, 195, 169, 10]⟩ : ByteArray) t137 _ A1.out).mono ?_); rintro e w30 ⟨rfl, hb⟩; refine ⟨_, rfl, ?_⟩; have n0_ := Aside0.mk (below_step (by repeat (first | (with_reducible first | exact HB.out | apply below_alloc | apply pw_below_drewN | apply below_drew1) | exact HB.out)) hb); clear HB; have HB := n0_; clear n0_; (try clear hb); (try clear hb2); (try clear hk); (try clear hi)) | (go_at_call 37; (with_reducible refine (text_Cut.calls (⟨#[97, 195, 169]⟩ : ByteArray) 2 t138 _ A3.out).mono ?_); rintro e w31 ⟨rfl, hb⟩; have n0_ := Aside0.mk (below_step (by repeat (first | (with_reducible first | exact HB.out | apply below_alloc | apply pw_below_drewN | apply below_drew1) | exact HB.out)) hb); clear HB; have HB := n0_; clear n0_; (try clear hb); (try clear hb2); (try clear hk); (try clear hi)))
      go_ret
      exact ⟨by first | rfl | (simp [errW_none, errW_some] <;> rfl) | (simp [*, errW_none, errW_some] <;> rfl), by repeat (first | (with_reducible first | exact HB.out | apply below_alloc | apply pw_below_drewN | apply below_drew1) | exact HB.out)⟩
  · rw [if_neg c2] at H
    have c2b0 : (t137.toList == ([97, 95, 195, 169, 95] : List UInt8)) = false := beq_eq_false_iff_ne.mpr c2
    have c2b1 : (t137.toList != ([97, 95, 195, 169, 95] : List UInt8)) = true := bne_iff_ne.mpr c2
    obtain rfl := Option.some.inj H
    go_enter Try.func36, Try.ntmps36
    go_wp2_with (first | ((with_reducible refine gate_callee (f := 45) rfl ?_); refine goesL_ (some 1) rfl rfl Try.func45 (by kernel_rfl) rfl #[.string (⟨#[97, 255, 195, 169, 10]⟩ : ByteArray)] rfl (by (try simp only [List.map_toArray, List.map_cons, List.map_nil]); first | done | rfl | (simp only [List.length_drop, List.length_take]; rfl)) ?_; (with_reducible refine (text_Clean.calls (⟨#[97, 255, 195, 169, 10]⟩ : ByteArray) t137 _ A1.out).mono ?_); rintro e w32 ⟨rfl, hb⟩; refine ⟨_, rfl, ?_⟩; have n0_ := Aside0.mk (below_step (by repeat (first | (with_reducible first | exact HB.out | apply below_alloc | apply pw_below_drewN | apply below_drew1) | exact HB.out)) hb); clear HB; have HB := n0_; clear n0_; (try clear hb); (try clear hb2); (try clear hk); (try clear hi)))
    go_ret
    exact ⟨by first | rfl | (simp [errW_none, errW_some] <;> rfl) | (simp [*, errW_none, errW_some] <;> rfl), by repeat (first | (with_reducible first | exact HB.out | apply below_alloc | apply pw_below_drewN | apply below_drew1) | exact HB.out)⟩

end Go.Proofs.Ytllepjhimkogjaa.XX
