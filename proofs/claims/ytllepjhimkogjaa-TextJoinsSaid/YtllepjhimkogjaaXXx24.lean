-- Made by a program of this session (xprint.py), over the translation; Lean checks it.
import Derived.Test.YtllepjhimkogjaaXXx0
import Derived.Test.YtllepjhimkogjaaXXx1
import Derived.Test.YtllepjhimkogjaaXXx2
import Derived.Test.YtllepjhimkogjaaXXx10
import Derived.Test.YtllepjhimkogjaaXXx12
import Derived.Test.YtllepjhimkogjaaXXx16
namespace Go.Proofs.Ytllepjhimkogjaa.XX
open Go.RowKit Go.Proofs.YtllepjhimkogjaaW.PrintWords Go.Proofs.YtllepjhimkogjaaW.PrintLast Go.Proofs.YtllepjhimkogjaaW.PrintMore
attribute [local go_sem] max2_int min2_int max_two min_two max_three min_three max_four min_four   -- for this text's walks alone
set_option linter.unusedVariables false
set_option linter.unusedSimpArgs false

/-! ### tallyroomlaw03_TextJoins: function 13 -/
def tallyroomlaw03_TextJoins.j0 : Nat → ByteArray → ByteArray → Bool → Option (Bool)
  | 0, _, _, _ => none
  | k + 1, x0, x1, x23 => if x23 = true then (some true) else (if x0.size + x1.size ≤ 9223372036854775807 then ((text_Right.f (x0 ++ x1)).bind fun t189 => (if t189 = true then ((text_Count.f (x0 ++ x1)).bind fun t190 => ((text_Count.f x0).bind fun t191 => ((text_Count.f x1).bind fun t192 => (if t190 = (wrap64 (t191 + t192)) then ((text_Clean.f (x0 ++ x1)).bind fun t193 => ((text_Clean.f x0).bind fun t194 => ((text_Clean.f x1).bind fun t195 => (if t194.size + t195.size ≤ 9223372036854775807 then (if t193.toList = (t194 ++ t195).toList then ((text_Cut.f (x0 ++ x1) (x0.size : Int)).bind fun t196 => (if t196.toList = x0.toList then ((text_Cut.f (x0 ++ x1) ((x0 ++ x1).size : Int)).bind fun t197 => (if t197.toList = (x0 ++ x1).toList then ((text_Cut.f (x0 ++ x1) 0).bind fun t198 => (some (t198.toList == ([] : List UInt8)))) else (some false))) else (some false))) else (some false)) else (none))))) else (some false))))) else (some false))) else (none))
def tallyroomlaw03_TextJoins.f (k : Nat) (a0 : ByteArray) (a1 : ByteArray) : Option (Bool) := (tallyroomlaw03_alive.f).bind fun t186 => (if t186 = true then (if (wrap64 ((a0.size : Int) + (a1.size : Int))) > 2000 then (tallyroomlaw03_TextJoins.j0 k a0 a1 true) else ((text_Right.f a0).bind fun t187 => (if t187 = true then ((text_Right.f a1).bind fun t188 => (tallyroomlaw03_TextJoins.j0 k a0 a1 (!t188))) else (tallyroomlaw03_TextJoins.j0 k a0 a1 true)))) else (some false))
theorem tallyroomlaw03_TextJoins.mono_l : ∀ k, (∀ y0 y1 y2, LeO (tallyroomlaw03_TextJoins.j0 k y0 y1 y2) (tallyroomlaw03_TextJoins.j0 (k + 1) y0 y1 y2))
  | 0 => fun _ _ _ r h => by simp [tallyroomlaw03_TextJoins.j0] at h
  | k + 1 => by
    have ih0 := tallyroomlaw03_TextJoins.mono_l k
    · intro y0 y1 y2
      unfold tallyroomlaw03_TextJoins.j0
      repeat' first
      | (with_reducible exact ih0 _ _ _)
      | (with_reducible exact LeO.refl _)
      | (with_reducible exact LeO.none _)
      | (with_reducible refine LeO.ite ?_ ?_)
      | (with_reducible refine LeO.bind ?_ (fun _ => ?_))
      | exact ih0 _ _ _
      | exact LeO.none _
      | refine LeO.ite ?_ ?_
      | refine LeO.bind ?_ (fun _ => ?_)
theorem tallyroomlaw03_TextJoins.mono : ∀ a0 a1 k, LeO (tallyroomlaw03_TextJoins.f k a0 a1) (tallyroomlaw03_TextJoins.f (k + 1) a0 a1) := by
  intro a0 a1 k
  have ih0 := tallyroomlaw03_TextJoins.mono_l k
  unfold tallyroomlaw03_TextJoins.f
  repeat' first
      | (with_reducible exact ih0 _ _ _)
      | (with_reducible exact LeO.refl _)
      | (with_reducible exact LeO.none _)
      | (with_reducible refine LeO.ite ?_ ?_)
      | (with_reducible refine LeO.bind ?_ (fun _ => ?_))
      | exact ih0 _ _ _
      | exact LeO.none _
      | refine LeO.ite ?_ ?_
      | refine LeO.bind ?_ (fun _ => ?_)
set_option maxHeartbeats 8000000 in
set_option maxRecDepth 100000 in
theorem tallyroomlaw03_TextJoins.calls (k : Nat) (a0 : ByteArray) (a1 : ByteArray) (r : Bool) (w : World) (h : tallyroomlaw03_TextJoins.f k a0 a1 = some r) :
    Calls Try.prog 13 #[.string a0, .string a1] w fun e w' => e = .returned (.bool r) ∧ Below w.heap.size w w' := by
  have HB := Aside0.mk (Below.refl w.heap.size w)
  have H : ((tallyroomlaw03_alive.f).bind fun t186 => (if t186 = true then (if (wrap64 ((a0.size : Int) + (a1.size : Int))) > 2000 then (tallyroomlaw03_TextJoins.j0 k a0 a1 true) else ((text_Right.f a0).bind fun t187 => (if t187 = true then ((text_Right.f a1).bind fun t188 => (tallyroomlaw03_TextJoins.j0 k a0 a1 (!t188))) else (tallyroomlaw03_TextJoins.j0 k a0 a1 true)))) else (some false))) = some r := h
  clear h
  replace H := Option.bind_eq_some_iff.mp H
  obtain ⟨t186, A30, H⟩ := H
  replace H : (if t186 = true then (if (wrap64 ((a0.size : Int) + (a1.size : Int))) > 2000 then (tallyroomlaw03_TextJoins.j0 k a0 a1 true) else ((text_Right.f a0).bind fun t187 => (if t187 = true then ((text_Right.f a1).bind fun t188 => (tallyroomlaw03_TextJoins.j0 k a0 a1 (!t188))) else (tallyroomlaw03_TextJoins.j0 k a0 a1 true)))) else (some false)) = some r := H
  have A3 := Aside0.mk A30
  clear A30
  by_cases c4 : t186 = true
  · subst c4
    have H1 : (if (wrap64 ((a0.size : Int) + (a1.size : Int))) > 2000 then (tallyroomlaw03_TextJoins.j0 k a0 a1 true) else ((text_Right.f a0).bind fun t187 => (if t187 = true then ((text_Right.f a1).bind fun t188 => (tallyroomlaw03_TextJoins.j0 k a0 a1 (!t188))) else (tallyroomlaw03_TextJoins.j0 k a0 a1 true)))) = some r := by rw [if_pos rfl] at H; exact H
    clear H
    have H := H1
    clear H1
    have HC5 := Aside0.mk H
    clear H
    go_enter Try.func13, Try.ntmps13
    go_upto_region 3 with (first | ((with_reducible refine gate_callee (f := 36) rfl ?_); refine goesL_ (some 6) rfl rfl Try.func36 (by kernel_rfl) rfl #[] rfl (by (try simp only [List.map_toArray, List.map_cons, List.map_nil]); first | done | rfl | (simp only [List.length_drop, List.length_take]; rfl)) ?_; (with_reducible refine (tallyroomlaw03_alive.calls  true _ A3.out).mono ?_); rintro e w6 ⟨rfl, hb⟩; refine ⟨_, rfl, ?_⟩; have n0_ := Aside0.mk (below_step (by repeat (first | (with_reducible first | exact HB.out | apply below_alloc | apply pw_below_drewN | apply below_drew1) | exact HB.out)) hb); clear HB; have HB := n0_; clear n0_; (try clear hb); (try clear hb2); (try clear hk); (try clear hi)))
    (try simp only [Act.put, List.setIfInBounds_toArray, List.set_cons_zero, List.set_cons_succ])
    go_cut [23] (fun v23 wc => ∃ (kq : Nat) (x23_4 : Bool), v23 = .bool x23_4 ∧ Aside0 (tallyroomlaw03_TextJoins.j0 kq a0 a1 x23_4 = some r) ∧ Aside0 (kq ≤ k) ∧ Aside0 (Below w.heap.size w wc))
    case first =>
      have H := HC5.out
      clear HC5
      by_cases c7 : (wrap64 ((a0.size : Int) + (a1.size : Int))) > 2000
      · rw [if_pos c7] at H
        have c7b0 : decide (2000 < (wrap64 ((a0.size : Int) + (a1.size : Int)))) = true := decide_eq_true c7
        clear c7
        (first | rw [c7b0] | (simp only [i64_w, i32_w]; rw [c7b0]) | skip)
        have H' := Aside0.mk H
        clear H
        go_wp2
        go_meet
        case rel => exact ⟨_, (true), (by first | rfl | (simp; done) | (simp [*]; done)), H', ⟨by first | omega | exact Nat.le_refl _⟩, ⟨by repeat (first | (with_reducible first | exact HB.out | apply below_alloc | apply pw_below_drewN | apply below_drew1) | exact HB.out)⟩⟩
      · rw [if_neg c7] at H
        have c7b0 : decide (2000 < (wrap64 ((a0.size : Int) + (a1.size : Int)))) = false := decide_eq_false c7
        clear c7
        (first | rw [c7b0] | (simp only [i64_w, i32_w]; rw [c7b0]) | skip)
        replace H := Option.bind_eq_some_iff.mp H
        obtain ⟨t187, A80, H⟩ := H
        replace H : (if t187 = true then ((text_Right.f a1).bind fun t188 => (tallyroomlaw03_TextJoins.j0 k a0 a1 (!t188))) else (tallyroomlaw03_TextJoins.j0 k a0 a1 true)) = some r := H
        have A8 := Aside0.mk A80
        clear A80
        by_cases c9 : t187 = true
        · subst c9
          have H1 : ((text_Right.f a1).bind fun t188 => (tallyroomlaw03_TextJoins.j0 k a0 a1 (!t188))) = some r := by rw [if_pos rfl] at H; exact H
          clear H
          have H := H1
          clear H1
          replace H := Option.bind_eq_some_iff.mp H
          obtain ⟨t188, A100, H⟩ := H
          replace H : (tallyroomlaw03_TextJoins.j0 k a0 a1 (!t188)) = some r := H
          have A10 := Aside0.mk A100
          clear A100
          have H' := Aside0.mk H
          clear H
          go_wp2_with (first | (go_at_call 41; (with_reducible refine (text_Right.calls a0 true _ A8.out).mono ?_); rintro e w11 ⟨rfl, hb⟩; have n0_ := Aside0.mk (below_step (by repeat (first | (with_reducible first | exact HB.out | apply below_alloc | apply pw_below_drewN | apply below_drew1) | exact HB.out)) hb); clear HB; have HB := n0_; clear n0_; (try clear hb); (try clear hb2); (try clear hk); (try clear hi)) | (go_at_call 41; (with_reducible refine (text_Right.calls a1 t188 _ A10.out).mono ?_); rintro e w12 ⟨rfl, hb⟩; have n0_ := Aside0.mk (below_step (by repeat (first | (with_reducible first | exact HB.out | apply below_alloc | apply pw_below_drewN | apply below_drew1) | exact HB.out)) hb); clear HB; have HB := n0_; clear n0_; (try clear hb); (try clear hb2); (try clear hk); (try clear hi)))
          go_meet
          case rel => exact ⟨_, (!t188), (by first | rfl | (simp; done) | (simp [*]; done)), H', ⟨by first | omega | exact Nat.le_refl _⟩, ⟨by repeat (first | (with_reducible first | exact HB.out | apply below_alloc | apply pw_below_drewN | apply below_drew1) | exact HB.out)⟩⟩
        · replace c9 := Bool.eq_false_iff.mpr c9
          subst c9
          have H1 : (tallyroomlaw03_TextJoins.j0 k a0 a1 true) = some r := by rw [if_neg (show ¬ (false = true) by decide)] at H; exact H
          clear H
          have H := H1
          clear H1
          have H' := Aside0.mk H
          clear H
          go_wp2_with (first | (go_at_call 41; (with_reducible refine (text_Right.calls a0 false _ A8.out).mono ?_); rintro e w13 ⟨rfl, hb⟩; have n0_ := Aside0.mk (below_step (by repeat (first | (with_reducible first | exact HB.out | apply below_alloc | apply pw_below_drewN | apply below_drew1) | exact HB.out)) hb); clear HB; have HB := n0_; clear n0_; (try clear hb); (try clear hb2); (try clear hk); (try clear hi)))
          go_meet
          case rel => exact ⟨_, (true), (by first | rfl | (simp; done) | (simp [*]; done)), H', ⟨by first | omega | exact Nat.le_refl _⟩, ⟨by repeat (first | (with_reducible first | exact HB.out | apply below_alloc | apply pw_below_drewN | apply below_drew1) | exact HB.out)⟩⟩
    case rest =>
      clear HC5
      try clear c1
      try clear p2
      try clear c3
      try clear c4
      try clear p6
      try clear c7
      try clear c7b0
      try clear c9
      try clear c13
      obtain ⟨kq, x23_4, rfl, HA, HJ4, HB⟩ := hcut
      cases kq with
      | zero => exact absurd HA.out (by simp [tallyroomlaw03_TextJoins.j0])
      | succ kj4 =>
        have H := HA.out
        clear HA
        simp only [tallyroomlaw03_TextJoins.j0] at H
        by_cases c14 : x23_4 = true
        · subst c14
          have H1 : (some true) = some r := by rw [if_pos rfl] at H; exact H
          clear H
          have H := H1
          clear H1
          obtain rfl := Option.some.inj H
          go_wp2
          go_ret
          exact ⟨by first | rfl | (simp [errW_none, errW_some] <;> rfl) | (simp [*, errW_none, errW_some] <;> rfl), by repeat (first | (with_reducible first | exact HB.out | apply below_alloc | apply pw_below_drewN | apply below_drew1) | exact HB.out)⟩
        · replace c14 := Bool.eq_false_iff.mpr c14
          subst c14
          have H1 : (if a0.size + a1.size ≤ 9223372036854775807 then ((text_Right.f (a0 ++ a1)).bind fun t189 => (if t189 = true then ((text_Count.f (a0 ++ a1)).bind fun t190 => ((text_Count.f a0).bind fun t191 => ((text_Count.f a1).bind fun t192 => (if t190 = (wrap64 (t191 + t192)) then ((text_Clean.f (a0 ++ a1)).bind fun t193 => ((text_Clean.f a0).bind fun t194 => ((text_Clean.f a1).bind fun t195 => (if t194.size + t195.size ≤ 9223372036854775807 then (if t193.toList = (t194 ++ t195).toList then ((text_Cut.f (a0 ++ a1) (a0.size : Int)).bind fun t196 => (if t196.toList = a0.toList then ((text_Cut.f (a0 ++ a1) ((a0 ++ a1).size : Int)).bind fun t197 => (if t197.toList = (a0 ++ a1).toList then ((text_Cut.f (a0 ++ a1) 0).bind fun t198 => (some (t198.toList == ([] : List UInt8)))) else (some false))) else (some false))) else (some false)) else (none))))) else (some false))))) else (some false))) else (none)) = some r := by rw [if_neg (show ¬ (false = true) by decide)] at H; exact H
          clear H
          have H := H1
          clear H1
          by_cases c15 : a0.size + a1.size ≤ 9223372036854775807
          · rw [if_pos c15] at H
            have c15b0 := eq_true c15
            have c15b1 : decide (a0.size + a1.size ≤ 9223372036854775807) = true := decide_eq_true c15
            try have c15b2 : (9223372036854775807 < a0.size + a1.size) = False := eq_false (Nat.not_lt.2 c15)
            replace H := Option.bind_eq_some_iff.mp H
            obtain ⟨t189, A160, H⟩ := H
            replace H : (if t189 = true then ((text_Count.f (a0 ++ a1)).bind fun t190 => ((text_Count.f a0).bind fun t191 => ((text_Count.f a1).bind fun t192 => (if t190 = (wrap64 (t191 + t192)) then ((text_Clean.f (a0 ++ a1)).bind fun t193 => ((text_Clean.f a0).bind fun t194 => ((text_Clean.f a1).bind fun t195 => (if t194.size + t195.size ≤ 9223372036854775807 then (if t193.toList = (t194 ++ t195).toList then ((text_Cut.f (a0 ++ a1) (a0.size : Int)).bind fun t196 => (if t196.toList = a0.toList then ((text_Cut.f (a0 ++ a1) ((a0 ++ a1).size : Int)).bind fun t197 => (if t197.toList = (a0 ++ a1).toList then ((text_Cut.f (a0 ++ a1) 0).bind fun t198 => (some (t198.toList == ([] : List UInt8)))) else (some false))) else (some false))) else (some false)) else (none))))) else (some false))))) else (some false)) = some r := H
            have A16 := Aside0.mk A160
            clear A160
            by_cases c17 : t189 = true
            · subst c17
              have H1 : ((text_Count.f (a0 ++ a1)).bind fun t190 => ((text_Count.f a0).bind fun t191 => ((text_Count.f a1).bind fun t192 => (if t190 = (wrap64 (t191 + t192)) then ((text_Clean.f (a0 ++ a1)).bind fun t193 => ((text_Clean.f a0).bind fun t194 => ((text_Clean.f a1).bind fun t195 => (if t194.size + t195.size ≤ 9223372036854775807 then (if t193.toList = (t194 ++ t195).toList then ((text_Cut.f (a0 ++ a1) (a0.size : Int)).bind fun t196 => (if t196.toList = a0.toList then ((text_Cut.f (a0 ++ a1) ((a0 ++ a1).size : Int)).bind fun t197 => (if t197.toList = (a0 ++ a1).toList then ((text_Cut.f (a0 ++ a1) 0).bind fun t198 => (some (t198.toList == ([] : List UInt8)))) else (some false))) else (some false))) else (some false)) else (none))))) else (some false))))) = some r := by rw [if_pos rfl] at H; exact H
              clear H
              have H := H1
              clear H1
              replace H := Option.bind_eq_some_iff.mp H
              obtain ⟨t190, A180, H⟩ := H
              replace H : ((text_Count.f a0).bind fun t191 => ((text_Count.f a1).bind fun t192 => (if t190 = (wrap64 (t191 + t192)) then ((text_Clean.f (a0 ++ a1)).bind fun t193 => ((text_Clean.f a0).bind fun t194 => ((text_Clean.f a1).bind fun t195 => (if t194.size + t195.size ≤ 9223372036854775807 then (if t193.toList = (t194 ++ t195).toList then ((text_Cut.f (a0 ++ a1) (a0.size : Int)).bind fun t196 => (if t196.toList = a0.toList then ((text_Cut.f (a0 ++ a1) ((a0 ++ a1).size : Int)).bind fun t197 => (if t197.toList = (a0 ++ a1).toList then ((text_Cut.f (a0 ++ a1) 0).bind fun t198 => (some (t198.toList == ([] : List UInt8)))) else (some false))) else (some false))) else (some false)) else (none))))) else (some false)))) = some r := H
              have A18 := Aside0.mk A180
              clear A180
              replace H := Option.bind_eq_some_iff.mp H
              obtain ⟨t191, A190, H⟩ := H
              replace H : ((text_Count.f a1).bind fun t192 => (if t190 = (wrap64 (t191 + t192)) then ((text_Clean.f (a0 ++ a1)).bind fun t193 => ((text_Clean.f a0).bind fun t194 => ((text_Clean.f a1).bind fun t195 => (if t194.size + t195.size ≤ 9223372036854775807 then (if t193.toList = (t194 ++ t195).toList then ((text_Cut.f (a0 ++ a1) (a0.size : Int)).bind fun t196 => (if t196.toList = a0.toList then ((text_Cut.f (a0 ++ a1) ((a0 ++ a1).size : Int)).bind fun t197 => (if t197.toList = (a0 ++ a1).toList then ((text_Cut.f (a0 ++ a1) 0).bind fun t198 => (some (t198.toList == ([] : List UInt8)))) else (some false))) else (some false))) else (some false)) else (none))))) else (some false))) = some r := H
              have A19 := Aside0.mk A190
              clear A190
              replace H := Option.bind_eq_some_iff.mp H
              obtain ⟨t192, A200, H⟩ := H
              replace H : (if t190 = (wrap64 (t191 + t192)) then ((text_Clean.f (a0 ++ a1)).bind fun t193 => ((text_Clean.f a0).bind fun t194 => ((text_Clean.f a1).bind fun t195 => (if t194.size + t195.size ≤ 9223372036854775807 then (if t193.toList = (t194 ++ t195).toList then ((text_Cut.f (a0 ++ a1) (a0.size : Int)).bind fun t196 => (if t196.toList = a0.toList then ((text_Cut.f (a0 ++ a1) ((a0 ++ a1).size : Int)).bind fun t197 => (if t197.toList = (a0 ++ a1).toList then ((text_Cut.f (a0 ++ a1) 0).bind fun t198 => (some (t198.toList == ([] : List UInt8)))) else (some false))) else (some false))) else (some false)) else (none))))) else (some false)) = some r := H
              have A20 := Aside0.mk A200
              clear A200
              by_cases c21 : t190 = (wrap64 (t191 + t192))
              · rw [if_pos c21] at H
                have c21b0 : (t190 == (wrap64 (t191 + t192))) = true := beq_iff_eq.mpr c21
                have c21b1 : (t190 != (wrap64 (t191 + t192))) = false := bne_eq_false_iff_eq.mpr c21
                clear c21
                replace H := Option.bind_eq_some_iff.mp H
                obtain ⟨t193, A220, H⟩ := H
                replace H : ((text_Clean.f a0).bind fun t194 => ((text_Clean.f a1).bind fun t195 => (if t194.size + t195.size ≤ 9223372036854775807 then (if t193.toList = (t194 ++ t195).toList then ((text_Cut.f (a0 ++ a1) (a0.size : Int)).bind fun t196 => (if t196.toList = a0.toList then ((text_Cut.f (a0 ++ a1) ((a0 ++ a1).size : Int)).bind fun t197 => (if t197.toList = (a0 ++ a1).toList then ((text_Cut.f (a0 ++ a1) 0).bind fun t198 => (some (t198.toList == ([] : List UInt8)))) else (some false))) else (some false))) else (some false)) else (none)))) = some r := H
                have A22 := Aside0.mk A220
                clear A220
                replace H := Option.bind_eq_some_iff.mp H
                obtain ⟨t194, A230, H⟩ := H
                replace H : ((text_Clean.f a1).bind fun t195 => (if t194.size + t195.size ≤ 9223372036854775807 then (if t193.toList = (t194 ++ t195).toList then ((text_Cut.f (a0 ++ a1) (a0.size : Int)).bind fun t196 => (if t196.toList = a0.toList then ((text_Cut.f (a0 ++ a1) ((a0 ++ a1).size : Int)).bind fun t197 => (if t197.toList = (a0 ++ a1).toList then ((text_Cut.f (a0 ++ a1) 0).bind fun t198 => (some (t198.toList == ([] : List UInt8)))) else (some false))) else (some false))) else (some false)) else (none))) = some r := H
                have A23 := Aside0.mk A230
                clear A230
                replace H := Option.bind_eq_some_iff.mp H
                obtain ⟨t195, A240, H⟩ := H
                replace H : (if t194.size + t195.size ≤ 9223372036854775807 then (if t193.toList = (t194 ++ t195).toList then ((text_Cut.f (a0 ++ a1) (a0.size : Int)).bind fun t196 => (if t196.toList = a0.toList then ((text_Cut.f (a0 ++ a1) ((a0 ++ a1).size : Int)).bind fun t197 => (if t197.toList = (a0 ++ a1).toList then ((text_Cut.f (a0 ++ a1) 0).bind fun t198 => (some (t198.toList == ([] : List UInt8)))) else (some false))) else (some false))) else (some false)) else (none)) = some r := H
                have A24 := Aside0.mk A240
                clear A240
                by_cases c25 : t194.size + t195.size ≤ 9223372036854775807
                · rw [if_pos c25] at H
                  have c25b0 := eq_true c25
                  have c25b1 : decide (t194.size + t195.size ≤ 9223372036854775807) = true := decide_eq_true c25
                  try have c25b2 : (9223372036854775807 < t194.size + t195.size) = False := eq_false (Nat.not_lt.2 c25)
                  by_cases c26 : t193.toList = (t194 ++ t195).toList
                  · rw [if_pos c26] at H
                    have c26b0 : (t193.toList == (t194 ++ t195).toList) = true := beq_iff_eq.mpr c26
                    have c26b1 : (t193.toList != (t194 ++ t195).toList) = false := bne_eq_false_iff_eq.mpr c26
                    clear c26
                    replace H := Option.bind_eq_some_iff.mp H
                    obtain ⟨t196, A270, H⟩ := H
                    replace H : (if t196.toList = a0.toList then ((text_Cut.f (a0 ++ a1) ((a0 ++ a1).size : Int)).bind fun t197 => (if t197.toList = (a0 ++ a1).toList then ((text_Cut.f (a0 ++ a1) 0).bind fun t198 => (some (t198.toList == ([] : List UInt8)))) else (some false))) else (some false)) = some r := H
                    have A27 := Aside0.mk A270
                    clear A270
                    by_cases c28 : t196.toList = a0.toList
                    · rw [if_pos c28] at H
                      have c28b0 : (t196.toList == a0.toList) = true := beq_iff_eq.mpr c28
                      have c28b1 : (t196.toList != a0.toList) = false := bne_eq_false_iff_eq.mpr c28
                      clear c28
                      replace H := Option.bind_eq_some_iff.mp H
                      obtain ⟨t197, A290, H⟩ := H
                      replace H : (if t197.toList = (a0 ++ a1).toList then ((text_Cut.f (a0 ++ a1) 0).bind fun t198 => (some (t198.toList == ([] : List UInt8)))) else (some false)) = some r := H
                      have A29 := Aside0.mk A290
                      clear A290
                      by_cases c30 : t197.toList = (a0 ++ a1).toList
                      · rw [if_pos c30] at H
                        have c30b0 : (t197.toList == (a0 ++ a1).toList) = true := beq_iff_eq.mpr c30
                        have c30b1 : (t197.toList != (a0 ++ a1).toList) = false := bne_eq_false_iff_eq.mpr c30
                        clear c30
                        replace H := Option.bind_eq_some_iff.mp H
                        obtain ⟨t198, A310, H⟩ := H
                        replace H : (some (t198.toList == ([] : List UInt8))) = some r := H
                        have A31 := Aside0.mk A310
                        clear A310
                        obtain rfl := Option.some.inj H
                        go_wp2_with (first | ((with_reducible refine gate_callee (f := 41) rfl ?_); refine goesL_ (some 28) rfl rfl Try.func41 (by kernel_rfl) rfl #[.string (a0 ++ a1)] rfl (by (try simp only [List.map_toArray, List.map_cons, List.map_nil]); first | done | rfl | (simp only [List.length_drop, List.length_take]; rfl)) ?_; (with_reducible refine (text_Right.calls (a0 ++ a1) true _ A16.out).mono ?_); rintro e w32 ⟨rfl, hb⟩; refine ⟨_, rfl, ?_⟩; have n0_ := Aside0.mk (below_step (by repeat (first | (with_reducible first | exact HB.out | apply below_alloc | apply pw_below_drewN | apply below_drew1) | exact HB.out)) hb); clear HB; have HB := n0_; clear n0_; (try clear hb); (try clear hb2); (try clear hk); (try clear hi)) | (go_at_call 43; (with_reducible refine (text_Count.calls (a0 ++ a1) t190 _ A18.out).mono ?_); rintro e w33 ⟨rfl, hb⟩; have n0_ := Aside0.mk (below_step (by repeat (first | (with_reducible first | exact HB.out | apply below_alloc | apply pw_below_drewN | apply below_drew1) | exact HB.out)) hb); clear HB; have HB := n0_; clear n0_; (try clear hb); (try clear hb2); (try clear hk); (try clear hi)) | (go_at_call 43; (with_reducible refine (text_Count.calls a0 t191 _ A19.out).mono ?_); rintro e w34 ⟨rfl, hb⟩; have n0_ := Aside0.mk (below_step (by repeat (first | (with_reducible first | exact HB.out | apply below_alloc | apply pw_below_drewN | apply below_drew1) | exact HB.out)) hb); clear HB; have HB := n0_; clear n0_; (try clear hb); (try clear hb2); (try clear hk); (try clear hi)) | (go_at_call 43; (with_reducible refine (text_Count.calls a1 t192 _ A20.out).mono ?_); rintro e w35 ⟨rfl, hb⟩; have n0_ := Aside0.mk (below_step (by repeat (first | (with_reducible first | exact HB.out | apply below_alloc | apply pw_below_drewN | apply below_drew1) | exact HB.out)) hb); clear HB; have HB := n0_; clear n0_; (try clear hb); (try clear hb2); (try clear hk); (try clear hi)) | (go_at_call 45; (with_reducible refine (text_Clean.calls (a0 ++ a1) t193 _ A22.out).mono ?_); rintro e w36 ⟨rfl, hb⟩; have n0_ := Aside0.mk (below_step (by repeat (first | (with_reducible first | exact HB.out | apply below_alloc | apply pw_below_drewN | apply below_drew1) | exact HB.out)) hb); clear HB; have HB := n0_; clear n0_; (try clear hb); (try clear hb2); (try clear hk); (try clear hi)) | (go_at_call 45; (with_reducible refine (text_Clean.calls a0 t194 _ A23.out).mono ?_); rintro e w37 ⟨rfl, hb⟩; have n0_ := Aside0.mk (below_step (by repeat (first | (with_reducible first | exact HB.out | apply below_alloc | apply pw_below_drewN | apply below_drew1) | exact HB.out)) hb); clear HB; have HB := n0_; clear n0_; (try clear hb); (try clear hb2); (try clear hk); (try clear hi)) | (go_at_call 45; (with_reducible refine (text_Clean.calls a1 t195 _ A24.out).mono ?_); rintro e w38 ⟨rfl, hb⟩; have n0_ := Aside0.mk (below_step (by repeat (first | (with_reducible first | exact HB.out | apply below_alloc | apply pw_below_drewN | apply below_drew1) | exact HB.out)) hb); clear HB; have HB := n0_; clear n0_; (try clear hb); (try clear hb2); (try clear hk); (try clear hi)) | (go_at_call 37; (with_reducible refine (text_Cut.calls (a0 ++ a1) (a0.size : Int) t196 _ A27.out).mono ?_); rintro e w39 ⟨rfl, hb⟩; have n0_ := Aside0.mk (below_step (by repeat (first | (with_reducible first | exact HB.out | apply below_alloc | apply pw_below_drewN | apply below_drew1) | exact HB.out)) hb); clear HB; have HB := n0_; clear n0_; (try clear hb); (try clear hb2); (try clear hk); (try clear hi)) | (go_at_call 37; (with_reducible refine (text_Cut.calls (a0 ++ a1) ((a0.size : Int) + (a1.size : Int)) t197 _ (by have h_ := A29.out; rw [ByteArray.size_append, Int.natCast_add] at h_; exact h_)).mono ?_); rintro e w40 ⟨rfl, hb⟩; have n0_ := Aside0.mk (below_step (by repeat (first | (with_reducible first | exact HB.out | apply below_alloc | apply pw_below_drewN | apply below_drew1) | exact HB.out)) hb); clear HB; have HB := n0_; clear n0_; (try clear hb); (try clear hb2); (try clear hk); (try clear hi)) | (go_at_call 37; (with_reducible refine (text_Cut.calls (a0 ++ a1) 0 t198 _ A31.out).mono ?_); rintro e w41 ⟨rfl, hb⟩; have n0_ := Aside0.mk (below_step (by repeat (first | (with_reducible first | exact HB.out | apply below_alloc | apply pw_below_drewN | apply below_drew1) | exact HB.out)) hb); clear HB; have HB := n0_; clear n0_; (try clear hb); (try clear hb2); (try clear hk); (try clear hi)))
                        go_ret
                        exact ⟨by first | rfl | (simp [errW_none, errW_some] <;> rfl) | (simp [*, errW_none, errW_some] <;> rfl), by repeat (first | (with_reducible first | exact HB.out | apply below_alloc | apply pw_below_drewN | apply below_drew1) | exact HB.out)⟩
                      · rw [if_neg c30] at H
                        have c30b0 : (t197.toList == (a0 ++ a1).toList) = false := beq_eq_false_iff_ne.mpr c30
                        have c30b1 : (t197.toList != (a0 ++ a1).toList) = true := bne_iff_ne.mpr c30
                        obtain rfl := Option.some.inj H
                        go_wp2_with (first | ((with_reducible refine gate_callee (f := 41) rfl ?_); refine goesL_ (some 28) rfl rfl Try.func41 (by kernel_rfl) rfl #[.string (a0 ++ a1)] rfl (by (try simp only [List.map_toArray, List.map_cons, List.map_nil]); first | done | rfl | (simp only [List.length_drop, List.length_take]; rfl)) ?_; (with_reducible refine (text_Right.calls (a0 ++ a1) true _ A16.out).mono ?_); rintro e w42 ⟨rfl, hb⟩; refine ⟨_, rfl, ?_⟩; have n0_ := Aside0.mk (below_step (by repeat (first | (with_reducible first | exact HB.out | apply below_alloc | apply pw_below_drewN | apply below_drew1) | exact HB.out)) hb); clear HB; have HB := n0_; clear n0_; (try clear hb); (try clear hb2); (try clear hk); (try clear hi)) | (go_at_call 43; (with_reducible refine (text_Count.calls (a0 ++ a1) t190 _ A18.out).mono ?_); rintro e w43 ⟨rfl, hb⟩; have n0_ := Aside0.mk (below_step (by repeat (first | (with_reducible first | exact HB.out | apply below_alloc | apply pw_below_drewN | apply below_drew1) | exact HB.out)) hb); clear HB; have HB := n0_; clear n0_; (try clear hb); (try clear hb2); (try clear hk); (try clear hi)) | (go_at_call 43; (with_reducible refine (text_Count.calls a0 t191 _ A19.out).mono ?_); rintro e w44 ⟨rfl, hb⟩; have n0_ := Aside0.mk (below_step (by repeat (first | (with_reducible first | exact HB.out | apply below_alloc | apply pw_below_drewN | apply below_drew1) | exact HB.out)) hb); clear HB; have HB := n0_; clear n0_; (try clear hb); (try clear hb2); (try clear hk); (try clear hi)) | (go_at_call 43; (with_reducible refine (text_Count.calls a1 t192 _ A20.out).mono ?_); rintro e w45 ⟨rfl, hb⟩; have n0_ := Aside0.mk (below_step (by repeat (first | (with_reducible first | exact HB.out | apply below_alloc | apply pw_below_drewN | apply below_drew1) | exact HB.out)) hb); clear HB; have HB := n0_; clear n0_; (try clear hb); (try clear hb2); (try clear hk); (try clear hi)) | (go_at_call 45; (with_reducible refine (text_Clean.calls (a0 ++ a1) t193 _ A22.out).mono ?_); rintro e w46 ⟨rfl, hb⟩; have n0_ := Aside0.mk (below_step (by repeat (first | (with_reducible first | exact HB.out | apply below_alloc | apply pw_below_drewN | apply below_drew1) | exact HB.out)) hb); clear HB; have HB := n0_; clear n0_; (try clear hb); (try clear hb2); (try clear hk); (try clear hi)) | (go_at_call 45; (with_reducible refine (text_Clean.calls a0 t194 _ A23.out).mono ?_); rintro e w47 ⟨rfl, hb⟩; have n0_ := Aside0.mk (below_step (by repeat (first | (with_reducible first | exact HB.out | apply below_alloc | apply pw_below_drewN | apply below_drew1) | exact HB.out)) hb); clear HB; have HB := n0_; clear n0_; (try clear hb); (try clear hb2); (try clear hk); (try clear hi)) | (go_at_call 45; (with_reducible refine (text_Clean.calls a1 t195 _ A24.out).mono ?_); rintro e w48 ⟨rfl, hb⟩; have n0_ := Aside0.mk (below_step (by repeat (first | (with_reducible first | exact HB.out | apply below_alloc | apply pw_below_drewN | apply below_drew1) | exact HB.out)) hb); clear HB; have HB := n0_; clear n0_; (try clear hb); (try clear hb2); (try clear hk); (try clear hi)) | (go_at_call 37; (with_reducible refine (text_Cut.calls (a0 ++ a1) (a0.size : Int) t196 _ A27.out).mono ?_); rintro e w49 ⟨rfl, hb⟩; have n0_ := Aside0.mk (below_step (by repeat (first | (with_reducible first | exact HB.out | apply below_alloc | apply pw_below_drewN | apply below_drew1) | exact HB.out)) hb); clear HB; have HB := n0_; clear n0_; (try clear hb); (try clear hb2); (try clear hk); (try clear hi)) | (go_at_call 37; (with_reducible refine (text_Cut.calls (a0 ++ a1) ((a0.size : Int) + (a1.size : Int)) t197 _ (by have h_ := A29.out; rw [ByteArray.size_append, Int.natCast_add] at h_; exact h_)).mono ?_); rintro e w50 ⟨rfl, hb⟩; have n0_ := Aside0.mk (below_step (by repeat (first | (with_reducible first | exact HB.out | apply below_alloc | apply pw_below_drewN | apply below_drew1) | exact HB.out)) hb); clear HB; have HB := n0_; clear n0_; (try clear hb); (try clear hb2); (try clear hk); (try clear hi)))
                        go_ret
                        exact ⟨by first | rfl | (simp [errW_none, errW_some] <;> rfl) | (simp [*, errW_none, errW_some] <;> rfl), by repeat (first | (with_reducible first | exact HB.out | apply below_alloc | apply pw_below_drewN | apply below_drew1) | exact HB.out)⟩
                    · rw [if_neg c28] at H
                      have c28b0 : (t196.toList == a0.toList) = false := beq_eq_false_iff_ne.mpr c28
                      have c28b1 : (t196.toList != a0.toList) = true := bne_iff_ne.mpr c28
                      obtain rfl := Option.some.inj H
                      go_wp2_with (first | ((with_reducible refine gate_callee (f := 41) rfl ?_); refine goesL_ (some 28) rfl rfl Try.func41 (by kernel_rfl) rfl #[.string (a0 ++ a1)] rfl (by (try simp only [List.map_toArray, List.map_cons, List.map_nil]); first | done | rfl | (simp only [List.length_drop, List.length_take]; rfl)) ?_; (with_reducible refine (text_Right.calls (a0 ++ a1) true _ A16.out).mono ?_); rintro e w51 ⟨rfl, hb⟩; refine ⟨_, rfl, ?_⟩; have n0_ := Aside0.mk (below_step (by repeat (first | (with_reducible first | exact HB.out | apply below_alloc | apply pw_below_drewN | apply below_drew1) | exact HB.out)) hb); clear HB; have HB := n0_; clear n0_; (try clear hb); (try clear hb2); (try clear hk); (try clear hi)) | (go_at_call 43; (with_reducible refine (text_Count.calls (a0 ++ a1) t190 _ A18.out).mono ?_); rintro e w52 ⟨rfl, hb⟩; have n0_ := Aside0.mk (below_step (by repeat (first | (with_reducible first | exact HB.out | apply below_alloc | apply pw_below_drewN | apply below_drew1) | exact HB.out)) hb); clear HB; have HB := n0_; clear n0_; (try clear hb); (try clear hb2); (try clear hk); (try clear hi)) | (go_at_call 43; (with_reducible refine (text_Count.calls a0 t191 _ A19.out).mono ?_); rintro e w53 ⟨rfl, hb⟩; have n0_ := Aside0.mk (below_step (by repeat (first | (with_reducible first | exact HB.out | apply below_alloc | apply pw_below_drewN | apply below_drew1) | exact HB.out)) hb); clear HB; have HB := n0_; clear n0_; (try clear hb); (try clear hb2); (try clear hk); (try clear hi)) | (go_at_call 43; (with_reducible refine (text_Count.calls a1 t192 _ A20.out).mono ?_); rintro e w54 ⟨rfl, hb⟩; have n0_ := Aside0.mk (below_step (by repeat (first | (with_reducible first | exact HB.out | apply below_alloc | apply pw_below_drewN | apply below_drew1) | exact HB.out)) hb); clear HB; have HB := n0_; clear n0_; (try clear hb); (try clear hb2); (try clear hk); (try clear hi)) | (go_at_call 45; (with_reducible refine (text_Clean.calls (a0 ++ a1) t193 _ A22.out).mono ?_); rintro e w55 ⟨rfl, hb⟩; have n0_ := Aside0.mk (below_step (by repeat (first | (with_reducible first | exact HB.out | apply below_alloc | apply pw_below_drewN | apply below_drew1) | exact HB.out)) hb); clear HB; have HB := n0_; clear n0_; (try clear hb); (try clear hb2); (try clear hk); (try clear hi)) | (go_at_call 45; (with_reducible refine (text_Clean.calls a0 t194 _ A23.out).mono ?_); rintro e w56 ⟨rfl, hb⟩; have n0_ := Aside0.mk (below_step (by repeat (first | (with_reducible first | exact HB.out | apply below_alloc | apply pw_below_drewN | apply below_drew1) | exact HB.out)) hb); clear HB; have HB := n0_; clear n0_; (try clear hb); (try clear hb2); (try clear hk); (try clear hi)) | (go_at_call 45; (with_reducible refine (text_Clean.calls a1 t195 _ A24.out).mono ?_); rintro e w57 ⟨rfl, hb⟩; have n0_ := Aside0.mk (below_step (by repeat (first | (with_reducible first | exact HB.out | apply below_alloc | apply pw_below_drewN | apply below_drew1) | exact HB.out)) hb); clear HB; have HB := n0_; clear n0_; (try clear hb); (try clear hb2); (try clear hk); (try clear hi)) | (go_at_call 37; (with_reducible refine (text_Cut.calls (a0 ++ a1) (a0.size : Int) t196 _ A27.out).mono ?_); rintro e w58 ⟨rfl, hb⟩; have n0_ := Aside0.mk (below_step (by repeat (first | (with_reducible first | exact HB.out | apply below_alloc | apply pw_below_drewN | apply below_drew1) | exact HB.out)) hb); clear HB; have HB := n0_; clear n0_; (try clear hb); (try clear hb2); (try clear hk); (try clear hi)))
                      go_ret
                      exact ⟨by first | rfl | (simp [errW_none, errW_some] <;> rfl) | (simp [*, errW_none, errW_some] <;> rfl), by repeat (first | (with_reducible first | exact HB.out | apply below_alloc | apply pw_below_drewN | apply below_drew1) | exact HB.out)⟩
                  · rw [if_neg c26] at H
                    have c26b0 : (t193.toList == (t194 ++ t195).toList) = false := beq_eq_false_iff_ne.mpr c26
                    have c26b1 : (t193.toList != (t194 ++ t195).toList) = true := bne_iff_ne.mpr c26
                    obtain rfl := Option.some.inj H
                    go_wp2_with (first | ((with_reducible refine gate_callee (f := 41) rfl ?_); refine goesL_ (some 28) rfl rfl Try.func41 (by kernel_rfl) rfl #[.string (a0 ++ a1)] rfl (by (try simp only [List.map_toArray, List.map_cons, List.map_nil]); first | done | rfl | (simp only [List.length_drop, List.length_take]; rfl)) ?_; (with_reducible refine (text_Right.calls (a0 ++ a1) true _ A16.out).mono ?_); rintro e w59 ⟨rfl, hb⟩; refine ⟨_, rfl, ?_⟩; have n0_ := Aside0.mk (below_step (by repeat (first | (with_reducible first | exact HB.out | apply below_alloc | apply pw_below_drewN | apply below_drew1) | exact HB.out)) hb); clear HB; have HB := n0_; clear n0_; (try clear hb); (try clear hb2); (try clear hk); (try clear hi)) | (go_at_call 43; (with_reducible refine (text_Count.calls (a0 ++ a1) t190 _ A18.out).mono ?_); rintro e w60 ⟨rfl, hb⟩; have n0_ := Aside0.mk (below_step (by repeat (first | (with_reducible first | exact HB.out | apply below_alloc | apply pw_below_drewN | apply below_drew1) | exact HB.out)) hb); clear HB; have HB := n0_; clear n0_; (try clear hb); (try clear hb2); (try clear hk); (try clear hi)) | (go_at_call 43; (with_reducible refine (text_Count.calls a0 t191 _ A19.out).mono ?_); rintro e w61 ⟨rfl, hb⟩; have n0_ := Aside0.mk (below_step (by repeat (first | (with_reducible first | exact HB.out | apply below_alloc | apply pw_below_drewN | apply below_drew1) | exact HB.out)) hb); clear HB; have HB := n0_; clear n0_; (try clear hb); (try clear hb2); (try clear hk); (try clear hi)) | (go_at_call 43; (with_reducible refine (text_Count.calls a1 t192 _ A20.out).mono ?_); rintro e w62 ⟨rfl, hb⟩; have n0_ := Aside0.mk (below_step (by repeat (first | (with_reducible first | exact HB.out | apply below_alloc | apply pw_below_drewN | apply below_drew1) | exact HB.out)) hb); clear HB; have HB := n0_; clear n0_; (try clear hb); (try clear hb2); (try clear hk); (try clear hi)) | (go_at_call 45; (with_reducible refine (text_Clean.calls (a0 ++ a1) t193 _ A22.out).mono ?_); rintro e w63 ⟨rfl, hb⟩; have n0_ := Aside0.mk (below_step (by repeat (first | (with_reducible first | exact HB.out | apply below_alloc | apply pw_below_drewN | apply below_drew1) | exact HB.out)) hb); clear HB; have HB := n0_; clear n0_; (try clear hb); (try clear hb2); (try clear hk); (try clear hi)) | (go_at_call 45; (with_reducible refine (text_Clean.calls a0 t194 _ A23.out).mono ?_); rintro e w64 ⟨rfl, hb⟩; have n0_ := Aside0.mk (below_step (by repeat (first | (with_reducible first | exact HB.out | apply below_alloc | apply pw_below_drewN | apply below_drew1) | exact HB.out)) hb); clear HB; have HB := n0_; clear n0_; (try clear hb); (try clear hb2); (try clear hk); (try clear hi)) | (go_at_call 45; (with_reducible refine (text_Clean.calls a1 t195 _ A24.out).mono ?_); rintro e w65 ⟨rfl, hb⟩; have n0_ := Aside0.mk (below_step (by repeat (first | (with_reducible first | exact HB.out | apply below_alloc | apply pw_below_drewN | apply below_drew1) | exact HB.out)) hb); clear HB; have HB := n0_; clear n0_; (try clear hb); (try clear hb2); (try clear hk); (try clear hi)))
                    go_ret
                    exact ⟨by first | rfl | (simp [errW_none, errW_some] <;> rfl) | (simp [*, errW_none, errW_some] <;> rfl), by repeat (first | (with_reducible first | exact HB.out | apply below_alloc | apply pw_below_drewN | apply below_drew1) | exact HB.out)⟩
                · rw [if_neg c25] at H
                  exact absurd H (by simp)
              · rw [if_neg c21] at H
                have c21b0 : (t190 == (wrap64 (t191 + t192))) = false := beq_eq_false_iff_ne.mpr c21
                have c21b1 : (t190 != (wrap64 (t191 + t192))) = true := bne_iff_ne.mpr c21
                obtain rfl := Option.some.inj H
                go_wp2_with (first | ((with_reducible refine gate_callee (f := 41) rfl ?_); refine goesL_ (some 28) rfl rfl Try.func41 (by kernel_rfl) rfl #[.string (a0 ++ a1)] rfl (by (try simp only [List.map_toArray, List.map_cons, List.map_nil]); first | done | rfl | (simp only [List.length_drop, List.length_take]; rfl)) ?_; (with_reducible refine (text_Right.calls (a0 ++ a1) true _ A16.out).mono ?_); rintro e w66 ⟨rfl, hb⟩; refine ⟨_, rfl, ?_⟩; have n0_ := Aside0.mk (below_step (by repeat (first | (with_reducible first | exact HB.out | apply below_alloc | apply pw_below_drewN | apply below_drew1) | exact HB.out)) hb); clear HB; have HB := n0_; clear n0_; (try clear hb); (try clear hb2); (try clear hk); (try clear hi)) | (go_at_call 43; (with_reducible refine (text_Count.calls (a0 ++ a1) t190 _ A18.out).mono ?_); rintro e w67 ⟨rfl, hb⟩; have n0_ := Aside0.mk (below_step (by repeat (first | (with_reducible first | exact HB.out | apply below_alloc | apply pw_below_drewN | apply below_drew1) | exact HB.out)) hb); clear HB; have HB := n0_; clear n0_; (try clear hb); (try clear hb2); (try clear hk); (try clear hi)) | (go_at_call 43; (with_reducible refine (text_Count.calls a0 t191 _ A19.out).mono ?_); rintro e w68 ⟨rfl, hb⟩; have n0_ := Aside0.mk (below_step (by repeat (first | (with_reducible first | exact HB.out | apply below_alloc | apply pw_below_drewN | apply below_drew1) | exact HB.out)) hb); clear HB; have HB := n0_; clear n0_; (try clear hb); (try clear hb2); (try clear hk); (try clear hi)) | (go_at_call 43; (with_reducible refine (text_Count.calls a1 t192 _ A20.out).mono ?_); rintro e w69 ⟨rfl, hb⟩; have n0_ := Aside0.mk (below_step (by repeat (first | (with_reducible first | exact HB.out | apply below_alloc | apply pw_below_drewN | apply below_drew1) | exact HB.out)) hb); clear HB; have HB := n0_; clear n0_; (try clear hb); (try clear hb2); (try clear hk); (try clear hi)))
                go_ret
                exact ⟨by first | rfl | (simp [errW_none, errW_some] <;> rfl) | (simp [*, errW_none, errW_some] <;> rfl), by repeat (first | (with_reducible first | exact HB.out | apply below_alloc | apply pw_below_drewN | apply below_drew1) | exact HB.out)⟩
            · replace c17 := Bool.eq_false_iff.mpr c17
              subst c17
              have H1 : (some false) = some r := by rw [if_neg (show ¬ (false = true) by decide)] at H; exact H
              clear H
              have H := H1
              clear H1
              obtain rfl := Option.some.inj H
              go_wp2_with (first | ((with_reducible refine gate_callee (f := 41) rfl ?_); refine goesL_ (some 28) rfl rfl Try.func41 (by kernel_rfl) rfl #[.string (a0 ++ a1)] rfl (by (try simp only [List.map_toArray, List.map_cons, List.map_nil]); first | done | rfl | (simp only [List.length_drop, List.length_take]; rfl)) ?_; (with_reducible refine (text_Right.calls (a0 ++ a1) false _ A16.out).mono ?_); rintro e w70 ⟨rfl, hb⟩; refine ⟨_, rfl, ?_⟩; have n0_ := Aside0.mk (below_step (by repeat (first | (with_reducible first | exact HB.out | apply below_alloc | apply pw_below_drewN | apply below_drew1) | exact HB.out)) hb); clear HB; have HB := n0_; clear n0_; (try clear hb); (try clear hb2); (try clear hk); (try clear hi)))
              go_ret
              exact ⟨by first | rfl | (simp [errW_none, errW_some] <;> rfl) | (simp [*, errW_none, errW_some] <;> rfl), by repeat (first | (with_reducible first | exact HB.out | apply below_alloc | apply pw_below_drewN | apply below_drew1) | exact HB.out)⟩
          · rw [if_neg c15] at H
            exact absurd H (by simp)
  · replace c4 := Bool.eq_false_iff.mpr c4
    subst c4
    have H1 : (some false) = some r := by rw [if_neg (show ¬ (false = true) by decide)] at H; exact H
    clear H
    have H := H1
    clear H1
    obtain rfl := Option.some.inj H
    go_enter Try.func13, Try.ntmps13
    go_wp2_with (first | ((with_reducible refine gate_callee (f := 36) rfl ?_); refine goesL_ (some 6) rfl rfl Try.func36 (by kernel_rfl) rfl #[] rfl (by (try simp only [List.map_toArray, List.map_cons, List.map_nil]); first | done | rfl | (simp only [List.length_drop, List.length_take]; rfl)) ?_; (with_reducible refine (tallyroomlaw03_alive.calls  false _ A3.out).mono ?_); rintro e w71 ⟨rfl, hb⟩; refine ⟨_, rfl, ?_⟩; have n0_ := Aside0.mk (below_step (by repeat (first | (with_reducible first | exact HB.out | apply below_alloc | apply pw_below_drewN | apply below_drew1) | exact HB.out)) hb); clear HB; have HB := n0_; clear n0_; (try clear hb); (try clear hb2); (try clear hk); (try clear hi)))
    go_ret
    exact ⟨by first | rfl | (simp [errW_none, errW_some] <;> rfl) | (simp [*, errW_none, errW_some] <;> rfl), by repeat (first | (with_reducible first | exact HB.out | apply below_alloc | apply pw_below_drewN | apply below_drew1) | exact HB.out)⟩

/-- THE ONE PURE STATEMENT of tallyroomlaw03_TextJoins: yours. -/
def tallyroomlaw03_TextJoins.Pure : Prop := ∀ (a0 : ByteArray) (a1 : ByteArray), a0.size ≤ 140737488351232 → a1.size ≤ 140737488351232 → ∃ k, tallyroomlaw03_TextJoins.f k a0 a1 = some true
theorem tallyroomlaw03_TextJoins.walk (P : tallyroomlaw03_TextJoins.Pure) (a0 : ByteArray) (a1 : ByteArray) (w : World) (w0 : a0.size ≤ 140737488351232) (w1 : a1.size ≤ 140737488351232) :
    Calls Try.prog 13 #[.string a0, .string a1] w fun e w' => e = .returned (.bool true) ∧ Below w.heap.size w w' := by
  obtain ⟨k, h⟩ := P a0 a1 w0 w1
  refine (tallyroomlaw03_TextJoins.calls k a0 a1 true w h).mono ?_
  rintro e w' ⟨rfl, hd⟩
  exact ⟨rfl, hd⟩

end Go.Proofs.Ytllepjhimkogjaa.XX
