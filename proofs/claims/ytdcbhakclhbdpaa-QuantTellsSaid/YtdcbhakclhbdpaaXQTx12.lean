-- Made by a program of this session (xprint.py), over the translation; Lean checks it.
import Derived.Test.YtdcbhakclhbdpaaXQTx0
import Derived.Test.YtdcbhakclhbdpaaXQTx1
import Derived.Test.YtdcbhakclhbdpaaXQTx3
import Derived.Test.YtdcbhakclhbdpaaXQTx4
import Derived.Test.YtdcbhakclhbdpaaXQTx5
import Derived.Test.YtdcbhakclhbdpaaXQTx8
import Derived.Test.YtdcbhakclhbdpaaXQTx9
import Derived.Test.YtdcbhakclhbdpaaXQTx10
import Derived.Test.YtdcbhakclhbdpaaXQTx11
namespace Go.Proofs.Ytdcbhakclhbdpaa.XQT
open Go.RowKit Go.Proofs.YtdcbhakclhbdpaaW.PrintWords Go.Proofs.YtdcbhakclhbdpaaW.PrintLast Go.Proofs.YtdcbhakclhbdpaaW.PrintMore
attribute [local go_sem] max2_int min2_int max_two min_two max_three min_three max_four min_four   -- for this text's walks alone
set_option linter.unusedVariables false
set_option linter.unusedSimpArgs false

/-! ### tallyroomlaw32_QuantTells: function 9 -/
mutual
def tallyroomlaw32_QuantTells.j0 : Nat → List Int → Int → List Int → Int → Bool → Option (Bool)
  | 0, _, _, _, _, _ => none
  | k + 1, x0, x1, x2, x3, x31 => if x31 = true then (some true) else ((tallyroomlaw32_counts.f k x0).bind fun t155 => ((quant_Bucket.f k t155 x1).bind fun bt158 => ((tallyroomref32_Bucket.f k x0 x1).bind fun bt160 => ((quant_Bounds.f x2 x3).bind fun bt162 => ((tallyroomref32_Bounds.f k x2 x3).bind fun bt165 => (if bt158.1 = bt160.1 then (if bt158.2 = bt160.2 then (if bt162.1 = bt165.1 then (if bt162.2.1 = bt165.2.1 then (tallyroomlaw32_QuantTells.j1 k x0 x1 x2 bt160.1 bt160.2 (bt162.2.2 != bt165.2.2)) else (tallyroomlaw32_QuantTells.j1 k x0 x1 x2 bt160.1 bt160.2 true)) else (tallyroomlaw32_QuantTells.j1 k x0 x1 x2 bt160.1 bt160.2 true)) else (tallyroomlaw32_QuantTells.j1 k x0 x1 x2 bt160.1 bt160.2 true)) else (tallyroomlaw32_QuantTells.j1 k x0 x1 x2 bt160.1 bt160.2 true)))))))
def tallyroomlaw32_QuantTells.j1 : Nat → List Int → Int → List Int → Int → Int → Bool → Option (Bool)
  | 0, _, _, _, _, _, _ => none
  | k + 1, x0, x1, x2, x11, x12, x81 => if x81 = true then (some false) else ((tallyroomlaw32_counts.f k x0).bind fun t168 => ((quant_Of.f k x2 ([] : List ByteArray) false 0 false 0 false 0 false t168 ([] : List (S107)) x1).bind fun bt171 => ((tallyroomref11_Right.f k x2).bind fun t174 => (if t174 = true then (tallyroomlaw32_QuantTells.j2 k x2 x11 x12 bt171.1 bt171.2.1 bt171.2.2 ((x0.length : Int) != (wrap64 ((x2.length : Int) + 1)))) else (tallyroomlaw32_QuantTells.j2 k x2 x11 x12 bt171.1 bt171.2.1 bt171.2.2 true)))))
def tallyroomlaw32_QuantTells.j2 : Nat → List Int → Int → Int → Int → Int → Int → Bool → Option (Bool)
  | 0, _, _, _, _, _, _, _ => none
  | k + 1, x2, x11, x12, x19, x20, x21, x102 => if x102 = true then (if x21 = 1 then (some ((IntKind.u64.wrap (x19 + x20)) == 0)) else (some false)) else (if x12 = 0 then ((tallyroomref32_Bounds.f k x2 x11).bind fun bt175 => (if x21 = 0 then (if x19 = bt175.1 then (some (x20 == bt175.2.1)) else (some false)) else (some false))) else (if x21 = x12 then (some ((IntKind.u64.wrap (x19 + x20)) == 0)) else (some false)))
end
def tallyroomlaw32_QuantTells.f (k : Nat) (l0 : List Int) (a1 : Int) (l2 : List Int) (a3 : Int) : Option (Bool) := (tallyroomlaw32_alive.f k).bind fun t154 => (if t154 = true then (if (l0.length : Int) > 60 then (tallyroomlaw32_QuantTells.j0 k l0 a1 l2 a3 true) else (tallyroomlaw32_QuantTells.j0 k l0 a1 l2 a3 (decide ((l2.length : Int) > 60)))) else (some false))
theorem tallyroomlaw32_QuantTells.mono_l : ∀ k, (∀ y0 y1 y2 y3 y4, LeO (tallyroomlaw32_QuantTells.j0 k y0 y1 y2 y3 y4) (tallyroomlaw32_QuantTells.j0 (k + 1) y0 y1 y2 y3 y4)) ∧ (∀ y0 y1 y2 y3 y4 y5, LeO (tallyroomlaw32_QuantTells.j1 k y0 y1 y2 y3 y4 y5) (tallyroomlaw32_QuantTells.j1 (k + 1) y0 y1 y2 y3 y4 y5)) ∧ (∀ y0 y1 y2 y3 y4 y5 y6, LeO (tallyroomlaw32_QuantTells.j2 k y0 y1 y2 y3 y4 y5 y6) (tallyroomlaw32_QuantTells.j2 (k + 1) y0 y1 y2 y3 y4 y5 y6))
  | 0 => ⟨fun _ _ _ _ _ r h => by simp [tallyroomlaw32_QuantTells.j0] at h, fun _ _ _ _ _ _ r h => by simp [tallyroomlaw32_QuantTells.j1] at h, fun _ _ _ _ _ _ _ r h => by simp [tallyroomlaw32_QuantTells.j2] at h⟩
  | k + 1 => by
    obtain ⟨ih0, ih1, ih2⟩ := tallyroomlaw32_QuantTells.mono_l k
    refine ⟨?_, ?_, ?_⟩
    · intro y0 y1 y2 y3 y4
      unfold tallyroomlaw32_QuantTells.j0
      repeat' first
      | (with_reducible exact ih0 _ _ _ _ _)
      | (with_reducible exact ih1 _ _ _ _ _ _)
      | (with_reducible exact ih2 _ _ _ _ _ _ _)
      | (with_reducible exact quant_Bucket.mono _ _ _)
      | (with_reducible exact quant_Of.mono _ _ _ _ _ _ _ _ _ _ _ _ _)
      | (with_reducible exact tallyroomlaw32_alive.mono _)
      | (with_reducible exact tallyroomlaw32_counts.mono _ _)
      | (with_reducible exact tallyroomref11_Right.mono _ _)
      | (with_reducible exact tallyroomref32_Bounds.mono _ _ _)
      | (with_reducible exact tallyroomref32_Bucket.mono _ _ _)
      | (with_reducible exact LeO.refl _)
      | (with_reducible exact LeO.none _)
      | (with_reducible refine LeO.ite ?_ ?_)
      | (with_reducible refine LeO.bind ?_ (fun _ => ?_))
      | exact ih0 _ _ _ _ _
      | exact ih1 _ _ _ _ _ _
      | exact ih2 _ _ _ _ _ _ _
      | exact quant_Bucket.mono _ _ _
      | exact quant_Of.mono _ _ _ _ _ _ _ _ _ _ _ _ _
      | exact tallyroomlaw32_alive.mono _
      | exact tallyroomlaw32_counts.mono _ _
      | exact tallyroomref11_Right.mono _ _
      | exact tallyroomref32_Bounds.mono _ _ _
      | exact tallyroomref32_Bucket.mono _ _ _
      | exact LeO.none _
      | refine LeO.ite ?_ ?_
      | refine LeO.bind ?_ (fun _ => ?_)
    · intro y0 y1 y2 y3 y4 y5
      unfold tallyroomlaw32_QuantTells.j1
      repeat' first
      | (with_reducible exact ih0 _ _ _ _ _)
      | (with_reducible exact ih1 _ _ _ _ _ _)
      | (with_reducible exact ih2 _ _ _ _ _ _ _)
      | (with_reducible exact quant_Bucket.mono _ _ _)
      | (with_reducible exact quant_Of.mono _ _ _ _ _ _ _ _ _ _ _ _ _)
      | (with_reducible exact tallyroomlaw32_alive.mono _)
      | (with_reducible exact tallyroomlaw32_counts.mono _ _)
      | (with_reducible exact tallyroomref11_Right.mono _ _)
      | (with_reducible exact tallyroomref32_Bounds.mono _ _ _)
      | (with_reducible exact tallyroomref32_Bucket.mono _ _ _)
      | (with_reducible exact LeO.refl _)
      | (with_reducible exact LeO.none _)
      | (with_reducible refine LeO.ite ?_ ?_)
      | (with_reducible refine LeO.bind ?_ (fun _ => ?_))
      | exact ih0 _ _ _ _ _
      | exact ih1 _ _ _ _ _ _
      | exact ih2 _ _ _ _ _ _ _
      | exact quant_Bucket.mono _ _ _
      | exact quant_Of.mono _ _ _ _ _ _ _ _ _ _ _ _ _
      | exact tallyroomlaw32_alive.mono _
      | exact tallyroomlaw32_counts.mono _ _
      | exact tallyroomref11_Right.mono _ _
      | exact tallyroomref32_Bounds.mono _ _ _
      | exact tallyroomref32_Bucket.mono _ _ _
      | exact LeO.none _
      | refine LeO.ite ?_ ?_
      | refine LeO.bind ?_ (fun _ => ?_)
    · intro y0 y1 y2 y3 y4 y5 y6
      unfold tallyroomlaw32_QuantTells.j2
      repeat' first
      | (with_reducible exact ih0 _ _ _ _ _)
      | (with_reducible exact ih1 _ _ _ _ _ _)
      | (with_reducible exact ih2 _ _ _ _ _ _ _)
      | (with_reducible exact quant_Bucket.mono _ _ _)
      | (with_reducible exact quant_Of.mono _ _ _ _ _ _ _ _ _ _ _ _ _)
      | (with_reducible exact tallyroomlaw32_alive.mono _)
      | (with_reducible exact tallyroomlaw32_counts.mono _ _)
      | (with_reducible exact tallyroomref11_Right.mono _ _)
      | (with_reducible exact tallyroomref32_Bounds.mono _ _ _)
      | (with_reducible exact tallyroomref32_Bucket.mono _ _ _)
      | (with_reducible exact LeO.refl _)
      | (with_reducible exact LeO.none _)
      | (with_reducible refine LeO.ite ?_ ?_)
      | (with_reducible refine LeO.bind ?_ (fun _ => ?_))
      | exact ih0 _ _ _ _ _
      | exact ih1 _ _ _ _ _ _
      | exact ih2 _ _ _ _ _ _ _
      | exact quant_Bucket.mono _ _ _
      | exact quant_Of.mono _ _ _ _ _ _ _ _ _ _ _ _ _
      | exact tallyroomlaw32_alive.mono _
      | exact tallyroomlaw32_counts.mono _ _
      | exact tallyroomref11_Right.mono _ _
      | exact tallyroomref32_Bounds.mono _ _ _
      | exact tallyroomref32_Bucket.mono _ _ _
      | exact LeO.none _
      | refine LeO.ite ?_ ?_
      | refine LeO.bind ?_ (fun _ => ?_)
theorem tallyroomlaw32_QuantTells.mono : ∀ a0 a1 a2 a3 k, LeO (tallyroomlaw32_QuantTells.f k a0 a1 a2 a3) (tallyroomlaw32_QuantTells.f (k + 1) a0 a1 a2 a3) := by
  intro a0 a1 a2 a3 k
  obtain ⟨ih0, ih1, ih2⟩ := tallyroomlaw32_QuantTells.mono_l k
  unfold tallyroomlaw32_QuantTells.f
  repeat' first
      | (with_reducible exact ih0 _ _ _ _ _)
      | (with_reducible exact ih1 _ _ _ _ _ _)
      | (with_reducible exact ih2 _ _ _ _ _ _ _)
      | (with_reducible exact quant_Bucket.mono _ _ _)
      | (with_reducible exact quant_Of.mono _ _ _ _ _ _ _ _ _ _ _ _ _)
      | (with_reducible exact tallyroomlaw32_alive.mono _)
      | (with_reducible exact tallyroomlaw32_counts.mono _ _)
      | (with_reducible exact tallyroomref11_Right.mono _ _)
      | (with_reducible exact tallyroomref32_Bounds.mono _ _ _)
      | (with_reducible exact tallyroomref32_Bucket.mono _ _ _)
      | (with_reducible exact LeO.refl _)
      | (with_reducible exact LeO.none _)
      | (with_reducible refine LeO.ite ?_ ?_)
      | (with_reducible refine LeO.bind ?_ (fun _ => ?_))
      | exact ih0 _ _ _ _ _
      | exact ih1 _ _ _ _ _ _
      | exact ih2 _ _ _ _ _ _ _
      | exact quant_Bucket.mono _ _ _
      | exact quant_Of.mono _ _ _ _ _ _ _ _ _ _ _ _ _
      | exact tallyroomlaw32_alive.mono _
      | exact tallyroomlaw32_counts.mono _ _
      | exact tallyroomref11_Right.mono _ _
      | exact tallyroomref32_Bounds.mono _ _ _
      | exact tallyroomref32_Bucket.mono _ _ _
      | exact LeO.none _
      | refine LeO.ite ?_ ?_
      | refine LeO.bind ?_ (fun _ => ?_)
set_option maxHeartbeats 8000000 in
set_option maxRecDepth 100000 in
theorem tallyroomlaw32_QuantTells.calls (k : Nat) (A0 : Option Addr) (c0 : Nat) (l0 : List Int) (a1 : Int) (A2 : Option Addr) (c2 : Nat) (l2 : List Int) (a3 : Int) (r : Bool) (w : World) (hr0 : Kd.C (Kd.int .u64) w A0 l0.length l0) (hc0 : l0.length ≤ c0) (hr2 : Kd.C (Kd.int .u64) w A2 l2.length l2) (hc2 : l2.length ≤ c2) (h : tallyroomlaw32_QuantTells.f k l0 a1 l2 a3 = some r) :
    Calls Try.prog 9 #[.slice A0 l0.length c0, .int .i64 a1, .slice A2 l2.length c2, .int .i64 a3] w fun e w' => e = .returned (.bool r) ∧ Below w.heap.size w w' := by
  have hu46 := Try.underlying46
  have HR0 := Aside0.mk hr0
  have HC0 := Aside0.mk hc0
  clear hr0 hc0
  have HR2 := Aside0.mk hr2
  have HC2 := Aside0.mk hc2
  clear hr2 hc2
  have HB := Aside0.mk (Below.refl w.heap.size w)
  have H : ((tallyroomlaw32_alive.f k).bind fun t154 => (if t154 = true then (if (l0.length : Int) > 60 then (tallyroomlaw32_QuantTells.j0 k l0 a1 l2 a3 true) else (tallyroomlaw32_QuantTells.j0 k l0 a1 l2 a3 (decide ((l2.length : Int) > 60)))) else (some false))) = some r := h
  clear h
  replace H := Option.bind_eq_some_iff.mp H
  obtain ⟨t154, A50, H⟩ := H
  replace H : (if t154 = true then (if (l0.length : Int) > 60 then (tallyroomlaw32_QuantTells.j0 k l0 a1 l2 a3 true) else (tallyroomlaw32_QuantTells.j0 k l0 a1 l2 a3 (decide ((l2.length : Int) > 60)))) else (some false)) = some r := H
  have A5 := Aside0.mk A50
  clear A50
  by_cases c6 : t154 = true
  · subst c6
    have H1 : (if (l0.length : Int) > 60 then (tallyroomlaw32_QuantTells.j0 k l0 a1 l2 a3 true) else (tallyroomlaw32_QuantTells.j0 k l0 a1 l2 a3 (decide ((l2.length : Int) > 60)))) = some r := by rw [if_pos rfl] at H; exact H
    clear H
    have H := H1
    clear H1
    have HC7 := Aside0.mk H
    clear H
    go_enter Try.func9, Try.ntmps9
    go_upto_region 3 with (first | ((with_reducible refine gate_callee (f := 21) rfl ?_); refine goesL_ (some 22) rfl rfl Try.func21 (by kernel_rfl) rfl #[] rfl (by (try simp only [List.map_toArray, List.map_cons, List.map_nil]); first | done | rfl | (simp only [List.length_drop, List.length_take]; rfl)) ?_; (with_reducible refine (tallyroomlaw32_alive.calls k  true _ A5.out).mono ?_); rintro e w8 ⟨rfl, hb⟩; refine ⟨_, rfl, ?_⟩; have n0_ := Aside0.mk (below_step (by repeat (first | (with_reducible first | exact HB.out | apply below_alloc | apply pw_below_drewN | apply below_drew1) | exact HB.out)) hb); clear HB; have HB := n0_; clear n0_; (try clear hb); (try clear hb2); (try clear hk); (try clear hi)))
    (try simp only [Act.put, List.setIfInBounds_toArray, List.set_cons_zero, List.set_cons_succ])
    go_cut [31] (fun v31 wc => ∃ (kq : Nat) (x31_6 : Bool), v31 = .bool x31_6 ∧ Aside0 (tallyroomlaw32_QuantTells.j0 kq l0 a1 l2 a3 x31_6 = some r) ∧ Aside0 (kq ≤ k) ∧ Aside0 (Below w.heap.size w wc))
    case first =>
      have H := HC7.out
      clear HC7
      by_cases c9 : (l0.length : Int) > 60
      · rw [if_pos c9] at H
        have c9b0 : decide (60 < (l0.length : Int)) = true := decide_eq_true c9
        have c9b1 : decide (60 < l0.length) = true := decide_eq_true (by omega)
        clear c9
        (first | rw [c9b0] | (simp only [i64_w, i32_w]; rw [c9b0]) | skip)
        have H' := Aside0.mk H
        clear H
        go_wp2
        go_meet
        case rel => exact ⟨_, (true), (by first | rfl | (simp; done) | (simp [*]; done)), H', ⟨by first | omega | exact Nat.le_refl _⟩, ⟨by repeat (first | (with_reducible first | exact HB.out | apply below_alloc | apply pw_below_drewN | apply below_drew1) | exact HB.out)⟩⟩
      · rw [if_neg c9] at H
        have c9b0 : decide (60 < (l0.length : Int)) = false := decide_eq_false c9
        have c9b1 : decide (60 < l0.length) = false := decide_eq_false (by omega)
        clear c9
        (first | rw [c9b0] | (simp only [i64_w, i32_w]; rw [c9b0]) | skip)
        have H' := Aside0.mk H
        clear H
        go_wp2
        go_meet
        case rel => exact ⟨_, (decide ((l2.length : Int) > 60)), (by first | rfl | (simp; done) | (simp [*]; done)), H', ⟨by first | omega | exact Nat.le_refl _⟩, ⟨by repeat (first | (with_reducible first | exact HB.out | apply below_alloc | apply pw_below_drewN | apply below_drew1) | exact HB.out)⟩⟩
    case rest =>
      clear HC7
      try clear c2
      try clear p2
      try clear c6
      try clear c9
      try clear c9b0
      try clear c9b1
      obtain ⟨kq, x31_6, rfl, HA, HJ6, HB⟩ := hcut
      cases kq with
      | zero => exact absurd HA.out (by simp [tallyroomlaw32_QuantTells.j0])
      | succ kj6 =>
        have H := HA.out
        clear HA
        simp only [tallyroomlaw32_QuantTells.j0] at H
        by_cases c10 : x31_6 = true
        · subst c10
          have H1 : (some true) = some r := by rw [if_pos rfl] at H; exact H
          clear H
          have H := H1
          clear H1
          obtain rfl := Option.some.inj H
          go_wp2
          go_ret
          exact ⟨by first | rfl | (simp [errW_none, errW_some] <;> rfl) | (simp [*, errW_none, errW_some] <;> rfl), by repeat (first | (with_reducible first | exact HB.out | apply below_alloc | apply pw_below_drewN | apply below_drew1) | exact HB.out)⟩
        · replace c10 := Bool.eq_false_iff.mpr c10
          subst c10
          have H1 : ((tallyroomlaw32_counts.f kj6 l0).bind fun t155 => ((quant_Bucket.f kj6 t155 a1).bind fun bt158 => ((tallyroomref32_Bucket.f kj6 l0 a1).bind fun bt160 => ((quant_Bounds.f l2 a3).bind fun bt162 => ((tallyroomref32_Bounds.f kj6 l2 a3).bind fun bt165 => (if bt158.1 = bt160.1 then (if bt158.2 = bt160.2 then (if bt162.1 = bt165.1 then (if bt162.2.1 = bt165.2.1 then (tallyroomlaw32_QuantTells.j1 kj6 l0 a1 l2 bt160.1 bt160.2 (bt162.2.2 != bt165.2.2)) else (tallyroomlaw32_QuantTells.j1 kj6 l0 a1 l2 bt160.1 bt160.2 true)) else (tallyroomlaw32_QuantTells.j1 kj6 l0 a1 l2 bt160.1 bt160.2 true)) else (tallyroomlaw32_QuantTells.j1 kj6 l0 a1 l2 bt160.1 bt160.2 true)) else (tallyroomlaw32_QuantTells.j1 kj6 l0 a1 l2 bt160.1 bt160.2 true))))))) = some r := by rw [if_neg (show ¬ (false = true) by decide)] at H; exact H
          clear H
          have H := H1
          clear H1
          replace H := Option.bind_eq_some_iff.mp H
          obtain ⟨t155, A110, H⟩ := H
          replace H : ((quant_Bucket.f kj6 t155 a1).bind fun bt158 => ((tallyroomref32_Bucket.f kj6 l0 a1).bind fun bt160 => ((quant_Bounds.f l2 a3).bind fun bt162 => ((tallyroomref32_Bounds.f kj6 l2 a3).bind fun bt165 => (if bt158.1 = bt160.1 then (if bt158.2 = bt160.2 then (if bt162.1 = bt165.1 then (if bt162.2.1 = bt165.2.1 then (tallyroomlaw32_QuantTells.j1 kj6 l0 a1 l2 bt160.1 bt160.2 (bt162.2.2 != bt165.2.2)) else (tallyroomlaw32_QuantTells.j1 kj6 l0 a1 l2 bt160.1 bt160.2 true)) else (tallyroomlaw32_QuantTells.j1 kj6 l0 a1 l2 bt160.1 bt160.2 true)) else (tallyroomlaw32_QuantTells.j1 kj6 l0 a1 l2 bt160.1 bt160.2 true)) else (tallyroomlaw32_QuantTells.j1 kj6 l0 a1 l2 bt160.1 bt160.2 true)))))) = some r := H
          have A11 := Aside0.mk A110
          clear A110
          replace H := Option.bind_eq_some_iff.mp H
          obtain ⟨⟨t158, t159⟩, A120, H⟩ := H
          replace H : ((tallyroomref32_Bucket.f kj6 l0 a1).bind fun bt160 => ((quant_Bounds.f l2 a3).bind fun bt162 => ((tallyroomref32_Bounds.f kj6 l2 a3).bind fun bt165 => (if t158 = bt160.1 then (if t159 = bt160.2 then (if bt162.1 = bt165.1 then (if bt162.2.1 = bt165.2.1 then (tallyroomlaw32_QuantTells.j1 kj6 l0 a1 l2 bt160.1 bt160.2 (bt162.2.2 != bt165.2.2)) else (tallyroomlaw32_QuantTells.j1 kj6 l0 a1 l2 bt160.1 bt160.2 true)) else (tallyroomlaw32_QuantTells.j1 kj6 l0 a1 l2 bt160.1 bt160.2 true)) else (tallyroomlaw32_QuantTells.j1 kj6 l0 a1 l2 bt160.1 bt160.2 true)) else (tallyroomlaw32_QuantTells.j1 kj6 l0 a1 l2 bt160.1 bt160.2 true))))) = some r := H
          have A12 := Aside0.mk A120
          clear A120
          replace H := Option.bind_eq_some_iff.mp H
          obtain ⟨⟨t160, t161⟩, A130, H⟩ := H
          replace H : ((quant_Bounds.f l2 a3).bind fun bt162 => ((tallyroomref32_Bounds.f kj6 l2 a3).bind fun bt165 => (if t158 = t160 then (if t159 = t161 then (if bt162.1 = bt165.1 then (if bt162.2.1 = bt165.2.1 then (tallyroomlaw32_QuantTells.j1 kj6 l0 a1 l2 t160 t161 (bt162.2.2 != bt165.2.2)) else (tallyroomlaw32_QuantTells.j1 kj6 l0 a1 l2 t160 t161 true)) else (tallyroomlaw32_QuantTells.j1 kj6 l0 a1 l2 t160 t161 true)) else (tallyroomlaw32_QuantTells.j1 kj6 l0 a1 l2 t160 t161 true)) else (tallyroomlaw32_QuantTells.j1 kj6 l0 a1 l2 t160 t161 true)))) = some r := H
          have A13 := Aside0.mk A130
          clear A130
          replace H := Option.bind_eq_some_iff.mp H
          obtain ⟨⟨t162, t163, t164⟩, A140, H⟩ := H
          replace H : ((tallyroomref32_Bounds.f kj6 l2 a3).bind fun bt165 => (if t158 = t160 then (if t159 = t161 then (if t162 = bt165.1 then (if t163 = bt165.2.1 then (tallyroomlaw32_QuantTells.j1 kj6 l0 a1 l2 t160 t161 (t164 != bt165.2.2)) else (tallyroomlaw32_QuantTells.j1 kj6 l0 a1 l2 t160 t161 true)) else (tallyroomlaw32_QuantTells.j1 kj6 l0 a1 l2 t160 t161 true)) else (tallyroomlaw32_QuantTells.j1 kj6 l0 a1 l2 t160 t161 true)) else (tallyroomlaw32_QuantTells.j1 kj6 l0 a1 l2 t160 t161 true))) = some r := H
          have A14 := Aside0.mk A140
          clear A140
          replace H := Option.bind_eq_some_iff.mp H
          obtain ⟨⟨t165, t166, t167⟩, A150, H⟩ := H
          replace H : (if t158 = t160 then (if t159 = t161 then (if t162 = t165 then (if t163 = t166 then (tallyroomlaw32_QuantTells.j1 kj6 l0 a1 l2 t160 t161 (t164 != t167)) else (tallyroomlaw32_QuantTells.j1 kj6 l0 a1 l2 t160 t161 true)) else (tallyroomlaw32_QuantTells.j1 kj6 l0 a1 l2 t160 t161 true)) else (tallyroomlaw32_QuantTells.j1 kj6 l0 a1 l2 t160 t161 true)) else (tallyroomlaw32_QuantTells.j1 kj6 l0 a1 l2 t160 t161 true)) = some r := H
          have A15 := Aside0.mk A150
          clear A150
          have HC16 := Aside0.mk H
          clear H
          go_upto_region 9 with (first | ((with_reducible refine gate_callee (f := 25) rfl ?_); refine goesL_ (some 34) rfl rfl Try.func25 (by kernel_rfl) rfl #[.slice A0 l0.length c0] rfl (by (try simp only [List.map_toArray, List.map_cons, List.map_nil]); first | done | rfl | (simp only [List.length_drop, List.length_take]; rfl)) ?_; (with_reducible refine (tallyroomlaw32_counts.calls kj6 _ _ l0 t155 _ ?side1 ?side2 A11.out).mono ?_); (case side1 => repeat (first | exact (Kd.C_below HR0.out HB.out) | (with_reducible refine Kd.C_alloc ?_ _) | (with_reducible refine Kd.C_drewN ?_ _) | (with_reducible refine Kd.C_drew ?_))); (case side2 => exact HC0.out); rintro e w17 ⟨v156, rfl, ho0, hb⟩; refine ⟨_, rfl, ?_⟩; have n0_ := Aside0.mk (Kd.R_lower ho0 (below_size (by repeat (first | (with_reducible first | exact HB.out | apply below_alloc | apply pw_below_drewN | apply below_drew1) | exact HB.out)))); have n1_ := Aside0.mk (below_step (by repeat (first | (with_reducible first | exact HB.out | apply below_alloc | apply pw_below_drewN | apply below_drew1) | exact HB.out)) hb); clear HB; have HO157 := n0_; have HB := n1_; clear n0_ n1_; (try clear hb); (try clear hb2); (try clear hk); (try clear hi); (try clear ho0); obtain ⟨Ao18, co18, eo18⟩ := Kd.R_slice HO157.out; subst eo18) | ((with_reducible refine gate_callee (f := 22) rfl ?_); refine goesL_ (some 36) rfl rfl Try.func22 (by kernel_rfl) rfl #[.slice Ao18 t155.length co18, .int .i64 a1] rfl (by (try simp only [List.map_toArray, List.map_cons, List.map_nil]); first | done | rfl | (simp only [List.length_drop, List.length_take]; rfl)) ?_; (with_reducible refine (quant_Bucket.calls kj6 _ _ t155 a1 t158 t159 _ ?side1 ?side2 A12.out).mono ?_); (case side1 => repeat (first | exact (Kd.R_reads' HO157.out).2.2 | (with_reducible refine Kd.C_alloc ?_ _) | (with_reducible refine Kd.C_drewN ?_ _) | (with_reducible refine Kd.C_drew ?_))); (case side2 => exact (Kd.R_reads' HO157.out).2.1); rintro e w19 ⟨rfl, hb⟩; refine ⟨_, rfl, ?_⟩; have n0_ := Aside0.mk (Kd.R_below (by (with_reducible repeat (first | apply Kd.R_alloc | apply Kd.R_drewN | apply Kd.R_drew)); exact HO157.out) hb); have n1_ := Aside0.mk (below_step (by repeat (first | (with_reducible first | exact HB.out | apply below_alloc | apply pw_below_drewN | apply below_drew1) | exact HB.out)) hb); clear HO157; clear HB; have HO157 := n0_; have HB := n1_; clear n0_ n1_; (try clear hb); (try clear hb2); (try clear hk); (try clear hi)) | ((with_reducible refine gate_callee (f := 26) rfl ?_); refine goesL_ (some 42) rfl rfl Try.func26 (by kernel_rfl) rfl #[.slice A0 l0.length c0, .int .i64 a1] rfl (by (try simp only [List.map_toArray, List.map_cons, List.map_nil]); first | done | rfl | (simp only [List.length_drop, List.length_take]; rfl)) ?_; (with_reducible refine (tallyroomref32_Bucket.calls kj6 _ _ l0 a1 t160 t161 _ ?side1 ?side2 A13.out).mono ?_); (case side1 => repeat (first | exact (Kd.C_below HR0.out HB.out) | (with_reducible refine Kd.C_alloc ?_ _) | (with_reducible refine Kd.C_drewN ?_ _) | (with_reducible refine Kd.C_drew ?_))); (case side2 => exact HC0.out); rintro e w' ⟨rfl, ⟨nd, rfl⟩⟩; refine ⟨_, rfl, ?_⟩) | ((with_reducible refine gate_callee (f := 27) rfl ?_); refine goesL_ (some 48) rfl rfl Try.func27 (by kernel_rfl) rfl #[.slice A2 l2.length c2, .int .i64 a3] rfl (by (try simp only [List.map_toArray, List.map_cons, List.map_nil]); first | done | rfl | (simp only [List.length_drop, List.length_take]; rfl)) ?_; (with_reducible refine (quant_Bounds.calls _ _ l2 a3 t162 t163 t164 _ ?side1 ?side2 A14.out).mono ?_); (case side1 => repeat (first | exact (Kd.C_below HR2.out (by repeat (first | (with_reducible first | exact HB.out | apply below_alloc | apply pw_below_drewN | apply below_drew1) | exact HB.out))) | (with_reducible refine Kd.C_alloc ?_ _) | (with_reducible refine Kd.C_drewN ?_ _) | (with_reducible refine Kd.C_drew ?_))); (case side2 => exact HC2.out); rintro e w20 ⟨rfl, hb⟩; refine ⟨_, rfl, ?_⟩; have n0_ := Aside0.mk (Kd.R_below (by (with_reducible repeat (first | apply Kd.R_alloc | apply Kd.R_drewN | apply Kd.R_drew)); exact HO157.out) hb); have n1_ := Aside0.mk (below_step (by repeat (first | (with_reducible first | exact HB.out | apply below_alloc | apply pw_below_drewN | apply below_drew1) | exact HB.out)) hb); clear HO157; clear HB; have HO157 := n0_; have HB := n1_; clear n0_ n1_; (try clear hb); (try clear hb2); (try clear hk); (try clear hi)) | ((with_reducible refine gate_callee (f := 28) rfl ?_); refine goesL_ (some 55) rfl rfl Try.func28 (by kernel_rfl) rfl #[.slice A2 l2.length c2, .int .i64 a3] rfl (by (try simp only [List.map_toArray, List.map_cons, List.map_nil]); first | done | rfl | (simp only [List.length_drop, List.length_take]; rfl)) ?_; (with_reducible refine (tallyroomref32_Bounds.calls kj6 _ _ l2 a3 t165 t166 t167 _ ?side1 ?side2 A15.out).mono ?_); (case side1 => repeat (first | exact (Kd.C_below HR2.out HB.out) | (with_reducible refine Kd.C_alloc ?_ _) | (with_reducible refine Kd.C_drewN ?_ _) | (with_reducible refine Kd.C_drew ?_))); (case side2 => exact HC2.out); rintro e w21 ⟨rfl, hb⟩; refine ⟨_, rfl, ?_⟩; have n0_ := Aside0.mk (Kd.R_below (by (with_reducible repeat (first | apply Kd.R_alloc | apply Kd.R_drewN | apply Kd.R_drew)); exact HO157.out) hb); have n1_ := Aside0.mk (below_step (by repeat (first | (with_reducible first | exact HB.out | apply below_alloc | apply pw_below_drewN | apply below_drew1) | exact HB.out)) hb); clear HO157; clear HB; have HO157 := n0_; have HB := n1_; clear n0_ n1_; (try clear hb); (try clear hb2); (try clear hk); (try clear hi)))
          (try simp only [Act.put, List.setIfInBounds_toArray, List.set_cons_zero, List.set_cons_succ])
          go_cut [81] (fun v81 wc => ∃ (kq : Nat) (x81_15 : Bool), v81 = .bool x81_15 ∧ Aside0 (tallyroomlaw32_QuantTells.j1 kq l0 a1 l2 t160 t161 x81_15 = some r) ∧ Aside0 (kq ≤ kj6) ∧ Aside0 (Below w.heap.size w wc))
          case first =>
            have H := HC16.out
            clear HC16
            by_cases c22 : t158 = t160
            · rw [if_pos c22] at H
              have c22b0 : (t158 == t160) = true := beq_iff_eq.mpr c22
              have c22b1 : (t158 != t160) = false := bne_eq_false_iff_eq.mpr c22
              clear c22
              (first | rw [c22b0] | (simp only [i64_w, i32_w]; rw [c22b0]) | skip)
              by_cases c23 : t159 = t161
              · rw [if_pos c23] at H
                have c23b0 : (t159 == t161) = true := beq_iff_eq.mpr c23
                have c23b1 : (t159 != t161) = false := bne_eq_false_iff_eq.mpr c23
                clear c23
                by_cases c24 : t162 = t165
                · rw [if_pos c24] at H
                  have c24b0 : (t162 == t165) = true := beq_iff_eq.mpr c24
                  have c24b1 : (t162 != t165) = false := bne_eq_false_iff_eq.mpr c24
                  clear c24
                  by_cases c25 : t163 = t166
                  · rw [if_pos c25] at H
                    have c25b0 : (t163 == t166) = true := beq_iff_eq.mpr c25
                    have c25b1 : (t163 != t166) = false := bne_eq_false_iff_eq.mpr c25
                    clear c25
                    have H' := Aside0.mk H
                    clear H
                    go_wp2
                    go_meet
                    case rel => exact ⟨_, ((t164 != t167)), (by first | rfl | (simp; done) | (simp [*]; done)), H', ⟨by have := HJ6.out; first | omega | exact Nat.le_refl _⟩, ⟨by repeat (first | (with_reducible first | exact HB.out | apply below_alloc | apply pw_below_drewN | apply below_drew1) | exact HB.out)⟩⟩
                  · rw [if_neg c25] at H
                    have c25b0 : (t163 == t166) = false := beq_eq_false_iff_ne.mpr c25
                    have c25b1 : (t163 != t166) = true := bne_iff_ne.mpr c25
                    have H' := Aside0.mk H
                    clear H
                    go_wp2
                    go_meet
                    case rel => exact ⟨_, (true), (by first | rfl | (simp; done) | (simp [*]; done)), H', ⟨by have := HJ6.out; first | omega | exact Nat.le_refl _⟩, ⟨by repeat (first | (with_reducible first | exact HB.out | apply below_alloc | apply pw_below_drewN | apply below_drew1) | exact HB.out)⟩⟩
                · rw [if_neg c24] at H
                  have c24b0 : (t162 == t165) = false := beq_eq_false_iff_ne.mpr c24
                  have c24b1 : (t162 != t165) = true := bne_iff_ne.mpr c24
                  have H' := Aside0.mk H
                  clear H
                  go_wp2
                  go_meet
                  case rel => exact ⟨_, (true), (by first | rfl | (simp; done) | (simp [*]; done)), H', ⟨by have := HJ6.out; first | omega | exact Nat.le_refl _⟩, ⟨by repeat (first | (with_reducible first | exact HB.out | apply below_alloc | apply pw_below_drewN | apply below_drew1) | exact HB.out)⟩⟩
              · rw [if_neg c23] at H
                have c23b0 : (t159 == t161) = false := beq_eq_false_iff_ne.mpr c23
                have c23b1 : (t159 != t161) = true := bne_iff_ne.mpr c23
                have H' := Aside0.mk H
                clear H
                go_wp2
                go_meet
                case rel => exact ⟨_, (true), (by first | rfl | (simp; done) | (simp [*]; done)), H', ⟨by have := HJ6.out; first | omega | exact Nat.le_refl _⟩, ⟨by repeat (first | (with_reducible first | exact HB.out | apply below_alloc | apply pw_below_drewN | apply below_drew1) | exact HB.out)⟩⟩
            · rw [if_neg c22] at H
              have c22b0 : (t158 == t160) = false := beq_eq_false_iff_ne.mpr c22
              have c22b1 : (t158 != t160) = true := bne_iff_ne.mpr c22
              (first | rw [c22b0] | (simp only [i64_w, i32_w]; rw [c22b0]) | skip)
              have H' := Aside0.mk H
              clear H
              go_wp2
              go_meet
              case rel => exact ⟨_, (true), (by first | rfl | (simp; done) | (simp [*]; done)), H', ⟨by have := HJ6.out; first | omega | exact Nat.le_refl _⟩, ⟨by repeat (first | (with_reducible first | exact HB.out | apply below_alloc | apply pw_below_drewN | apply below_drew1) | exact HB.out)⟩⟩
          case rest =>
            clear HC16
            try clear c1
            try clear c2
            try clear p2
            try clear c6
            try clear c9
            try clear c9b0
            try clear c9b1
            try clear c10
            try clear c21
            try clear c22
            try clear c22b0
            try clear c22b1
            try clear c23
            try clear c23b0
            try clear c23b1
            try clear c24
            try clear c24b0
            try clear c24b1
            try clear c25
            try clear c25b0
            try clear c25b1
            try clear p2
            obtain ⟨kq, x81_15, rfl, HA, HJ15, HB⟩ := hcut
            cases kq with
            | zero => exact absurd HA.out (by simp [tallyroomlaw32_QuantTells.j1])
            | succ kj15 =>
              have H := HA.out
              clear HA
              simp only [tallyroomlaw32_QuantTells.j1] at H
              by_cases c26 : x81_15 = true
              · subst c26
                have H1 : (some false) = some r := by rw [if_pos rfl] at H; exact H
                clear H
                have H := H1
                clear H1
                obtain rfl := Option.some.inj H
                go_wp2
                go_ret
                exact ⟨by first | rfl | (simp [errW_none, errW_some] <;> rfl) | (simp [*, errW_none, errW_some] <;> rfl), by repeat (first | (with_reducible first | exact HB.out | apply below_alloc | apply pw_below_drewN | apply below_drew1) | exact HB.out)⟩
              · replace c26 := Bool.eq_false_iff.mpr c26
                subst c26
                have H1 : ((tallyroomlaw32_counts.f kj15 l0).bind fun t168 => ((quant_Of.f kj15 l2 ([] : List ByteArray) false 0 false 0 false 0 false t168 ([] : List (S107)) a1).bind fun bt171 => ((tallyroomref11_Right.f kj15 l2).bind fun t174 => (if t174 = true then (tallyroomlaw32_QuantTells.j2 kj15 l2 t160 t161 bt171.1 bt171.2.1 bt171.2.2 ((l0.length : Int) != (wrap64 ((l2.length : Int) + 1)))) else (tallyroomlaw32_QuantTells.j2 kj15 l2 t160 t161 bt171.1 bt171.2.1 bt171.2.2 true))))) = some r := by rw [if_neg (show ¬ (false = true) by decide)] at H; exact H
                clear H
                have H := H1
                clear H1
                replace H := Option.bind_eq_some_iff.mp H
                obtain ⟨t168, A270, H⟩ := H
                replace H : ((quant_Of.f kj15 l2 ([] : List ByteArray) false 0 false 0 false 0 false t168 ([] : List (S107)) a1).bind fun bt171 => ((tallyroomref11_Right.f kj15 l2).bind fun t174 => (if t174 = true then (tallyroomlaw32_QuantTells.j2 kj15 l2 t160 t161 bt171.1 bt171.2.1 bt171.2.2 ((l0.length : Int) != (wrap64 ((l2.length : Int) + 1)))) else (tallyroomlaw32_QuantTells.j2 kj15 l2 t160 t161 bt171.1 bt171.2.1 bt171.2.2 true)))) = some r := H
                have A27 := Aside0.mk A270
                clear A270
                replace H := Option.bind_eq_some_iff.mp H
                obtain ⟨⟨t171, t172, t173⟩, A280, H⟩ := H
                replace H : ((tallyroomref11_Right.f kj15 l2).bind fun t174 => (if t174 = true then (tallyroomlaw32_QuantTells.j2 kj15 l2 t160 t161 t171 t172 t173 ((l0.length : Int) != (wrap64 ((l2.length : Int) + 1)))) else (tallyroomlaw32_QuantTells.j2 kj15 l2 t160 t161 t171 t172 t173 true))) = some r := H
                have A28 := Aside0.mk A280
                clear A280
                have HC29 := Aside0.mk H
                clear H
                go_upto_region 12 with (first | ((with_reducible refine gate_callee (f := 25) rfl ?_); refine goesL_ (some 85) rfl rfl Try.func25 (by kernel_rfl) rfl #[.slice A0 l0.length c0] rfl (by (try simp only [List.map_toArray, List.map_cons, List.map_nil]); first | done | rfl | (simp only [List.length_drop, List.length_take]; rfl)) ?_; (with_reducible refine (tallyroomlaw32_counts.calls kj15 _ _ l0 t168 _ ?side1 ?side2 A27.out).mono ?_); (case side1 => repeat (first | exact (Kd.C_below HR0.out HB.out) | (with_reducible refine Kd.C_alloc ?_ _) | (with_reducible refine Kd.C_drewN ?_ _) | (with_reducible refine Kd.C_drew ?_))); (case side2 => exact HC0.out); rintro e w30 ⟨v169, rfl, ho0, hb⟩; refine ⟨_, rfl, ?_⟩; have n0_ := Aside0.mk (Kd.R_lower ho0 (below_size (by repeat (first | (with_reducible first | exact HB.out | apply below_alloc | apply pw_below_drewN | apply below_drew1) | exact HB.out)))); have n1_ := Aside0.mk (below_step (by repeat (first | (with_reducible first | exact HB.out | apply below_alloc | apply pw_below_drewN | apply below_drew1) | exact HB.out)) hb); clear HB; have HO170 := n0_; have HB := n1_; clear n0_ n1_; (try clear hb); (try clear hb2); (try clear hk); (try clear hi); (try clear ho0); obtain ⟨Ao31, co31, eo31⟩ := Kd.R_slice HO170.out; subst eo31) | ((with_reducible refine gate_callee (f := 29) rfl ?_); refine goesL_ (some 88) rfl rfl Try.func29 (by kernel_rfl) rfl #[.slice A2 l2.length c2, .agg #[.slice none 0 0, .bool false, .int .u64 0, .bool false, .int .u64 0, .bool false, .int .u64 0, .bool false, .slice Ao31 t168.length co31, .slice none 0 0], .int .i64 a1] rfl (by (try simp only [List.map_toArray, List.map_cons, List.map_nil]); first | done | rfl | (simp only [List.length_drop, List.length_take]; rfl)) ?_; (refine (quant_Of.calls kj15 _ _ l2 _ _ ([] : List ByteArray) false 0 false 0 false 0 false _ _ t168 _ _ ([] : List (S107)) a1 t171 t172 t173 _ ?side1 ?side2 ?side3 ?side4 ?side5 ?side6 ?side7 ?side8 A28.out).mono ?_); (case side1 => repeat (first | exact (Kd.C_below HR2.out HB.out) | (with_reducible refine Kd.C_alloc ?_ _) | (with_reducible refine Kd.C_drewN ?_ _) | (with_reducible refine Kd.C_drew ?_))); (case side2 => exact HC2.out); (case side3 => exact Kd.C_nil _ _); (case side4 => exact Nat.le_refl _); (case side5 => repeat (first | exact (Kd.R_reads' HO170.out).2.2 | (with_reducible refine Kd.C_alloc ?_ _) | (with_reducible refine Kd.C_drewN ?_ _) | (with_reducible refine Kd.C_drew ?_))); (case side6 => exact (Kd.R_reads' HO170.out).2.1); (case side7 => exact Kd.C_nil _ _); (case side8 => exact Nat.le_refl _); rintro e w32 ⟨rfl, hb⟩; refine ⟨_, rfl, ?_⟩; have n0_ := Aside0.mk (Kd.R_below (by (with_reducible repeat (first | apply Kd.R_alloc | apply Kd.R_drewN | apply Kd.R_drew)); exact HO170.out) hb); have n1_ := Aside0.mk (below_step (by repeat (first | (with_reducible first | exact HB.out | apply below_alloc | apply pw_below_drewN | apply below_drew1) | exact HB.out)) hb); clear HO170; clear HB; have HO170 := n0_; have HB := n1_; clear n0_ n1_; (try clear hb); (try clear hb2); (try clear hk); (try clear hi)))
                (try simp only [Act.put, List.setIfInBounds_toArray, List.set_cons_zero, List.set_cons_succ])
                go_cut [102] (fun v102 wc => ∃ (kq : Nat) (x102_28 : Bool), v102 = .bool x102_28 ∧ Aside0 (tallyroomlaw32_QuantTells.j2 kq l2 t160 t161 t171 t172 t173 x102_28 = some r) ∧ Aside0 (kq ≤ kj15) ∧ Aside0 (Below w.heap.size w wc))
                case first =>
                  have H := HC29.out
                  clear HC29
                  replace H := Option.bind_eq_some_iff.mp H
                  obtain ⟨t174, A330, H⟩ := H
                  replace H : (if t174 = true then (tallyroomlaw32_QuantTells.j2 kj15 l2 t160 t161 t171 t172 t173 ((l0.length : Int) != (wrap64 ((l2.length : Int) + 1)))) else (tallyroomlaw32_QuantTells.j2 kj15 l2 t160 t161 t171 t172 t173 true)) = some r := H
                  have A33 := Aside0.mk A330
                  clear A330
                  by_cases c34 : t174 = true
                  · subst c34
                    have H1 : (tallyroomlaw32_QuantTells.j2 kj15 l2 t160 t161 t171 t172 t173 ((l0.length : Int) != (wrap64 ((l2.length : Int) + 1)))) = some r := by rw [if_pos rfl] at H; exact H
                    clear H
                    have H := H1
                    clear H1
                    have H' := Aside0.mk H
                    clear H
                    go_wp2_with (first | ((with_reducible refine gate_callee (f := 30) rfl ?_); refine goesL_ (some 93) rfl rfl Try.func30 (by kernel_rfl) rfl #[.slice A2 l2.length c2] rfl (by (try simp only [List.map_toArray, List.map_cons, List.map_nil]); first | done | rfl | (simp only [List.length_drop, List.length_take]; rfl)) ?_; (with_reducible refine (tallyroomref11_Right.calls kj15 _ _ l2 true _ ?side1 ?side2 A33.out).mono ?_); (case side1 => repeat (first | exact (Kd.C_below HR2.out HB.out) | (with_reducible refine Kd.C_alloc ?_ _) | (with_reducible refine Kd.C_drewN ?_ _) | (with_reducible refine Kd.C_drew ?_))); (case side2 => exact HC2.out); rintro e w' ⟨rfl, ⟨nd, rfl⟩⟩; refine ⟨_, rfl, ?_⟩))
                    go_meet
                    case rel => exact ⟨_, (((l0.length : Int) != (wrap64 ((l2.length : Int) + 1)))), (by first | rfl | (simp; done) | (simp [*]; done)), H', ⟨by have := HJ6.out; have := HJ15.out; first | omega | exact Nat.le_refl _⟩, ⟨by repeat (first | (with_reducible first | exact HB.out | apply below_alloc | apply pw_below_drewN | apply below_drew1) | exact HB.out)⟩⟩
                  · replace c34 := Bool.eq_false_iff.mpr c34
                    subst c34
                    have H1 : (tallyroomlaw32_QuantTells.j2 kj15 l2 t160 t161 t171 t172 t173 true) = some r := by rw [if_neg (show ¬ (false = true) by decide)] at H; exact H
                    clear H
                    have H := H1
                    clear H1
                    have H' := Aside0.mk H
                    clear H
                    go_wp2_with (first | ((with_reducible refine gate_callee (f := 30) rfl ?_); refine goesL_ (some 93) rfl rfl Try.func30 (by kernel_rfl) rfl #[.slice A2 l2.length c2] rfl (by (try simp only [List.map_toArray, List.map_cons, List.map_nil]); first | done | rfl | (simp only [List.length_drop, List.length_take]; rfl)) ?_; (with_reducible refine (tallyroomref11_Right.calls kj15 _ _ l2 false _ ?side1 ?side2 A33.out).mono ?_); (case side1 => repeat (first | exact (Kd.C_below HR2.out HB.out) | (with_reducible refine Kd.C_alloc ?_ _) | (with_reducible refine Kd.C_drewN ?_ _) | (with_reducible refine Kd.C_drew ?_))); (case side2 => exact HC2.out); rintro e w' ⟨rfl, ⟨nd, rfl⟩⟩; refine ⟨_, rfl, ?_⟩))
                    go_meet
                    case rel => exact ⟨_, (true), (by first | rfl | (simp; done) | (simp [*]; done)), H', ⟨by have := HJ6.out; have := HJ15.out; first | omega | exact Nat.le_refl _⟩, ⟨by repeat (first | (with_reducible first | exact HB.out | apply below_alloc | apply pw_below_drewN | apply below_drew1) | exact HB.out)⟩⟩
                case rest =>
                  clear HC29
                  try clear c1
                  try clear c2
                  try clear p2
                  try clear c3
                  try clear c6
                  try clear p6
                  try clear c9
                  try clear c9b0
                  try clear c9b1
                  try clear c10
                  try clear c21
                  try clear c22
                  try clear c22b0
                  try clear c22b1
                  try clear c23
                  try clear c23b0
                  try clear c23b1
                  try clear c24
                  try clear c24b0
                  try clear c24b1
                  try clear c25
                  try clear c25b0
                  try clear c25b1
                  try clear c26
                  try clear c27
                  try clear c28
                  try clear c29
                  try clear c30
                  try clear c34
                  try clear p2
                  obtain ⟨kq, x102_28, rfl, HA, HJ28, HB⟩ := hcut
                  cases kq with
                  | zero => exact absurd HA.out (by simp [tallyroomlaw32_QuantTells.j2])
                  | succ kj28 =>
                    have H := HA.out
                    clear HA
                    simp only [tallyroomlaw32_QuantTells.j2] at H
                    by_cases c35 : x102_28 = true
                    · subst c35
                      have H1 : (if t173 = 1 then (some ((IntKind.u64.wrap (t171 + t172)) == 0)) else (some false)) = some r := by rw [if_pos rfl] at H; exact H
                      clear H
                      have H := H1
                      clear H1
                      by_cases c36 : t173 = 1
                      · rw [if_pos c36] at H
                        have c36b0 : (t173 == 1) = true := beq_iff_eq.mpr c36
                        have c36b1 : (t173 != 1) = false := bne_eq_false_iff_eq.mpr c36
                        clear c36
                        obtain rfl := Option.some.inj H
                        go_wp2
                        go_ret
                        exact ⟨by first | rfl | (simp [errW_none, errW_some] <;> rfl) | (simp [*, errW_none, errW_some] <;> rfl), by repeat (first | (with_reducible first | exact HB.out | apply below_alloc | apply pw_below_drewN | apply below_drew1) | exact HB.out)⟩
                      · rw [if_neg c36] at H
                        have c36b0 : (t173 == 1) = false := beq_eq_false_iff_ne.mpr c36
                        have c36b1 : (t173 != 1) = true := bne_iff_ne.mpr c36
                        obtain rfl := Option.some.inj H
                        go_wp2
                        go_ret
                        exact ⟨by first | rfl | (simp [errW_none, errW_some] <;> rfl) | (simp [*, errW_none, errW_some] <;> rfl), by repeat (first | (with_reducible first | exact HB.out | apply below_alloc | apply pw_below_drewN | apply below_drew1) | exact HB.out)⟩
                    · replace c35 := Bool.eq_false_iff.mpr c35
                      subst c35
                      have H1 : (if t161 = 0 then ((tallyroomref32_Bounds.f kj28 l2 t160).bind fun bt175 => (if t173 = 0 then (if t171 = bt175.1 then (some (t172 == bt175.2.1)) else (some false)) else (some false))) else (if t173 = t161 then (some ((IntKind.u64.wrap (t171 + t172)) == 0)) else (some false))) = some r := by rw [if_neg (show ¬ (false = true) by decide)] at H; exact H
                      clear H
                      have H := H1
                      clear H1
                      by_cases c37 : t161 = 0
                      · rw [if_pos c37] at H
                        have c37b0 : (t161 == 0) = true := beq_iff_eq.mpr c37
                        have c37b1 : (t161 != 0) = false := bne_eq_false_iff_eq.mpr c37
                        clear c37
                        replace H := Option.bind_eq_some_iff.mp H
                        obtain ⟨⟨t175, t176, t177⟩, A380, H⟩ := H
                        replace H : (if t173 = 0 then (if t171 = t175 then (some (t172 == t176)) else (some false)) else (some false)) = some r := H
                        have A38 := Aside0.mk A380
                        clear A380
                        by_cases c39 : t173 = 0
                        · rw [if_pos c39] at H
                          have c39b0 : (t173 == 0) = true := beq_iff_eq.mpr c39
                          have c39b1 : (t173 != 0) = false := bne_eq_false_iff_eq.mpr c39
                          clear c39
                          by_cases c40 : t171 = t175
                          · rw [if_pos c40] at H
                            have c40b0 : (t171 == t175) = true := beq_iff_eq.mpr c40
                            have c40b1 : (t171 != t175) = false := bne_eq_false_iff_eq.mpr c40
                            clear c40
                            obtain rfl := Option.some.inj H
                            go_wp2_with (first | ((with_reducible refine gate_callee (f := 28) rfl ?_); refine goesL_ (some 125) rfl rfl Try.func28 (by kernel_rfl) rfl #[.slice A2 l2.length c2, .int .i64 t160] rfl (by (try simp only [List.map_toArray, List.map_cons, List.map_nil]); first | done | rfl | (simp only [List.length_drop, List.length_take]; rfl)) ?_; (with_reducible refine (tallyroomref32_Bounds.calls kj28 _ _ l2 t160 t175 t176 t177 _ ?side1 ?side2 A38.out).mono ?_); (case side1 => repeat (first | exact (Kd.C_below HR2.out HB.out) | (with_reducible refine Kd.C_alloc ?_ _) | (with_reducible refine Kd.C_drewN ?_ _) | (with_reducible refine Kd.C_drew ?_))); (case side2 => exact HC2.out); rintro e w41 ⟨rfl, hb⟩; refine ⟨_, rfl, ?_⟩; have n0_ := Aside0.mk (below_step (by repeat (first | (with_reducible first | exact HB.out | apply below_alloc | apply pw_below_drewN | apply below_drew1) | exact HB.out)) hb); clear HB; have HB := n0_; clear n0_; (try clear hb); (try clear hb2); (try clear hk); (try clear hi)))
                            go_ret
                            exact ⟨by first | rfl | (simp [errW_none, errW_some] <;> rfl) | (simp [*, errW_none, errW_some] <;> rfl), by repeat (first | (with_reducible first | exact HB.out | apply below_alloc | apply pw_below_drewN | apply below_drew1) | exact HB.out)⟩
                          · rw [if_neg c40] at H
                            have c40b0 : (t171 == t175) = false := beq_eq_false_iff_ne.mpr c40
                            have c40b1 : (t171 != t175) = true := bne_iff_ne.mpr c40
                            obtain rfl := Option.some.inj H
                            go_wp2_with (first | ((with_reducible refine gate_callee (f := 28) rfl ?_); refine goesL_ (some 125) rfl rfl Try.func28 (by kernel_rfl) rfl #[.slice A2 l2.length c2, .int .i64 t160] rfl (by (try simp only [List.map_toArray, List.map_cons, List.map_nil]); first | done | rfl | (simp only [List.length_drop, List.length_take]; rfl)) ?_; (with_reducible refine (tallyroomref32_Bounds.calls kj28 _ _ l2 t160 t175 t176 t177 _ ?side1 ?side2 A38.out).mono ?_); (case side1 => repeat (first | exact (Kd.C_below HR2.out HB.out) | (with_reducible refine Kd.C_alloc ?_ _) | (with_reducible refine Kd.C_drewN ?_ _) | (with_reducible refine Kd.C_drew ?_))); (case side2 => exact HC2.out); rintro e w42 ⟨rfl, hb⟩; refine ⟨_, rfl, ?_⟩; have n0_ := Aside0.mk (below_step (by repeat (first | (with_reducible first | exact HB.out | apply below_alloc | apply pw_below_drewN | apply below_drew1) | exact HB.out)) hb); clear HB; have HB := n0_; clear n0_; (try clear hb); (try clear hb2); (try clear hk); (try clear hi)))
                            go_ret
                            exact ⟨by first | rfl | (simp [errW_none, errW_some] <;> rfl) | (simp [*, errW_none, errW_some] <;> rfl), by repeat (first | (with_reducible first | exact HB.out | apply below_alloc | apply pw_below_drewN | apply below_drew1) | exact HB.out)⟩
                        · rw [if_neg c39] at H
                          have c39b0 : (t173 == 0) = false := beq_eq_false_iff_ne.mpr c39
                          have c39b1 : (t173 != 0) = true := bne_iff_ne.mpr c39
                          obtain rfl := Option.some.inj H
                          go_wp2_with (first | ((with_reducible refine gate_callee (f := 28) rfl ?_); refine goesL_ (some 125) rfl rfl Try.func28 (by kernel_rfl) rfl #[.slice A2 l2.length c2, .int .i64 t160] rfl (by (try simp only [List.map_toArray, List.map_cons, List.map_nil]); first | done | rfl | (simp only [List.length_drop, List.length_take]; rfl)) ?_; (with_reducible refine (tallyroomref32_Bounds.calls kj28 _ _ l2 t160 t175 t176 t177 _ ?side1 ?side2 A38.out).mono ?_); (case side1 => repeat (first | exact (Kd.C_below HR2.out HB.out) | (with_reducible refine Kd.C_alloc ?_ _) | (with_reducible refine Kd.C_drewN ?_ _) | (with_reducible refine Kd.C_drew ?_))); (case side2 => exact HC2.out); rintro e w43 ⟨rfl, hb⟩; refine ⟨_, rfl, ?_⟩; have n0_ := Aside0.mk (below_step (by repeat (first | (with_reducible first | exact HB.out | apply below_alloc | apply pw_below_drewN | apply below_drew1) | exact HB.out)) hb); clear HB; have HB := n0_; clear n0_; (try clear hb); (try clear hb2); (try clear hk); (try clear hi)))
                          go_ret
                          exact ⟨by first | rfl | (simp [errW_none, errW_some] <;> rfl) | (simp [*, errW_none, errW_some] <;> rfl), by repeat (first | (with_reducible first | exact HB.out | apply below_alloc | apply pw_below_drewN | apply below_drew1) | exact HB.out)⟩
                      · rw [if_neg c37] at H
                        have c37b0 : (t161 == 0) = false := beq_eq_false_iff_ne.mpr c37
                        have c37b1 : (t161 != 0) = true := bne_iff_ne.mpr c37
                        by_cases c44 : t173 = t161
                        · rw [if_pos c44] at H
                          have c44b0 : (t173 == t161) = true := beq_iff_eq.mpr c44
                          have c44b1 : (t173 != t161) = false := bne_eq_false_iff_eq.mpr c44
                          clear c44
                          obtain rfl := Option.some.inj H
                          go_wp2
                          go_ret
                          exact ⟨by first | rfl | (simp [errW_none, errW_some] <;> rfl) | (simp [*, errW_none, errW_some] <;> rfl), by repeat (first | (with_reducible first | exact HB.out | apply below_alloc | apply pw_below_drewN | apply below_drew1) | exact HB.out)⟩
                        · rw [if_neg c44] at H
                          have c44b0 : (t173 == t161) = false := beq_eq_false_iff_ne.mpr c44
                          have c44b1 : (t173 != t161) = true := bne_iff_ne.mpr c44
                          obtain rfl := Option.some.inj H
                          go_wp2
                          go_ret
                          exact ⟨by first | rfl | (simp [errW_none, errW_some] <;> rfl) | (simp [*, errW_none, errW_some] <;> rfl), by repeat (first | (with_reducible first | exact HB.out | apply below_alloc | apply pw_below_drewN | apply below_drew1) | exact HB.out)⟩
  · replace c6 := Bool.eq_false_iff.mpr c6
    subst c6
    have H1 : (some false) = some r := by rw [if_neg (show ¬ (false = true) by decide)] at H; exact H
    clear H
    have H := H1
    clear H1
    obtain rfl := Option.some.inj H
    go_enter Try.func9, Try.ntmps9
    go_wp2_with (first | ((with_reducible refine gate_callee (f := 21) rfl ?_); refine goesL_ (some 22) rfl rfl Try.func21 (by kernel_rfl) rfl #[] rfl (by (try simp only [List.map_toArray, List.map_cons, List.map_nil]); first | done | rfl | (simp only [List.length_drop, List.length_take]; rfl)) ?_; (with_reducible refine (tallyroomlaw32_alive.calls k  false _ A5.out).mono ?_); rintro e w45 ⟨rfl, hb⟩; refine ⟨_, rfl, ?_⟩; have n0_ := Aside0.mk (below_step (by repeat (first | (with_reducible first | exact HB.out | apply below_alloc | apply pw_below_drewN | apply below_drew1) | exact HB.out)) hb); clear HB; have HB := n0_; clear n0_; (try clear hb); (try clear hb2); (try clear hk); (try clear hi)))
    go_ret
    exact ⟨by first | rfl | (simp [errW_none, errW_some] <;> rfl) | (simp [*, errW_none, errW_some] <;> rfl), by repeat (first | (with_reducible first | exact HB.out | apply below_alloc | apply pw_below_drewN | apply below_drew1) | exact HB.out)⟩

/-- THE ONE PURE STATEMENT of tallyroomlaw32_QuantTells: yours. -/
def tallyroomlaw32_QuantTells.Pure : Prop := ∀ (l0 : List Int) (a1 : Int) (l2 : List Int) (a3 : Int), l0.length ≤ maxLen → l0.length * 8 ≤ 140737488351232 → (∀ x ∈ l0, (Lit.int .u64 x).wf = true) → (Lit.int .i64 a1).wf = true → l2.length ≤ maxLen → l2.length * 8 ≤ 140737488351232 → (∀ x ∈ l2, (Lit.int .u64 x).wf = true) → (Lit.int .i64 a3).wf = true → ∃ k, tallyroomlaw32_QuantTells.f k l0 a1 l2 a3 = some true
theorem tallyroomlaw32_QuantTells.walk (P : tallyroomlaw32_QuantTells.Pure) (a0 : Option Addr) (len0 cap0 : Nat) (z0 : List Int) (a1 : Int) (a2 : Option Addr) (len2 cap2 : Nat) (z2 : List Int) (a3 : Int) (w : World) (w0 : (a0 = none ∧ len0 = 0 ∧ cap0 = 0 ∧ z0 = []) ∨ ∃ x, a0 = some x ∧ len0 ≤ cap0 ∧ cap0 ≤ maxLen ∧ z0.length = cap0 ∧ (∀ i, i < z0.length → w.cell? (x.add i) = some (.int .u64 (z0.getD i 0))) ∧ ∀ n ∈ z0, (Lit.int .u64 n).wf = true) (y0 : len0 * 8 ≤ 140737488351232) (w1 : (Lit.int .i64 a1).wf = true) (w2 : (a2 = none ∧ len2 = 0 ∧ cap2 = 0 ∧ z2 = []) ∨ ∃ x, a2 = some x ∧ len2 ≤ cap2 ∧ cap2 ≤ maxLen ∧ z2.length = cap2 ∧ (∀ i, i < z2.length → w.cell? (x.add i) = some (.int .u64 (z2.getD i 0))) ∧ ∀ n ∈ z2, (Lit.int .u64 n).wf = true) (y2 : len2 * 8 ≤ 140737488351232) (w3 : (Lit.int .i64 a3).wf = true) :
    Calls Try.prog 9 #[.slice a0 len0 cap0, .int .i64 a1, .slice a2 len2 cap2, .int .i64 a3] w fun e w' => e = .returned (.bool true) ∧ Below w.heap.size w w' := by
  obtain ⟨l0, rfl, hr0, hm0, hw0, hc0⟩ := ReadsInt.ofRowC w0
  obtain ⟨l2, rfl, hr2, hm2, hw2, hc2⟩ := ReadsInt.ofRowC w2
  obtain ⟨k, h⟩ := P l0 a1 l2 a3 hm0 y0 hw0 w1 hm2 y2 hw2 w3
  refine (tallyroomlaw32_QuantTells.calls k _ _ l0 a1 _ _ l2 a3 true w (Kd.C_of_reads (d := (0 : Int)) (h1 := fun _ => rfl) hr0) hc0 (Kd.C_of_reads (d := (0 : Int)) (h1 := fun _ => rfl) hr2) hc2 h).mono ?_
  rintro e w' ⟨rfl, hd⟩
  exact ⟨rfl, hd⟩

end Go.Proofs.Ytdcbhakclhbdpaa.XQT
