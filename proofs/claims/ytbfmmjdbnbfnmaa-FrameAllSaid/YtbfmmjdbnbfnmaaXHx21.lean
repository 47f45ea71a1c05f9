-- Made by a program of this session (xprint.py), over the translation; Lean checks it.
import Derived.Test.YtbfmmjdbnbfnmaaXHx0
import Derived.Test.YtbfmmjdbnbfnmaaXHx1
import Derived.Test.YtbfmmjdbnbfnmaaXHx15
import Derived.Test.YtbfmmjdbnbfnmaaXHx19
import Derived.Test.YtbfmmjdbnbfnmaaXHx20
namespace Go.Proofs.Ytbfmmjdbnbfnmaa.XH
open Go.RowKit Go.Proofs.YtbfmmjdbnbfnmaaW.PrintWords Go.Proofs.YtbfmmjdbnbfnmaaW.PrintLast Go.Proofs.YtbfmmjdbnbfnmaaW.PrintMore
attribute [local go_sem] max2_int min2_int max_two min_two max_three min_three max_four min_four   -- for this text's walks alone
set_option linter.unusedVariables false
set_option linter.unusedSimpArgs false

/-! ### tallyroomlaw08_FrameAll: function 12 -/
def tallyroomlaw08_FrameAll.l0 : Nat → List Int → List (List Int) → Int → Int → Int → Int → Int → Option (Bool)
  | 0, _, _, _, _, _, _, _ => none
  | k + 1, x0, x3, x4, x5, x6, x7, x8 => if x8 < (x0.length : Int) then (if 0 ≤ x8 then (if x8 ≤ (x0.length : Int) then ((tallyroomref08_Next.f k (x0.drop (x8 : Int).toNat)).bind fun bt221 => (if bt221.2.1 = 0 then (if x6 = (x3.length : Int) then (if x4 = x7 then (some (x5 == x8)) else (some false)) else (some false)) else (if bt221.2.2 = 0 then (if x6 ≥ (x3.length : Int) then (some false) else (if 0 ≤ x6 then (if x6 < (x3.length : Int) then ((tallyroomref01_Bytes.f (rd_L1 x3 x6) bt221.1).bind fun t227 => (if t227 = true then (tallyroomlaw08_FrameAll.l0 k x0 x3 x4 x5 (wrap64 (x6 + 1)) x7 (wrap64 (x8 + bt221.2.1))) else (some false))) else (none)) else (none))) else (tallyroomlaw08_FrameAll.l0 k x0 x3 x4 x5 x6 (wrap64 (x7 + 1)) (wrap64 (x8 + bt221.2.1)))))) else (none)) else (none)) else (if x6 = (x3.length : Int) then (if x4 = x7 then (some (x5 == x8)) else (some false)) else (some false))
def tallyroomlaw08_FrameAll.f (k : Nat) (l0 : List Int) : Option (Bool) := (tallyroomlaw08_alive.f k).bind fun t214 => (if t214 = true then (if (l0.length : Int) > 3000 then (some true) else ((frame_All.f k l0).bind fun bt215 => (tallyroomlaw08_FrameAll.l0 k l0 bt215.1 bt215.2.1 bt215.2.2 0 0 0))) else (some false))
theorem tallyroomlaw08_FrameAll.mono_l : ∀ k, (∀ y0 y1 y2 y3 y4 y5 y6, LeO (tallyroomlaw08_FrameAll.l0 k y0 y1 y2 y3 y4 y5 y6) (tallyroomlaw08_FrameAll.l0 (k + 1) y0 y1 y2 y3 y4 y5 y6))
  | 0 => fun _ _ _ _ _ _ _ r h => by simp [tallyroomlaw08_FrameAll.l0] at h
  | k + 1 => by
    have ih0 := tallyroomlaw08_FrameAll.mono_l k
    · intro y0 y1 y2 y3 y4 y5 y6
      unfold tallyroomlaw08_FrameAll.l0
      repeat' first
      | (with_reducible exact ih0 _ _ _ _ _ _ _)
      | (with_reducible exact frame_All.mono _ _)
      | (with_reducible exact tallyroomlaw08_alive.mono _)
      | (with_reducible exact tallyroomref08_Next.mono _ _)
      | (with_reducible exact LeO.refl _)
      | (with_reducible exact LeO.none _)
      | (with_reducible refine LeO.ite ?_ ?_)
      | (with_reducible refine LeO.bind ?_ (fun _ => ?_))
      | exact ih0 _ _ _ _ _ _ _
      | exact frame_All.mono _ _
      | exact tallyroomlaw08_alive.mono _
      | exact tallyroomref08_Next.mono _ _
      | exact LeO.none _
      | refine LeO.ite ?_ ?_
      | refine LeO.bind ?_ (fun _ => ?_)
theorem tallyroomlaw08_FrameAll.mono : ∀ a0 k, LeO (tallyroomlaw08_FrameAll.f k a0) (tallyroomlaw08_FrameAll.f (k + 1) a0) := by
  intro a0 k
  have ih0 := tallyroomlaw08_FrameAll.mono_l k
  unfold tallyroomlaw08_FrameAll.f
  repeat' first
      | (with_reducible exact ih0 _ _ _ _ _ _ _)
      | (with_reducible exact frame_All.mono _ _)
      | (with_reducible exact tallyroomlaw08_alive.mono _)
      | (with_reducible exact tallyroomref08_Next.mono _ _)
      | (with_reducible exact LeO.refl _)
      | (with_reducible exact LeO.none _)
      | (with_reducible refine LeO.ite ?_ ?_)
      | (with_reducible refine LeO.bind ?_ (fun _ => ?_))
      | exact ih0 _ _ _ _ _ _ _
      | exact frame_All.mono _ _
      | exact tallyroomlaw08_alive.mono _
      | exact tallyroomref08_Next.mono _ _
      | exact LeO.none _
      | refine LeO.ite ?_ ?_
      | refine LeO.bind ?_ (fun _ => ?_)
set_option maxHeartbeats 8000000 in
set_option maxRecDepth 100000 in
theorem tallyroomlaw08_FrameAll.calls (k : Nat) (A0 : Option Addr) (c0 : Nat) (l0 : List Int) (r : Bool) (w : World) (hr0 : Kd.C (Kd.int .u8) w A0 l0.length l0) (hc0 : l0.length ≤ c0) (h : tallyroomlaw08_FrameAll.f k l0 = some r) :
    Calls Try.prog 12 #[.slice A0 l0.length c0] w fun e w' => e = .returned (.bool r) ∧ Below w.heap.size w w' := by
  have HR0 := Aside0.mk hr0
  have HC0 := Aside0.mk hc0
  clear hr0 hc0
  have HB := Aside0.mk (Below.refl w.heap.size w)
  have H : ((tallyroomlaw08_alive.f k).bind fun t214 => (if t214 = true then (if (l0.length : Int) > 3000 then (some true) else ((frame_All.f k l0).bind fun bt215 => (tallyroomlaw08_FrameAll.l0 k l0 bt215.1 bt215.2.1 bt215.2.2 0 0 0))) else (some false))) = some r := h
  clear h
  replace H := Option.bind_eq_some_iff.mp H
  obtain ⟨t214, A20, H⟩ := H
  replace H : (if t214 = true then (if (l0.length : Int) > 3000 then (some true) else ((frame_All.f k l0).bind fun bt215 => (tallyroomlaw08_FrameAll.l0 k l0 bt215.1 bt215.2.1 bt215.2.2 0 0 0))) else (some false)) = some r := H
  have A2 := Aside0.mk A20
  clear A20
  by_cases c3 : t214 = true
  · subst c3
    have H1 : (if (l0.length : Int) > 3000 then (some true) else ((frame_All.f k l0).bind fun bt215 => (tallyroomlaw08_FrameAll.l0 k l0 bt215.1 bt215.2.1 bt215.2.2 0 0 0))) = some r := by rw [if_pos rfl] at H; exact H
    clear H
    have H := H1
    clear H1
    by_cases c4 : (l0.length : Int) > 3000
    · rw [if_pos c4] at H
      have c4b0 : decide (3000 < (l0.length : Int)) = true := decide_eq_true c4
      have c4b1 : decide (3000 < l0.length) = true := decide_eq_true (by omega)
      clear c4
      obtain rfl := Option.some.inj H
      go_enter Try.func12, Try.ntmps12
      go_wp2_with (first | ((with_reducible refine gate_callee (f := 32) rfl ?_); refine goesL_ (some 12) rfl rfl Try.func32 (by kernel_rfl) rfl #[] rfl (by (try simp only [List.map_toArray, List.map_cons, List.map_nil]); first | done | rfl | (simp only [List.length_drop, List.length_take]; rfl)) ?_; (with_reducible refine (tallyroomlaw08_alive.calls k  true _ A2.out).mono ?_); rintro e w5 ⟨rfl, hb⟩; refine ⟨_, rfl, ?_⟩; have n0_ := Aside0.mk (below_step (by repeat (first | (with_reducible first | exact HB.out | apply below_alloc | apply pw_below_drewN | apply below_drew1) | exact HB.out)) hb); clear HB; have HB := n0_; clear n0_; (try clear hb); (try clear hb2); (try clear hk); (try clear hi)))
      go_ret
      exact ⟨by first | rfl | (have e_ := Option.some.inj (A6.out.symm.trans A12.out); simp only [Prod.mk.injEq] at e_; obtain ⟨rfl, rfl, rfl⟩ := e_; first | rfl | (simp [*, errW_none, errW_some] <;> rfl)) | (simp [errW_none, errW_some] <;> rfl) | (simp [*, errW_none, errW_some] <;> rfl), by repeat (first | (with_reducible first | exact HB.out | apply below_alloc | apply pw_below_drewN | apply below_drew1) | exact HB.out)⟩
    · rw [if_neg c4] at H
      have c4b0 : decide (3000 < (l0.length : Int)) = false := decide_eq_false c4
      have c4b1 : decide (3000 < l0.length) = false := decide_eq_false (by omega)
      clear c4
      replace H := Option.bind_eq_some_iff.mp H
      obtain ⟨⟨t215, t216, t217⟩, A60, H⟩ := H
      replace H : (tallyroomlaw08_FrameAll.l0 k l0 t215 t216 t217 0 0 0) = some r := H
      have A6 := Aside0.mk A60
      clear A60
      have H' := Aside0.mk H
      clear H
      go_enter Try.func12, Try.ntmps12
      go_wp2_with (first | ((with_reducible refine gate_callee (f := 32) rfl ?_); refine goesL_ (some 12) rfl rfl Try.func32 (by kernel_rfl) rfl #[] rfl (by (try simp only [List.map_toArray, List.map_cons, List.map_nil]); first | done | rfl | (simp only [List.length_drop, List.length_take]; rfl)) ?_; (with_reducible refine (tallyroomlaw08_alive.calls k  true _ A2.out).mono ?_); rintro e w7 ⟨rfl, hb⟩; refine ⟨_, rfl, ?_⟩; have n0_ := Aside0.mk (below_step (by repeat (first | (with_reducible first | exact HB.out | apply below_alloc | apply pw_below_drewN | apply below_drew1) | exact HB.out)) hb); clear HB; have HB := n0_; clear n0_; (try clear hb); (try clear hb2); (try clear hk); (try clear hi)) | ((with_reducible refine gate_callee (f := 37) rfl ?_); refine goesL_ (some 19) rfl rfl Try.func37 (by kernel_rfl) rfl #[.slice A0 l0.length c0] rfl (by (try simp only [List.map_toArray, List.map_cons, List.map_nil]); first | done | rfl | (simp only [List.length_drop, List.length_take]; rfl)) ?_; (with_reducible refine (frame_All.calls k _ _ l0 t215 t216 t217 _ ?side1 ?side2 A6.out).mono ?_); (case side1 => repeat (first | exact (Kd.C_below HR0.out HB.out) | (with_reducible refine Kd.C_alloc ?_ _) | (with_reducible refine Kd.C_drewN ?_ _) | (with_reducible refine Kd.C_drew ?_))); (case side2 => exact HC0.out); rintro e w8 ⟨v218, rfl, ho0, hb⟩; refine ⟨_, rfl, ?_⟩; have n0_ := Aside0.mk (Kd.S_lower ho0 (below_size (by repeat (first | (with_reducible first | exact HB.out | apply below_alloc | apply pw_below_drewN | apply below_drew1) | exact HB.out)))); have n1_ := Aside0.mk (below_step (by repeat (first | (with_reducible first | exact HB.out | apply below_alloc | apply pw_below_drewN | apply below_drew1) | exact HB.out)) hb); clear HB; have HO219 := n0_; have HB := n1_; clear n0_ n1_; (try clear hb); (try clear hb2); (try clear hk); (try clear hi); (try clear ho0)))
      go_loopg [6, 7, 8] k (fun kq v6 v7 v8 w' => ∃ (x6_1 : Int) (x7_1 : Int) (x8_1 : Int), v6 = .int .i64 x6_1 ∧ v7 = .int .i64 x7_1 ∧ v8 = .int .i64 x8_1 ∧ Aside0 (tallyroomlaw08_FrameAll.l0 kq l0 t215 t216 t217 x6_1 x7_1 x8_1 = some r) ∧ Aside0 (kq ≤ k) ∧ Aside0 (Kd.S (Kd.slice 5 (Kd.int .u8)) 22 w' w.heap.size (fun _ => True) v218 t215) ∧ Aside0 (Below w.heap.size w w'))
      case atStart => exact ⟨(0), (0), (0), (by first | rfl | (simp; done) | (simp [*]; done)), (by first | rfl | (simp; done) | (simp [*]; done)), (by first | rfl | (simp; done) | (simp [*]; done)), H', ⟨Nat.le_refl _⟩, ⟨by (with_reducible repeat (first | apply Kd.S_alloc | apply Kd.S_drewN | apply Kd.S_drew)); exact HO219.out⟩, ⟨by repeat (first | (with_reducible first | exact HB.out | apply below_alloc | apply pw_below_drewN | apply below_drew1) | exact HB.out)⟩⟩
      case round =>
        clear H'
        try clear c1
        try clear p2
        try clear c3
        try clear c4
        try clear c4b0
        try clear c4b1
        obtain ⟨x6_1, x7_1, x8_1, rfl, rfl, rfl, HA, HK1, HO_3, HB⟩ := hrel
        cases gk with
        | zero => exact absurd HA.out (by simp [tallyroomlaw08_FrameAll.l0])
        | succ k1 =>
          have H := HA.out
          clear HA
          simp only [tallyroomlaw08_FrameAll.l0] at H
          by_cases c9 : x8_1 < (l0.length : Int)
          · rw [if_pos c9] at H
            have c9b0 : decide (x8_1 < (l0.length : Int)) = true := decide_eq_true c9
            clear c9
            by_cases c10 : 0 ≤ x8_1
            · rw [if_pos c10] at H
              have c10b0 := eq_true c10
              have c10b1 : decide (0 ≤ x8_1) = true := decide_eq_true c10
              clear c10
              by_cases c11 : x8_1 ≤ (l0.length : Int)
              · rw [if_pos c11] at H
                have c11b0 := eq_true c11
                have c11b1 : decide (x8_1 ≤ (l0.length : Int)) = true := decide_eq_true c11
                clear c11
                replace H := Option.bind_eq_some_iff.mp H
                obtain ⟨⟨t221, t224, t225⟩, A120, H⟩ := H
                replace H : (if t224 = 0 then (if x6_1 = (t215.length : Int) then (if t216 = x7_1 then (some (t217 == x8_1)) else (some false)) else (some false)) else (if t225 = 0 then (if x6_1 ≥ (t215.length : Int) then (some false) else (if 0 ≤ x6_1 then (if x6_1 < (t215.length : Int) then ((tallyroomref01_Bytes.f (rd_L1 t215 x6_1) t221).bind fun t227 => (if t227 = true then (tallyroomlaw08_FrameAll.l0 k1 l0 t215 t216 t217 (wrap64 (x6_1 + 1)) x7_1 (wrap64 (x8_1 + t224))) else (some false))) else (none)) else (none))) else (tallyroomlaw08_FrameAll.l0 k1 l0 t215 t216 t217 x6_1 (wrap64 (x7_1 + 1)) (wrap64 (x8_1 + t224))))) = some r := H
                have A12 := Aside0.mk A120
                clear A120
                by_cases c13 : t224 = 0
                · rw [if_pos c13] at H
                  have c13b0 : (t224 == 0) = true := beq_iff_eq.mpr c13
                  have c13b1 : (t224 != 0) = false := bne_eq_false_iff_eq.mpr c13
                  clear c13
                  by_cases c14 : x6_1 = (t215.length : Int)
                  · rw [if_pos c14] at H
                    have c14b0 : (x6_1 == (t215.length : Int)) = true := beq_iff_eq.mpr c14
                    have c14b1 : (x6_1 != (t215.length : Int)) = false := bne_eq_false_iff_eq.mpr c14
                    clear c14
                    by_cases c15 : t216 = x7_1
                    · rw [if_pos c15] at H
                      have c15b0 : (t216 == x7_1) = true := beq_iff_eq.mpr c15
                      have c15b1 : (t216 != x7_1) = false := bne_eq_false_iff_eq.mpr c15
                      clear c15
                      obtain rfl := Option.some.inj H
                      obtain ⟨i016, hi016, _, hsz16, _⟩ := info_parts info5
                      obtain ⟨A16, hcut16, hA16, hC16⟩ := print_drop_of (P := Try.prog) (Value.int .u8) 0 22 5 .i64 Try.underlying22 hi016 hsz16 A0 c0 l0 x8_1 (of_decide_eq_true (by first | (with_reducible assumption) | assumption)) (of_decide_eq_true (by first | (with_reducible assumption) | assumption)) HC0.out
                      have HR220 := Aside0.mk (Kd.C_of_reads (h1 := fun _ => rfl) (hA16 _ (Kd.reads_of_C HR0.out)))
                      have HC220 := Aside0.mk hC16
                      clear hA16 hC16 hi016 hsz16
                      go_wp2_with (first | ((with_reducible refine gate_callee (f := 34) rfl ?_); refine goesL_ (some 31) rfl rfl Try.func34 (by kernel_rfl) rfl #[.slice A16 (l0.drop (x8_1 : Int).toNat).length (c0 - x8_1.toNat)] rfl (by (try simp only [List.map_toArray, List.map_cons, List.map_nil]); first | done | (rw [show (l0.drop (x8_1 : Int).toNat).length = (l0.length - x8_1.toNat) from List.length_drop] <;> rfl) | rfl | (simp only [List.length_drop, List.length_take]; rfl)) ?_; (with_reducible refine (tallyroomref08_Next.calls k1 (fun k_ => k_ < w.heap.size) _ _ (l0.drop (x8_1 : Int).toNat) t221 t224 t225 _ ?side1 A12.out).mono ?_); (case side1 => exact Kd.V_mk HC220.out (Kd.F_below (Kd.C_F (Kd.heap_int .u8) HR220.out) (by repeat (first | (with_reducible first | exact HB.out | apply below_alloc | apply pw_below_drewN | apply below_drew1) | exact HB.out)))); rintro e w17 ⟨v222, rfl, ho0, hb⟩; refine ⟨_, rfl, ?_⟩; have n0_ := Aside0.mk (Kd.S_below (by (with_reducible repeat (first | apply Kd.S_alloc | apply Kd.S_drewN | apply Kd.S_drew)); exact HO_3.out) hb); have n1_ := Aside0.mk (Kd.V_lower (Kd.V_mono (ok' := fun k_ => some k_ ≠ (v218 : Value).ownBlock) ho0 (fun k_ hk_ => Or.elim hk_ (fun hs_ => fun e_ => Nat.not_le.2 hs_ (Kd.S_base HO_3.out k_ e_.symm)) (fun hn_ => (Kd.fresh' (Kd.S_lt (by (with_reducible repeat (first | apply Kd.S_alloc | apply Kd.S_drewN | apply Kd.S_drew)); exact HO_3.out)) k_ hn_)))) (below_size (by repeat (first | (with_reducible first | exact HB.out | apply below_alloc | apply pw_below_drewN | apply below_drew1) | exact HB.out)))); have n2_ := Aside0.mk (below_step (by repeat (first | (with_reducible first | exact HB.out | apply below_alloc | apply pw_below_drewN | apply below_drew1) | exact HB.out)) hb); clear HO_3; clear HB; have HO_3 := n0_; have HO223 := n1_; have HB := n2_; clear n0_ n1_ n2_; (try clear hb); (try clear hb2); (try clear hk); (try clear hi); (try clear ho0); obtain ⟨Ao18, co18, eo18⟩ := Kd.S_slice HO_3.out; subst eo18))
                      go_ret
                      exact ⟨by first | rfl | (have e_ := Option.some.inj (A6.out.symm.trans A12.out); simp only [Prod.mk.injEq] at e_; obtain ⟨rfl, rfl, rfl⟩ := e_; first | rfl | (simp [*, errW_none, errW_some] <;> rfl)) | (simp [errW_none, errW_some] <;> rfl) | (simp [*, errW_none, errW_some] <;> rfl), by repeat (first | (with_reducible first | exact HB.out | apply below_alloc | apply pw_below_drewN | apply below_drew1) | exact HB.out)⟩
                    · rw [if_neg c15] at H
                      have c15b0 : (t216 == x7_1) = false := beq_eq_false_iff_ne.mpr c15
                      have c15b1 : (t216 != x7_1) = true := bne_iff_ne.mpr c15
                      obtain rfl := Option.some.inj H
                      obtain ⟨i019, hi019, _, hsz19, _⟩ := info_parts info5
                      obtain ⟨A19, hcut19, hA19, hC19⟩ := print_drop_of (P := Try.prog) (Value.int .u8) 0 22 5 .i64 Try.underlying22 hi019 hsz19 A0 c0 l0 x8_1 (of_decide_eq_true (by first | (with_reducible assumption) | assumption)) (of_decide_eq_true (by first | (with_reducible assumption) | assumption)) HC0.out
                      have HR220 := Aside0.mk (Kd.C_of_reads (h1 := fun _ => rfl) (hA19 _ (Kd.reads_of_C HR0.out)))
                      have HC220 := Aside0.mk hC19
                      clear hA19 hC19 hi019 hsz19
                      go_wp2_with (first | ((with_reducible refine gate_callee (f := 34) rfl ?_); refine goesL_ (some 31) rfl rfl Try.func34 (by kernel_rfl) rfl #[.slice A19 (l0.drop (x8_1 : Int).toNat).length (c0 - x8_1.toNat)] rfl (by (try simp only [List.map_toArray, List.map_cons, List.map_nil]); first | done | (rw [show (l0.drop (x8_1 : Int).toNat).length = (l0.length - x8_1.toNat) from List.length_drop] <;> rfl) | rfl | (simp only [List.length_drop, List.length_take]; rfl)) ?_; (with_reducible refine (tallyroomref08_Next.calls k1 (fun k_ => k_ < w.heap.size) _ _ (l0.drop (x8_1 : Int).toNat) t221 t224 t225 _ ?side1 A12.out).mono ?_); (case side1 => exact Kd.V_mk HC220.out (Kd.F_below (Kd.C_F (Kd.heap_int .u8) HR220.out) (by repeat (first | (with_reducible first | exact HB.out | apply below_alloc | apply pw_below_drewN | apply below_drew1) | exact HB.out)))); rintro e w20 ⟨v222, rfl, ho0, hb⟩; refine ⟨_, rfl, ?_⟩; have n0_ := Aside0.mk (Kd.S_below (by (with_reducible repeat (first | apply Kd.S_alloc | apply Kd.S_drewN | apply Kd.S_drew)); exact HO_3.out) hb); have n1_ := Aside0.mk (Kd.V_lower (Kd.V_mono (ok' := fun k_ => some k_ ≠ (v218 : Value).ownBlock) ho0 (fun k_ hk_ => Or.elim hk_ (fun hs_ => fun e_ => Nat.not_le.2 hs_ (Kd.S_base HO_3.out k_ e_.symm)) (fun hn_ => (Kd.fresh' (Kd.S_lt (by (with_reducible repeat (first | apply Kd.S_alloc | apply Kd.S_drewN | apply Kd.S_drew)); exact HO_3.out)) k_ hn_)))) (below_size (by repeat (first | (with_reducible first | exact HB.out | apply below_alloc | apply pw_below_drewN | apply below_drew1) | exact HB.out)))); have n2_ := Aside0.mk (below_step (by repeat (first | (with_reducible first | exact HB.out | apply below_alloc | apply pw_below_drewN | apply below_drew1) | exact HB.out)) hb); clear HO_3; clear HB; have HO_3 := n0_; have HO223 := n1_; have HB := n2_; clear n0_ n1_ n2_; (try clear hb); (try clear hb2); (try clear hk); (try clear hi); (try clear ho0); obtain ⟨Ao21, co21, eo21⟩ := Kd.S_slice HO_3.out; subst eo21))
                      go_ret
                      exact ⟨by first | rfl | (have e_ := Option.some.inj (A6.out.symm.trans A12.out); simp only [Prod.mk.injEq] at e_; obtain ⟨rfl, rfl, rfl⟩ := e_; first | rfl | (simp [*, errW_none, errW_some] <;> rfl)) | (simp [errW_none, errW_some] <;> rfl) | (simp [*, errW_none, errW_some] <;> rfl), by repeat (first | (with_reducible first | exact HB.out | apply below_alloc | apply pw_below_drewN | apply below_drew1) | exact HB.out)⟩
                  · rw [if_neg c14] at H
                    have c14b0 : (x6_1 == (t215.length : Int)) = false := beq_eq_false_iff_ne.mpr c14
                    have c14b1 : (x6_1 != (t215.length : Int)) = true := bne_iff_ne.mpr c14
                    obtain rfl := Option.some.inj H
                    obtain ⟨i022, hi022, _, hsz22, _⟩ := info_parts info5
                    obtain ⟨A22, hcut22, hA22, hC22⟩ := print_drop_of (P := Try.prog) (Value.int .u8) 0 22 5 .i64 Try.underlying22 hi022 hsz22 A0 c0 l0 x8_1 (of_decide_eq_true (by first | (with_reducible assumption) | assumption)) (of_decide_eq_true (by first | (with_reducible assumption) | assumption)) HC0.out
                    have HR220 := Aside0.mk (Kd.C_of_reads (h1 := fun _ => rfl) (hA22 _ (Kd.reads_of_C HR0.out)))
                    have HC220 := Aside0.mk hC22
                    clear hA22 hC22 hi022 hsz22
                    go_wp2_with (first | ((with_reducible refine gate_callee (f := 34) rfl ?_); refine goesL_ (some 31) rfl rfl Try.func34 (by kernel_rfl) rfl #[.slice A22 (l0.drop (x8_1 : Int).toNat).length (c0 - x8_1.toNat)] rfl (by (try simp only [List.map_toArray, List.map_cons, List.map_nil]); first | done | (rw [show (l0.drop (x8_1 : Int).toNat).length = (l0.length - x8_1.toNat) from List.length_drop] <;> rfl) | rfl | (simp only [List.length_drop, List.length_take]; rfl)) ?_; (with_reducible refine (tallyroomref08_Next.calls k1 (fun k_ => k_ < w.heap.size) _ _ (l0.drop (x8_1 : Int).toNat) t221 t224 t225 _ ?side1 A12.out).mono ?_); (case side1 => exact Kd.V_mk HC220.out (Kd.F_below (Kd.C_F (Kd.heap_int .u8) HR220.out) (by repeat (first | (with_reducible first | exact HB.out | apply below_alloc | apply pw_below_drewN | apply below_drew1) | exact HB.out)))); rintro e w23 ⟨v222, rfl, ho0, hb⟩; refine ⟨_, rfl, ?_⟩; have n0_ := Aside0.mk (Kd.S_below (by (with_reducible repeat (first | apply Kd.S_alloc | apply Kd.S_drewN | apply Kd.S_drew)); exact HO_3.out) hb); have n1_ := Aside0.mk (Kd.V_lower (Kd.V_mono (ok' := fun k_ => some k_ ≠ (v218 : Value).ownBlock) ho0 (fun k_ hk_ => Or.elim hk_ (fun hs_ => fun e_ => Nat.not_le.2 hs_ (Kd.S_base HO_3.out k_ e_.symm)) (fun hn_ => (Kd.fresh' (Kd.S_lt (by (with_reducible repeat (first | apply Kd.S_alloc | apply Kd.S_drewN | apply Kd.S_drew)); exact HO_3.out)) k_ hn_)))) (below_size (by repeat (first | (with_reducible first | exact HB.out | apply below_alloc | apply pw_below_drewN | apply below_drew1) | exact HB.out)))); have n2_ := Aside0.mk (below_step (by repeat (first | (with_reducible first | exact HB.out | apply below_alloc | apply pw_below_drewN | apply below_drew1) | exact HB.out)) hb); clear HO_3; clear HB; have HO_3 := n0_; have HO223 := n1_; have HB := n2_; clear n0_ n1_ n2_; (try clear hb); (try clear hb2); (try clear hk); (try clear hi); (try clear ho0); obtain ⟨Ao24, co24, eo24⟩ := Kd.S_slice HO_3.out; subst eo24))
                    go_ret
                    exact ⟨by first | rfl | (have e_ := Option.some.inj (A6.out.symm.trans A12.out); simp only [Prod.mk.injEq] at e_; obtain ⟨rfl, rfl, rfl⟩ := e_; first | rfl | (simp [*, errW_none, errW_some] <;> rfl)) | (simp [errW_none, errW_some] <;> rfl) | (simp [*, errW_none, errW_some] <;> rfl), by repeat (first | (with_reducible first | exact HB.out | apply below_alloc | apply pw_below_drewN | apply below_drew1) | exact HB.out)⟩
                · rw [if_neg c13] at H
                  have c13b0 : (t224 == 0) = false := beq_eq_false_iff_ne.mpr c13
                  have c13b1 : (t224 != 0) = true := bne_iff_ne.mpr c13
                  by_cases c25 : t225 = 0
                  · rw [if_pos c25] at H
                    have c25b0 : (t225 == 0) = true := beq_iff_eq.mpr c25
                    have c25b1 : (t225 != 0) = false := bne_eq_false_iff_eq.mpr c25
                    clear c25
                    by_cases c26 : x6_1 ≥ (t215.length : Int)
                    · rw [if_pos c26] at H
                      have c26b0 : decide ((t215.length : Int) ≤ x6_1) = true := decide_eq_true c26
                      clear c26
                      obtain rfl := Option.some.inj H
                      obtain ⟨i027, hi027, _, hsz27, _⟩ := info_parts info5
                      obtain ⟨A27, hcut27, hA27, hC27⟩ := print_drop_of (P := Try.prog) (Value.int .u8) 0 22 5 .i64 Try.underlying22 hi027 hsz27 A0 c0 l0 x8_1 (of_decide_eq_true (by first | (with_reducible assumption) | assumption)) (of_decide_eq_true (by first | (with_reducible assumption) | assumption)) HC0.out
                      have HR220 := Aside0.mk (Kd.C_of_reads (h1 := fun _ => rfl) (hA27 _ (Kd.reads_of_C HR0.out)))
                      have HC220 := Aside0.mk hC27
                      clear hA27 hC27 hi027 hsz27
                      go_wp2_with (first | ((with_reducible refine gate_callee (f := 34) rfl ?_); refine goesL_ (some 31) rfl rfl Try.func34 (by kernel_rfl) rfl #[.slice A27 (l0.drop (x8_1 : Int).toNat).length (c0 - x8_1.toNat)] rfl (by (try simp only [List.map_toArray, List.map_cons, List.map_nil]); first | done | (rw [show (l0.drop (x8_1 : Int).toNat).length = (l0.length - x8_1.toNat) from List.length_drop] <;> rfl) | rfl | (simp only [List.length_drop, List.length_take]; rfl)) ?_; (with_reducible refine (tallyroomref08_Next.calls k1 (fun k_ => k_ < w.heap.size) _ _ (l0.drop (x8_1 : Int).toNat) t221 t224 t225 _ ?side1 A12.out).mono ?_); (case side1 => exact Kd.V_mk HC220.out (Kd.F_below (Kd.C_F (Kd.heap_int .u8) HR220.out) (by repeat (first | (with_reducible first | exact HB.out | apply below_alloc | apply pw_below_drewN | apply below_drew1) | exact HB.out)))); rintro e w28 ⟨v222, rfl, ho0, hb⟩; refine ⟨_, rfl, ?_⟩; have n0_ := Aside0.mk (Kd.S_below (by (with_reducible repeat (first | apply Kd.S_alloc | apply Kd.S_drewN | apply Kd.S_drew)); exact HO_3.out) hb); have n1_ := Aside0.mk (Kd.V_lower (Kd.V_mono (ok' := fun k_ => some k_ ≠ (v218 : Value).ownBlock) ho0 (fun k_ hk_ => Or.elim hk_ (fun hs_ => fun e_ => Nat.not_le.2 hs_ (Kd.S_base HO_3.out k_ e_.symm)) (fun hn_ => (Kd.fresh' (Kd.S_lt (by (with_reducible repeat (first | apply Kd.S_alloc | apply Kd.S_drewN | apply Kd.S_drew)); exact HO_3.out)) k_ hn_)))) (below_size (by repeat (first | (with_reducible first | exact HB.out | apply below_alloc | apply pw_below_drewN | apply below_drew1) | exact HB.out)))); have n2_ := Aside0.mk (below_step (by repeat (first | (with_reducible first | exact HB.out | apply below_alloc | apply pw_below_drewN | apply below_drew1) | exact HB.out)) hb); clear HO_3; clear HB; have HO_3 := n0_; have HO223 := n1_; have HB := n2_; clear n0_ n1_ n2_; (try clear hb); (try clear hb2); (try clear hk); (try clear hi); (try clear ho0); obtain ⟨Ao29, co29, eo29⟩ := Kd.S_slice HO_3.out; subst eo29))
                      go_ret
                      exact ⟨by first | rfl | (have e_ := Option.some.inj (A6.out.symm.trans A12.out); simp only [Prod.mk.injEq] at e_; obtain ⟨rfl, rfl, rfl⟩ := e_; first | rfl | (simp [*, errW_none, errW_some] <;> rfl)) | (simp [errW_none, errW_some] <;> rfl) | (simp [*, errW_none, errW_some] <;> rfl), by repeat (first | (with_reducible first | exact HB.out | apply below_alloc | apply pw_below_drewN | apply below_drew1) | exact HB.out)⟩
                    · rw [if_neg c26] at H
                      have c26b0 : decide ((t215.length : Int) ≤ x6_1) = false := decide_eq_false c26
                      clear c26
                      by_cases c30 : 0 ≤ x6_1
                      · rw [if_pos c30] at H
                        have c30b0 : decide (0 ≤ x6_1) = true := decide_eq_true c30
                        clear c30
                        by_cases c31 : x6_1 < (t215.length : Int)
                        · rw [if_pos c31] at H
                          have c31b0 : decide (x6_1 < (t215.length : Int)) = true := decide_eq_true c31
                          clear c31
                          replace H := Option.bind_eq_some_iff.mp H
                          obtain ⟨t227, A320, H⟩ := H
                          replace H : (if t227 = true then (tallyroomlaw08_FrameAll.l0 k1 l0 t215 t216 t217 (wrap64 (x6_1 + 1)) x7_1 (wrap64 (x8_1 + t224))) else (some false)) = some r := H
                          have A32 := Aside0.mk A320
                          clear A320
                          by_cases c33 : t227 = true
                          · subst c33
                            have H1 : (tallyroomlaw08_FrameAll.l0 k1 l0 t215 t216 t217 (wrap64 (x6_1 + 1)) x7_1 (wrap64 (x8_1 + t224))) = some r := by rw [if_pos rfl] at H; exact H
                            clear H
                            have H := H1
                            clear H1
                            have H' := Aside0.mk H
                            clear H
                            obtain ⟨i034, hi034, _, hsz34, _⟩ := info_parts info5
                            obtain ⟨A34, hcut34, hA34, hC34⟩ := print_drop_of (P := Try.prog) (Value.int .u8) 0 22 5 .i64 Try.underlying22 hi034 hsz34 A0 c0 l0 x8_1 (of_decide_eq_true (by first | (with_reducible assumption) | assumption)) (of_decide_eq_true (by first | (with_reducible assumption) | assumption)) HC0.out
                            have HR220 := Aside0.mk (Kd.C_of_reads (h1 := fun _ => rfl) (hA34 _ (Kd.reads_of_C HR0.out)))
                            have HC220 := Aside0.mk hC34
                            clear hA34 hC34 hi034 hsz34
                            go_wp2_with (first | ((with_reducible refine gate_callee (f := 34) rfl ?_); refine goesL_ (some 31) rfl rfl Try.func34 (by kernel_rfl) rfl #[.slice A34 (l0.drop (x8_1 : Int).toNat).length (c0 - x8_1.toNat)] rfl (by (try simp only [List.map_toArray, List.map_cons, List.map_nil]); first | done | (rw [show (l0.drop (x8_1 : Int).toNat).length = (l0.length - x8_1.toNat) from List.length_drop] <;> rfl) | rfl | (simp only [List.length_drop, List.length_take]; rfl)) ?_; (with_reducible refine (tallyroomref08_Next.calls k1 (fun k_ => k_ < w.heap.size) _ _ (l0.drop (x8_1 : Int).toNat) t221 t224 t225 _ ?side1 A12.out).mono ?_); (case side1 => exact Kd.V_mk HC220.out (Kd.F_below (Kd.C_F (Kd.heap_int .u8) HR220.out) (by repeat (first | (with_reducible first | exact HB.out | apply below_alloc | apply pw_below_drewN | apply below_drew1) | exact HB.out)))); rintro e w35 ⟨v222, rfl, ho0, hb⟩; refine ⟨_, rfl, ?_⟩; have n0_ := Aside0.mk (Kd.S_below (by (with_reducible repeat (first | apply Kd.S_alloc | apply Kd.S_drewN | apply Kd.S_drew)); exact HO_3.out) hb); have n1_ := Aside0.mk (Kd.V_lower (Kd.V_mono (ok' := fun k_ => some k_ ≠ (v218 : Value).ownBlock) ho0 (fun k_ hk_ => Or.elim hk_ (fun hs_ => fun e_ => Nat.not_le.2 hs_ (Kd.S_base HO_3.out k_ e_.symm)) (fun hn_ => (Kd.fresh' (Kd.S_lt (by (with_reducible repeat (first | apply Kd.S_alloc | apply Kd.S_drewN | apply Kd.S_drew)); exact HO_3.out)) k_ hn_)))) (below_size (by repeat (first | (with_reducible first | exact HB.out | apply below_alloc | apply pw_below_drewN | apply below_drew1) | exact HB.out)))); have n2_ := Aside0.mk (below_step (by repeat (first | (with_reducible first | exact HB.out | apply below_alloc | apply pw_below_drewN | apply below_drew1) | exact HB.out)) hb); clear HO_3; clear HB; have HO_3 := n0_; have HO223 := n1_; have HB := n2_; clear n0_ n1_ n2_; (try clear hb); (try clear hb2); (try clear hk); (try clear hi); (try clear ho0); obtain ⟨Ao36, co36, eo36⟩ := Kd.S_slice HO_3.out; subst eo36; have p226 : 0 ≤ (x6_1 : Int) := of_decide_eq_true (by first | (with_reducible assumption) | assumption); have q226 : x6_1 < (t215.length : Int) := of_decide_eq_true (by first | (with_reducible assumption) | assumption); obtain ⟨ad226, A226_0, c226_0, e226, hx226_0, hl226_0, hi226_0⟩ := at_L1 (Kd.S_reads' HO_3.out).2.2 x6_1 p226 q226; cases e226; obtain ⟨ce226, hce226, hMe226, hcc226⟩ := Kd.S_get HO_3.out [] x6_1 p226 (by first | exact q226 | exact of_decide_eq_true (by first | (with_reducible assumption) | assumption) | (have e_ := (Kd.S_reads' HO_3.out).1; omega)); obtain ⟨ve226_0, rfl, ge226_0⟩ := hMe226; have hv226_0 := hcc226 0 _ rfl; rw [Nat.add_zero, show ((Kd.slice 5 (Kd.int .u8))).sz = 1 from rfl, Nat.mul_one] at hv226_0; replace hv226_0 := Option.some.inj (hv226_0.symm.trans hx226_0); rw [hv226_0] at ge226_0; have HL226_0 := Aside0.mk (show Kd.R (Kd.int .u8) 5 _ _ _ _ (rd_L1 t215 x6_1) from ge226_0); clear hv226_0 ge226_0; clear hcc226 hce226; have HR226_0 := Aside0.mk hi226_0; have HC226_0 := Aside0.mk hl226_0; clear hi226_0 hl226_0; replace p226 := eq_true p226; replace q226 := eq_true q226; obtain ⟨Ao37, co37, eo37⟩ := Kd.V_slice HO223.out; subst eo37) | (go_at_call 21; (with_reducible refine (tallyroomref01_Bytes.calls _ _ (rd_L1 t215 x6_1) _ _ t221 true _ ?side1 ?side2 ?side3 ?side4 A32.out).mono ?_); (case side1 => repeat (first | exact (by repeat (first | (with_reducible exact HR226_0.out) | (with_reducible refine Kd.C_alloc ?_ _) | (with_reducible refine Kd.C_drewN ?_ _) | (with_reducible refine Kd.C_drew ?_) | exact HR226_0.out)) | (with_reducible refine Kd.C_alloc ?_ _) | (with_reducible refine Kd.C_drewN ?_ _) | (with_reducible refine Kd.C_drew ?_))); (case side2 => exact HC226_0.out); (case side3 => repeat (first | exact (Kd.V_reads' HO223.out).2.2 | (with_reducible refine Kd.C_alloc ?_ _) | (with_reducible refine Kd.C_drewN ?_ _) | (with_reducible refine Kd.C_drew ?_))); (case side4 => exact (Kd.V_reads' HO223.out).2.1); rintro e w' ⟨rfl, ⟨nd, rfl⟩⟩))
                            go_roundg k1
                            case measure => have := HK1.out; omega
                            case rel => exact ⟨(wrap64 (x6_1 + 1)), (x7_1), (wrap64 (x8_1 + t224)), (by first | rfl | (simp; done) | (simp [*]; done)), (by first | rfl | (simp; done) | (simp [*]; done)), (by first | rfl | (simp; done) | (simp [*]; done)), H', ⟨by have := HK1.out; omega⟩, ⟨by (with_reducible repeat (first | apply Kd.S_alloc | apply Kd.S_drewN | apply Kd.S_drew)); exact HO_3.out⟩, ⟨by repeat (first | (with_reducible first | exact HB.out | apply below_alloc | apply pw_below_drewN | apply below_drew1) | exact HB.out)⟩⟩
                          · replace c33 := Bool.eq_false_iff.mpr c33
                            subst c33
                            have H1 : (some false) = some r := by rw [if_neg (show ¬ (false = true) by decide)] at H; exact H
                            clear H
                            have H := H1
                            clear H1
                            obtain rfl := Option.some.inj H
                            obtain ⟨i038, hi038, _, hsz38, _⟩ := info_parts info5
                            obtain ⟨A38, hcut38, hA38, hC38⟩ := print_drop_of (P := Try.prog) (Value.int .u8) 0 22 5 .i64 Try.underlying22 hi038 hsz38 A0 c0 l0 x8_1 (of_decide_eq_true (by first | (with_reducible assumption) | assumption)) (of_decide_eq_true (by first | (with_reducible assumption) | assumption)) HC0.out
                            have HR220 := Aside0.mk (Kd.C_of_reads (h1 := fun _ => rfl) (hA38 _ (Kd.reads_of_C HR0.out)))
                            have HC220 := Aside0.mk hC38
                            clear hA38 hC38 hi038 hsz38
                            go_wp2_with (first | ((with_reducible refine gate_callee (f := 34) rfl ?_); refine goesL_ (some 31) rfl rfl Try.func34 (by kernel_rfl) rfl #[.slice A38 (l0.drop (x8_1 : Int).toNat).length (c0 - x8_1.toNat)] rfl (by (try simp only [List.map_toArray, List.map_cons, List.map_nil]); first | done | (rw [show (l0.drop (x8_1 : Int).toNat).length = (l0.length - x8_1.toNat) from List.length_drop] <;> rfl) | rfl | (simp only [List.length_drop, List.length_take]; rfl)) ?_; (with_reducible refine (tallyroomref08_Next.calls k1 (fun k_ => k_ < w.heap.size) _ _ (l0.drop (x8_1 : Int).toNat) t221 t224 t225 _ ?side1 A12.out).mono ?_); (case side1 => exact Kd.V_mk HC220.out (Kd.F_below (Kd.C_F (Kd.heap_int .u8) HR220.out) (by repeat (first | (with_reducible first | exact HB.out | apply below_alloc | apply pw_below_drewN | apply below_drew1) | exact HB.out)))); rintro e w39 ⟨v222, rfl, ho0, hb⟩; refine ⟨_, rfl, ?_⟩; have n0_ := Aside0.mk (Kd.S_below (by (with_reducible repeat (first | apply Kd.S_alloc | apply Kd.S_drewN | apply Kd.S_drew)); exact HO_3.out) hb); have n1_ := Aside0.mk (Kd.V_lower (Kd.V_mono (ok' := fun k_ => some k_ ≠ (v218 : Value).ownBlock) ho0 (fun k_ hk_ => Or.elim hk_ (fun hs_ => fun e_ => Nat.not_le.2 hs_ (Kd.S_base HO_3.out k_ e_.symm)) (fun hn_ => (Kd.fresh' (Kd.S_lt (by (with_reducible repeat (first | apply Kd.S_alloc | apply Kd.S_drewN | apply Kd.S_drew)); exact HO_3.out)) k_ hn_)))) (below_size (by repeat (first | (with_reducible first | exact HB.out | apply below_alloc | apply pw_below_drewN | apply below_drew1) | exact HB.out)))); have n2_ := Aside0.mk (below_step (by repeat (first | (with_reducible first | exact HB.out | apply below_alloc | apply pw_below_drewN | apply below_drew1) | exact HB.out)) hb); clear HO_3; clear HB; have HO_3 := n0_; have HO223 := n1_; have HB := n2_; clear n0_ n1_ n2_; (try clear hb); (try clear hb2); (try clear hk); (try clear hi); (try clear ho0); obtain ⟨Ao40, co40, eo40⟩ := Kd.S_slice HO_3.out; subst eo40; have p226 : 0 ≤ (x6_1 : Int) := of_decide_eq_true (by first | (with_reducible assumption) | assumption); have q226 : x6_1 < (t215.length : Int) := of_decide_eq_true (by first | (with_reducible assumption) | assumption); obtain ⟨ad226, A226_0, c226_0, e226, hx226_0, hl226_0, hi226_0⟩ := at_L1 (Kd.S_reads' HO_3.out).2.2 x6_1 p226 q226; cases e226; obtain ⟨ce226, hce226, hMe226, hcc226⟩ := Kd.S_get HO_3.out [] x6_1 p226 (by first | exact q226 | exact of_decide_eq_true (by first | (with_reducible assumption) | assumption) | (have e_ := (Kd.S_reads' HO_3.out).1; omega)); obtain ⟨ve226_0, rfl, ge226_0⟩ := hMe226; have hv226_0 := hcc226 0 _ rfl; rw [Nat.add_zero, show ((Kd.slice 5 (Kd.int .u8))).sz = 1 from rfl, Nat.mul_one] at hv226_0; replace hv226_0 := Option.some.inj (hv226_0.symm.trans hx226_0); rw [hv226_0] at ge226_0; have HL226_0 := Aside0.mk (show Kd.R (Kd.int .u8) 5 _ _ _ _ (rd_L1 t215 x6_1) from ge226_0); clear hv226_0 ge226_0; clear hcc226 hce226; have HR226_0 := Aside0.mk hi226_0; have HC226_0 := Aside0.mk hl226_0; clear hi226_0 hl226_0; replace p226 := eq_true p226; replace q226 := eq_true q226; obtain ⟨Ao41, co41, eo41⟩ := Kd.V_slice HO223.out; subst eo41) | (go_at_call 21; (with_reducible refine (tallyroomref01_Bytes.calls _ _ (rd_L1 t215 x6_1) _ _ t221 false _ ?side1 ?side2 ?side3 ?side4 A32.out).mono ?_); (case side1 => repeat (first | exact (by repeat (first | (with_reducible exact HR226_0.out) | (with_reducible refine Kd.C_alloc ?_ _) | (with_reducible refine Kd.C_drewN ?_ _) | (with_reducible refine Kd.C_drew ?_) | exact HR226_0.out)) | (with_reducible refine Kd.C_alloc ?_ _) | (with_reducible refine Kd.C_drewN ?_ _) | (with_reducible refine Kd.C_drew ?_))); (case side2 => exact HC226_0.out); (case side3 => repeat (first | exact (Kd.V_reads' HO223.out).2.2 | (with_reducible refine Kd.C_alloc ?_ _) | (with_reducible refine Kd.C_drewN ?_ _) | (with_reducible refine Kd.C_drew ?_))); (case side4 => exact (Kd.V_reads' HO223.out).2.1); rintro e w' ⟨rfl, ⟨nd, rfl⟩⟩))
                            go_ret
                            exact ⟨by first | rfl | (have e_ := Option.some.inj (A6.out.symm.trans A12.out); simp only [Prod.mk.injEq] at e_; obtain ⟨rfl, rfl, rfl⟩ := e_; first | rfl | (simp [*, errW_none, errW_some] <;> rfl)) | (simp [errW_none, errW_some] <;> rfl) | (simp [*, errW_none, errW_some] <;> rfl), by repeat (first | (with_reducible first | exact HB.out | apply below_alloc | apply pw_below_drewN | apply below_drew1) | exact HB.out)⟩
                        · rw [if_neg c31] at H
                          exact absurd H (by simp)
                      · rw [if_neg c30] at H
                        exact absurd H (by simp)
                  · rw [if_neg c25] at H
                    have c25b0 : (t225 == 0) = false := beq_eq_false_iff_ne.mpr c25
                    have c25b1 : (t225 != 0) = true := bne_iff_ne.mpr c25
                    have H' := Aside0.mk H
                    clear H
                    obtain ⟨i042, hi042, _, hsz42, _⟩ := info_parts info5
                    obtain ⟨A42, hcut42, hA42, hC42⟩ := print_drop_of (P := Try.prog) (Value.int .u8) 0 22 5 .i64 Try.underlying22 hi042 hsz42 A0 c0 l0 x8_1 (of_decide_eq_true (by first | (with_reducible assumption) | assumption)) (of_decide_eq_true (by first | (with_reducible assumption) | assumption)) HC0.out
                    have HR220 := Aside0.mk (Kd.C_of_reads (h1 := fun _ => rfl) (hA42 _ (Kd.reads_of_C HR0.out)))
                    have HC220 := Aside0.mk hC42
                    clear hA42 hC42 hi042 hsz42
                    go_wp2_with (first | ((with_reducible refine gate_callee (f := 34) rfl ?_); refine goesL_ (some 31) rfl rfl Try.func34 (by kernel_rfl) rfl #[.slice A42 (l0.drop (x8_1 : Int).toNat).length (c0 - x8_1.toNat)] rfl (by (try simp only [List.map_toArray, List.map_cons, List.map_nil]); first | done | (rw [show (l0.drop (x8_1 : Int).toNat).length = (l0.length - x8_1.toNat) from List.length_drop] <;> rfl) | rfl | (simp only [List.length_drop, List.length_take]; rfl)) ?_; (with_reducible refine (tallyroomref08_Next.calls k1 (fun k_ => k_ < w.heap.size) _ _ (l0.drop (x8_1 : Int).toNat) t221 t224 t225 _ ?side1 A12.out).mono ?_); (case side1 => exact Kd.V_mk HC220.out (Kd.F_below (Kd.C_F (Kd.heap_int .u8) HR220.out) (by repeat (first | (with_reducible first | exact HB.out | apply below_alloc | apply pw_below_drewN | apply below_drew1) | exact HB.out)))); rintro e w43 ⟨v222, rfl, ho0, hb⟩; refine ⟨_, rfl, ?_⟩; have n0_ := Aside0.mk (Kd.S_below (by (with_reducible repeat (first | apply Kd.S_alloc | apply Kd.S_drewN | apply Kd.S_drew)); exact HO_3.out) hb); have n1_ := Aside0.mk (Kd.V_lower (Kd.V_mono (ok' := fun k_ => some k_ ≠ (v218 : Value).ownBlock) ho0 (fun k_ hk_ => Or.elim hk_ (fun hs_ => fun e_ => Nat.not_le.2 hs_ (Kd.S_base HO_3.out k_ e_.symm)) (fun hn_ => (Kd.fresh' (Kd.S_lt (by (with_reducible repeat (first | apply Kd.S_alloc | apply Kd.S_drewN | apply Kd.S_drew)); exact HO_3.out)) k_ hn_)))) (below_size (by repeat (first | (with_reducible first | exact HB.out | apply below_alloc | apply pw_below_drewN | apply below_drew1) | exact HB.out)))); have n2_ := Aside0.mk (below_step (by repeat (first | (with_reducible first | exact HB.out | apply below_alloc | apply pw_below_drewN | apply below_drew1) | exact HB.out)) hb); clear HO_3; clear HB; have HO_3 := n0_; have HO223 := n1_; have HB := n2_; clear n0_ n1_ n2_; (try clear hb); (try clear hb2); (try clear hk); (try clear hi); (try clear ho0)))
                    go_roundg k1
                    case measure => have := HK1.out; omega
                    case rel => exact ⟨(x6_1), (wrap64 (x7_1 + 1)), (wrap64 (x8_1 + t224)), (by first | rfl | (simp; done) | (simp [*]; done)), (by first | rfl | (simp; done) | (simp [*]; done)), (by first | rfl | (simp; done) | (simp [*]; done)), H', ⟨by have := HK1.out; omega⟩, ⟨by (with_reducible repeat (first | apply Kd.S_alloc | apply Kd.S_drewN | apply Kd.S_drew)); exact HO_3.out⟩, ⟨by repeat (first | (with_reducible first | exact HB.out | apply below_alloc | apply pw_below_drewN | apply below_drew1) | exact HB.out)⟩⟩
              · rw [if_neg c11] at H
                exact absurd H (by simp)
            · rw [if_neg c10] at H
              exact absurd H (by simp)
          · rw [if_neg c9] at H
            have c9b0 : decide (x8_1 < (l0.length : Int)) = false := decide_eq_false c9
            clear c9
            by_cases c44 : x6_1 = (t215.length : Int)
            · rw [if_pos c44] at H
              have c44b0 : (x6_1 == (t215.length : Int)) = true := beq_iff_eq.mpr c44
              have c44b1 : (x6_1 != (t215.length : Int)) = false := bne_eq_false_iff_eq.mpr c44
              clear c44
              by_cases c45 : t216 = x7_1
              · rw [if_pos c45] at H
                have c45b0 : (t216 == x7_1) = true := beq_iff_eq.mpr c45
                have c45b1 : (t216 != x7_1) = false := bne_eq_false_iff_eq.mpr c45
                clear c45
                obtain rfl := Option.some.inj H
                obtain ⟨Ao46, co46, eo46⟩ := Kd.S_slice HO_3.out
                subst eo46
                go_wp2
                go_ret
                exact ⟨by first | rfl | (have e_ := Option.some.inj (A6.out.symm.trans A12.out); simp only [Prod.mk.injEq] at e_; obtain ⟨rfl, rfl, rfl⟩ := e_; first | rfl | (simp [*, errW_none, errW_some] <;> rfl)) | (simp [errW_none, errW_some] <;> rfl) | (simp [*, errW_none, errW_some] <;> rfl), by repeat (first | (with_reducible first | exact HB.out | apply below_alloc | apply pw_below_drewN | apply below_drew1) | exact HB.out)⟩
              · rw [if_neg c45] at H
                have c45b0 : (t216 == x7_1) = false := beq_eq_false_iff_ne.mpr c45
                have c45b1 : (t216 != x7_1) = true := bne_iff_ne.mpr c45
                obtain rfl := Option.some.inj H
                obtain ⟨Ao47, co47, eo47⟩ := Kd.S_slice HO_3.out
                subst eo47
                go_wp2
                go_ret
                exact ⟨by first | rfl | (have e_ := Option.some.inj (A6.out.symm.trans A12.out); simp only [Prod.mk.injEq] at e_; obtain ⟨rfl, rfl, rfl⟩ := e_; first | rfl | (simp [*, errW_none, errW_some] <;> rfl)) | (simp [errW_none, errW_some] <;> rfl) | (simp [*, errW_none, errW_some] <;> rfl), by repeat (first | (with_reducible first | exact HB.out | apply below_alloc | apply pw_below_drewN | apply below_drew1) | exact HB.out)⟩
            · rw [if_neg c44] at H
              have c44b0 : (x6_1 == (t215.length : Int)) = false := beq_eq_false_iff_ne.mpr c44
              have c44b1 : (x6_1 != (t215.length : Int)) = true := bne_iff_ne.mpr c44
              obtain rfl := Option.some.inj H
              obtain ⟨Ao48, co48, eo48⟩ := Kd.S_slice HO_3.out
              subst eo48
              go_wp2
              go_ret
              exact ⟨by first | rfl | (have e_ := Option.some.inj (A6.out.symm.trans A12.out); simp only [Prod.mk.injEq] at e_; obtain ⟨rfl, rfl, rfl⟩ := e_; first | rfl | (simp [*, errW_none, errW_some] <;> rfl)) | (simp [errW_none, errW_some] <;> rfl) | (simp [*, errW_none, errW_some] <;> rfl), by repeat (first | (with_reducible first | exact HB.out | apply below_alloc | apply pw_below_drewN | apply below_drew1) | exact HB.out)⟩
  · replace c3 := Bool.eq_false_iff.mpr c3
    subst c3
    have H1 : (some false) = some r := by rw [if_neg (show ¬ (false = true) by decide)] at H; exact H
    clear H
    have H := H1
    clear H1
    obtain rfl := Option.some.inj H
    go_enter Try.func12, Try.ntmps12
    go_wp2_with (first | ((with_reducible refine gate_callee (f := 32) rfl ?_); refine goesL_ (some 12) rfl rfl Try.func32 (by kernel_rfl) rfl #[] rfl (by (try simp only [List.map_toArray, List.map_cons, List.map_nil]); first | done | rfl | (simp only [List.length_drop, List.length_take]; rfl)) ?_; (with_reducible refine (tallyroomlaw08_alive.calls k  false _ A2.out).mono ?_); rintro e w49 ⟨rfl, hb⟩; refine ⟨_, rfl, ?_⟩; have n0_ := Aside0.mk (below_step (by repeat (first | (with_reducible first | exact HB.out | apply below_alloc | apply pw_below_drewN | apply below_drew1) | exact HB.out)) hb); clear HB; have HB := n0_; clear n0_; (try clear hb); (try clear hb2); (try clear hk); (try clear hi)))
    go_ret
    exact ⟨by first | rfl | (have e_ := Option.some.inj (A6.out.symm.trans A12.out); simp only [Prod.mk.injEq] at e_; obtain ⟨rfl, rfl, rfl⟩ := e_; first | rfl | (simp [*, errW_none, errW_some] <;> rfl)) | (simp [errW_none, errW_some] <;> rfl) | (simp [*, errW_none, errW_some] <;> rfl), by repeat (first | (with_reducible first | exact HB.out | apply below_alloc | apply pw_below_drewN | apply below_drew1) | exact HB.out)⟩

/-- THE ONE PURE STATEMENT of tallyroomlaw08_FrameAll: yours. -/
def tallyroomlaw08_FrameAll.Pure : Prop := ∀ (l0 : List Int), l0.length ≤ maxLen → l0.length * 1 ≤ 140737488351232 → (∀ x ∈ l0, (Lit.int .u8 x).wf = true) → ∃ k, tallyroomlaw08_FrameAll.f k l0 = some true
theorem tallyroomlaw08_FrameAll.walk (P : tallyroomlaw08_FrameAll.Pure) (a0 : Option Addr) (len0 cap0 : Nat) (z0 : List Int) (w : World) (w0 : (a0 = none ∧ len0 = 0 ∧ cap0 = 0 ∧ z0 = []) ∨ ∃ x, a0 = some x ∧ len0 ≤ cap0 ∧ cap0 ≤ maxLen ∧ z0.length = cap0 ∧ (∀ i, i < z0.length → w.cell? (x.add i) = some (.int .u8 (z0.getD i 0))) ∧ ∀ n ∈ z0, (Lit.int .u8 n).wf = true) (y0 : len0 * 1 ≤ 140737488351232) :
    Calls Try.prog 12 #[.slice a0 len0 cap0] w fun e w' => e = .returned (.bool true) ∧ Below w.heap.size w w' := by
  obtain ⟨l0, rfl, hr0, hm0, hw0, hc0⟩ := ReadsInt.ofRowC w0
  obtain ⟨k, h⟩ := P l0 hm0 y0 hw0
  refine (tallyroomlaw08_FrameAll.calls k _ _ l0 true w (Kd.C_of_reads (d := (0 : Int)) (h1 := fun _ => rfl) hr0) hc0 h).mono ?_
  rintro e w' ⟨rfl, hd⟩
  exact ⟨rfl, hd⟩

end Go.Proofs.Ytbfmmjdbnbfnmaa.XH
