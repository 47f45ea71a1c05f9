-- Made by a program of this session (xprint.py), over the translation; Lean checks it.
import Derived.Test.YtbfmmjdbnbfnmaaXDx0
import Derived.Test.YtbfmmjdbnbfnmaaXDx1
import Derived.Test.YtbfmmjdbnbfnmaaXDx4
namespace Go.Proofs.Ytbfmmjdbnbfnmaa.XD
open Go.RowKit Go.Proofs.YtbfmmjdbnbfnmaaW.PrintWords Go.Proofs.YtbfmmjdbnbfnmaaW.PrintLast Go.Proofs.YtbfmmjdbnbfnmaaW.PrintMore
attribute [local go_sem] max2_int min2_int max_two min_two max_three min_three max_four min_four   -- for this text's walks alone
set_option linter.unusedVariables false
set_option linter.unusedSimpArgs false

/-! ### tallyroomlaw01_VarintBack: function 6 -/
mutual
def tallyroomlaw01_VarintBack.j0 : Nat → Int → Int → List Int → List Int → Bool → Option (Bool)
  | 0, _, _, _, _, _ => none
  | k + 1, x0, x1, x9, x10, x64 => if x64 = true then (some false) else (tallyroomlaw01_VarintBack.l0 k x0 x1 x9 x10 0)
def tallyroomlaw01_VarintBack.l0 : Nat → Int → Int → List Int → List Int → Int → Option (Bool)
  | 0, _, _, _, _, _ => none
  | k + 1, x0, x1, x9, x10, x14 => if x14 < (x9.length : Int) then (if 0 ≤ x14 then (if x14 ≤ (x9.length : Int) then ((varint_Get.f k (x9.take (x14 : Int).toNat)).bind fun bt235 => (if bt235.2.2 = 10 then (tallyroomlaw01_VarintBack.l0 k x0 x1 x9 x10 (wrap64 (x14 + 1))) else (some false))) else (none)) else (none)) else (if (x9.length : Int) ≤ (x10.length : Int) then (if 0 ≤ (x9.length : Int) then ((tallyroomref01_Bytes.f x9 (x10.take ((x9.length : Int) : Int).toNat)).bind fun t242 => (some (t242 == (x0 == x1)))) else (none)) else (some (false == (x0 == x1))))
end
def tallyroomlaw01_VarintBack.f (k : Nat) (a0 : Int) (a1 : Int) (a2 : Int) (l3 : List Int) : Option (Bool) := (tallyroomlaw01_alive.f k).bind fun t208 => (if t208 = true then (if (l3.length : Int) > 100 then (some true) else ((varint_Put.f k ([] : List Int) a0).bind fun t209 => ((varint_Put.f k ([] : List Int) a1).bind fun t212 => ((some (([] : List Int) : List Int)).bind fun y215 => (if y215.length + t209.length < 140737488355328 then ((some (y215 ++ t209 : List Int)).bind fun y218 => (if y218.length + l3.length < 140737488355328 then ((varint_Get.f k (y218 ++ l3)).bind fun bt224 => (if bt224.2.2 = 0 then (if bt224.1 = a0 then (if bt224.2.1 = (t209.length : Int) then ((varint_Zig.f a2).bind fun t227 => ((varint_Zag.f t227).bind fun t228 => (if t228 = a2 then ((varint_Zag.f a0).bind fun t229 => ((varint_Zig.f t229).bind fun t230 => (tallyroomlaw01_VarintBack.j0 k a0 a1 t209 t212 (t230 != a0)))) else (tallyroomlaw01_VarintBack.j0 k a0 a1 t209 t212 true)))) else (tallyroomlaw01_VarintBack.j0 k a0 a1 t209 t212 true)) else (tallyroomlaw01_VarintBack.j0 k a0 a1 t209 t212 true)) else (tallyroomlaw01_VarintBack.j0 k a0 a1 t209 t212 true))) else (none))) else (none)))))) else (some false))
theorem tallyroomlaw01_VarintBack.mono_l : ∀ k, (∀ y0 y1 y2 y3 y4, LeO (tallyroomlaw01_VarintBack.j0 k y0 y1 y2 y3 y4) (tallyroomlaw01_VarintBack.j0 (k + 1) y0 y1 y2 y3 y4)) ∧ (∀ y0 y1 y2 y3 y4, LeO (tallyroomlaw01_VarintBack.l0 k y0 y1 y2 y3 y4) (tallyroomlaw01_VarintBack.l0 (k + 1) y0 y1 y2 y3 y4))
  | 0 => ⟨fun _ _ _ _ _ r h => by simp [tallyroomlaw01_VarintBack.j0] at h, fun _ _ _ _ _ r h => by simp [tallyroomlaw01_VarintBack.l0] at h⟩
  | k + 1 => by
    obtain ⟨ih0, ih1⟩ := tallyroomlaw01_VarintBack.mono_l k
    refine ⟨?_, ?_⟩
    · intro y0 y1 y2 y3 y4
      unfold tallyroomlaw01_VarintBack.j0
      repeat' first
      | (with_reducible exact ih0 _ _ _ _ _)
      | (with_reducible exact ih1 _ _ _ _ _)
      | (with_reducible exact tallyroomlaw01_alive.mono _)
      | (with_reducible exact varint_Get.mono _ _)
      | (with_reducible exact varint_Put.mono _ _ _)
      | (with_reducible exact LeO.refl _)
      | (with_reducible exact LeO.none _)
      | (with_reducible refine LeO.ite ?_ ?_)
      | (with_reducible refine LeO.bind ?_ (fun _ => ?_))
      | exact ih0 _ _ _ _ _
      | exact ih1 _ _ _ _ _
      | exact tallyroomlaw01_alive.mono _
      | exact varint_Get.mono _ _
      | exact varint_Put.mono _ _ _
      | exact LeO.none _
      | refine LeO.ite ?_ ?_
      | refine LeO.bind ?_ (fun _ => ?_)
    · intro y0 y1 y2 y3 y4
      unfold tallyroomlaw01_VarintBack.l0
      repeat' first
      | (with_reducible exact ih0 _ _ _ _ _)
      | (with_reducible exact ih1 _ _ _ _ _)
      | (with_reducible exact tallyroomlaw01_alive.mono _)
      | (with_reducible exact varint_Get.mono _ _)
      | (with_reducible exact varint_Put.mono _ _ _)
      | (with_reducible exact LeO.refl _)
      | (with_reducible exact LeO.none _)
      | (with_reducible refine LeO.ite ?_ ?_)
      | (with_reducible refine LeO.bind ?_ (fun _ => ?_))
      | exact ih0 _ _ _ _ _
      | exact ih1 _ _ _ _ _
      | exact tallyroomlaw01_alive.mono _
      | exact varint_Get.mono _ _
      | exact varint_Put.mono _ _ _
      | exact LeO.none _
      | refine LeO.ite ?_ ?_
      | refine LeO.bind ?_ (fun _ => ?_)
theorem tallyroomlaw01_VarintBack.mono : ∀ a0 a1 a2 a3 k, LeO (tallyroomlaw01_VarintBack.f k a0 a1 a2 a3) (tallyroomlaw01_VarintBack.f (k + 1) a0 a1 a2 a3) := by
  intro a0 a1 a2 a3 k
  obtain ⟨ih0, ih1⟩ := tallyroomlaw01_VarintBack.mono_l k
  unfold tallyroomlaw01_VarintBack.f
  repeat' first
      | (with_reducible exact ih0 _ _ _ _ _)
      | (with_reducible exact ih1 _ _ _ _ _)
      | (with_reducible exact tallyroomlaw01_alive.mono _)
      | (with_reducible exact varint_Get.mono _ _)
      | (with_reducible exact varint_Put.mono _ _ _)
      | (with_reducible exact LeO.refl _)
      | (with_reducible exact LeO.none _)
      | (with_reducible refine LeO.ite ?_ ?_)
      | (with_reducible refine LeO.bind ?_ (fun _ => ?_))
      | exact ih0 _ _ _ _ _
      | exact ih1 _ _ _ _ _
      | exact tallyroomlaw01_alive.mono _
      | exact varint_Get.mono _ _
      | exact varint_Put.mono _ _ _
      | exact LeO.none _
      | refine LeO.ite ?_ ?_
      | refine LeO.bind ?_ (fun _ => ?_)
set_option maxHeartbeats 8000000 in
set_option maxRecDepth 100000 in
theorem tallyroomlaw01_VarintBack.calls (k : Nat) (a0 : Int) (a1 : Int) (a2 : Int) (A3 : Option Addr) (c3 : Nat) (l3 : List Int) (r : Bool) (w : World) (hr3 : Kd.C (Kd.int .u8) w A3 l3.length l3) (hc3 : l3.length ≤ c3) (h : tallyroomlaw01_VarintBack.f k a0 a1 a2 l3 = some r) :
    Calls Try.prog 6 #[.int .u64 a0, .int .u64 a1, .int .i64 a2, .slice A3 l3.length c3] w fun e w' => e = .returned (.bool r) ∧ Below w.heap.size w w' := by
  have HR3 := Aside0.mk hr3
  have HC3 := Aside0.mk hc3
  clear hr3 hc3
  have HB := Aside0.mk (Below.refl w.heap.size w)
  have H : ((tallyroomlaw01_alive.f k).bind fun t208 => (if t208 = true then (if (l3.length : Int) > 100 then (some true) else ((varint_Put.f k ([] : List Int) a0).bind fun t209 => ((varint_Put.f k ([] : List Int) a1).bind fun t212 => ((some (([] : List Int) : List Int)).bind fun y215 => (if y215.length + t209.length < 140737488355328 then ((some (y215 ++ t209 : List Int)).bind fun y218 => (if y218.length + l3.length < 140737488355328 then ((varint_Get.f k (y218 ++ l3)).bind fun bt224 => (if bt224.2.2 = 0 then (if bt224.1 = a0 then (if bt224.2.1 = (t209.length : Int) then ((varint_Zig.f a2).bind fun t227 => ((varint_Zag.f t227).bind fun t228 => (if t228 = a2 then ((varint_Zag.f a0).bind fun t229 => ((varint_Zig.f t229).bind fun t230 => (tallyroomlaw01_VarintBack.j0 k a0 a1 t209 t212 (t230 != a0)))) else (tallyroomlaw01_VarintBack.j0 k a0 a1 t209 t212 true)))) else (tallyroomlaw01_VarintBack.j0 k a0 a1 t209 t212 true)) else (tallyroomlaw01_VarintBack.j0 k a0 a1 t209 t212 true)) else (tallyroomlaw01_VarintBack.j0 k a0 a1 t209 t212 true))) else (none))) else (none)))))) else (some false))) = some r := h
  clear h
  replace H := Option.bind_eq_some_iff.mp H
  obtain ⟨t208, A50, H⟩ := H
  replace H : (if t208 = true then (if (l3.length : Int) > 100 then (some true) else ((varint_Put.f k ([] : List Int) a0).bind fun t209 => ((varint_Put.f k ([] : List Int) a1).bind fun t212 => ((some (([] : List Int) : List Int)).bind fun y215 => (if y215.length + t209.length < 140737488355328 then ((some (y215 ++ t209 : List Int)).bind fun y218 => (if y218.length + l3.length < 140737488355328 then ((varint_Get.f k (y218 ++ l3)).bind fun bt224 => (if bt224.2.2 = 0 then (if bt224.1 = a0 then (if bt224.2.1 = (t209.length : Int) then ((varint_Zig.f a2).bind fun t227 => ((varint_Zag.f t227).bind fun t228 => (if t228 = a2 then ((varint_Zag.f a0).bind fun t229 => ((varint_Zig.f t229).bind fun t230 => (tallyroomlaw01_VarintBack.j0 k a0 a1 t209 t212 (t230 != a0)))) else (tallyroomlaw01_VarintBack.j0 k a0 a1 t209 t212 true)))) else (tallyroomlaw01_VarintBack.j0 k a0 a1 t209 t212 true)) else (tallyroomlaw01_VarintBack.j0 k a0 a1 t209 t212 true)) else (tallyroomlaw01_VarintBack.j0 k a0 a1 t209 t212 true))) else (none))) else (none)))))) else (some false)) = some r := H
  have A5 := Aside0.mk A50
  clear A50
  by_cases c6 : t208 = true
  · subst c6
    have H1 : (if (l3.length : Int) > 100 then (some true) else ((varint_Put.f k ([] : List Int) a0).bind fun t209 => ((varint_Put.f k ([] : List Int) a1).bind fun t212 => ((some (([] : List Int) : List Int)).bind fun y215 => (if y215.length + t209.length < 140737488355328 then ((some (y215 ++ t209 : List Int)).bind fun y218 => (if y218.length + l3.length < 140737488355328 then ((varint_Get.f k (y218 ++ l3)).bind fun bt224 => (if bt224.2.2 = 0 then (if bt224.1 = a0 then (if bt224.2.1 = (t209.length : Int) then ((varint_Zig.f a2).bind fun t227 => ((varint_Zag.f t227).bind fun t228 => (if t228 = a2 then ((varint_Zag.f a0).bind fun t229 => ((varint_Zig.f t229).bind fun t230 => (tallyroomlaw01_VarintBack.j0 k a0 a1 t209 t212 (t230 != a0)))) else (tallyroomlaw01_VarintBack.j0 k a0 a1 t209 t212 true)))) else (tallyroomlaw01_VarintBack.j0 k a0 a1 t209 t212 true)) else (tallyroomlaw01_VarintBack.j0 k a0 a1 t209 t212 true)) else (tallyroomlaw01_VarintBack.j0 k a0 a1 t209 t212 true))) else (none))) else (none)))))) = some r := by rw [if_pos rfl] at H; exact H
    clear H
    have H := H1
    clear H1
    by_cases c7 : (l3.length : Int) > 100
    · rw [if_pos c7] at H
      have c7b0 : decide (100 < (l3.length : Int)) = true := decide_eq_true c7
      have c7b1 : decide (100 < l3.length) = true := decide_eq_true (by omega)
      clear c7
      obtain rfl := Option.some.inj H
      go_enter Try.func6, Try.ntmps6
      go_wp2_with (first | ((with_reducible refine gate_callee (f := 15) rfl ?_); refine goesL_ (some 19) rfl rfl Try.func15 (by kernel_rfl) rfl #[] rfl (by (try simp only [List.map_toArray, List.map_cons, List.map_nil]); first | done | rfl | (simp only [List.length_drop, List.length_take]; rfl)) ?_; (with_reducible refine (tallyroomlaw01_alive.calls k  true _ A5.out).mono ?_); rintro e w8 ⟨rfl, hb⟩; refine ⟨_, rfl, ?_⟩; have n0_ := Aside0.mk (below_step (by repeat (first | (with_reducible first | exact HB.out | apply below_alloc | apply pw_below_drewN | apply below_drew1) | exact HB.out)) hb); clear HB; have HB := n0_; clear n0_; (try clear hb); (try clear hb2); (try clear hk); (try clear hi)))
      go_ret
      exact ⟨by first | rfl | (simp [errW_none, errW_some] <;> rfl) | (simp [*, errW_none, errW_some] <;> rfl), by repeat (first | (with_reducible first | exact HB.out | apply below_alloc | apply pw_below_drewN | apply below_drew1) | exact HB.out)⟩
    · rw [if_neg c7] at H
      have c7b0 : decide (100 < (l3.length : Int)) = false := decide_eq_false c7
      have c7b1 : decide (100 < l3.length) = false := decide_eq_false (by omega)
      clear c7
      replace H := Option.bind_eq_some_iff.mp H
      obtain ⟨t209, A90, H⟩ := H
      replace H : ((varint_Put.f k ([] : List Int) a1).bind fun t212 => ((some (([] : List Int) : List Int)).bind fun y215 => (if y215.length + t209.length < 140737488355328 then ((some (y215 ++ t209 : List Int)).bind fun y218 => (if y218.length + l3.length < 140737488355328 then ((varint_Get.f k (y218 ++ l3)).bind fun bt224 => (if bt224.2.2 = 0 then (if bt224.1 = a0 then (if bt224.2.1 = (t209.length : Int) then ((varint_Zig.f a2).bind fun t227 => ((varint_Zag.f t227).bind fun t228 => (if t228 = a2 then ((varint_Zag.f a0).bind fun t229 => ((varint_Zig.f t229).bind fun t230 => (tallyroomlaw01_VarintBack.j0 k a0 a1 t209 t212 (t230 != a0)))) else (tallyroomlaw01_VarintBack.j0 k a0 a1 t209 t212 true)))) else (tallyroomlaw01_VarintBack.j0 k a0 a1 t209 t212 true)) else (tallyroomlaw01_VarintBack.j0 k a0 a1 t209 t212 true)) else (tallyroomlaw01_VarintBack.j0 k a0 a1 t209 t212 true))) else (none))) else (none)))) = some r := H
      have A9 := Aside0.mk A90
      clear A90
      replace H := Option.bind_eq_some_iff.mp H
      obtain ⟨t212, A100, H⟩ := H
      replace H : ((some (([] : List Int) : List Int)).bind fun y215 => (if y215.length + t209.length < 140737488355328 then ((some (y215 ++ t209 : List Int)).bind fun y218 => (if y218.length + l3.length < 140737488355328 then ((varint_Get.f k (y218 ++ l3)).bind fun bt224 => (if bt224.2.2 = 0 then (if bt224.1 = a0 then (if bt224.2.1 = (t209.length : Int) then ((varint_Zig.f a2).bind fun t227 => ((varint_Zag.f t227).bind fun t228 => (if t228 = a2 then ((varint_Zag.f a0).bind fun t229 => ((varint_Zig.f t229).bind fun t230 => (tallyroomlaw01_VarintBack.j0 k a0 a1 t209 t212 (t230 != a0)))) else (tallyroomlaw01_VarintBack.j0 k a0 a1 t209 t212 true)))) else (tallyroomlaw01_VarintBack.j0 k a0 a1 t209 t212 true)) else (tallyroomlaw01_VarintBack.j0 k a0 a1 t209 t212 true)) else (tallyroomlaw01_VarintBack.j0 k a0 a1 t209 t212 true))) else (none))) else (none))) = some r := H
      have A10 := Aside0.mk A100
      clear A100
      obtain ⟨y215, hy215⟩ : ∃ y_ : List Int, y_ = (([] : List Int)) := ⟨_, rfl⟩
      replace H : (if y215.length + t209.length < 140737488355328 then ((some (y215 ++ t209 : List Int)).bind fun y218 => (if y218.length + l3.length < 140737488355328 then ((varint_Get.f k (y218 ++ l3)).bind fun bt224 => (if bt224.2.2 = 0 then (if bt224.1 = a0 then (if bt224.2.1 = (t209.length : Int) then ((varint_Zig.f a2).bind fun t227 => ((varint_Zag.f t227).bind fun t228 => (if t228 = a2 then ((varint_Zag.f a0).bind fun t229 => ((varint_Zig.f t229).bind fun t230 => (tallyroomlaw01_VarintBack.j0 k a0 a1 t209 t212 (t230 != a0)))) else (tallyroomlaw01_VarintBack.j0 k a0 a1 t209 t212 true)))) else (tallyroomlaw01_VarintBack.j0 k a0 a1 t209 t212 true)) else (tallyroomlaw01_VarintBack.j0 k a0 a1 t209 t212 true)) else (tallyroomlaw01_VarintBack.j0 k a0 a1 t209 t212 true))) else (none))) else (none)) = some r := by first | (rw [hy215]; with_reducible exact H) | (have H2_ := (Option.bind_some _ _).symm.trans H; rw [hy215]; with_reducible exact H2_) | (have H2_ := (Option.bind_some _ _).symm.trans H; with_reducible exact H2_) | with_reducible exact H | (rw [hy215]; exact H) | exact H
      have Ny215 := Aside0.mk hy215
      clear hy215
      by_cases c11 : y215.length + t209.length < 140737488355328
      · rw [if_pos c11] at H
        have LMc11 := Aside0.mk c11
        clear c11
        obtain ⟨y218, hy218⟩ : ∃ y_ : List Int, y_ = (y215 ++ t209) := ⟨_, rfl⟩
        replace H : (if y218.length + l3.length < 140737488355328 then ((varint_Get.f k (y218 ++ l3)).bind fun bt224 => (if bt224.2.2 = 0 then (if bt224.1 = a0 then (if bt224.2.1 = (t209.length : Int) then ((varint_Zig.f a2).bind fun t227 => ((varint_Zag.f t227).bind fun t228 => (if t228 = a2 then ((varint_Zag.f a0).bind fun t229 => ((varint_Zig.f t229).bind fun t230 => (tallyroomlaw01_VarintBack.j0 k a0 a1 t209 t212 (t230 != a0)))) else (tallyroomlaw01_VarintBack.j0 k a0 a1 t209 t212 true)))) else (tallyroomlaw01_VarintBack.j0 k a0 a1 t209 t212 true)) else (tallyroomlaw01_VarintBack.j0 k a0 a1 t209 t212 true)) else (tallyroomlaw01_VarintBack.j0 k a0 a1 t209 t212 true))) else (none)) = some r := by first | (rw [hy218]; with_reducible exact H) | (have H2_ := (Option.bind_some _ _).symm.trans H; rw [hy218]; with_reducible exact H2_) | (have H2_ := (Option.bind_some _ _).symm.trans H; with_reducible exact H2_) | with_reducible exact H | (rw [hy218]; exact H) | exact H
        have Ny218 := Aside0.mk hy218
        clear hy218
        by_cases c12 : y218.length + l3.length < 140737488355328
        · rw [if_pos c12] at H
          have LMc12 := Aside0.mk c12
          clear c12
          obtain ⟨y221, hy221⟩ : ∃ y_ : List Int, y_ = (y218 ++ l3) := ⟨_, rfl⟩
          replace H : ((varint_Get.f k y221).bind fun bt224 => (if bt224.2.2 = 0 then (if bt224.1 = a0 then (if bt224.2.1 = (t209.length : Int) then ((varint_Zig.f a2).bind fun t227 => ((varint_Zag.f t227).bind fun t228 => (if t228 = a2 then ((varint_Zag.f a0).bind fun t229 => ((varint_Zig.f t229).bind fun t230 => (tallyroomlaw01_VarintBack.j0 k a0 a1 t209 t212 (t230 != a0)))) else (tallyroomlaw01_VarintBack.j0 k a0 a1 t209 t212 true)))) else (tallyroomlaw01_VarintBack.j0 k a0 a1 t209 t212 true)) else (tallyroomlaw01_VarintBack.j0 k a0 a1 t209 t212 true)) else (tallyroomlaw01_VarintBack.j0 k a0 a1 t209 t212 true))) = some r := by first | (rw [hy221]; with_reducible exact H) | (have H2_ := (Option.bind_some _ _).symm.trans H; rw [hy221]; with_reducible exact H2_) | (have H2_ := (Option.bind_some _ _).symm.trans H; with_reducible exact H2_) | with_reducible exact H | (rw [hy221]; exact H) | exact H
          have Ny221 := Aside0.mk hy221
          clear hy221
          replace H := Option.bind_eq_some_iff.mp H
          obtain ⟨⟨t224, t225, t226⟩, A130, H⟩ := H
          replace H : (if t226 = 0 then (if t224 = a0 then (if t225 = (t209.length : Int) then ((varint_Zig.f a2).bind fun t227 => ((varint_Zag.f t227).bind fun t228 => (if t228 = a2 then ((varint_Zag.f a0).bind fun t229 => ((varint_Zig.f t229).bind fun t230 => (tallyroomlaw01_VarintBack.j0 k a0 a1 t209 t212 (t230 != a0)))) else (tallyroomlaw01_VarintBack.j0 k a0 a1 t209 t212 true)))) else (tallyroomlaw01_VarintBack.j0 k a0 a1 t209 t212 true)) else (tallyroomlaw01_VarintBack.j0 k a0 a1 t209 t212 true)) else (tallyroomlaw01_VarintBack.j0 k a0 a1 t209 t212 true)) = some r := H
          have A13 := Aside0.mk A130
          clear A130
          have HC14 := Aside0.mk H
          clear H
          go_enter Try.func6, Try.ntmps6
          go_upto_region 8 with (first | ((with_reducible refine gate_callee (f := 15) rfl ?_); refine goesL_ (some 19) rfl rfl Try.func15 (by kernel_rfl) rfl #[] rfl (by (try simp only [List.map_toArray, List.map_cons, List.map_nil]); first | done | rfl | (simp only [List.length_drop, List.length_take]; rfl)) ?_; (with_reducible refine (tallyroomlaw01_alive.calls k  true _ A5.out).mono ?_); rintro e w15 ⟨rfl, hb⟩; refine ⟨_, rfl, ?_⟩; have n0_ := Aside0.mk (below_step (by repeat (first | (with_reducible first | exact HB.out | apply below_alloc | apply pw_below_drewN | apply below_drew1) | exact HB.out)) hb); clear HB; have HB := n0_; clear n0_; (try clear hb); (try clear hb2); (try clear hk); (try clear hi)) | ((with_reducible refine gate_callee (f := 18) rfl ?_); refine goesL_ (some 25) rfl rfl Try.func18 (by kernel_rfl) rfl #[.slice none 0 0, .int .u64 a0] rfl (by (try simp only [List.map_toArray, List.map_cons, List.map_nil]); first | done | rfl | (simp only [List.length_drop, List.length_take]; rfl)) ?_; (refine (varint_Put.calls k _ _ ([] : List Int) a0 t209 _ ?side1 ?side2 A9.out).mono ?_); (case side1 => exact Kd.C_nil _ _); (case side2 => exact Nat.le_refl _); rintro e w16 ⟨v210, rfl, ho0, hb⟩; refine ⟨_, rfl, ?_⟩; have n0_ := Aside0.mk (Kd.R_lower ho0 (below_size (by repeat (first | (with_reducible first | exact HB.out | apply below_alloc | apply pw_below_drewN | apply below_drew1) | exact HB.out)))); have n1_ := Aside0.mk (below_step (by repeat (first | (with_reducible first | exact HB.out | apply below_alloc | apply pw_below_drewN | apply below_drew1) | exact HB.out)) hb); clear HB; have HO211 := n0_; have HB := n1_; clear n0_ n1_; (try clear hb); (try clear hb2); (try clear hk); (try clear hi); (try clear ho0)) | ((with_reducible refine gate_callee (f := 18) rfl ?_); refine goesL_ (some 27) rfl rfl Try.func18 (by kernel_rfl) rfl #[.slice none 0 0, .int .u64 a1] rfl (by (try simp only [List.map_toArray, List.map_cons, List.map_nil]); first | done | rfl | (simp only [List.length_drop, List.length_take]; rfl)) ?_; (refine (varint_Put.calls k _ _ ([] : List Int) a1 t212 _ ?side1 ?side2 A10.out).mono ?_); (case side1 => exact Kd.C_nil _ _); (case side2 => exact Nat.le_refl _); rintro e w17 ⟨v213, rfl, ho0, hb⟩; refine ⟨_, rfl, ?_⟩; have n0_ := Aside0.mk (Kd.R_elder' (by (with_reducible repeat (first | apply Kd.R_alloc | apply Kd.R_drewN | apply Kd.R_drew)); exact HO211.out) (Kd.R_base ho0) hb); have n1_ := Aside0.mk (Kd.R_lower (Kd.R_new' ho0 (Kd.R_lt (by (with_reducible repeat (first | apply Kd.R_alloc | apply Kd.R_drewN | apply Kd.R_drew)); exact HO211.out))) (below_size (by repeat (first | (with_reducible first | exact HB.out | apply below_alloc | apply pw_below_drewN | apply below_drew1) | exact HB.out)))); have n2_ := Aside0.mk (below_step (by repeat (first | (with_reducible first | exact HB.out | apply below_alloc | apply pw_below_drewN | apply below_drew1) | exact HB.out)) hb); clear HO211; clear HB; have HO211 := n0_; have HO214 := n1_; have HB := n2_; clear n0_ n1_ n2_; (try clear hb); (try clear hb2); (try clear hk); (try clear hi); (try clear ho0)) | ((with_reducible refine gate_dst (N := 29) rfl ?_); (try (refine gate_guard (by rfl) ?_; dsimp only)); refine Kd.R_lit (Kd.int .u8) _ 5 ?hg (N := 29) ?hd (xs := ([] : List Int)) (inner := []) (ok := fun _ => True) (okp := fun _ => True) ?hr ?hp (fun _ hk => hk) trivial (Below.refl _ _) (Nat.le_refl _) (by simp) ?_; (case hd => rfl); (case hg => rfl); (case hr => first | (go_simp; done) | (go_simp; rfl)); (case hp => exact (Reps.none _ _)); intro v216 w18 ho19 hb hg_ hnew_; clear hg_ hnew_; (first | rw [← Ny215.out] at ho19 | (simp only [Int.reduceToNat] at ho19; rw [← Ny215.out] at ho19)); have n0_ := Aside0.mk (Kd.R_elder' (by (with_reducible repeat (first | apply Kd.R_alloc | apply Kd.R_drewN | apply Kd.R_drew)); exact HO211.out) (Kd.R_base ho19) hb); have n1_ := Aside0.mk (Kd.R_elder' (by (with_reducible repeat (first | apply Kd.R_alloc | apply Kd.R_drewN | apply Kd.R_drew)); exact HO214.out) (Kd.R_base ho19) hb); have n2_ := Aside0.mk (Kd.R_lower (Kd.R_new' (Kd.R_new' ho19 (Kd.R_lt (by (with_reducible repeat (first | apply Kd.R_alloc | apply Kd.R_drewN | apply Kd.R_drew)); exact HO211.out))) (Kd.R_lt (by (with_reducible repeat (first | apply Kd.R_alloc | apply Kd.R_drewN | apply Kd.R_drew)); exact HO214.out))) (below_size (by repeat (first | (with_reducible first | exact HB.out | apply below_alloc | apply pw_below_drewN | apply below_drew1) | exact HB.out)))); have n3_ := Aside0.mk (below_step (by repeat (first | (with_reducible first | exact HB.out | apply below_alloc | apply pw_below_drewN | apply below_drew1) | exact HB.out)) hb); clear HO211; clear HO214; clear HB; have HO211 := n0_; have HO214 := n1_; have HO217 := n2_; have HB := n3_; clear n0_ n1_ n2_ n3_; clear hb ho19; obtain ⟨Ao21, co21, eo21⟩ := Kd.R_slice HO211.out; subst eo21) | ((with_reducible refine gate_builtin (b := .append) (xs := #[.tmp 29, .tmp 30]) rfl ?_); (try (refine gate_guard (by rfl) ?_; dsimp only)); at_builtin; refine Kd.R_append_rows (Kd.int .u8) (w0 := w) w.heap.size rfl (.tmp 29) (.tmp 30) 22 5 (.int .u8 0) 1 rfl Try.underlying22 info5 rfl (by decide) (by omega) v216 y215 t209 _ _ _ (fun k_ => some k_ ≠ (.slice Ao21 t209.length co21 : Value).ownBlock ∧ some k_ ≠ (v213 : Value).ownBlock) (fun _ => False) rfl rfl ?aO ?aR (fun _ _ h => h) (fun _ h => h.elim) ?aF ?aB ?aS ?aL ?_; (case aR => repeat (first | exact (Kd.R_reads' HO211.out).2.2 | (with_reducible refine Kd.C_alloc ?_ _) | (with_reducible refine Kd.C_drewN ?_ _) | (with_reducible refine Kd.C_drew ?_))); (case aB => exact (by repeat (first | (with_reducible first | exact HB.out | apply below_alloc | apply pw_below_drewN | apply below_drew1) | exact HB.out))); (case aF => exact (fun k_ hk => ⟨Kd.fresh' (Kd.R_lt (by (with_reducible repeat (first | apply Kd.R_alloc | apply Kd.R_drewN | apply Kd.R_drew)); exact HO211.out)) k_ hk, Kd.fresh' (Kd.R_lt (by (with_reducible repeat (first | apply Kd.R_alloc | apply Kd.R_drewN | apply Kd.R_drew)); exact HO214.out)) k_ hk⟩)); (case aO => exact (by (with_reducible repeat (first | apply Kd.R_alloc | apply Kd.R_drewN | apply Kd.R_drew)); exact Kd.R_mono HO217.out (fun _ hk => ⟨hk.1.2, hk.2⟩))); (case aS => exact (below_size (by repeat (first | (with_reducible first | exact HB.out | apply below_alloc | apply pw_below_drewN | apply below_drew1) | exact HB.out)))); (case aL => have := LMc11.out; omega); intro v219 w20 ho hb hg hat; rw [← Ny218.out] at ho; have n0_ := Aside0.mk (Kd.R_after (ok := (fun k_ => some k_ ≠ (v213 : Value).ownBlock)) (by (with_reducible repeat (first | apply Kd.R_alloc | apply Kd.R_drewN | apply Kd.R_drew)); exact Kd.R_mono HO211.out (fun _ hk => ⟨hk.1.2, hk.2⟩)) hg hat); have n1_ := Aside0.mk (Kd.R_after (ok := (fun k_ => some k_ ≠ (.slice Ao21 t209.length co21 : Value).ownBlock)) (by (with_reducible repeat (first | apply Kd.R_alloc | apply Kd.R_drewN | apply Kd.R_drew)); exact Kd.R_mono HO214.out (fun _ hk => ⟨hk.1.2, hk.2⟩)) hg hat); have n2_ := Aside0.mk (hb); have n3_ := Aside0.mk (ho); clear HO211; clear HO214; clear HB; clear HO217; have HO211 := n0_; have HO214 := n1_; have HB := n2_; have HO220 := n3_; clear n0_ n1_ n2_ n3_; clear ho hb hg hat) | ((with_reducible refine gate_builtin (b := .append) (xs := #[.tmp 31, .tmp 32]) rfl ?_); (try (refine gate_guard (by rfl) ?_; dsimp only)); at_builtin; refine Kd.R_append_rows (Kd.int .u8) (w0 := w) w.heap.size rfl (.tmp 31) (.tmp 32) 22 5 (.int .u8 0) 1 rfl Try.underlying22 info5 rfl (by decide) (by omega) v219 y218 l3 _ _ _ (fun k_ => some k_ ≠ (.slice Ao21 t209.length co21 : Value).ownBlock ∧ some k_ ≠ (v213 : Value).ownBlock) (fun _ => False) rfl rfl ?aO ?aR (fun _ _ h => h) (fun _ h => h.elim) ?aF ?aB ?aS ?aL ?_; (case aR => repeat (first | exact (Kd.C_below HR3.out HB.out) | (with_reducible refine Kd.C_alloc ?_ _) | (with_reducible refine Kd.C_drewN ?_ _) | (with_reducible refine Kd.C_drew ?_))); (case aB => exact (by repeat (first | (with_reducible first | exact HB.out | apply below_alloc | apply pw_below_drewN | apply below_drew1) | exact HB.out))); (case aF => exact (fun k_ hk => ⟨Kd.fresh' (Kd.R_lt (by (with_reducible repeat (first | apply Kd.R_alloc | apply Kd.R_drewN | apply Kd.R_drew)); exact HO211.out)) k_ hk, Kd.fresh' (Kd.R_lt (by (with_reducible repeat (first | apply Kd.R_alloc | apply Kd.R_drewN | apply Kd.R_drew)); exact HO214.out)) k_ hk⟩)); (case aO => exact (by (with_reducible repeat (first | apply Kd.R_alloc | apply Kd.R_drewN | apply Kd.R_drew)); exact HO220.out)); (case aS => exact (below_size (by repeat (first | (with_reducible first | exact HB.out | apply below_alloc | apply pw_below_drewN | apply below_drew1) | exact HB.out)))); (case aL => have := LMc12.out; omega); intro v222 w22 ho hb hg hat; rw [← Ny221.out] at ho; have n0_ := Aside0.mk (Kd.R_after (ok := (fun k_ => some k_ ≠ (v213 : Value).ownBlock)) (by (with_reducible repeat (first | apply Kd.R_alloc | apply Kd.R_drewN | apply Kd.R_drew)); exact HO211.out) hg hat); have n1_ := Aside0.mk (Kd.R_after (ok := (fun k_ => some k_ ≠ (.slice Ao21 t209.length co21 : Value).ownBlock)) (by (with_reducible repeat (first | apply Kd.R_alloc | apply Kd.R_drewN | apply Kd.R_drew)); exact HO214.out) hg hat); have n2_ := Aside0.mk (hb); have n3_ := Aside0.mk (ho); clear HO211; clear HO214; clear HB; clear HO220; have HO211 := n0_; have HO214 := n1_; have HB := n2_; have HO223 := n3_; clear n0_ n1_ n2_ n3_; clear ho hb hg hat; obtain ⟨Ao23, co23, eo23⟩ := Kd.R_slice HO223.out; subst eo23) | ((with_reducible refine gate_callee (f := 16) rfl ?_); refine goesL_ (some 34) rfl rfl Try.func16 (by kernel_rfl) rfl #[.slice Ao23 y221.length co23] rfl (by (try simp only [List.map_toArray, List.map_cons, List.map_nil]); first | done | rfl | (simp only [List.length_drop, List.length_take]; rfl)) ?_; (with_reducible refine (varint_Get.calls k _ _ y221 t224 t225 t226 _ ?side1 ?side2 A13.out).mono ?_); (case side1 => repeat (first | exact (Kd.R_reads' HO223.out).2.2 | (with_reducible refine Kd.C_alloc ?_ _) | (with_reducible refine Kd.C_drewN ?_ _) | (with_reducible refine Kd.C_drew ?_))); (case side2 => exact (Kd.R_reads' HO223.out).2.1); rintro e w' ⟨rfl, ⟨nd, rfl⟩⟩; refine ⟨_, rfl, ?_⟩))
          (try simp only [Act.put, List.setIfInBounds_toArray, List.set_cons_zero, List.set_cons_succ])
          go_cut [64] (fun v64 wc => ∃ (kq : Nat) (x64_13 : Bool), v64 = .bool x64_13 ∧ Aside0 (tallyroomlaw01_VarintBack.j0 kq a0 a1 t209 t212 x64_13 = some r) ∧ Aside0 (kq ≤ k) ∧ Aside0 (Kd.R (Kd.int .u8) 5 wc w.heap.size (fun k_ => some k_ ≠ (v213 : Value).ownBlock) (.slice Ao21 t209.length co21) t209) ∧ Aside0 (Kd.R (Kd.int .u8) 5 wc w.heap.size (fun k_ => some k_ ≠ ((.slice Ao21 t209.length co21) : Value).ownBlock) v213 t212) ∧ Aside0 (Below w.heap.size w wc))
          case first =>
            have H := HC14.out
            clear HC14
            by_cases c24 : t226 = 0
            · rw [if_pos c24] at H
              have c24b0 : (t226 == 0) = true := beq_iff_eq.mpr c24
              have c24b1 : (t226 != 0) = false := bne_eq_false_iff_eq.mpr c24
              clear c24
              (first | rw [c24b0] | (simp only [i64_w, i32_w]; rw [c24b0]) | skip)
              by_cases c25 : t224 = a0
              · rw [if_pos c25] at H
                have c25b0 : (t224 == a0) = true := beq_iff_eq.mpr c25
                have c25b1 : (t224 != a0) = false := bne_eq_false_iff_eq.mpr c25
                clear c25
                by_cases c26 : t225 = (t209.length : Int)
                · rw [if_pos c26] at H
                  have c26b0 : (t225 == (t209.length : Int)) = true := beq_iff_eq.mpr c26
                  have c26b1 : (t225 != (t209.length : Int)) = false := bne_eq_false_iff_eq.mpr c26
                  clear c26
                  replace H := Option.bind_eq_some_iff.mp H
                  obtain ⟨t227, A270, H⟩ := H
                  replace H : ((varint_Zag.f t227).bind fun t228 => (if t228 = a2 then ((varint_Zag.f a0).bind fun t229 => ((varint_Zig.f t229).bind fun t230 => (tallyroomlaw01_VarintBack.j0 k a0 a1 t209 t212 (t230 != a0)))) else (tallyroomlaw01_VarintBack.j0 k a0 a1 t209 t212 true))) = some r := H
                  have A27 := Aside0.mk A270
                  clear A270
                  replace H := Option.bind_eq_some_iff.mp H
                  obtain ⟨t228, A280, H⟩ := H
                  replace H : (if t228 = a2 then ((varint_Zag.f a0).bind fun t229 => ((varint_Zig.f t229).bind fun t230 => (tallyroomlaw01_VarintBack.j0 k a0 a1 t209 t212 (t230 != a0)))) else (tallyroomlaw01_VarintBack.j0 k a0 a1 t209 t212 true)) = some r := H
                  have A28 := Aside0.mk A280
                  clear A280
                  by_cases c29 : t228 = a2
                  · rw [if_pos c29] at H
                    have c29b0 : (t228 == a2) = true := beq_iff_eq.mpr c29
                    have c29b1 : (t228 != a2) = false := bne_eq_false_iff_eq.mpr c29
                    clear c29
                    replace H := Option.bind_eq_some_iff.mp H
                    obtain ⟨t229, A300, H⟩ := H
                    replace H : ((varint_Zig.f t229).bind fun t230 => (tallyroomlaw01_VarintBack.j0 k a0 a1 t209 t212 (t230 != a0))) = some r := H
                    have A30 := Aside0.mk A300
                    clear A300
                    replace H := Option.bind_eq_some_iff.mp H
                    obtain ⟨t230, A310, H⟩ := H
                    replace H : (tallyroomlaw01_VarintBack.j0 k a0 a1 t209 t212 (t230 != a0)) = some r := H
                    have A31 := Aside0.mk A310
                    clear A310
                    have H' := Aside0.mk H
                    clear H
                    go_wp2_with (first | (go_at_call 22; (with_reducible refine (varint_Zig.calls a2 t227 _ A27.out).mono ?_); rintro e w' ⟨rfl, ⟨nd, rfl⟩⟩) | (go_at_call 24; (with_reducible refine (varint_Zag.calls t227 t228 _ A28.out).mono ?_); rintro e w' ⟨rfl, ⟨nd, rfl⟩⟩) | (go_at_call 24; (with_reducible refine (varint_Zag.calls a0 t229 _ A30.out).mono ?_); rintro e w' ⟨rfl, ⟨nd, rfl⟩⟩) | (go_at_call 22; (with_reducible refine (varint_Zig.calls t229 t230 _ A31.out).mono ?_); rintro e w' ⟨rfl, ⟨nd, rfl⟩⟩))
                    go_meet
                    case rel => exact ⟨_, ((t230 != a0)), (by first | rfl | (simp; done) | (simp [*]; done)), H', ⟨by first | omega | exact Nat.le_refl _⟩, ⟨by (with_reducible repeat (first | apply Kd.R_alloc | apply Kd.R_drewN | apply Kd.R_drew)); exact Kd.R_mono HO211.out (fun _ hk => hk.1)⟩, ⟨by (with_reducible repeat (first | apply Kd.R_alloc | apply Kd.R_drewN | apply Kd.R_drew)); exact Kd.R_mono HO214.out (fun _ hk => hk.1)⟩, ⟨by repeat (first | (with_reducible first | exact HB.out | apply below_alloc | apply pw_below_drewN | apply below_drew1) | exact HB.out)⟩⟩
                  · rw [if_neg c29] at H
                    have c29b0 : (t228 == a2) = false := beq_eq_false_iff_ne.mpr c29
                    have c29b1 : (t228 != a2) = true := bne_iff_ne.mpr c29
                    have H' := Aside0.mk H
                    clear H
                    go_wp2_with (first | (go_at_call 22; (with_reducible refine (varint_Zig.calls a2 t227 _ A27.out).mono ?_); rintro e w' ⟨rfl, ⟨nd, rfl⟩⟩) | (go_at_call 24; (with_reducible refine (varint_Zag.calls t227 t228 _ A28.out).mono ?_); rintro e w' ⟨rfl, ⟨nd, rfl⟩⟩))
                    go_meet
                    case rel => exact ⟨_, (true), (by first | rfl | (simp; done) | (simp [*]; done)), H', ⟨by first | omega | exact Nat.le_refl _⟩, ⟨by (with_reducible repeat (first | apply Kd.R_alloc | apply Kd.R_drewN | apply Kd.R_drew)); exact Kd.R_mono HO211.out (fun _ hk => hk.1)⟩, ⟨by (with_reducible repeat (first | apply Kd.R_alloc | apply Kd.R_drewN | apply Kd.R_drew)); exact Kd.R_mono HO214.out (fun _ hk => hk.1)⟩, ⟨by repeat (first | (with_reducible first | exact HB.out | apply below_alloc | apply pw_below_drewN | apply below_drew1) | exact HB.out)⟩⟩
                · rw [if_neg c26] at H
                  have c26b0 : (t225 == (t209.length : Int)) = false := beq_eq_false_iff_ne.mpr c26
                  have c26b1 : (t225 != (t209.length : Int)) = true := bne_iff_ne.mpr c26
                  have H' := Aside0.mk H
                  clear H
                  go_wp2
                  go_meet
                  case rel => exact ⟨_, (true), (by first | rfl | (simp; done) | (simp [*]; done)), H', ⟨by first | omega | exact Nat.le_refl _⟩, ⟨by (with_reducible repeat (first | apply Kd.R_alloc | apply Kd.R_drewN | apply Kd.R_drew)); exact Kd.R_mono HO211.out (fun _ hk => hk.1)⟩, ⟨by (with_reducible repeat (first | apply Kd.R_alloc | apply Kd.R_drewN | apply Kd.R_drew)); exact Kd.R_mono HO214.out (fun _ hk => hk.1)⟩, ⟨by repeat (first | (with_reducible first | exact HB.out | apply below_alloc | apply pw_below_drewN | apply below_drew1) | exact HB.out)⟩⟩
              · rw [if_neg c25] at H
                have c25b0 : (t224 == a0) = false := beq_eq_false_iff_ne.mpr c25
                have c25b1 : (t224 != a0) = true := bne_iff_ne.mpr c25
                have H' := Aside0.mk H
                clear H
                go_wp2
                go_meet
                case rel => exact ⟨_, (true), (by first | rfl | (simp; done) | (simp [*]; done)), H', ⟨by first | omega | exact Nat.le_refl _⟩, ⟨by (with_reducible repeat (first | apply Kd.R_alloc | apply Kd.R_drewN | apply Kd.R_drew)); exact Kd.R_mono HO211.out (fun _ hk => hk.1)⟩, ⟨by (with_reducible repeat (first | apply Kd.R_alloc | apply Kd.R_drewN | apply Kd.R_drew)); exact Kd.R_mono HO214.out (fun _ hk => hk.1)⟩, ⟨by repeat (first | (with_reducible first | exact HB.out | apply below_alloc | apply pw_below_drewN | apply below_drew1) | exact HB.out)⟩⟩
            · rw [if_neg c24] at H
              have c24b0 : (t226 == 0) = false := beq_eq_false_iff_ne.mpr c24
              have c24b1 : (t226 != 0) = true := bne_iff_ne.mpr c24
              (first | rw [c24b0] | (simp only [i64_w, i32_w]; rw [c24b0]) | skip)
              have H' := Aside0.mk H
              clear H
              go_wp2
              go_meet
              case rel => exact ⟨_, (true), (by first | rfl | (simp; done) | (simp [*]; done)), H', ⟨by first | omega | exact Nat.le_refl _⟩, ⟨by (with_reducible repeat (first | apply Kd.R_alloc | apply Kd.R_drewN | apply Kd.R_drew)); exact Kd.R_mono HO211.out (fun _ hk => hk.1)⟩, ⟨by (with_reducible repeat (first | apply Kd.R_alloc | apply Kd.R_drewN | apply Kd.R_drew)); exact Kd.R_mono HO214.out (fun _ hk => hk.1)⟩, ⟨by repeat (first | (with_reducible first | exact HB.out | apply below_alloc | apply pw_below_drewN | apply below_drew1) | exact HB.out)⟩⟩
          case rest =>
            clear HC14
            try clear c1
            try clear c2
            try clear p2
            try clear c3
            try clear c6
            try clear c7
            try clear c7b0
            try clear c7b1
            try clear c11
            try clear c12
            try clear c15
            try clear c16
            try clear c18
            try clear c24
            try clear c24b0
            try clear c24b1
            try clear c25
            try clear c25b0
            try clear c25b1
            try clear c26
            try clear c26b0
            try clear c26b1
            try clear c29
            try clear c29b0
            try clear c29b1
            obtain ⟨kq, x64_13, rfl, HA, HJ13, HO_9, HO_10, HB⟩ := hcut
            cases kq with
            | zero => exact absurd HA.out (by simp [tallyroomlaw01_VarintBack.j0])
            | succ kj13 =>
              have H := HA.out
              clear HA
              simp only [tallyroomlaw01_VarintBack.j0] at H
              by_cases c32 : x64_13 = true
              · subst c32
                have H1 : (some false) = some r := by rw [if_pos rfl] at H; exact H
                clear H
                have H := H1
                clear H1
                obtain rfl := Option.some.inj H
                go_wp2
                go_ret
                exact ⟨by first | rfl | (simp [errW_none, errW_some] <;> rfl) | (simp [*, errW_none, errW_some] <;> rfl), by repeat (first | (with_reducible first | exact HB.out | apply below_alloc | apply pw_below_drewN | apply below_drew1) | exact HB.out)⟩
              · replace c32 := Bool.eq_false_iff.mpr c32
                subst c32
                have H1 : (tallyroomlaw01_VarintBack.l0 kj13 a0 a1 t209 t212 0) = some r := by rw [if_neg (show ¬ (false = true) by decide)] at H; exact H
                clear H
                have H := H1
                clear H1
                have H' := Aside0.mk H
                clear H
                go_wp2
                go_loopg [14] kj13 (fun kq v14 w' => ∃ (x14_2 : Int), v14 = .int .i64 x14_2 ∧ Aside0 (tallyroomlaw01_VarintBack.l0 kq a0 a1 t209 t212 x14_2 = some r) ∧ Aside0 (kq ≤ kj13) ∧ Aside0 (Kd.R (Kd.int .u8) 5 w' w.heap.size (fun k_ => some k_ ≠ (v213 : Value).ownBlock) (.slice Ao21 t209.length co21) t209) ∧ Aside0 (Kd.R (Kd.int .u8) 5 w' w.heap.size (fun k_ => some k_ ≠ ((.slice Ao21 t209.length co21) : Value).ownBlock) v213 t212) ∧ Aside0 (Below w.heap.size w w'))
                case atStart => exact ⟨(0), (by first | rfl | (simp; done) | (simp [*]; done)), H', ⟨Nat.le_refl _⟩, ⟨by (with_reducible repeat (first | apply Kd.R_alloc | apply Kd.R_drewN | apply Kd.R_drew)); exact HO_9.out⟩, ⟨by (with_reducible repeat (first | apply Kd.R_alloc | apply Kd.R_drewN | apply Kd.R_drew)); exact HO_10.out⟩, ⟨by repeat (first | (with_reducible first | exact HB.out | apply below_alloc | apply pw_below_drewN | apply below_drew1) | exact HB.out)⟩⟩
                case round =>
                  clear H'
                  try clear c1
                  try clear c2
                  try clear p2
                  try clear c3
                  try clear c6
                  try clear c7
                  try clear c7b0
                  try clear c7b1
                  try clear c11
                  try clear c12
                  try clear c15
                  try clear c16
                  try clear c18
                  try clear c24
                  try clear c24b0
                  try clear c24b1
                  try clear c25
                  try clear c25b0
                  try clear c25b1
                  try clear c26
                  try clear c26b0
                  try clear c26b1
                  try clear c29
                  try clear c29b0
                  try clear c29b1
                  try clear c32
                  try clear p2
                  obtain ⟨x14_2, rfl, HA, HK2, HO_9, HO_10, HB⟩ := hrel
                  cases gk with
                  | zero => exact absurd HA.out (by simp [tallyroomlaw01_VarintBack.l0])
                  | succ k2 =>
                    have H := HA.out
                    clear HA
                    simp only [tallyroomlaw01_VarintBack.l0] at H
                    by_cases c33 : x14_2 < (t209.length : Int)
                    · rw [if_pos c33] at H
                      have c33b0 : decide (x14_2 < (t209.length : Int)) = true := decide_eq_true c33
                      clear c33
                      by_cases c34 : 0 ≤ x14_2
                      · rw [if_pos c34] at H
                        have c34b0 := eq_true c34
                        have c34b1 : decide (0 ≤ x14_2) = true := decide_eq_true c34
                        clear c34
                        by_cases c35 : x14_2 ≤ (t209.length : Int)
                        · rw [if_pos c35] at H
                          have c35b0 := eq_true c35
                          have c35b1 : decide (x14_2 ≤ (t209.length : Int)) = true := decide_eq_true c35
                          clear c35
                          obtain ⟨y231, hy231⟩ : ∃ y_ : List Int, y_ = (t209.take (x14_2 : Int).toNat) := ⟨_, rfl⟩
                          replace H : ((varint_Get.f k2 y231).bind fun bt235 => (if bt235.2.2 = 10 then (tallyroomlaw01_VarintBack.l0 k2 a0 a1 t209 t212 (wrap64 (x14_2 + 1))) else (some false))) = some r := by first | (rw [hy231]; with_reducible exact H) | (have H2_ := (Option.bind_some _ _).symm.trans H; rw [hy231]; with_reducible exact H2_) | (have H2_ := (Option.bind_some _ _).symm.trans H; with_reducible exact H2_) | with_reducible exact H | (rw [hy231]; exact H) | exact H
                          have Ny231 := Aside0.mk hy231
                          clear hy231
                          replace H := Option.bind_eq_some_iff.mp H
                          obtain ⟨⟨t235, t236, t237⟩, A360, H⟩ := H
                          replace H : (if t237 = 10 then (tallyroomlaw01_VarintBack.l0 k2 a0 a1 t209 t212 (wrap64 (x14_2 + 1))) else (some false)) = some r := H
                          have A36 := Aside0.mk A360
                          clear A360
                          by_cases c37 : t237 = 10
                          · rw [if_pos c37] at H
                            have c37b0 : (t237 == 10) = true := beq_iff_eq.mpr c37
                            have c37b1 : (t237 != 10) = false := bne_eq_false_iff_eq.mpr c37
                            clear c37
                            have H' := Aside0.mk H
                            clear H
                            have q38 : (x14_2 : Int) ≤ ((t209.length : Int) : Int) := of_decide_eq_true (by first | (with_reducible assumption) | assumption)
                            obtain ⟨i038, hi038, _, hsz38, _⟩ := info_parts info5
                            have hroom38 : t209.length ≤ co21 := (Kd.R_reads' HO_9.out).2.1
                            have hC38 : Kd.C (Kd.int .u8) _ Ao21 t209.length t209 := (Kd.R_reads' HO_9.out).2.2
                            have hcut38 := cut_to (P := Try.prog) 22 5 .i64 Try.underlying22 hi038 Ao21 t209.length co21 x14_2 (of_decide_eq_true (by first | (with_reducible assumption) | assumption)) q38 hroom38
                            have hr38 := Kd.C_take (m := (x14_2 : Int).toNat) hC38 (by omega)
                            have hy38 : y231.length = (x14_2 : Int).toNat := (by rw [Ny231.out, List.length_take]; omega)
                            rw [← Ny231.out] at hr38
                            rw [← hy38] at hcut38
                            have HR234 := Aside0.mk hr38
                            have HC234 := Aside0.mk (show y231.length ≤ co21 from by omega)
                            clear hr38 hC38 hroom38 hi038 hsz38
                            have KY38 := Aside0.mk hy38
                            clear hy38
                            have KL38 := Aside0.mk (show (x14_2 : Int).toNat ≤ t209.length from by omega)
                            replace q38 := eq_true q38
                            go_wp2_with (first | ((with_reducible refine gate_callee (f := 16) rfl ?_); refine goesL_ (some 75) rfl rfl Try.func16 (by kernel_rfl) rfl #[.slice Ao21 y231.length co21] rfl (by (try simp only [List.map_toArray, List.map_cons, List.map_nil]); first | done | rfl | (simp only [List.length_drop, List.length_take]; rfl)) ?_; (with_reducible refine (varint_Get.calls k2 _ _ y231 t235 t236 t237 _ ?side1 ?side2 A36.out).mono ?_); (case side1 => repeat (first | exact (by repeat (first | (with_reducible exact HR234.out) | (with_reducible refine Kd.C_alloc ?_ _) | (with_reducible refine Kd.C_drewN ?_ _) | (with_reducible refine Kd.C_drew ?_) | exact HR234.out)) | (with_reducible refine Kd.C_alloc ?_ _) | (with_reducible refine Kd.C_drewN ?_ _) | (with_reducible refine Kd.C_drew ?_))); (case side2 => exact HC234.out); rintro e w' ⟨rfl, ⟨nd, rfl⟩⟩; refine ⟨_, rfl, ?_⟩))
                            go_roundg k2
                            case measure => have := HJ13.out; have := HK2.out; omega
                            case rel => exact ⟨(wrap64 (x14_2 + 1)), (by first | rfl | (simp; done) | (simp [*]; done)), H', ⟨by have := HJ13.out; have := HK2.out; omega⟩, ⟨by (with_reducible repeat (first | apply Kd.R_alloc | apply Kd.R_drewN | apply Kd.R_drew)); exact HO_9.out⟩, ⟨by (with_reducible repeat (first | apply Kd.R_alloc | apply Kd.R_drewN | apply Kd.R_drew)); exact HO_10.out⟩, ⟨by repeat (first | (with_reducible first | exact HB.out | apply below_alloc | apply pw_below_drewN | apply below_drew1) | exact HB.out)⟩⟩
                          · rw [if_neg c37] at H
                            have c37b0 : (t237 == 10) = false := beq_eq_false_iff_ne.mpr c37
                            have c37b1 : (t237 != 10) = true := bne_iff_ne.mpr c37
                            obtain rfl := Option.some.inj H
                            have q39 : (x14_2 : Int) ≤ ((t209.length : Int) : Int) := of_decide_eq_true (by first | (with_reducible assumption) | assumption)
                            obtain ⟨i039, hi039, _, hsz39, _⟩ := info_parts info5
                            have hroom39 : t209.length ≤ co21 := (Kd.R_reads' HO_9.out).2.1
                            have hC39 : Kd.C (Kd.int .u8) _ Ao21 t209.length t209 := (Kd.R_reads' HO_9.out).2.2
                            have hcut39 := cut_to (P := Try.prog) 22 5 .i64 Try.underlying22 hi039 Ao21 t209.length co21 x14_2 (of_decide_eq_true (by first | (with_reducible assumption) | assumption)) q39 hroom39
                            have hr39 := Kd.C_take (m := (x14_2 : Int).toNat) hC39 (by omega)
                            have hy39 : y231.length = (x14_2 : Int).toNat := (by rw [Ny231.out, List.length_take]; omega)
                            rw [← Ny231.out] at hr39
                            rw [← hy39] at hcut39
                            have HR234 := Aside0.mk hr39
                            have HC234 := Aside0.mk (show y231.length ≤ co21 from by omega)
                            clear hr39 hC39 hroom39 hi039 hsz39
                            have KY39 := Aside0.mk hy39
                            clear hy39
                            have KL39 := Aside0.mk (show (x14_2 : Int).toNat ≤ t209.length from by omega)
                            replace q39 := eq_true q39
                            go_wp2_with (first | ((with_reducible refine gate_callee (f := 16) rfl ?_); refine goesL_ (some 75) rfl rfl Try.func16 (by kernel_rfl) rfl #[.slice Ao21 y231.length co21] rfl (by (try simp only [List.map_toArray, List.map_cons, List.map_nil]); first | done | rfl | (simp only [List.length_drop, List.length_take]; rfl)) ?_; (with_reducible refine (varint_Get.calls k2 _ _ y231 t235 t236 t237 _ ?side1 ?side2 A36.out).mono ?_); (case side1 => repeat (first | exact (by repeat (first | (with_reducible exact HR234.out) | (with_reducible refine Kd.C_alloc ?_ _) | (with_reducible refine Kd.C_drewN ?_ _) | (with_reducible refine Kd.C_drew ?_) | exact HR234.out)) | (with_reducible refine Kd.C_alloc ?_ _) | (with_reducible refine Kd.C_drewN ?_ _) | (with_reducible refine Kd.C_drew ?_))); (case side2 => exact HC234.out); rintro e w' ⟨rfl, ⟨nd, rfl⟩⟩; refine ⟨_, rfl, ?_⟩))
                            go_ret
                            exact ⟨by first | rfl | (simp [errW_none, errW_some] <;> rfl) | (simp [*, errW_none, errW_some] <;> rfl), by repeat (first | (with_reducible first | exact HB.out | apply below_alloc | apply pw_below_drewN | apply below_drew1) | exact HB.out)⟩
                        · rw [if_neg c35] at H
                          exact absurd H (by simp)
                      · rw [if_neg c34] at H
                        exact absurd H (by simp)
                    · rw [if_neg c33] at H
                      have c33b0 : decide (x14_2 < (t209.length : Int)) = false := decide_eq_false c33
                      clear c33
                      by_cases c40 : (t209.length : Int) ≤ (t212.length : Int)
                      · rw [if_pos c40] at H
                        have c40b0 : decide ((t209.length : Int) ≤ (t212.length : Int)) = true := decide_eq_true c40
                        have c40b1 : decide (t209.length ≤ t212.length) = true := decide_eq_true (Int.ofNat_le.mp c40)
                        clear c40
                        by_cases c41 : 0 ≤ (t209.length : Int)
                        · rw [if_pos c41] at H
                          have c41b0 := eq_true c41
                          have c41b1 : decide (0 ≤ (t209.length : Int)) = true := decide_eq_true c41
                          clear c41
                          have c42b0 := eq_true (of_decide_eq_true (by first | (with_reducible assumption) | assumption) : (t209.length : Int) ≤ (t212.length : Int))
                          obtain ⟨y238, hy238⟩ : ∃ y_ : List Int, y_ = (t212.take ((t209.length : Int) : Int).toNat) := ⟨_, rfl⟩
                          replace H : ((tallyroomref01_Bytes.f t209 y238).bind fun t242 => (some (t242 == (a0 == a1)))) = some r := by first | (rw [hy238]; with_reducible exact H) | (have H2_ := (Option.bind_some _ _).symm.trans H; rw [hy238]; with_reducible exact H2_) | (have H2_ := (Option.bind_some _ _).symm.trans H; with_reducible exact H2_) | with_reducible exact H | (rw [hy238]; exact H) | exact H
                          have Ny238 := Aside0.mk hy238
                          clear hy238
                          replace H := Option.bind_eq_some_iff.mp H
                          obtain ⟨t242, A430, H⟩ := H
                          replace H : (some (t242 == (a0 == a1))) = some r := H
                          have A43 := Aside0.mk A430
                          clear A430
                          obtain rfl := Option.some.inj H
                          obtain ⟨Ao44, co44, eo44⟩ := Kd.R_slice HO_10.out
                          subst eo44
                          have q45 : ((t209.length : Int) : Int) ≤ ((t212.length : Int) : Int) := of_decide_eq_true (by first | (with_reducible assumption) | assumption)
                          obtain ⟨i045, hi045, _, hsz45, _⟩ := info_parts info5
                          have hroom45 : t212.length ≤ co44 := (Kd.R_reads' HO_10.out).2.1
                          have hC45 : Kd.C (Kd.int .u8) _ Ao44 t212.length t212 := (Kd.R_reads' HO_10.out).2.2
                          have hcut45 := cut_to (P := Try.prog) 22 5 .i64 Try.underlying22 hi045 Ao44 t212.length co44 (t209.length : Int) (of_decide_eq_true (by first | (with_reducible assumption) | assumption)) q45 hroom45
                          have hr45 := Kd.C_take (m := ((t209.length : Int) : Int).toNat) hC45 (by omega)
                          have hy45 : y238.length = ((t209.length : Int) : Int).toNat := (by rw [Ny238.out, List.length_take]; omega)
                          rw [← Ny238.out] at hr45
                          rw [← hy45] at hcut45
                          have HR241 := Aside0.mk hr45
                          have HC241 := Aside0.mk (show y238.length ≤ co44 from by omega)
                          clear hr45 hC45 hroom45 hi045 hsz45
                          have KY45 := Aside0.mk hy45
                          clear hy45
                          have KL45 := Aside0.mk (show ((t209.length : Int) : Int).toNat ≤ t212.length from by omega)
                          replace q45 := eq_true q45
                          go_wp2_with (first | (go_at_call 21; (with_reducible refine (tallyroomref01_Bytes.calls _ _ t209 _ _ y238 t242 _ ?side1 ?side2 ?side3 ?side4 A43.out).mono ?_); (case side1 => repeat (first | exact (Kd.R_reads' HO_9.out).2.2 | (with_reducible refine Kd.C_alloc ?_ _) | (with_reducible refine Kd.C_drewN ?_ _) | (with_reducible refine Kd.C_drew ?_))); (case side2 => exact (Kd.R_reads' HO_9.out).2.1); (case side3 => repeat (first | exact (by repeat (first | (with_reducible exact HR241.out) | (with_reducible refine Kd.C_alloc ?_ _) | (with_reducible refine Kd.C_drewN ?_ _) | (with_reducible refine Kd.C_drew ?_) | exact HR241.out)) | (with_reducible refine Kd.C_alloc ?_ _) | (with_reducible refine Kd.C_drewN ?_ _) | (with_reducible refine Kd.C_drew ?_))); (case side4 => exact HC241.out); rintro e w' ⟨rfl, ⟨nd, rfl⟩⟩))
                          go_ret
                          exact ⟨by first | rfl | (simp [errW_none, errW_some] <;> rfl) | (simp [*, errW_none, errW_some] <;> rfl), by repeat (first | (with_reducible first | exact HB.out | apply below_alloc | apply pw_below_drewN | apply below_drew1) | exact HB.out)⟩
                        · rw [if_neg c41] at H
                          exact absurd H (by simp)
                      · rw [if_neg c40] at H
                        have c40b0 : decide ((t209.length : Int) ≤ (t212.length : Int)) = false := decide_eq_false c40
                        have c40b1 : decide (t209.length ≤ t212.length) = false := decide_eq_false (fun h => c40 (Int.ofNat_le.mpr h))
                        clear c40
                        obtain rfl := Option.some.inj H
                        obtain ⟨Ao46, co46, eo46⟩ := Kd.R_slice HO_10.out
                        subst eo46
                        go_wp2
                        go_ret
                        exact ⟨by first | rfl | (simp [errW_none, errW_some] <;> rfl) | (simp [*, errW_none, errW_some] <;> rfl), by repeat (first | (with_reducible first | exact HB.out | apply below_alloc | apply pw_below_drewN | apply below_drew1) | exact HB.out)⟩
        · rw [if_neg c12] at H
          exact absurd H (by simp)
      · rw [if_neg c11] at H
        exact absurd H (by simp)
  · replace c6 := Bool.eq_false_iff.mpr c6
    subst c6
    have H1 : (some false) = some r := by rw [if_neg (show ¬ (false = true) by decide)] at H; exact H
    clear H
    have H := H1
    clear H1
    obtain rfl := Option.some.inj H
    go_enter Try.func6, Try.ntmps6
    go_wp2_with (first | ((with_reducible refine gate_callee (f := 15) rfl ?_); refine goesL_ (some 19) rfl rfl Try.func15 (by kernel_rfl) rfl #[] rfl (by (try simp only [List.map_toArray, List.map_cons, List.map_nil]); first | done | rfl | (simp only [List.length_drop, List.length_take]; rfl)) ?_; (with_reducible refine (tallyroomlaw01_alive.calls k  false _ A5.out).mono ?_); rintro e w47 ⟨rfl, hb⟩; refine ⟨_, rfl, ?_⟩; have n0_ := Aside0.mk (below_step (by repeat (first | (with_reducible first | exact HB.out | apply below_alloc | apply pw_below_drewN | apply below_drew1) | exact HB.out)) hb); clear HB; have HB := n0_; clear n0_; (try clear hb); (try clear hb2); (try clear hk); (try clear hi)))
    go_ret
    exact ⟨by first | rfl | (simp [errW_none, errW_some] <;> rfl) | (simp [*, errW_none, errW_some] <;> rfl), by repeat (first | (with_reducible first | exact HB.out | apply below_alloc | apply pw_below_drewN | apply below_drew1) | exact HB.out)⟩

/-- THE ONE PURE STATEMENT of tallyroomlaw01_VarintBack: yours. -/
def tallyroomlaw01_VarintBack.Pure : Prop := ∀ (a0 : Int) (a1 : Int) (a2 : Int) (l3 : List Int), (Lit.int .u64 a0).wf = true → (Lit.int .u64 a1).wf = true → (Lit.int .i64 a2).wf = true → l3.length ≤ maxLen → l3.length * 1 ≤ 140737488351232 → (∀ x ∈ l3, (Lit.int .u8 x).wf = true) → ∃ k, tallyroomlaw01_VarintBack.f k a0 a1 a2 l3 = some true
theorem tallyroomlaw01_VarintBack.walk (P : tallyroomlaw01_VarintBack.Pure) (a0 : Int) (a1 : Int) (a2 : Int) (a3 : Option Addr) (len3 cap3 : Nat) (z3 : List Int) (w : World) (w0 : (Lit.int .u64 a0).wf = true) (w1 : (Lit.int .u64 a1).wf = true) (w2 : (Lit.int .i64 a2).wf = true) (w3 : (a3 = none ∧ len3 = 0 ∧ cap3 = 0 ∧ z3 = []) ∨ ∃ x, a3 = some x ∧ len3 ≤ cap3 ∧ cap3 ≤ maxLen ∧ z3.length = cap3 ∧ (∀ i, i < z3.length → w.cell? (x.add i) = some (.int .u8 (z3.getD i 0))) ∧ ∀ n ∈ z3, (Lit.int .u8 n).wf = true) (y3 : len3 * 1 ≤ 140737488351232) :
    Calls Try.prog 6 #[.int .u64 a0, .int .u64 a1, .int .i64 a2, .slice a3 len3 cap3] w fun e w' => e = .returned (.bool true) ∧ Below w.heap.size w w' := by
  obtain ⟨l3, rfl, hr3, hm3, hw3, hc3⟩ := ReadsInt.ofRowC w3
  obtain ⟨k, h⟩ := P a0 a1 a2 l3 w0 w1 w2 hm3 y3 hw3
  refine (tallyroomlaw01_VarintBack.calls k a0 a1 a2 _ _ l3 true w (Kd.C_of_reads (d := (0 : Int)) (h1 := fun _ => rfl) hr3) hc3 h).mono ?_
  rintro e w' ⟨rfl, hd⟩
  exact ⟨rfl, hd⟩

/-! ### crc_half: function 40 -/
def halfT : List Int := [0, 498536548, 997073096, 651767980, 1994146192, 1802195444, 1303535960, 1342533948, 3988292384, 4027552580, 3604390888, 3412177804, 2607071920, 2262029012, 2685067896, 3183342108]
def crc_half.f (a0 : Int) : Option Int := if 0 ≤ a0 then (if a0 ≤ 4294967295 then some (Go.bits .xor .u32 (rd halfT (a0 % 16)) (a0 / 16)) else none) else none
theorem and15 (n : Int) (h : 0 ≤ n ∧ n ≤ 4294967295) : Go.bits .and .u32 n 15 = n % 16 := by
  exact bits_mask .u32 32 (by decide) (fun n h0 h1 => by rw [IntKind.wrap_u32]; omega) 4 (by decide) n (by omega) (by omega)
set_option maxHeartbeats 8000000 in
set_option maxRecDepth 100000 in
theorem crc_half.calls (a0 : Int) (r : Int) (w : World) (h : crc_half.f a0 = some r) :
    Calls Try.prog 40 #[.int .u32 a0] w fun e w' => e = .returned (.int .u32 r) ∧ Below w.heap.size w w' := by
  unfold crc_half.f at h
  by_cases h0 : 0 ≤ a0
  · by_cases h1 : a0 ≤ 4294967295
    · rw [if_pos h0, if_pos h1] at h
      obtain rfl := Option.some.inj h
      have hj : ∃ j : Int, a0 % 16 = j ∧ 0 ≤ j ∧ j ≤ 15 := ⟨_, rfl, by omega, by omega⟩
      obtain ⟨j, hj, hj0, hj1⟩ := hj
      have hand := and15 a0 ⟨h0, h1⟩
      rw [hj] at hand ⊢
      have hH := Aside0.mk hj
      clear hj h
      have hq0 : 0 ≤ a0 / 16 := by omega
      have hq1 : a0 / 16 ≤ 268435455 := by omega
      have hc : j = 0 ∨ j = 1 ∨ j = 2 ∨ j = 3 ∨ j = 4 ∨ j = 5 ∨ j = 6 ∨ j = 7 ∨ j = 8 ∨ j = 9 ∨ j = 10 ∨ j = 11 ∨ j = 12 ∨ j = 13 ∨ j = 14 ∨ j = 15 := by omega
      rcases hc with rfl | rfl | rfl | rfl | rfl | rfl | rfl | rfl | rfl | rfl | rfl | rfl | rfl | rfl | rfl | rfl
      all_goals
        go_enter Try.func40, Try.ntmps40
        go_wp2
        go_ret
        exact ⟨rfl, (Below.refl _ _).alloc (Nat.le_refl _) _⟩
    · rw [if_pos h0, if_neg h1] at h; cases h
  · rw [if_neg h0] at h; cases h

/-! ### crc_More: function 28 -/
def crc_More.l0 : Nat → Int → List Int → Int → Int → Option (Int)
  | 0, _, _, _, _ => none
  | k + 1, x5, x10, x11, x12 => if x12 < x11 then (if 0 ≤ x12 then (if x12 < (x10.length : Int) then ((crc_half.f (Go.bits .xor .u32 x5 ((rd x10 x12) % 4294967296))).bind fun t244 => ((crc_half.f t244).bind fun t245 => (crc_More.l0 k t245 x10 x11 (wrap64 (x12 + 1))))) else (none)) else (none)) else (some (Go.bits .xor .u32 4294967295 x5))
def crc_More.f (k : Nat) (a0 : Int) (l1 : List Int) : Option (Int) := crc_More.l0 k (Go.bits .xor .u32 4294967295 a0) l1 (l1.length : Int) 0
theorem crc_More.mono_l : ∀ k, (∀ y0 y1 y2 y3, LeO (crc_More.l0 k y0 y1 y2 y3) (crc_More.l0 (k + 1) y0 y1 y2 y3))
  | 0 => fun _ _ _ _ r h => by simp [crc_More.l0] at h
  | k + 1 => by
    have ih0 := crc_More.mono_l k
    · intro y0 y1 y2 y3
      unfold crc_More.l0
      repeat' first
      | (with_reducible exact ih0 _ _ _ _)
      | (with_reducible exact LeO.refl _)
      | (with_reducible exact LeO.none _)
      | (with_reducible refine LeO.ite ?_ ?_)
      | (with_reducible refine LeO.bind ?_ (fun _ => ?_))
      | exact ih0 _ _ _ _
      | exact LeO.none _
      | refine LeO.ite ?_ ?_
      | refine LeO.bind ?_ (fun _ => ?_)
theorem crc_More.mono : ∀ a0 a1 k, LeO (crc_More.f k a0 a1) (crc_More.f (k + 1) a0 a1) := by
  intro a0 a1 k
  have ih0 := crc_More.mono_l k
  unfold crc_More.f
  repeat' first
      | (with_reducible exact ih0 _ _ _ _)
      | (with_reducible exact LeO.refl _)
      | (with_reducible exact LeO.none _)
      | (with_reducible refine LeO.ite ?_ ?_)
      | (with_reducible refine LeO.bind ?_ (fun _ => ?_))
      | exact ih0 _ _ _ _
      | exact LeO.none _
      | refine LeO.ite ?_ ?_
      | refine LeO.bind ?_ (fun _ => ?_)
set_option maxHeartbeats 8000000 in
set_option maxRecDepth 100000 in
theorem crc_More.calls (k : Nat) (a0 : Int) (A1 : Option Addr) (c1 : Nat) (l1 : List Int) (r : Int) (w : World) (hr1 : Kd.C (Kd.int .u8) w A1 l1.length l1) (hc1 : l1.length ≤ c1) (h : crc_More.f k a0 l1 = some r) :
    Calls Try.prog 28 #[.int .u32 a0, .slice A1 l1.length c1] w fun e w' => e = .returned (.int .u32 r) ∧ Below w.heap.size w w' := by
  have HR1 := Aside0.mk hr1
  have HC1 := Aside0.mk hc1
  clear hr1 hc1
  have HB := Aside0.mk (Below.refl w.heap.size w)
  have H : (crc_More.l0 k (Go.bits .xor .u32 4294967295 a0) l1 (l1.length : Int) 0) = some r := h
  clear h
  have H' := Aside0.mk H
  clear H
  go_enter Try.func28, Try.ntmps28
  go_wp2
  go_loopg [5, 12] k (fun kq v5 v12 w' => ∃ (x5_1 : Int) (x12_1 : Int), v5 = .int .u32 x5_1 ∧ v12 = .int .i64 x12_1 ∧ Aside0 (crc_More.l0 kq x5_1 l1 (l1.length : Int) x12_1 = some r) ∧ Aside0 (kq ≤ k) ∧ Aside0 (Below w.heap.size w w'))
  case atStart => exact ⟨(Go.bits .xor .u32 4294967295 a0), (0), (by first | rfl | (simp; done) | (simp [*]; done)), (by first | rfl | (simp; done) | (simp [*]; done)), H', ⟨Nat.le_refl _⟩, ⟨by repeat (first | (with_reducible first | exact HB.out | apply below_alloc | apply pw_below_drewN | apply below_drew1) | exact HB.out)⟩⟩
  case round =>
    clear H'
    try clear c1
    try clear c2
    try clear p2
    obtain ⟨x5_1, x12_1, rfl, rfl, HA, HK1, HB⟩ := hrel
    cases gk with
    | zero => exact absurd HA.out (by simp [crc_More.l0])
    | succ k1 =>
      have H := HA.out
      clear HA
      simp only [crc_More.l0] at H
      by_cases c3 : x12_1 < (l1.length : Int)
      · rw [if_pos c3] at H
        have c3b0 : decide (x12_1 < (l1.length : Int)) = true := decide_eq_true c3
        clear c3
        by_cases c4 : 0 ≤ x12_1
        · rw [if_pos c4] at H
          have c4b0 : decide (0 ≤ x12_1) = true := decide_eq_true c4
          clear c4
          by_cases c5 : x12_1 < (l1.length : Int)
          · rw [if_pos c5] at H
            have c5b0 : decide (x12_1 < (l1.length : Int)) = true := decide_eq_true c5
            clear c5
            replace H := Option.bind_eq_some_iff.mp H
            obtain ⟨t244, A60, H⟩ := H
            replace H : ((crc_half.f t244).bind fun t245 => (crc_More.l0 k1 t245 l1 (l1.length : Int) (wrap64 (x12_1 + 1)))) = some r := H
            have A6 := Aside0.mk A60
            clear A60
            replace H := Option.bind_eq_some_iff.mp H
            obtain ⟨t245, A70, H⟩ := H
            replace H : (crc_More.l0 k1 t245 l1 (l1.length : Int) (wrap64 (x12_1 + 1))) = some r := H
            have A7 := Aside0.mk A70
            clear A70
            have H' := Aside0.mk H
            clear H
            have p243 : 0 ≤ (x12_1 : Int) := of_decide_eq_true (by first | (with_reducible assumption) | assumption)
            have q243 : x12_1 < (l1.length : Int) := of_decide_eq_true (by first | (with_reducible assumption) | assumption)
            obtain ⟨ad243, e243, hx243_0⟩ := Kd.at_int HR1.out x12_1 p243 q243
            cases e243
            replace hx243_0 := (HB.out.cell (World.block_lt_of_cell? w _ hx243_0)).trans hx243_0
            replace p243 := eq_true p243
            replace q243 := eq_true q243
            go_wp2_with (first | ((with_reducible refine gate_callee (f := 40) rfl ?_); refine goesL_ (some 20) rfl rfl Try.func40 (by kernel_rfl) rfl #[.int .u32 (Go.bits .xor .u32 x5_1 ((rd l1 x12_1) % 4294967296))] rfl (by (try simp only [List.map_toArray, List.map_cons, List.map_nil]); first | done | rfl | (simp only [List.length_drop, List.length_take]; rfl)) ?_; (with_reducible refine (crc_half.calls (Go.bits .xor .u32 x5_1 ((rd l1 x12_1) % 4294967296)) t244 _ A6.out).mono ?_); rintro e w8 ⟨rfl, hb⟩; refine ⟨_, rfl, ?_⟩; have n0_ := Aside0.mk (below_step (by repeat (first | (with_reducible first | exact HB.out | apply below_alloc | apply pw_below_drewN | apply below_drew1) | exact HB.out)) hb); clear HB; have HB := n0_; clear n0_; (try clear hb); (try clear hb2); (try clear hk); (try clear hi)) | ((with_reducible refine gate_callee (f := 40) rfl ?_); refine goesL_ (some 21) rfl rfl Try.func40 (by kernel_rfl) rfl #[.int .u32 t244] rfl (by (try simp only [List.map_toArray, List.map_cons, List.map_nil]); first | done | rfl | (simp only [List.length_drop, List.length_take]; rfl)) ?_; (with_reducible refine (crc_half.calls t244 t245 _ A7.out).mono ?_); rintro e w9 ⟨rfl, hb⟩; refine ⟨_, rfl, ?_⟩; have n0_ := Aside0.mk (below_step (by repeat (first | (with_reducible first | exact HB.out | apply below_alloc | apply pw_below_drewN | apply below_drew1) | exact HB.out)) hb); clear HB; have HB := n0_; clear n0_; (try clear hb); (try clear hb2); (try clear hk); (try clear hi)))
            go_roundg k1
            case measure => have := HK1.out; omega
            case rel => exact ⟨(t245), (wrap64 (x12_1 + 1)), (by first | rfl | (simp; done) | (simp [*]; done)), (by first | rfl | (simp; done) | (simp [*]; done)), H', ⟨by have := HK1.out; omega⟩, ⟨by repeat (first | (with_reducible first | exact HB.out | apply below_alloc | apply pw_below_drewN | apply below_drew1) | exact HB.out)⟩⟩
          · rw [if_neg c5] at H
            exact absurd H (by simp)
        · rw [if_neg c4] at H
          exact absurd H (by simp)
      · rw [if_neg c3] at H
        have c3b0 : decide (x12_1 < (l1.length : Int)) = false := decide_eq_false c3
        clear c3
        obtain rfl := Option.some.inj H
        go_wp2
        go_ret
        exact ⟨by first | rfl | (simp [errW_none, errW_some] <;> rfl) | (simp [*, errW_none, errW_some] <;> rfl), by repeat (first | (with_reducible first | exact HB.out | apply below_alloc | apply pw_below_drewN | apply below_drew1) | exact HB.out)⟩

/-! ### crc_Sum: function 27 -/
def crc_Sum.f (k : Nat) (l0 : List Int) : Option (Int) := (crc_More.f k 0 l0).bind fun t246 => (some t246)
theorem crc_Sum.mono : ∀ a0 k, LeO (crc_Sum.f k a0) (crc_Sum.f (k + 1) a0) := by
  intro a0 k
  unfold crc_Sum.f
  repeat' first
      | (with_reducible exact crc_More.mono _ _ _)
      | (with_reducible exact LeO.refl _)
      | (with_reducible exact LeO.none _)
      | (with_reducible refine LeO.ite ?_ ?_)
      | (with_reducible refine LeO.bind ?_ (fun _ => ?_))
      | exact crc_More.mono _ _ _
      | exact LeO.none _
      | refine LeO.ite ?_ ?_
      | refine LeO.bind ?_ (fun _ => ?_)
set_option maxHeartbeats 8000000 in
set_option maxRecDepth 100000 in
theorem crc_Sum.calls (k : Nat) (A0 : Option Addr) (c0 : Nat) (l0 : List Int) (r : Int) (w : World) (hr0 : Kd.C (Kd.int .u8) w A0 l0.length l0) (hc0 : l0.length ≤ c0) (h : crc_Sum.f k l0 = some r) :
    Calls Try.prog 27 #[.slice A0 l0.length c0] w fun e w' => e = .returned (.int .u32 r) ∧ Below w.heap.size w w' := by
  have HR0 := Aside0.mk hr0
  have HC0 := Aside0.mk hc0
  clear hr0 hc0
  have HB := Aside0.mk (Below.refl w.heap.size w)
  have H : ((crc_More.f k 0 l0).bind fun t246 => (some t246)) = some r := h
  clear h
  replace H := Option.bind_eq_some_iff.mp H
  obtain ⟨t246, A20, H⟩ := H
  replace H : (some t246) = some r := H
  have A2 := Aside0.mk A20
  clear A20
  obtain rfl := Option.some.inj H
  go_enter Try.func27, Try.ntmps27
  go_wp2_with (first | ((with_reducible refine gate_callee (f := 28) rfl ?_); refine goesL_ (some 4) rfl rfl Try.func28 (by kernel_rfl) rfl #[.int .u32 0, .slice A0 l0.length c0] rfl (by (try simp only [List.map_toArray, List.map_cons, List.map_nil]); first | done | rfl | (simp only [List.length_drop, List.length_take]; rfl)) ?_; (with_reducible refine (crc_More.calls k 0 _ _ l0 t246 _ ?side1 ?side2 A2.out).mono ?_); (case side1 => repeat (first | exact HR0.out | (with_reducible refine Kd.C_alloc ?_ _) | (with_reducible refine Kd.C_drewN ?_ _) | (with_reducible refine Kd.C_drew ?_))); (case side2 => exact HC0.out); rintro e w3 ⟨rfl, hb⟩; refine ⟨_, rfl, ?_⟩; have n0_ := Aside0.mk (below_step (by repeat (first | (with_reducible first | exact HB.out | apply below_alloc | apply pw_below_drewN | apply below_drew1) | exact HB.out)) hb); clear HB; have HB := n0_; clear n0_; (try clear hb); (try clear hb2); (try clear hk); (try clear hi)))
  go_ret
  exact ⟨by first | rfl | (simp [errW_none, errW_some] <;> rfl) | (simp [*, errW_none, errW_some] <;> rfl), by repeat (first | (with_reducible first | exact HB.out | apply below_alloc | apply pw_below_drewN | apply below_drew1) | exact HB.out)⟩

/-! ### crc_tail: function 41 -/
def crc_tail.l0 : Nat → Int → List Int → Int → Option (List Int)
  | 0, _, _, _ => none
  | k + 1, x0, x3, x4 => if x4 < 4 then (if x3.length < 140737488355328 then (crc_tail.l0 k (x0 / 256) (x3 ++ [(x0) % 256]) (wrap64 (x4 + 1))) else (none)) else (some x3)
def crc_tail.f (k : Nat) (a0 : Int) : Option (List Int) := crc_tail.l0 k a0 ([] : List Int) 0
theorem crc_tail.mono_l : ∀ k, (∀ y0 y1 y2, LeO (crc_tail.l0 k y0 y1 y2) (crc_tail.l0 (k + 1) y0 y1 y2))
  | 0 => fun _ _ _ r h => by simp [crc_tail.l0] at h
  | k + 1 => by
    have ih0 := crc_tail.mono_l k
    · intro y0 y1 y2
      unfold crc_tail.l0
      repeat' first
      | (with_reducible exact ih0 _ _ _)
      | (with_reducible exact LeO.refl _)
      | (with_reducible exact LeO.none _)
      | (with_reducible refine LeO.ite ?_ ?_)
      | (with_reducible refine LeO.bind ?_ (fun _ => ?_))
      | exact ih0 _ _ _
      | exact LeO.none _
      | refine LeO.ite ?_ ?_
      | refine LeO.bind ?_ (fun _ => ?_)
theorem crc_tail.mono : ∀ a0 k, LeO (crc_tail.f k a0) (crc_tail.f (k + 1) a0) := by
  intro a0 k
  have ih0 := crc_tail.mono_l k
  unfold crc_tail.f
  repeat' first
      | (with_reducible exact ih0 _ _ _)
      | (with_reducible exact LeO.refl _)
      | (with_reducible exact LeO.none _)
      | (with_reducible refine LeO.ite ?_ ?_)
      | (with_reducible refine LeO.bind ?_ (fun _ => ?_))
      | exact ih0 _ _ _
      | exact LeO.none _
      | refine LeO.ite ?_ ?_
      | refine LeO.bind ?_ (fun _ => ?_)
set_option maxHeartbeats 8000000 in
set_option maxRecDepth 100000 in
theorem crc_tail.calls (k : Nat) (a0 : Int) (r : List Int) (w : World) (h : crc_tail.f k a0 = some r) :
    Calls Try.prog 41 #[.int .u32 a0] w fun e w' => ∃ v0_ : Value, e = .returned (v0_) ∧ Kd.R (Kd.int .u8) 5 w' w.heap.size (fun _ => True) v0_ r ∧ Below w.heap.size w w' := by
  have HB := Aside0.mk (Below.refl w.heap.size w)
  have H : (crc_tail.l0 k a0 ([] : List Int) 0) = some r := h
  clear h
  have H' := Aside0.mk H
  clear H
  go_enter Try.func41, Try.ntmps41
  go_wp2
  go_loopg [0, 3, 4] k (fun kq v0 v3 v4 w' => ∃ (x0_1 : Int) (x3_1 : List Int) (x4_1 : Int), v0 = .int .u32 x0_1 ∧ v4 = .int .i64 x4_1 ∧ Aside0 (crc_tail.l0 kq x0_1 x3_1 x4_1 = some r) ∧ Aside0 (kq ≤ k) ∧ Aside0 (Kd.R (Kd.int .u8) 5 w' w.heap.size (fun _ => True) v3 x3_1) ∧ Aside0 (Below w.heap.size w w'))
  case atStart => exact ⟨(a0), (([] : List Int)), (0), (by first | rfl | (simp; done) | (simp [*]; done)), (by first | rfl | (simp; done) | (simp [*]; done)), H', ⟨Nat.le_refl _⟩, ⟨by first | exact Kd.R_nil _ _ _ _ _ | exact Kd.N_nil _ _ _ _ _ | exact Kd.V_nil _ _ _ _ _ | exact Kd.Q_nil _ _ _ _ _ | exact Kd.S_nil _ _ _ _ _⟩, ⟨by repeat (first | (with_reducible first | exact HB.out | apply below_alloc | apply pw_below_drewN | apply below_drew1) | exact HB.out)⟩⟩
  case round =>
    clear H'
    obtain ⟨x0_1, x3_1, x4_1, rfl, rfl, HA, HK1, HO_3, HB⟩ := hrel
    cases gk with
    | zero => exact absurd HA.out (by simp [crc_tail.l0])
    | succ k1 =>
      have H := HA.out
      clear HA
      simp only [crc_tail.l0] at H
      by_cases c2 : x4_1 < 4
      · rw [if_pos c2] at H
        have c2b0 : decide (x4_1 < 4) = true := decide_eq_true c2
        clear c2
        by_cases c3 : x3_1.length < 140737488355328
        · rw [if_pos c3] at H
          have LMc3 := Aside0.mk c3
          clear c3
          obtain ⟨y247, hy247⟩ : ∃ y_ : List Int, y_ = (x3_1 ++ [(x0_1) % 256]) := ⟨_, rfl⟩
          replace H : (crc_tail.l0 k1 (x0_1 / 256) y247 (wrap64 (x4_1 + 1))) = some r := by first | (rw [hy247]; with_reducible exact H) | (have H2_ := (Option.bind_some _ _).symm.trans H; rw [hy247]; with_reducible exact H2_) | (have H2_ := (Option.bind_some _ _).symm.trans H; with_reducible exact H2_) | with_reducible exact H | (rw [hy247]; exact H) | exact H
          have Ny247 := Aside0.mk hy247
          clear hy247
          have H' := Aside0.mk H
          clear H
          go_wp2_with (first | ((with_reducible refine gate_builtin (b := .append) (xs := #[.tmp 6, .tmp 9]) rfl ?_); at_builtin; refine Kd.R_append (Kd.int .u8) (w0 := w) w.heap.size rfl (.tmp 6) (.tmp 9) 22 5 (.int .u8 0) 1 rfl Try.underlying22 info5 rfl (by decide) (by omega) u3 x3_1 ((x0_1) % 256) [.int .u8 ((x0_1) % 256)] (fun _ => True) (fun _ => False) rfl rfl ?aP (fun _ hk => hk.elim) ?aF ?aO ?aB ?aS ?aL ?_; (case aP => exact rfl); (case aB => exact (by repeat (first | (with_reducible first | exact HB.out | apply below_alloc | apply pw_below_drewN | apply below_drew1) | exact HB.out))); (case aF => exact (fun _ _ => trivial)); (case aO => exact (by (with_reducible repeat (first | apply Kd.R_alloc | apply Kd.R_drewN | apply Kd.R_drew)); exact HO_3.out)); (case aS => exact (below_size (by repeat (first | (with_reducible first | exact HB.out | apply below_alloc | apply pw_below_drewN | apply below_drew1) | exact HB.out)))); (case aL => have := LMc3.out; omega); intro v248 w4 ho hb hg hat; rw [← Ny247.out] at ho; have n0_ := Aside0.mk (hb); have n1_ := Aside0.mk (ho); clear HB; clear HO_3; have HB := n0_; have HO249 := n1_; clear n0_ n1_; clear ho hb hg hat))
          go_roundg k1
          case measure => have := HK1.out; omega
          case rel => exact ⟨(x0_1 / 256), (y247), (wrap64 (x4_1 + 1)), (by first | rfl | (simp; done) | (simp [*]; done)), (by first | rfl | (simp; done) | (simp [*]; done)), H', ⟨by have := HK1.out; omega⟩, ⟨by (with_reducible repeat (first | apply Kd.R_alloc | apply Kd.R_drewN | apply Kd.R_drew)); exact HO249.out⟩, ⟨by repeat (first | (with_reducible first | exact HB.out | apply below_alloc | apply pw_below_drewN | apply below_drew1) | exact HB.out)⟩⟩
        · rw [if_neg c3] at H
          exact absurd H (by simp)
      · rw [if_neg c2] at H
        have c2b0 : decide (x4_1 < 4) = false := decide_eq_false c2
        clear c2
        obtain rfl := Option.some.inj H
        go_wp2
        go_ret
        exact ⟨_, by first | rfl | (simp [errW_none, errW_some] <;> rfl) | (simp [*, errW_none, errW_some] <;> rfl), by (with_reducible repeat (first | apply Kd.R_alloc | apply Kd.R_drewN | apply Kd.R_drew)); exact HO_3.out, by repeat (first | (with_reducible first | exact HB.out | apply below_alloc | apply pw_below_drewN | apply below_drew1) | exact HB.out)⟩

end Go.Proofs.Ytbfmmjdbnbfnmaa.XD
