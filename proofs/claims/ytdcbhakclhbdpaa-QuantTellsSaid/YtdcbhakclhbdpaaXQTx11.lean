-- Made by a program of this session (xprint.py), over the translation; Lean checks it.
import Derived.Test.YtdcbhakclhbdpaaXQTx0
import Derived.Test.YtdcbhakclhbdpaaXQTx1
import Derived.Test.YtdcbhakclhbdpaaXQTx8
namespace Go.Proofs.Ytdcbhakclhbdpaa.XQT
open Go.RowKit Go.Proofs.YtdcbhakclhbdpaaW.PrintWords Go.Proofs.YtdcbhakclhbdpaaW.PrintLast Go.Proofs.YtdcbhakclhbdpaaW.PrintMore
attribute [local go_sem] max2_int min2_int max_two min_two max_three min_three max_four min_four   -- for this text's walks alone
set_option linter.unusedVariables false
set_option linter.unusedSimpArgs false

/-! ### quant_Of: function 29 -/
def quant_Of.j0 : Nat → List Int → Int → Bool → List ByteArray → Bool → Int → Bool → Int → Bool → Int → Bool → List (S26) → List (S107) → Option (Int × Int × Int)
  | 0, _, _, _, _, _, _, _, _, _, _, _, _, _ => none
  | k + 1, x0, x2, x29, x146000, x146001, x146002, x146003, x146004, x146005, x146006, x146007, x146008, x146009 => if x29 = true then (some (0, 0, 1)) else ((quant_Bucket.f k x146008 x2).bind fun bt149 => (if bt149.2 = 0 then ((quant_Bounds.f x0 bt149.1).bind fun bt151 => (some (bt151.1, bt151.2.1, 0))) else (some (0, 0, bt149.2))))
def quant_Of.f (k : Nat) (l0 : List Int) (l1_0 : List ByteArray) (a1_1 : Bool) (a1_2 : Int) (a1_3 : Bool) (a1_4 : Int) (a1_5 : Bool) (a1_6 : Int) (a1_7 : Bool) (l1_8 : List (S26)) (l1_9 : List (S107)) (a2 : Int) : Option (Int × Int × Int) := (quant_Bounds.f l0 0).bind fun bt146 => (if bt146.2.2 = true then (quant_Of.j0 k l0 a2 ((l1_8.length : Int) != (wrap64 ((l0.length : Int) + 1))) l1_0 a1_1 a1_2 a1_3 a1_4 a1_5 a1_6 a1_7 l1_8 l1_9) else (quant_Of.j0 k l0 a2 true l1_0 a1_1 a1_2 a1_3 a1_4 a1_5 a1_6 a1_7 l1_8 l1_9))
theorem quant_Of.mono_l : ∀ k, (∀ y0 y1 y2 y3 y4 y5 y6 y7 y8 y9 y10 y11 y12, LeO (quant_Of.j0 k y0 y1 y2 y3 y4 y5 y6 y7 y8 y9 y10 y11 y12) (quant_Of.j0 (k + 1) y0 y1 y2 y3 y4 y5 y6 y7 y8 y9 y10 y11 y12))
  | 0 => fun _ _ _ _ _ _ _ _ _ _ _ _ _ r h => by simp [quant_Of.j0] at h
  | k + 1 => by
    have ih0 := quant_Of.mono_l k
    · intro y0 y1 y2 y3 y4 y5 y6 y7 y8 y9 y10 y11 y12
      unfold quant_Of.j0
      repeat' first
      | (with_reducible exact ih0 _ _ _ _ _ _ _ _ _ _ _ _ _)
      | (with_reducible exact quant_Bucket.mono _ _ _)
      | (with_reducible exact LeO.refl _)
      | (with_reducible exact LeO.none _)
      | (with_reducible refine LeO.ite ?_ ?_)
      | (with_reducible refine LeO.bind ?_ (fun _ => ?_))
      | exact ih0 _ _ _ _ _ _ _ _ _ _ _ _ _
      | exact quant_Bucket.mono _ _ _
      | exact LeO.none _
      | refine LeO.ite ?_ ?_
      | refine LeO.bind ?_ (fun _ => ?_)
theorem quant_Of.mono : ∀ a0 a1 a2 a3 a4 a5 a6 a7 a8 a9 a10 a11 k, LeO (quant_Of.f k a0 a1 a2 a3 a4 a5 a6 a7 a8 a9 a10 a11) (quant_Of.f (k + 1) a0 a1 a2 a3 a4 a5 a6 a7 a8 a9 a10 a11) := by
  intro a0 a1 a2 a3 a4 a5 a6 a7 a8 a9 a10 a11 k
  have ih0 := quant_Of.mono_l k
  unfold quant_Of.f
  repeat' first
      | (with_reducible exact ih0 _ _ _ _ _ _ _ _ _ _ _ _ _)
      | (with_reducible exact quant_Bucket.mono _ _ _)
      | (with_reducible exact LeO.refl _)
      | (with_reducible exact LeO.none _)
      | (with_reducible refine LeO.ite ?_ ?_)
      | (with_reducible refine LeO.bind ?_ (fun _ => ?_))
      | exact ih0 _ _ _ _ _ _ _ _ _ _ _ _ _
      | exact quant_Bucket.mono _ _ _
      | exact LeO.none _
      | refine LeO.ite ?_ ?_
      | refine LeO.bind ?_ (fun _ => ?_)
set_option maxHeartbeats 8000000 in
set_option maxRecDepth 100000 in
theorem quant_Of.calls (k : Nat) (A0 : Option Addr) (c0 : Nat) (l0 : List Int) (A1_0 : Option Addr) (c1_0 : Nat) (l1_0 : List ByteArray) (a1_1 : Bool) (a1_2 : Int) (a1_3 : Bool) (a1_4 : Int) (a1_5 : Bool) (a1_6 : Int) (a1_7 : Bool) (A1_8 : Option Addr) (c1_8 : Nat) (l1_8 : List (S26)) (A1_9 : Option Addr) (c1_9 : Nat) (l1_9 : List (S107)) (a2 : Int) (r1 : Int) (r2 : Int) (r3 : Int) (w : World) (hr0 : Kd.C (Kd.int .u64) w A0 l0.length l0) (hc0 : l0.length ≤ c0) (hr1_0 : Kd.C Kd.string w A1_0 l1_0.length l1_0) (hc1_0 : l1_0.length ≤ c1_0) (hr1_8 : Kd.C k26 w A1_8 l1_8.length l1_8) (hc1_8 : l1_8.length ≤ c1_8) (hr1_9 : Kd.C k107 w A1_9 l1_9.length l1_9) (hc1_9 : l1_9.length ≤ c1_9) (h : quant_Of.f k l0 l1_0 a1_1 a1_2 a1_3 a1_4 a1_5 a1_6 a1_7 l1_8 l1_9 a2 = some (r1, r2, r3)) :
    Calls Try.prog 29 #[.slice A0 l0.length c0, .agg #[.slice A1_0 l1_0.length c1_0, .bool a1_1, .int .u64 a1_2, .bool a1_3, .int .u64 a1_4, .bool a1_5, .int .u64 a1_6, .bool a1_7, .slice A1_8 l1_8.length c1_8, .slice A1_9 l1_9.length c1_9], .int .i64 a2] w fun e w' => e = .returned (.tuple #[.int .u64 r1, .int .u64 r2, .int .i64 r3]) ∧ Below w.heap.size w w' := by
  have hu46 := Try.underlying46
  have HR0 := Aside0.mk hr0
  have HC0 := Aside0.mk hc0
  clear hr0 hc0
  have HR1_0 := Aside0.mk hr1_0
  have HC1_0 := Aside0.mk hc1_0
  clear hr1_0 hc1_0
  have HR1_8 := Aside0.mk hr1_8
  have HC1_8 := Aside0.mk hc1_8
  clear hr1_8 hc1_8
  have HR1_9 := Aside0.mk hr1_9
  have HC1_9 := Aside0.mk hc1_9
  clear hr1_9 hc1_9
  have HB := Aside0.mk (Below.refl w.heap.size w)
  have H : ((quant_Bounds.f l0 0).bind fun bt146 => (if bt146.2.2 = true then (quant_Of.j0 k l0 a2 ((l1_8.length : Int) != (wrap64 ((l0.length : Int) + 1))) l1_0 a1_1 a1_2 a1_3 a1_4 a1_5 a1_6 a1_7 l1_8 l1_9) else (quant_Of.j0 k l0 a2 true l1_0 a1_1 a1_2 a1_3 a1_4 a1_5 a1_6 a1_7 l1_8 l1_9))) = some (r1, r2, r3) := h
  clear h
  replace H := Option.bind_eq_some_iff.mp H
  obtain ⟨⟨t146, t147, t148⟩, A40, H⟩ := H
  replace H : (if t148 = true then (quant_Of.j0 k l0 a2 ((l1_8.length : Int) != (wrap64 ((l0.length : Int) + 1))) l1_0 a1_1 a1_2 a1_3 a1_4 a1_5 a1_6 a1_7 l1_8 l1_9) else (quant_Of.j0 k l0 a2 true l1_0 a1_1 a1_2 a1_3 a1_4 a1_5 a1_6 a1_7 l1_8 l1_9)) = some (r1, r2, r3) := H
  have A4 := Aside0.mk A40
  clear A40
  have HC5 := Aside0.mk H
  clear H
  go_enter Try.func29, Try.ntmps29
  go_upto_region 2 with (first | ((with_reducible refine gate_dst (N := 4) rfl ?_); (try (refine gate_guard (by rfl) ?_; dsimp only)); refine box_event ?hg (N := 4) ?hd (cs := #[.slice A1_0 l1_0.length c1_0, .bool a1_1, .int .u64 a1_2, .bool a1_3, .int .u64 a1_4, .bool a1_5, .int .u64 a1_6, .bool a1_7, .slice A1_8 l1_8.length c1_8, .slice A1_9 l1_9.length c1_9]) (t := 46) ?hr ?_; (case hd => rfl); (case hg => rfl); (case hr => first | (go_simp; done) | (go_simp; rfl)); intro gb145 hg w6 hbox hb; have n0_ := Aside0.mk (below_step (by repeat (first | (with_reducible first | exact HB.out | apply below_alloc | apply pw_below_drewN | apply below_drew1) | exact HB.out)) hb); have n1_ := Aside0.mk (hbox); have n2_ := Aside0.mk ((by rw [hg]; exact (below_size (by repeat (first | (with_reducible first | exact HB.out | apply below_alloc | apply pw_below_drewN | apply below_drew1) | exact HB.out))) : w.heap.size ≤ gb145)); have n3_ := Aside0.mk ((by rw [hg]; exact (below_size (by repeat (first | (with_reducible first | exact HB.out | apply below_alloc | apply pw_below_drewN | apply below_drew1) | exact HB.out))) : w.heap.size ≤ gb145)); clear HB; have HB := n0_; have BK145 := n1_; have GW145 := n2_; have GE145 := n3_; clear n0_ n1_ n2_ n3_; clear hb hbox hg) | ((with_reducible refine gate_callee (f := 27) rfl ?_); refine goesL_ (some 15) rfl rfl Try.func27 (by kernel_rfl) rfl #[.slice A0 l0.length c0, .int .i64 0] rfl (by (try simp only [List.map_toArray, List.map_cons, List.map_nil]); first | done | rfl | (simp only [List.length_drop, List.length_take]; rfl)) ?_; (with_reducible refine (quant_Bounds.calls _ _ l0 0 t146 t147 t148 _ ?side1 ?side2 A4.out).mono ?_); (case side1 => repeat (first | exact (Kd.C_below HR0.out HB.out) | (with_reducible refine Kd.C_alloc ?_ _) | (with_reducible refine Kd.C_drewN ?_ _) | (with_reducible refine Kd.C_drew ?_))); (case side2 => exact HC0.out); rintro e w7 ⟨rfl, hb⟩; refine ⟨_, rfl, ?_⟩; have n0_ := Aside0.mk (blk_below (g := gb145) (o := .cells #[.slice A1_0 l1_0.length c1_0, .bool a1_1, .int .u64 a1_2, .bool a1_3, .int .u64 a1_4, .bool a1_5, .int .u64 a1_6, .bool a1_7, .slice A1_8 l1_8.length c1_8, .slice A1_9 l1_9.length c1_9] 46 (0, 0)) (by (with_reducible repeat (first | refine blk_drewN ?_ _ | refine blk_drew ?_ | refine blk_alloc ?_ _)); exact BK145.out) hb); have n1_ := Aside0.mk (below_step (by repeat (first | (with_reducible first | exact HB.out | apply below_alloc | apply pw_below_drewN | apply below_drew1 | refine below_set ?_ GE145.out) | exact HB.out)) hb); clear BK145; clear HB; have BK145 := n0_; have HB := n1_; clear n0_ n1_; (try clear hb); (try clear hb2); (try clear hk); (try clear hi)))
  (try simp only [Act.put, List.setIfInBounds_toArray, List.set_cons_zero, List.set_cons_succ])
  go_cut [29] (fun v29 wc => ∃ (kq : Nat) (x29_4 : Bool), v29 = .bool x29_4 ∧ Aside0 (quant_Of.j0 kq l0 a2 x29_4 l1_0 a1_1 a1_2 a1_3 a1_4 a1_5 a1_6 a1_7 l1_8 l1_9 = some (r1, r2, r3)) ∧ Aside0 (kq ≤ k) ∧ Aside0 (wc.heap[gb145]? = some (.cells #[(.slice A1_0 l1_0.length c1_0), .bool a1_1, .int .u64 a1_2, .bool a1_3, .int .u64 a1_4, .bool a1_5, .int .u64 a1_6, .bool a1_7, (.slice A1_8 l1_8.length c1_8), (.slice A1_9 l1_9.length c1_9)] 46 (0, 0))) ∧ Aside0 (Below w.heap.size w wc))
  case first =>
    have H := HC5.out
    clear HC5
    by_cases c8 : t148 = true
    · subst c8
      have H1 : (quant_Of.j0 k l0 a2 ((l1_8.length : Int) != (wrap64 ((l0.length : Int) + 1))) l1_0 a1_1 a1_2 a1_3 a1_4 a1_5 a1_6 a1_7 l1_8 l1_9) = some (r1, r2, r3) := by rw [if_pos rfl] at H; exact H
      clear H
      have H := H1
      clear H1
      have H' := Aside0.mk H
      clear H
      have hcz9_0 : w7.cell? ⟨gb145, 0, none⟩ = some (.slice A1_0 l1_0.length c1_0) := (blk_cell BK145.out 0).trans rfl
      have hcz9_1 : w7.cell? ⟨gb145, 1, none⟩ = some (.bool a1_1) := (blk_cell BK145.out 1).trans rfl
      have hcz9_2 : w7.cell? ⟨gb145, 2, none⟩ = some (.int .u64 a1_2) := (blk_cell BK145.out 2).trans rfl
      have hcz9_3 : w7.cell? ⟨gb145, 3, none⟩ = some (.bool a1_3) := (blk_cell BK145.out 3).trans rfl
      have hcz9_4 : w7.cell? ⟨gb145, 4, none⟩ = some (.int .u64 a1_4) := (blk_cell BK145.out 4).trans rfl
      have hcz9_5 : w7.cell? ⟨gb145, 5, none⟩ = some (.bool a1_5) := (blk_cell BK145.out 5).trans rfl
      have hcz9_6 : w7.cell? ⟨gb145, 6, none⟩ = some (.int .u64 a1_6) := (blk_cell BK145.out 6).trans rfl
      have hcz9_7 : w7.cell? ⟨gb145, 7, none⟩ = some (.bool a1_7) := (blk_cell BK145.out 7).trans rfl
      have hcz9_8 : w7.cell? ⟨gb145, 8, none⟩ = some (.slice A1_8 l1_8.length c1_8) := (blk_cell BK145.out 8).trans rfl
      have hcz9_9 : w7.cell? ⟨gb145, 9, none⟩ = some (.slice A1_9 l1_9.length c1_9) := (blk_cell BK145.out 9).trans rfl
      have hfz9_0 := blk_frozen BK145.out 0
      have hfz9_1 := blk_frozen BK145.out 1
      have hfz9_2 := blk_frozen BK145.out 2
      have hfz9_3 := blk_frozen BK145.out 3
      have hfz9_4 := blk_frozen BK145.out 4
      have hfz9_5 := blk_frozen BK145.out 5
      have hfz9_6 := blk_frozen BK145.out 6
      have hfz9_7 := blk_frozen BK145.out 7
      have hfz9_8 := blk_frozen BK145.out 8
      have hfz9_9 := blk_frozen BK145.out 9
      go_wp2
      go_meet
      case rel => exact ⟨_, (((l1_8.length : Int) != (wrap64 ((l0.length : Int) + 1)))), (by first | rfl | (simp; done) | (simp [*]; done)), H', ⟨by first | omega | exact Nat.le_refl _⟩, ⟨by (with_reducible repeat (first | refine blk_drewN ?_ _ | refine blk_drew ?_ | refine blk_alloc ?_ _)); exact BK145.out⟩, ⟨by repeat (first | (with_reducible first | exact HB.out | apply below_alloc | apply pw_below_drewN | apply below_drew1 | refine below_set ?_ GE145.out) | exact HB.out)⟩⟩
    · replace c8 := Bool.eq_false_iff.mpr c8
      subst c8
      have H1 : (quant_Of.j0 k l0 a2 true l1_0 a1_1 a1_2 a1_3 a1_4 a1_5 a1_6 a1_7 l1_8 l1_9) = some (r1, r2, r3) := by rw [if_neg (show ¬ (false = true) by decide)] at H; exact H
      clear H
      have H := H1
      clear H1
      have H' := Aside0.mk H
      clear H
      go_wp2
      go_meet
      case rel => exact ⟨_, (true), (by first | rfl | (simp; done) | (simp [*]; done)), H', ⟨by first | omega | exact Nat.le_refl _⟩, ⟨by (with_reducible repeat (first | refine blk_drewN ?_ _ | refine blk_drew ?_ | refine blk_alloc ?_ _)); exact BK145.out⟩, ⟨by repeat (first | (with_reducible first | exact HB.out | apply below_alloc | apply pw_below_drewN | apply below_drew1 | refine below_set ?_ GE145.out) | exact HB.out)⟩⟩
  case rest =>
    clear HC5
    try clear c1
    try clear c2
    try clear p2
    try clear p6
    try clear c8
    try clear hcz9_0
    try clear hcz9_1
    try clear hcz9_2
    try clear hcz9_3
    try clear hcz9_4
    try clear hcz9_5
    try clear hcz9_6
    try clear hcz9_7
    try clear hcz9_8
    try clear hcz9_9
    try clear hfz9_0
    try clear hfz9_1
    try clear hfz9_2
    try clear hfz9_3
    try clear hfz9_4
    try clear hfz9_5
    try clear hfz9_6
    try clear hfz9_7
    try clear hfz9_8
    try clear hfz9_9
    obtain ⟨kq, x29_4, rfl, HA, HJ4, BK145, HB⟩ := hcut
    cases kq with
    | zero => exact absurd HA.out (by simp [quant_Of.j0])
    | succ kj4 =>
      have H := HA.out
      clear HA
      simp only [quant_Of.j0] at H
      by_cases c10 : x29_4 = true
      · subst c10
        have H1 : (some (0, 0, 1)) = some (r1, r2, r3) := by rw [if_pos rfl] at H; exact H
        clear H
        have H := H1
        clear H1
        simp only [Option.some.injEq, Prod.mk.injEq] at H
        obtain ⟨rfl, rfl, rfl⟩ := H
        go_wp2
        go_ret3
        exact ⟨by first | rfl | (have e_ := Option.some.inj (A11.out.symm.trans A13.out); simp only [Prod.mk.injEq] at e_; obtain ⟨rfl, rfl⟩ := e_; first | rfl | (simp [*, errW_none, errW_some] <;> rfl)) | (simp [errW_none, errW_some] <;> rfl) | (simp [*, errW_none, errW_some] <;> rfl), by repeat (first | (with_reducible first | exact HB.out | apply below_alloc | apply pw_below_drewN | apply below_drew1 | refine below_set ?_ GE145.out) | exact HB.out)⟩
      · replace c10 := Bool.eq_false_iff.mpr c10
        subst c10
        have H1 : ((quant_Bucket.f kj4 l1_8 a2).bind fun bt149 => (if bt149.2 = 0 then ((quant_Bounds.f l0 bt149.1).bind fun bt151 => (some (bt151.1, bt151.2.1, 0))) else (some (0, 0, bt149.2)))) = some (r1, r2, r3) := by rw [if_neg (show ¬ (false = true) by decide)] at H; exact H
        clear H
        have H := H1
        clear H1
        replace H := Option.bind_eq_some_iff.mp H
        obtain ⟨⟨t149, t150⟩, A110, H⟩ := H
        replace H : (if t150 = 0 then ((quant_Bounds.f l0 t149).bind fun bt151 => (some (bt151.1, bt151.2.1, 0))) else (some (0, 0, t150))) = some (r1, r2, r3) := H
        have A11 := Aside0.mk A110
        clear A110
        by_cases c12 : t150 = 0
        · rw [if_pos c12] at H
          have c12b0 : (t150 == 0) = true := beq_iff_eq.mpr c12
          have c12b1 : (t150 != 0) = false := bne_eq_false_iff_eq.mpr c12
          clear c12
          replace H := Option.bind_eq_some_iff.mp H
          obtain ⟨⟨t151, t152, t153⟩, A130, H⟩ := H
          replace H : (some (t151, t152, 0)) = some (r1, r2, r3) := H
          have A13 := Aside0.mk A130
          clear A130
          simp only [Option.some.injEq, Prod.mk.injEq] at H
          obtain ⟨rfl, rfl, rfl⟩ := H
          have hcz14_0 : wc.cell? ⟨gb145, 0, none⟩ = some (.slice A1_0 l1_0.length c1_0) := (blk_cell BK145.out 0).trans rfl
          have hcz14_1 : wc.cell? ⟨gb145, 1, none⟩ = some (.bool a1_1) := (blk_cell BK145.out 1).trans rfl
          have hcz14_2 : wc.cell? ⟨gb145, 2, none⟩ = some (.int .u64 a1_2) := (blk_cell BK145.out 2).trans rfl
          have hcz14_3 : wc.cell? ⟨gb145, 3, none⟩ = some (.bool a1_3) := (blk_cell BK145.out 3).trans rfl
          have hcz14_4 : wc.cell? ⟨gb145, 4, none⟩ = some (.int .u64 a1_4) := (blk_cell BK145.out 4).trans rfl
          have hcz14_5 : wc.cell? ⟨gb145, 5, none⟩ = some (.bool a1_5) := (blk_cell BK145.out 5).trans rfl
          have hcz14_6 : wc.cell? ⟨gb145, 6, none⟩ = some (.int .u64 a1_6) := (blk_cell BK145.out 6).trans rfl
          have hcz14_7 : wc.cell? ⟨gb145, 7, none⟩ = some (.bool a1_7) := (blk_cell BK145.out 7).trans rfl
          have hcz14_8 : wc.cell? ⟨gb145, 8, none⟩ = some (.slice A1_8 l1_8.length c1_8) := (blk_cell BK145.out 8).trans rfl
          have hcz14_9 : wc.cell? ⟨gb145, 9, none⟩ = some (.slice A1_9 l1_9.length c1_9) := (blk_cell BK145.out 9).trans rfl
          have hfz14_0 := blk_frozen BK145.out 0
          have hfz14_1 := blk_frozen BK145.out 1
          have hfz14_2 := blk_frozen BK145.out 2
          have hfz14_3 := blk_frozen BK145.out 3
          have hfz14_4 := blk_frozen BK145.out 4
          have hfz14_5 := blk_frozen BK145.out 5
          have hfz14_6 := blk_frozen BK145.out 6
          have hfz14_7 := blk_frozen BK145.out 7
          have hfz14_8 := blk_frozen BK145.out 8
          have hfz14_9 := blk_frozen BK145.out 9
          go_wp2_with (first | ((with_reducible refine gate_callee (f := 22) rfl ?_); refine goesL_ (some 34) rfl rfl Try.func22 (by kernel_rfl) rfl #[.slice A1_8 l1_8.length c1_8, .int .i64 a2] rfl (by (try simp only [List.map_toArray, List.map_cons, List.map_nil]); first | done | rfl | (simp only [List.length_drop, List.length_take]; rfl)) ?_; (with_reducible refine (quant_Bucket.calls kj4 _ _ l1_8 a2 t149 t150 _ ?side1 ?side2 A11.out).mono ?_); (case side1 => repeat (first | exact (Kd.C_below HR1_8.out HB.out) | (with_reducible refine Kd.C_alloc ?_ _) | (with_reducible refine Kd.C_drewN ?_ _) | (with_reducible refine Kd.C_drew ?_))); (case side2 => exact HC1_8.out); rintro e w15 ⟨rfl, hb⟩; refine ⟨_, rfl, ?_⟩; have n0_ := Aside0.mk (blk_below (g := gb145) (o := .cells #[.slice A1_0 l1_0.length c1_0, .bool a1_1, .int .u64 a1_2, .bool a1_3, .int .u64 a1_4, .bool a1_5, .int .u64 a1_6, .bool a1_7, .slice A1_8 l1_8.length c1_8, .slice A1_9 l1_9.length c1_9] 46 (0, 0)) (by (with_reducible repeat (first | refine blk_drewN ?_ _ | refine blk_drew ?_ | refine blk_alloc ?_ _)); exact BK145.out) hb); have n1_ := Aside0.mk (below_step (by repeat (first | (with_reducible first | exact HB.out | apply below_alloc | apply pw_below_drewN | apply below_drew1 | refine below_set ?_ GE145.out) | exact HB.out)) hb); clear BK145; clear HB; have BK145 := n0_; have HB := n1_; clear n0_ n1_; (try clear hb); (try clear hb2); (try clear hk); (try clear hi)) | ((with_reducible refine gate_callee (f := 27) rfl ?_); refine goesL_ (some 43) rfl rfl Try.func27 (by kernel_rfl) rfl #[.slice A0 l0.length c0, .int .i64 t149] rfl (by (try simp only [List.map_toArray, List.map_cons, List.map_nil]); first | done | rfl | (simp only [List.length_drop, List.length_take]; rfl)) ?_; (with_reducible refine (quant_Bounds.calls _ _ l0 t149 t151 t152 t153 _ ?side1 ?side2 A13.out).mono ?_); (case side1 => repeat (first | exact (Kd.C_below HR0.out HB.out) | (with_reducible refine Kd.C_alloc ?_ _) | (with_reducible refine Kd.C_drewN ?_ _) | (with_reducible refine Kd.C_drew ?_))); (case side2 => exact HC0.out); rintro e w16 ⟨rfl, hb⟩; refine ⟨_, rfl, ?_⟩; have n0_ := Aside0.mk (blk_below (g := gb145) (o := .cells #[.slice A1_0 l1_0.length c1_0, .bool a1_1, .int .u64 a1_2, .bool a1_3, .int .u64 a1_4, .bool a1_5, .int .u64 a1_6, .bool a1_7, .slice A1_8 l1_8.length c1_8, .slice A1_9 l1_9.length c1_9] 46 (0, 0)) (by (with_reducible repeat (first | refine blk_drewN ?_ _ | refine blk_drew ?_ | refine blk_alloc ?_ _)); exact BK145.out) hb); have n1_ := Aside0.mk (below_step (by repeat (first | (with_reducible first | exact HB.out | apply below_alloc | apply pw_below_drewN | apply below_drew1 | refine below_set ?_ GE145.out) | exact HB.out)) hb); clear BK145; clear HB; have BK145 := n0_; have HB := n1_; clear n0_ n1_; (try clear hb); (try clear hb2); (try clear hk); (try clear hi)))
          go_ret3
          exact ⟨by first | rfl | (have e_ := Option.some.inj (A11.out.symm.trans A13.out); simp only [Prod.mk.injEq] at e_; obtain ⟨rfl, rfl⟩ := e_; first | rfl | (simp [*, errW_none, errW_some] <;> rfl)) | (simp [errW_none, errW_some] <;> rfl) | (simp [*, errW_none, errW_some] <;> rfl), by repeat (first | (with_reducible first | exact HB.out | apply below_alloc | apply pw_below_drewN | apply below_drew1 | refine below_set ?_ GE145.out) | exact HB.out)⟩
        · rw [if_neg c12] at H
          have c12b0 : (t150 == 0) = false := beq_eq_false_iff_ne.mpr c12
          have c12b1 : (t150 != 0) = true := bne_iff_ne.mpr c12
          simp only [Option.some.injEq, Prod.mk.injEq] at H
          obtain ⟨rfl, rfl, rfl⟩ := H
          have hcz17_0 : wc.cell? ⟨gb145, 0, none⟩ = some (.slice A1_0 l1_0.length c1_0) := (blk_cell BK145.out 0).trans rfl
          have hcz17_1 : wc.cell? ⟨gb145, 1, none⟩ = some (.bool a1_1) := (blk_cell BK145.out 1).trans rfl
          have hcz17_2 : wc.cell? ⟨gb145, 2, none⟩ = some (.int .u64 a1_2) := (blk_cell BK145.out 2).trans rfl
          have hcz17_3 : wc.cell? ⟨gb145, 3, none⟩ = some (.bool a1_3) := (blk_cell BK145.out 3).trans rfl
          have hcz17_4 : wc.cell? ⟨gb145, 4, none⟩ = some (.int .u64 a1_4) := (blk_cell BK145.out 4).trans rfl
          have hcz17_5 : wc.cell? ⟨gb145, 5, none⟩ = some (.bool a1_5) := (blk_cell BK145.out 5).trans rfl
          have hcz17_6 : wc.cell? ⟨gb145, 6, none⟩ = some (.int .u64 a1_6) := (blk_cell BK145.out 6).trans rfl
          have hcz17_7 : wc.cell? ⟨gb145, 7, none⟩ = some (.bool a1_7) := (blk_cell BK145.out 7).trans rfl
          have hcz17_8 : wc.cell? ⟨gb145, 8, none⟩ = some (.slice A1_8 l1_8.length c1_8) := (blk_cell BK145.out 8).trans rfl
          have hcz17_9 : wc.cell? ⟨gb145, 9, none⟩ = some (.slice A1_9 l1_9.length c1_9) := (blk_cell BK145.out 9).trans rfl
          have hfz17_0 := blk_frozen BK145.out 0
          have hfz17_1 := blk_frozen BK145.out 1
          have hfz17_2 := blk_frozen BK145.out 2
          have hfz17_3 := blk_frozen BK145.out 3
          have hfz17_4 := blk_frozen BK145.out 4
          have hfz17_5 := blk_frozen BK145.out 5
          have hfz17_6 := blk_frozen BK145.out 6
          have hfz17_7 := blk_frozen BK145.out 7
          have hfz17_8 := blk_frozen BK145.out 8
          have hfz17_9 := blk_frozen BK145.out 9
          go_wp2_with (first | ((with_reducible refine gate_callee (f := 22) rfl ?_); refine goesL_ (some 34) rfl rfl Try.func22 (by kernel_rfl) rfl #[.slice A1_8 l1_8.length c1_8, .int .i64 a2] rfl (by (try simp only [List.map_toArray, List.map_cons, List.map_nil]); first | done | rfl | (simp only [List.length_drop, List.length_take]; rfl)) ?_; (with_reducible refine (quant_Bucket.calls kj4 _ _ l1_8 a2 t149 t150 _ ?side1 ?side2 A11.out).mono ?_); (case side1 => repeat (first | exact (Kd.C_below HR1_8.out HB.out) | (with_reducible refine Kd.C_alloc ?_ _) | (with_reducible refine Kd.C_drewN ?_ _) | (with_reducible refine Kd.C_drew ?_))); (case side2 => exact HC1_8.out); rintro e w18 ⟨rfl, hb⟩; refine ⟨_, rfl, ?_⟩; have n0_ := Aside0.mk (blk_below (g := gb145) (o := .cells #[.slice A1_0 l1_0.length c1_0, .bool a1_1, .int .u64 a1_2, .bool a1_3, .int .u64 a1_4, .bool a1_5, .int .u64 a1_6, .bool a1_7, .slice A1_8 l1_8.length c1_8, .slice A1_9 l1_9.length c1_9] 46 (0, 0)) (by (with_reducible repeat (first | refine blk_drewN ?_ _ | refine blk_drew ?_ | refine blk_alloc ?_ _)); exact BK145.out) hb); have n1_ := Aside0.mk (below_step (by repeat (first | (with_reducible first | exact HB.out | apply below_alloc | apply pw_below_drewN | apply below_drew1 | refine below_set ?_ GE145.out) | exact HB.out)) hb); clear BK145; clear HB; have BK145 := n0_; have HB := n1_; clear n0_ n1_; (try clear hb); (try clear hb2); (try clear hk); (try clear hi)))
          go_ret3
          exact ⟨by first | rfl | (have e_ := Option.some.inj (A11.out.symm.trans A13.out); simp only [Prod.mk.injEq] at e_; obtain ⟨rfl, rfl⟩ := e_; first | rfl | (simp [*, errW_none, errW_some] <;> rfl)) | (simp [errW_none, errW_some] <;> rfl) | (simp [*, errW_none, errW_some] <;> rfl), by repeat (first | (with_reducible first | exact HB.out | apply below_alloc | apply pw_below_drewN | apply below_drew1 | refine below_set ?_ GE145.out) | exact HB.out)⟩

end Go.Proofs.Ytdcbhakclhbdpaa.XQT
