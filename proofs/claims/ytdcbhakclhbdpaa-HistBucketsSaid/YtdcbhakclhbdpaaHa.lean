/- The chapter's example (alive) and the law HistNil, walked. No conditions. -/
import Derived.Test.YtdcbhakclhbdpaaHs
namespace Go.Proofs.Ytdcbhakclhbdpaa.Hi
open Go.RowKit Go.Shelf Go.Proofs.YtdcbhakclhbdpaaW.PrintWords Go.Proofs.YtdcbhakclhbdpaaW.PrintLast
open Go.Proofs.Ytdcbhakclhbdpaa.Ob Go.Proofs.Ytdcbhakclhbdpaa.XH
set_option linter.unusedSimpArgs false
set_option linter.unusedVariables false

theorem C_nums {W : World} {b : Nat} {l : List Nat} (h : Row W b ((ofN l).map (Value.int .u64))) (hl : l.length ≤ 1000) : Kd.C (Kd.int .u64) W (some ⟨b, 0, none⟩) l.length (ofN l) := by
  refine ⟨ofN_length l, by omega, fun _ => ⟨_, rfl, fun j x hx => ⟨[.int .u64 x], rfl, rfl, fun i u hu => ?_⟩⟩⟩
  have e2 : (Kd.int .u64).sz = 1 := rfl
  rw [e2, add_zero, Nat.mul_one]
  match i, hu with
  | 0, hu =>
    obtain rfl := Option.some.inj hu
    exact (h j _ (by rw [List.getElem?_map, hx]; rfl)).1
  | i + 1, hu => cases hu
theorem C_lit2 (W W' : World) (x y : Nat) (o : Only (fun _ => False) (W.alloc (.cells #[.int .u64 (x : Int), .int .u64 (y : Int)] 24)) W') : Kd.C (Kd.int .u64) W' (some ⟨W.heap.size, 0, none⟩) 2 (ofN [x, y]) :=
  Kd.C_below (C_nums (l := [x, y]) (Row.new W [.int .u64 (x : Int), .int .u64 (y : Int)] 24) (by show 2 ≤ 1000; omega)) (below_of o)
theorem field_n : ∀ (w : World) (n : Int) (b : Bool), (Instr.field 26 (.agg #[.int .u64 n, .bool b]) 0).run Try.prog w = .ok (.int .u64 n) w := by intros; kernel_rfl
theorem lit_a (w W' : World) (o : Only (fun _ => False) (w.alloc (.cells #[.int .u64 10, .int .u64 20] 24)) W') : Kd.C (Kd.int .u64) W' (some ⟨w.heap.size, 0, none⟩) 2 (ofN [10, 20]) := C_lit2 w W' 10 20 o
theorem lit_b (w W' : World) (o : Only (fun _ => False) (w.alloc (.cells #[.int .u64 2, .int .u64 2] 24)) W') : Kd.C (Kd.int .u64) W' (some ⟨w.heap.size, 0, none⟩) 2 (ofN [2, 2]) := C_lit2 w W' 2 2 o
theorem buck10 (w W : World) (o : Only (fun _ => False) (w.alloc (.cells #[.int .u64 10, .int .u64 20] 24)) W) : Calls Try.prog 37 #[.slice (some ⟨w.heap.size, 0, none⟩) 2 2, .int .u64 10] W fun r w' => r = .returned (.int .i64 0) ∧ Only (fun _ => False) W w' := bucket_walk W _ 2 2 [10, 20] 10 (lit_a w W o) rfl (by decide) (by decide)
theorem buck11 (w W : World) (o : Only (fun _ => False) (w.alloc (.cells #[.int .u64 10, .int .u64 20] 24)) W) : Calls Try.prog 37 #[.slice (some ⟨w.heap.size, 0, none⟩) 2 2, .int .u64 11] W fun r w' => r = .returned (.int .i64 1) ∧ Only (fun _ => False) W w' := bucket_walk W _ 2 2 [10, 20] 11 (lit_a w W o) rfl (by decide) (by decide)
theorem buck21 (w W : World) (o : Only (fun _ => False) (w.alloc (.cells #[.int .u64 10, .int .u64 20] 24)) W) : Calls Try.prog 37 #[.slice (some ⟨w.heap.size, 0, none⟩) 2 2, .int .u64 21] W fun r w' => r = .returned (.int .i64 2) ∧ Only (fun _ => False) W w' := bucket_walk W _ 2 2 [10, 20] 21 (lit_a w W o) rfl (by decide) (by decide)
theorem put5 {w : World} {lo hi N : Nat} (h : IsH w lo hi N [10, 20] []) : Calls Try.prog 32 #[.pointer (some ⟨N, 0, none⟩), .int .u64 5] w fun r w' => r = .returned (.int .i64 0) ∧ IsH w' lo hi N [10, 20] [5] ∧ Only (fun j => lo ≤ j ∧ j < hi) w w' := put_h h 5 (by decide)
theorem count1 {w : World} {lo hi N : Nat} (h : IsH w lo hi N [10, 20] [5]) : Calls Try.prog 35 #[.pointer (some ⟨N, 0, none⟩)] w fun r w' => r = .returned (.agg #[.int .u64 1, .bool false]) ∧ Only (fun _ => False) w w' := count_h h
/-- The state within the example. -/
structure Ah (w W : World) (lo hi N : Nat) (l : List Nat) : Prop where
  h : IsH W lo hi N [10, 20] l
  a : Only (fun _ => False) (w.alloc (.cells #[.int .u64 10, .int .u64 20] 24)) W
  le : (w.alloc (.cells #[.int .u64 10, .int .u64 20] 24)).heap.size ≤ lo
theorem Ah.keep {w W W' : World} {lo hi N : Nat} {l : List Nat} (h : Ah w W lo hi N l) (o : Only (fun _ => False) W W') : Ah w W' lo hi N l := ⟨h.h.keep o, h.a.trans o, h.le⟩
set_option maxHeartbeats 8000000 in
set_option maxRecDepth 1000000 in
theorem alive_walk (w : World) : Calls Try.prog 34 #[] w fun r w' => r = .returned (.bool true) ∧ Only (fun _ => False) w w' := by
  have hok : Aside0 (okB [10, 20]) := ⟨by decide⟩
  have hno : Aside0 (¬ okB [2, 2]) := ⟨by decide⟩
  have hfd := field_n
  go_enter Try.func34, Try.ntmps34
  go_wp2_with (first
    | (go_at_call 31; first
       | (with_reducible refine (new_h (bs := [10, 20]) _ 2 2 (lit_a w _ (Only.refl _ _)) rfl (by decide) hok.out).mono ?_; rintro r w1 ⟨N, rfl, H, ho⟩; replace H := Aside0.mk (Ah.mk H ho (Nat.le_refl _)); clear ho)
       | (with_reducible refine (new_bad (bs := [2, 2]) _ 2 2 (lit_b w1 _ (Only.refl _ _)) rfl (by decide) (by decide) hno.out).mono ?_; rintro r w2 ⟨rfl, ho⟩; replace H := Aside0.mk (H.out.keep (((Only.refl _ w1).alloc _).trans ho)); clear ho))
    | (go_at_call 37; first
       | (with_reducible refine (buck10 w _ H.out.a).mono ?_; rintro r w3 ⟨rfl, ho⟩; replace H := Aside0.mk (H.out.keep ho); clear ho)
       | (with_reducible refine (buck11 w _ H.out.a).mono ?_; rintro r w4 ⟨rfl, ho⟩; replace H := Aside0.mk (H.out.keep ho); clear ho)
       | (with_reducible refine (buck21 w _ H.out.a).mono ?_; rintro r w5 ⟨rfl, ho⟩; replace H := Aside0.mk (H.out.keep ho); clear ho))
    | (go_at_call 32; with_reducible refine (put5 H.out.h).mono ?_; rintro r w6 ⟨rfl, HP, ho⟩; replace H := Aside0.mk (And.intro HP (fresh H.out.a ho (fun j hj => Nat.le_trans H.out.le hj.1))); clear ho HP)
    | (go_at_call 35; with_reducible refine (count1 H.out.1).mono ?_; rintro r w7 ⟨rfl, ho⟩; replace H := Aside0.mk (H.out.2.trans ho); clear ho))
  go_ret
  exact ⟨by first | rfl | simp, ((Only.refl _ w).alloc _).trans H.out⟩
/-- The state within HistNil. -/
structure Nh (w W : World) (lo hi N : Nat) : Prop where
  h : IsH W lo hi N [] []
  a : Only (fun _ => False) w W
theorem Nh.keep {w W W' : World} {lo hi N : Nat} (h : Nh w W lo hi N) (o : Only (fun _ => False) W W') : Nh w W' lo hi N := ⟨h.h.keep o, h.a.trans o⟩
set_option maxHeartbeats 8000000 in
set_option maxRecDepth 1000000 in
theorem nil_law (w : World) (x : Int) : Calls Try.prog 13 #[.int .u64 x] w fun r w' => r = .returned (.bool true) ∧ Only (fun _ => False) w w' := by
  have hok : Aside0 (okB []) := ⟨by decide⟩
  have hC : Aside0 (∀ W, Kd.C (Kd.int .u64) W none 0 (ofN [])) := ⟨fun W => Kd.C_nil _ W⟩
  go_enter Try.func13, Try.ntmps13
  go_wp2_with (first
    | (go_at_call 34; with_reducible refine (alive_walk _).mono ?_; rintro r w0 ⟨rfl, ho0⟩; replace ho0 := Aside0.mk ho0)
    | (go_at_call 31; with_reducible refine (new_h (bs := []) none 0 0 (hC.out _) rfl (Nat.le_refl _) hok.out).mono ?_; rintro r w1 ⟨N, rfl, H, ho⟩; replace H := Aside0.mk (Nh.mk H (ho0.out.trans ho)); clear ho ho0)
    | (go_at_call 32; with_reducible refine (put_nil _ _).mono ?_; rintro r w2 ⟨rfl, hw⟩; subst hw)
    | (go_at_call 40; first
       | (with_reducible refine (join_nil _ _).mono ?_; rintro r w3 ⟨rfl, hw⟩; subst hw)
       | (with_reducible refine (join_nil2 _ _).mono ?_; rintro r w4 ⟨rfl, hw⟩; subst hw))
    | (go_at_call 33; with_reducible refine (buckets_nil _).mono ?_; rintro r w5 ⟨rfl, hw⟩; subst hw)
    | (go_at_call 35; with_reducible refine (count_nil _).mono ?_; rintro r w6 ⟨rfl, ho⟩; replace H := Aside0.mk (H.out.keep ho); clear ho)
    | (go_at_call 36; with_reducible refine (sum_nil _).mono ?_; rintro r w7 ⟨rfl, ho⟩; replace H := Aside0.mk (H.out.keep ho); clear ho)
    | (go_at_call 41; with_reducible refine (full_nil _).mono ?_; rintro r w8 ⟨rfl, hw⟩; subst hw))
  go_ret
  exact ⟨by first | rfl | simp, H.out.a⟩
end Go.Proofs.Ytdcbhakclhbdpaa.Hi
