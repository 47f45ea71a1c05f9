/- The order of two spans (span.Compare), walked. No conditions but bounds. -/
import Derived.Test.YtllepjhimkogjaaSk
import Derived.Test.YtllepjhimkogjaaOb
import Derived.Test.YtllepjhimkogjaaShr
namespace Go.Proofs.Ytllepjhimkogjaa.Sk
open Go.RowKit Go.Proofs.YtllepjhimkogjaaW.PrintWords Go.Proofs.YtllepjhimkogjaaW.PrintLast Go.Proofs.YtllepjhimkogjaaW.PrintMore Go.Proofs.Ytllepjhimkogjaa.Shr
open Go.Proofs.Ytllepjhimkogjaa.XSq Go.Proofs.Ytllepjhimkogjaa.Ty Go.Proofs.Ytllepjhimkogjaa.Ob
set_option linter.unusedSimpArgs false
set_option linter.unusedVariables false
theorem below_only0 {w w' : World} (h : Below w.heap.size w w') : Only (fun _ => False) w w' := Only.of_below h (fun k hk _ => hk)
/-- Two boxes, and nothing below them other. -/
structure Two (w W : World) (b0 b1 : Nat) (cs0 cs1 : List Value) : Prop where
  r0 : Row W b0 cs0
  r1 : Row W b1 cs1
  b : Below w.heap.size w W
theorem Two.keep {w W W' : World} {b0 b1 : Nat} {cs0 cs1 : List Value} (h : Two w W b0 b1 cs0 cs1) (k : Below W.heap.size W W') : Two w W' b0 b1 cs0 cs1 :=
  ⟨h.r0.only (below_only0 k) id, h.r1.only (below_only0 k) id, h.b.trans (k.mono h.b.size)⟩
theorem Two.drewN {w W : World} {b0 b1 : Nat} {cs0 cs1 : List Value} (h : Two w W b0 b1 cs0 cs1) (n : Nat) : Two w (W.drewN n) b0 b1 cs0 cs1 := h.keep ⟨rfl, rfl, rfl, Nat.le_refl _, fun _ _ => rfl⟩
theorem Two.drew {w W : World} {b0 b1 : Nat} {cs0 cs1 : List Value} (h : Two w W b0 b1 cs0 cs1) : Two w W.drew b0 b1 cs0 cs1 := h.keep ⟨rfl, rfl, rfl, Nat.le_refl _, fun _ _ => rfl⟩
theorem Two.of (w : World) (t0 t1 : TypeId) (cs0 cs1 : List Value) : Two w ((w.alloc (.cells cs0.toArray t0)).alloc (.cells cs1.toArray t1)) w.heap.size (w.heap.size + 1) cs0 cs1 := by
  have e : (w.alloc (.cells cs0.toArray t0)).heap.size = w.heap.size + 1 := by show (w.heap.push _).size = _; simp
  refine ⟨(Row.new w cs0 t0).alloc _, ?_, ((Below.refl _ _).alloc (Nat.le_refl _) _).alloc (by rw [e]; omega) _⟩
  have h := Row.new (w.alloc (.cells cs0.toArray t0)) cs1 t1
  rw [e] at h
  exact h
set_option maxHeartbeats 8000000 in
set_option maxRecDepth 1000000 in
theorem compare_calls (w : World) (a0 : Int) (a1 : Int) (a2 : Int) (a3 : ByteArray) (a4 : ByteArray) (a5 : Int) (a6 : Int) (a7 : Int) (a8 : Int) (b0 : Int) (b1 : Int) (b2 : Int) (b3 : ByteArray) (b4 : ByteArray) (b5 : Int) (b6 : Int) (b7 : Int) (b8 : Int) (A0 A1 : Option Addr) (c0 c1 : Nat) (l m : List S51) (h0 : Kd.C k51 w A0 l.length l) (h1 : Kd.C k51 w A1 m.length m) (hl : l.length ≤ 1000) (hm : m.length ≤ 1000) (r : Int) (hr : fnz [ord a0 b0, ord a1 b1, ord a2 b2, cb a3 b3, cb a4 b4, ord a5 b5, ord a6 b6, ord a7 b7, ord a8 b8, cmpL l m] = r) :
    Calls Try.prog 34 #[.agg #[.int .u64 a0, .int .u64 a1, .int .u64 a2, .string a3, .string a4, .int .i64 a5, .int .i64 a6, .int .u64 a7, .int .u64 a8, .slice A0 l.length c0], .agg #[.int .u64 b0, .int .u64 b1, .int .u64 b2, .string b3, .string b4, .int .i64 b5, .int .i64 b6, .int .u64 b7, .int .u64 b8, .slice A1 m.length c1]] w fun e w' => e = .returned (.int .i64 r) ∧ Below w.heap.size w w' := by
  subst hr
  replace h0 := Aside0.mk h0
  replace h1 := Aside0.mk h1
  go_enter Try.func34, Try.ntmps34
  go_wp2
  have hS := (show Two w _ w.heap.size (w.heap.size + 1) [.int .u64 a0, .int .u64 a1, .int .u64 a2, .string a3, .string a4, .int .i64 a5, .int .i64 a6, .int .u64 a7, .int .u64 a8, .slice A0 l.length c0] [.int .u64 b0, .int .u64 b1, .int .u64 b2, .string b3, .string b4, .int .i64 b5, .int .i64 b6, .int .u64 b7, .int .u64 b8, .slice A1 m.length c1] from (Two.of w 40 40 _ _).drew)
  refine start_ (n := 53) (S := fun W => Two w W w.heap.size (w.heap.size + 1) [.int .u64 a0, .int .u64 a1, .int .u64 a2, .string a3, .string a4, .int .i64 a5, .int .i64 a6, .int .u64 a7, .int .u64 a8, .slice A0 l.length c0] [.int .u64 b0, .int .u64 b1, .int .u64 b2, .string b3, .string b4, .int .i64 b5, .int .i64 b6, .int .u64 b7, .int .u64 b8, .slice A1 m.length c1]) (ds := []) #[false, false, false, false, false, false, false, false, false, false, false, false, false, false, false, false, false, false, false, false, false, false, false, false, false, false, false, false, false, false, false, false, false, false, false, false, false, false, false, false, false, false, false, false, false, false, false, false, false, false, false, false, false] (by kernel_rfl) rfl rfl hS (fun hHeld => ?_)
  clear hS
  refine pure_ (i := 0) (N := some 5) (v := ?_) (a' := ?_) (bl_ 53 1) rfl rfl (by kernel_rfl) (fun _ _ _ h => h) (Or.inl ⟨by rfl, ?_⟩) ?_ ?_
  rotate_left
  · intro w'
    go_simp
    with_reducible rfl
  rotate_left
  · simp only [Act.put, sb_, sz_, ss_, i64_w, i32_w]
    rfl
  refine pure_ (i := 2) (N := some 7) (v := ?_) (a' := ?_) (bl_ 53 5) rfl rfl (by kernel_rfl) (fun _ _ _ h => h) (Or.inl ⟨by rfl, ?_⟩) ?_ ?_
  rotate_left
  · intro w'
    go_simp
    with_reducible rfl
  rotate_left
  · simp only [Act.put, sb_, sz_, ss_, i64_w, i32_w]
    rfl
  refine pure_ (i := 5) (N := some 10) (v := ?_) (a' := ?_) (bl_ 53 37) rfl rfl (by kernel_rfl) (fun _ _ _ h => h) (Or.inl ⟨by rfl, ?_⟩) ?_ ?_
  rotate_left
  · intro w'
    go_simp
    with_reducible rfl
  rotate_left
  · simp only [Act.put, sb_, sz_, ss_, i64_w, i32_w]
    rfl
  refine pure_ (i := 7) (N := some 12) (v := ?_) (a' := ?_) (bl_ 53 165) rfl rfl (by kernel_rfl) (fun _ _ _ h => h) (Or.inl ⟨by rfl, ?_⟩) ?_ ?_
  rotate_left
  · intro w'
    go_simp
    with_reducible rfl
  rotate_left
  · simp only [Act.put, sb_, sz_, ss_, i64_w, i32_w]
    rfl
  refine pure_ (i := 10) (N := some 15) (v := ?_) (a' := ?_) (bl_ 53 1189) rfl rfl (by kernel_rfl) (fun _ _ _ h => h) (Or.inl ⟨by rfl, ?_⟩) ?_ ?_
  rotate_left
  · intro w'
    go_simp
    with_reducible rfl
  rotate_left
  · simp only [Act.put, sb_, sz_, ss_, i64_w, i32_w]
    rfl
  refine pure_ (i := 12) (N := some 17) (v := ?_) (a' := ?_) (bl_ 53 5285) rfl rfl (by kernel_rfl) (fun _ _ _ h => h) (Or.inl ⟨by rfl, ?_⟩) ?_ ?_
  rotate_left
  · intro w'
    go_simp
    with_reducible rfl
  rotate_left
  · simp only [Act.put, sb_, sz_, ss_, i64_w, i32_w]
    rfl
  refine pure_ (i := 15) (N := some 20) (v := ?_) (a' := ?_) (bl_ 53 38053) rfl rfl (by kernel_rfl) (fun _ _ _ h => h) (Or.inl ⟨by rfl, ?_⟩) ?_ ?_
  rotate_left
  · intro w'
    go_simp
    with_reducible rfl
  rotate_left
  · simp only [Act.put, sb_, sz_, ss_, i64_w, i32_w]
    rfl
  refine pure_ (i := 17) (N := some 22) (v := ?_) (a' := ?_) (bl_ 53 169125) rfl rfl (by kernel_rfl) (fun _ _ _ h => h) (Or.inl ⟨by rfl, ?_⟩) ?_ ?_
  rotate_left
  · intro w'
    go_simp
    with_reducible rfl
  rotate_left
  · simp only [Act.put, sb_, sz_, ss_, i64_w, i32_w]
    rfl
  refine pure_ (i := 20) (N := some 25) (v := ?_) (a' := ?_) (bl_ 53 1217701) rfl rfl (by kernel_rfl) (fun _ _ _ h => h) (Or.inl ⟨by rfl, ?_⟩) ?_ ?_
  rotate_left
  · intro w'
    go_simp
    with_reducible rfl
  rotate_left
  · simp only [Act.put, sb_, sz_, ss_, i64_w, i32_w]
    rfl
  refine pure_ (i := 22) (N := some 27) (v := ?_) (a' := ?_) (bl_ 53 5412005) rfl rfl (by kernel_rfl) (fun _ _ _ h => h) (Or.inl ⟨by rfl, ?_⟩) ?_ ?_
  rotate_left
  · intro w'
    go_simp
    with_reducible rfl
  rotate_left
  · simp only [Act.put, sb_, sz_, ss_, i64_w, i32_w]
    rfl
  refine pure_ (i := 25) (N := some 30) (v := ?_) (a' := ?_) (bl_ 53 38966437) rfl rfl (by kernel_rfl) (fun _ _ _ h => h) (Or.inl ⟨by rfl, ?_⟩) ?_ ?_
  rotate_left
  · intro w'
    go_simp
    with_reducible rfl
  rotate_left
  · simp only [Act.put, sb_, sz_, ss_, i64_w, i32_w]
    rfl
  refine pure_ (i := 27) (N := some 32) (v := ?_) (a' := ?_) (bl_ 53 173184165) rfl rfl (by kernel_rfl) (fun _ _ _ h => h) (Or.inl ⟨by rfl, ?_⟩) ?_ ?_
  rotate_left
  · intro w'
    go_simp
    with_reducible rfl
  rotate_left
  · simp only [Act.put, sb_, sz_, ss_, i64_w, i32_w]
    rfl
  refine pure_ (i := 30) (N := some 35) (v := ?_) (a' := ?_) (bl_ 53 1246925989) rfl rfl (by kernel_rfl) (fun _ _ _ h => h) (Or.inl ⟨by rfl, ?_⟩) ?_ ?_
  rotate_left
  · intro w'
    go_simp
    with_reducible rfl
  rotate_left
  · simp only [Act.put, sb_, sz_, ss_, i64_w, i32_w]
    rfl
  refine pure_ (i := 32) (N := some 37) (v := ?_) (a' := ?_) (bl_ 53 5541893285) rfl rfl (by kernel_rfl) (fun _ _ _ h => h) (Or.inl ⟨by rfl, ?_⟩) ?_ ?_
  rotate_left
  · intro w'
    go_simp
    with_reducible rfl
  rotate_left
  · simp only [Act.put, sb_, sz_, ss_, i64_w, i32_w]
    rfl
  refine pure_ (i := 35) (N := some 40) (v := ?_) (a' := ?_) (bl_ 53 39901631653) rfl rfl (by kernel_rfl) (fun _ _ _ h => h) (Or.inl ⟨by rfl, ?_⟩) ?_ ?_
  rotate_left
  · intro w'
    go_simp
    with_reducible rfl
  rotate_left
  · simp only [Act.put, sb_, sz_, ss_, i64_w, i32_w]
    rfl
  refine pure_ (i := 37) (N := some 42) (v := ?_) (a' := ?_) (bl_ 53 177340585125) rfl rfl (by kernel_rfl) (fun _ _ _ h => h) (Or.inl ⟨by rfl, ?_⟩) ?_ ?_
  rotate_left
  · intro w'
    go_simp
    with_reducible rfl
  rotate_left
  · simp only [Act.put, sb_, sz_, ss_, i64_w, i32_w]
    rfl
  refine pure_ (i := 40) (N := some 45) (v := ?_) (a' := ?_) (bl_ 53 1276852212901) rfl rfl (by kernel_rfl) (fun _ _ _ h => h) (Or.inl ⟨by rfl, ?_⟩) ?_ ?_
  rotate_left
  · intro w'
    go_simp
    with_reducible rfl
  rotate_left
  · simp only [Act.put, sb_, sz_, ss_, i64_w, i32_w]
    rfl
  refine pure_ (i := 42) (N := some 47) (v := ?_) (a' := ?_) (bl_ 53 5674898724005) rfl rfl (by kernel_rfl) (fun _ _ _ h => h) (Or.inl ⟨by rfl, ?_⟩) ?_ ?_
  rotate_left
  · intro w'
    go_simp
    with_reducible rfl
  rotate_left
  · simp only [Act.put, sb_, sz_, ss_, i64_w, i32_w]
    rfl
  refine pure_ (i := 45) (N := some 50) (v := ?_) (a' := ?_) (bl_ 53 40859270812837) rfl rfl (by kernel_rfl) (fun _ _ _ h => h) (Or.inl ⟨by rfl, ?_⟩) ?_ ?_
  rotate_left
  · intro w'
    go_simp
    with_reducible rfl
  rotate_left
  · simp only [Act.put, sb_, sz_, ss_, i64_w, i32_w]
    rfl
  refine pure_ (i := 47) (N := some 52) (v := ?_) (a' := ?_) (bl_ 53 181596759168165) rfl rfl (by kernel_rfl) (fun _ _ _ h => h) (Or.inl ⟨by rfl, ?_⟩) ?_ ?_
  rotate_left
  · intro w'
    go_simp
    with_reducible rfl
  rotate_left
  · simp only [Act.put, sb_, sz_, ss_, i64_w, i32_w]
    rfl
  refine take_ (i := 1) (N := some 6) (v := ?_) (a' := ?_) (bl_ 53 181596759168167) rfl rfl (by kernel_rfl) (fun _ _ _ h => h) (Or.inl ⟨by rfl, ?_⟩) hHeld ?_ ?_
  rotate_left
  · rintro w' h
    have hc := (h.r0 0 _ rfl).1
    go_simp
    with_reducible rfl
  rotate_left
  · simp only [Act.put, sb_, sz_, ss_, i64_w, i32_w]
    rfl
  refine take_ (i := 3) (N := some 8) (v := ?_) (a' := ?_) (bl_ 53 181596759168175) rfl rfl (by kernel_rfl) (fun _ _ _ h => h) (Or.inl ⟨by rfl, ?_⟩) hHeld ?_ ?_
  rotate_left
  · rintro w' h
    have hc := (h.r1 0 _ rfl).1
    go_simp
    with_reducible rfl
  rotate_left
  · simp only [Act.put, sb_, sz_, ss_, i64_w, i32_w]
    rfl
  refine take_ (i := 6) (N := some 11) (v := ?_) (a' := ?_) (bl_ 53 181596759168239) rfl rfl (by kernel_rfl) (fun _ _ _ h => h) (Or.inl ⟨by rfl, ?_⟩) hHeld ?_ ?_
  rotate_left
  · rintro w' h
    have hc := (h.r0 1 _ rfl).1
    go_simp
    with_reducible rfl
  rotate_left
  · simp only [Act.put, sb_, sz_, ss_, i64_w, i32_w]
    rfl
  refine take_ (i := 8) (N := some 13) (v := ?_) (a' := ?_) (bl_ 53 181596759168495) rfl rfl (by kernel_rfl) (fun _ _ _ h => h) (Or.inl ⟨by rfl, ?_⟩) hHeld ?_ ?_
  rotate_left
  · rintro w' h
    have hc := (h.r1 1 _ rfl).1
    go_simp
    with_reducible rfl
  rotate_left
  · simp only [Act.put, sb_, sz_, ss_, i64_w, i32_w]
    rfl
  refine take_ (i := 11) (N := some 16) (v := ?_) (a' := ?_) (bl_ 53 181596759170543) rfl rfl (by kernel_rfl) (fun _ _ _ h => h) (Or.inl ⟨by rfl, ?_⟩) hHeld ?_ ?_
  rotate_left
  · rintro w' h
    have hc := (h.r0 2 _ rfl).1
    go_simp
    with_reducible rfl
  rotate_left
  · simp only [Act.put, sb_, sz_, ss_, i64_w, i32_w]
    rfl
  refine take_ (i := 13) (N := some 18) (v := ?_) (a' := ?_) (bl_ 53 181596759178735) rfl rfl (by kernel_rfl) (fun _ _ _ h => h) (Or.inl ⟨by rfl, ?_⟩) hHeld ?_ ?_
  rotate_left
  · rintro w' h
    have hc := (h.r1 2 _ rfl).1
    go_simp
    with_reducible rfl
  rotate_left
  · simp only [Act.put, sb_, sz_, ss_, i64_w, i32_w]
    rfl
  refine take_ (i := 16) (N := some 21) (v := ?_) (a' := ?_) (bl_ 53 181596759244271) rfl rfl (by kernel_rfl) (fun _ _ _ h => h) (Or.inl ⟨by rfl, ?_⟩) hHeld ?_ ?_
  rotate_left
  · rintro w' h
    have hc := (h.r0 3 _ rfl).1
    go_simp
    with_reducible rfl
  rotate_left
  · simp only [Act.put, sb_, sz_, ss_, i64_w, i32_w]
    rfl
  refine take_ (i := 18) (N := some 23) (v := ?_) (a' := ?_) (bl_ 53 181596759506415) rfl rfl (by kernel_rfl) (fun _ _ _ h => h) (Or.inl ⟨by rfl, ?_⟩) hHeld ?_ ?_
  rotate_left
  · rintro w' h
    have hc := (h.r1 3 _ rfl).1
    go_simp
    with_reducible rfl
  rotate_left
  · simp only [Act.put, sb_, sz_, ss_, i64_w, i32_w]
    rfl
  refine take_ (i := 21) (N := some 26) (v := ?_) (a' := ?_) (bl_ 53 181596761603567) rfl rfl (by kernel_rfl) (fun _ _ _ h => h) (Or.inl ⟨by rfl, ?_⟩) hHeld ?_ ?_
  rotate_left
  · rintro w' h
    have hc := (h.r0 4 _ rfl).1
    go_simp
    with_reducible rfl
  rotate_left
  · simp only [Act.put, sb_, sz_, ss_, i64_w, i32_w]
    rfl
  refine take_ (i := 23) (N := some 28) (v := ?_) (a' := ?_) (bl_ 53 181596769992175) rfl rfl (by kernel_rfl) (fun _ _ _ h => h) (Or.inl ⟨by rfl, ?_⟩) hHeld ?_ ?_
  rotate_left
  · rintro w' h
    have hc := (h.r1 4 _ rfl).1
    go_simp
    with_reducible rfl
  rotate_left
  · simp only [Act.put, sb_, sz_, ss_, i64_w, i32_w]
    rfl
  refine take_ (i := 26) (N := some 31) (v := ?_) (a' := ?_) (bl_ 53 181596837101039) rfl rfl (by kernel_rfl) (fun _ _ _ h => h) (Or.inl ⟨by rfl, ?_⟩) hHeld ?_ ?_
  rotate_left
  · rintro w' h
    have hc := (h.r0 5 _ rfl).1
    go_simp
    with_reducible rfl
  rotate_left
  · simp only [Act.put, sb_, sz_, ss_, i64_w, i32_w]
    rfl
  refine take_ (i := 28) (N := some 33) (v := ?_) (a' := ?_) (bl_ 53 181597105536495) rfl rfl (by kernel_rfl) (fun _ _ _ h => h) (Or.inl ⟨by rfl, ?_⟩) hHeld ?_ ?_
  rotate_left
  · rintro w' h
    have hc := (h.r1 5 _ rfl).1
    go_simp
    with_reducible rfl
  rotate_left
  · simp only [Act.put, sb_, sz_, ss_, i64_w, i32_w]
    rfl
  refine take_ (i := 31) (N := some 36) (v := ?_) (a' := ?_) (bl_ 53 181599253020143) rfl rfl (by kernel_rfl) (fun _ _ _ h => h) (Or.inl ⟨by rfl, ?_⟩) hHeld ?_ ?_
  rotate_left
  · rintro w' h
    have hc := (h.r0 6 _ rfl).1
    go_simp
    with_reducible rfl
  rotate_left
  · simp only [Act.put, sb_, sz_, ss_, i64_w, i32_w]
    rfl
  refine take_ (i := 33) (N := some 38) (v := ?_) (a' := ?_) (bl_ 53 181607842954735) rfl rfl (by kernel_rfl) (fun _ _ _ h => h) (Or.inl ⟨by rfl, ?_⟩) hHeld ?_ ?_
  rotate_left
  · rintro w' h
    have hc := (h.r1 6 _ rfl).1
    go_simp
    with_reducible rfl
  rotate_left
  · simp only [Act.put, sb_, sz_, ss_, i64_w, i32_w]
    rfl
  refine take_ (i := 36) (N := some 41) (v := ?_) (a' := ?_) (bl_ 53 181676562431471) rfl rfl (by kernel_rfl) (fun _ _ _ h => h) (Or.inl ⟨by rfl, ?_⟩) hHeld ?_ ?_
  rotate_left
  · rintro w' h
    have hc := (h.r0 7 _ rfl).1
    go_simp
    with_reducible rfl
  rotate_left
  · simp only [Act.put, sb_, sz_, ss_, i64_w, i32_w]
    rfl
  refine take_ (i := 38) (N := some 43) (v := ?_) (a' := ?_) (bl_ 53 181951440338415) rfl rfl (by kernel_rfl) (fun _ _ _ h => h) (Or.inl ⟨by rfl, ?_⟩) hHeld ?_ ?_
  rotate_left
  · rintro w' h
    have hc := (h.r1 7 _ rfl).1
    go_simp
    with_reducible rfl
  rotate_left
  · simp only [Act.put, sb_, sz_, ss_, i64_w, i32_w]
    rfl
  refine take_ (i := 41) (N := some 46) (v := ?_) (a' := ?_) (bl_ 53 184150463593967) rfl rfl (by kernel_rfl) (fun _ _ _ h => h) (Or.inl ⟨by rfl, ?_⟩) hHeld ?_ ?_
  rotate_left
  · rintro w' h
    have hc := (h.r0 8 _ rfl).1
    go_simp
    with_reducible rfl
  rotate_left
  · simp only [Act.put, sb_, sz_, ss_, i64_w, i32_w]
    rfl
  refine take_ (i := 43) (N := some 48) (v := ?_) (a' := ?_) (bl_ 53 192946556616175) rfl rfl (by kernel_rfl) (fun _ _ _ h => h) (Or.inl ⟨by rfl, ?_⟩) hHeld ?_ ?_
  rotate_left
  · rintro w' h
    have hc := (h.r1 8 _ rfl).1
    go_simp
    with_reducible rfl
  rotate_left
  · simp only [Act.put, sb_, sz_, ss_, i64_w, i32_w]
    rfl
  refine take_ (i := 46) (N := some 51) (v := ?_) (a' := ?_) (bl_ 53 263315300793839) rfl rfl (by kernel_rfl) (fun _ _ _ h => h) (Or.inl ⟨by rfl, ?_⟩) hHeld ?_ ?_
  rotate_left
  · rintro w' h
    have hc := (h.r0 9 _ rfl).1
    go_simp
    with_reducible rfl
  rotate_left
  · simp only [Act.put, sb_, sz_, ss_, i64_w, i32_w]
    rfl
  refine take_ (i := 48) (N := some 53) (v := ?_) (a' := ?_) (bl_ 53 544790277504495) rfl rfl (by kernel_rfl) (fun _ _ _ h => h) (Or.inl ⟨by rfl, ?_⟩) hHeld ?_ ?_
  rotate_left
  · rintro w' h
    have hc := (h.r1 9 _ rfl).1
    go_simp
    with_reducible rfl
  rotate_left
  · simp only [Act.put, sb_, sz_, ss_, i64_w, i32_w]
    rfl
  refine one_ (i := 4) (N := some 9) (bl_ 53 544790277504511) rfl rfl (by kernel_rfl) (by decide) (fun K hK => ?_)
  refine goes_ Try.func70 (by kernel_rfl) rfl #[.int .u64 a0, .int .u64 b0] (by rfl) rfl rfl (by (try simp only [List.map_toArray, List.map_cons, List.map_nil]); first | done | rfl) ?_
  refine (cmp_Compare_uint64.calls a0 b0 _ _ (cmpu_f _ _)).mono ?_
  rintro e w' ⟨rfl, nd, rfl⟩
  refine ⟨_, rfl, ?_⟩
  refine hK.out _ _ (hHeld.drewN nd) (fun hHeld => ?_)
  clear hK K
  refine norm_ (a' := ?_) ?_ ?_
  rotate_left
  · show Act.put _ (some 9) _ = _
    simp only [Act.put, sb_, sz_, ss_, i64_w, i32_w]
    rfl
  refine one_ (i := 9) (N := some 14) (bl_ 53 544790277505023) rfl rfl (by kernel_rfl) (by decide) (fun K hK => ?_)
  refine goes_ Try.func70 (by kernel_rfl) rfl #[.int .u64 a1, .int .u64 b1] (by rfl) rfl rfl (by (try simp only [List.map_toArray, List.map_cons, List.map_nil]); first | done | rfl) ?_
  refine (cmp_Compare_uint64.calls a1 b1 _ _ (cmpu_f _ _)).mono ?_
  rintro e w' ⟨rfl, nd, rfl⟩
  refine ⟨_, rfl, ?_⟩
  refine hK.out _ _ (hHeld.drewN nd) (fun hHeld => ?_)
  clear hK K
  refine norm_ (a' := ?_) ?_ ?_
  rotate_left
  · show Act.put _ (some 14) _ = _
    simp only [Act.put, sb_, sz_, ss_, i64_w, i32_w]
    rfl
  refine one_ (i := 14) (N := some 19) (bl_ 53 544790277521407) rfl rfl (by kernel_rfl) (by decide) (fun K hK => ?_)
  refine goes_ Try.func70 (by kernel_rfl) rfl #[.int .u64 a2, .int .u64 b2] (by rfl) rfl rfl (by (try simp only [List.map_toArray, List.map_cons, List.map_nil]); first | done | rfl) ?_
  refine (cmp_Compare_uint64.calls a2 b2 _ _ (cmpu_f _ _)).mono ?_
  rintro e w' ⟨rfl, nd, rfl⟩
  refine ⟨_, rfl, ?_⟩
  refine hK.out _ _ (hHeld.drewN nd) (fun hHeld => ?_)
  clear hK K
  refine norm_ (a' := ?_) ?_ ?_
  rotate_left
  · show Act.put _ (some 19) _ = _
    simp only [Act.put, sb_, sz_, ss_, i64_w, i32_w]
    rfl
  refine one_ (i := 19) (N := some 24) (bl_ 53 544790278045695) rfl rfl (by kernel_rfl) (by decide) (fun K hK => ?_)
  refine goes_ Try.func62 (by kernel_rfl) rfl #[.string a3, .string b3] (by rfl) rfl rfl (by (try simp only [List.map_toArray, List.map_cons, List.map_nil]); first | done | rfl) ?_
  refine (Sc.compare_calls a3 b3 _).mono ?_
  rintro e w' ⟨rfl, rfl⟩
  refine ⟨_, rfl, ?_⟩
  refine hK.out _ _ (hHeld) (fun hHeld => ?_)
  clear hK K
  refine norm_ (a' := ?_) ?_ ?_
  rotate_left
  · show Act.put _ (some 24) _ = _
    simp only [Act.put, sb_, sz_, ss_, i64_w, i32_w]
    rfl
  refine one_ (i := 24) (N := some 29) (bl_ 53 544790294822911) rfl rfl (by kernel_rfl) (by decide) (fun K hK => ?_)
  refine goes_ Try.func62 (by kernel_rfl) rfl #[.string a4, .string b4] (by rfl) rfl rfl (by (try simp only [List.map_toArray, List.map_cons, List.map_nil]); first | done | rfl) ?_
  refine (Sc.compare_calls a4 b4 _).mono ?_
  rintro e w' ⟨rfl, rfl⟩
  refine ⟨_, rfl, ?_⟩
  refine hK.out _ _ (hHeld) (fun hHeld => ?_)
  clear hK K
  refine norm_ (a' := ?_) ?_ ?_
  rotate_left
  · show Act.put _ (some 29) _ = _
    simp only [Act.put, sb_, sz_, ss_, i64_w, i32_w]
    rfl
  refine one_ (i := 29) (N := some 34) (bl_ 53 544790831693823) rfl rfl (by kernel_rfl) (by decide) (fun K hK => ?_)
  refine goes_ Try.func71 (by kernel_rfl) rfl #[.int .i64 a5, .int .i64 b5] (by rfl) rfl rfl (by (try simp only [List.map_toArray, List.map_cons, List.map_nil]); first | done | rfl) ?_
  refine (cmp_Compare_int.calls a5 b5 _ _ (cmpi_f _ _)).mono ?_
  rintro e w' ⟨rfl, nd, rfl⟩
  refine ⟨_, rfl, ?_⟩
  refine hK.out _ _ (hHeld.drewN nd) (fun hHeld => ?_)
  clear hK K
  refine norm_ (a' := ?_) ?_ ?_
  rotate_left
  · show Act.put _ (some 34) _ = _
    simp only [Act.put, sb_, sz_, ss_, i64_w, i32_w]
    rfl
  refine one_ (i := 34) (N := some 39) (bl_ 53 544808011563007) rfl rfl (by kernel_rfl) (by decide) (fun K hK => ?_)
  refine goes_ Try.func71 (by kernel_rfl) rfl #[.int .i64 a6, .int .i64 b6] (by rfl) rfl rfl (by (try simp only [List.map_toArray, List.map_cons, List.map_nil]); first | done | rfl) ?_
  refine (cmp_Compare_int.calls a6 b6 _ _ (cmpi_f _ _)).mono ?_
  rintro e w' ⟨rfl, nd, rfl⟩
  refine ⟨_, rfl, ?_⟩
  refine hK.out _ _ (hHeld.drewN nd) (fun hHeld => ?_)
  clear hK K
  refine norm_ (a' := ?_) ?_ ?_
  rotate_left
  · show Act.put _ (some 39) _ = _
    simp only [Act.put, sb_, sz_, ss_, i64_w, i32_w]
    rfl
  refine one_ (i := 39) (N := some 44) (bl_ 53 545357767376895) rfl rfl (by kernel_rfl) (by decide) (fun K hK => ?_)
  refine goes_ Try.func70 (by kernel_rfl) rfl #[.int .u64 a7, .int .u64 b7] (by rfl) rfl rfl (by (try simp only [List.map_toArray, List.map_cons, List.map_nil]); first | done | rfl) ?_
  refine (cmp_Compare_uint64.calls a7 b7 _ _ (cmpu_f _ _)).mono ?_
  rintro e w' ⟨rfl, nd, rfl⟩
  refine ⟨_, rfl, ?_⟩
  refine hK.out _ _ (hHeld.drewN nd) (fun hHeld => ?_)
  clear hK K
  refine norm_ (a' := ?_) ?_ ?_
  rotate_left
  · show Act.put _ (some 44) _ = _
    simp only [Act.put, sb_, sz_, ss_, i64_w, i32_w]
    rfl
  refine one_ (i := 44) (N := some 49) (bl_ 53 562949953421311) rfl rfl (by kernel_rfl) (by decide) (fun K hK => ?_)
  refine goes_ Try.func70 (by kernel_rfl) rfl #[.int .u64 a8, .int .u64 b8] (by rfl) rfl rfl (by (try simp only [List.map_toArray, List.map_cons, List.map_nil]); first | done | rfl) ?_
  refine (cmp_Compare_uint64.calls a8 b8 _ _ (cmpu_f _ _)).mono ?_
  rintro e w' ⟨rfl, nd, rfl⟩
  refine ⟨_, rfl, ?_⟩
  refine hK.out _ _ (hHeld.drewN nd) (fun hHeld => ?_)
  clear hK K
  refine norm_ (a' := ?_) ?_ ?_
  rotate_left
  · show Act.put _ (some 49) _ = _
    simp only [Act.put, sb_, sz_, ss_, i64_w, i32_w]
    rfl
  refine one_ (i := 49) (N := some 54) (bl_ 53 1125899906842623) rfl rfl (by kernel_rfl) (by decide) (fun K hK => ?_)
  refine goes_ Try.func72 (by kernel_rfl) rfl #[.slice A0 l.length c0, .slice A1 m.length c1, .func (.func 73) #[] #[]] (by rfl) rfl rfl (by (try simp only [List.map_toArray, List.map_cons, List.map_nil]); first | done | rfl) ?_
  refine (cmpL_calls _ A0 A1 c0 c1 l m (Kd.C_below h0.out hHeld.b) (Kd.C_below h1.out hHeld.b) hl hm _ rfl).mono ?_
  rintro e w' ⟨rfl, hb⟩
  have hH2 := Aside0.mk (hHeld.keep hb)
  clear hb
  refine ⟨_, rfl, ?_⟩
  refine hK.out _ _ (hH2.out) (fun hHeld => ?_)
  clear hK K
  refine norm_ (a' := ?_) ?_ ?_
  rotate_left
  · show Act.put _ (some 54) _ = _
    simp only [Act.put, sb_, sz_, ss_, i64_w, i32_w]
    rfl
  refine one_ (i := 50) (N := some 55) (bl_ 53 2251799813685247) rfl rfl (by kernel_rfl) (by decide) (fun K hK => ?_)
  refine Kd.R_lit_step (Kd.int .i64) _ 3 ?hg (N := 55) ?hd (xs := ([ord a0 b0, ord a1 b1, ord a2 b2, cb a3 b3, cb a4 b4, ord a5 b5, ord a6 b6, ord a7 b7, ord a8 b8, cmpL l m] : List Int)) (inner := [.int .i64 (ord a0 b0), .int .i64 (ord a1 b1), .int .i64 (ord a2 b2), .int .i64 (cb a3 b3), .int .i64 (cb a4 b4), .int .i64 (ord a5 b5), .int .i64 (ord a6 b6), .int .i64 (ord a7 b7), .int .i64 (ord a8 b8), .int .i64 (cmpL l m)]) (ok := fun _ => True) (okp := fun _ => True) ?hr ?hp (fun _ hk => hk) trivial (Below.refl _ _) (Nat.le_refl _) (by simp) ?_; (case hd => rfl); (case hg => rfl); (case hr => first | (go_simp; done) | (go_simp; rfl)); (case hp => exact (Reps.one (show Kd.M (Kd.int .i64) _ _ _ (ord a0 b0) [.int .i64 (ord a0 b0)] from rfl) (Reps.one (show Kd.M (Kd.int .i64) _ _ _ (ord a1 b1) [.int .i64 (ord a1 b1)] from rfl) (Reps.one (show Kd.M (Kd.int .i64) _ _ _ (ord a2 b2) [.int .i64 (ord a2 b2)] from rfl) (Reps.one (show Kd.M (Kd.int .i64) _ _ _ (cb a3 b3) [.int .i64 (cb a3 b3)] from rfl) (Reps.one (show Kd.M (Kd.int .i64) _ _ _ (cb a4 b4) [.int .i64 (cb a4 b4)] from rfl) (Reps.one (show Kd.M (Kd.int .i64) _ _ _ (ord a5 b5) [.int .i64 (ord a5 b5)] from rfl) (Reps.one (show Kd.M (Kd.int .i64) _ _ _ (ord a6 b6) [.int .i64 (ord a6 b6)] from rfl) (Reps.one (show Kd.M (Kd.int .i64) _ _ _ (ord a7 b7) [.int .i64 (ord a7 b7)] from rfl) (Reps.one (show Kd.M (Kd.int .i64) _ _ _ (ord a8 b8) [.int .i64 (ord a8 b8)] from rfl) (Reps.one (show Kd.M (Kd.int .i64) _ _ _ (cmpL l m) [.int .i64 (cmpL l m)] from rfl) (Reps.none _ _))))))))))))
  intro v11 w10 ho11 hb hg_ hnew_
  clear hg_ hnew_
  have hH3 := Aside0.mk (hHeld.keep hb)
  obtain ⟨A2, c2, rfl⟩ := Kd.R_slice ho11
  obtain ⟨_, hc2, hC2⟩ := Kd.R_reads' ho11
  replace hC2 := Aside0.mk hC2
  clear ho11 hb
  refine hK.out _ _ (hH3.out) (fun hHeld => ?_)
  clear hK K
  refine norm_ (a' := ?_) ?_ ?_
  rotate_left
  · show Act.put _ (some 55) _ = _
    simp only [Act.put, sb_, sz_, ss_, i64_w, i32_w]
    rfl
  refine one_ (i := 51) (N := some 56) (bl_ 53 4503599627370495) rfl rfl (by kernel_rfl) (by decide) (fun K hK => ?_)
  refine goes_ Try.func69 (by kernel_rfl) rfl #[.slice A2 10 c2] (by rfl) rfl rfl (by (try simp only [List.map_toArray, List.map_cons, List.map_nil]); first | done | rfl) ?_
  refine (cmp_Or_int.calls 20 A2 c2 [ord a0 b0, ord a1 b1, ord a2 b2, cb a3 b3, cb a4 b4, ord a5 b5, ord a6 b6, ord a7 b7, ord a8 b8, cmpL l m] _ _ hC2.out hc2 (or_f _ 20 (by simp) (by simp))).mono ?_
  rintro e w' ⟨rfl, nd, rfl⟩
  refine ⟨_, rfl, ?_⟩
  refine hK.out _ _ (hHeld.drewN nd) (fun hHeld => ?_)
  clear hK K
  refine norm_ (a' := ?_) ?_ ?_
  rotate_left
  · show Act.put _ (some 56) _ = _
    simp only [Act.put, sb_, sz_, ss_, i64_w, i32_w]
    rfl
  refine pure_ (i := 52) (N := some 4) (v := ?_) (a' := ?_) (bl_ 53 9007199254740991) rfl rfl (by kernel_rfl) (fun _ _ _ h => h) (Or.inl ⟨by rfl, ?_⟩) ?_ ?_
  rotate_left
  · intro w'
    go_simp
    with_reducible rfl
  rotate_left
  · simp only [Act.put, sb_, sz_, ss_, i64_w, i32_w]
    rfl
  refine done_ (by kernel_rfl) ?_
  go_wp2
  go_ret
  exact ⟨by first | rfl | simp, hHeld.b⟩
end Go.Proofs.Ytllepjhimkogjaa.Sk
