/- The law's proof, part 22: the text Ak of this session, or words printed for this seat; what the theorem doesn't use is left out. No conditions. -/
import Derived.Test.YtllepjhimkogjaaFSTe13
import Derived.Test.YtllepjhimkogjaaFSTe19
import Derived.Test.YtllepjhimkogjaaFSTe11
import Derived.Test.YtllepjhimkogjaaFSTe21
import Derived.Laws.Rows
import Derived.Deep.WholeRow
namespace Go.Proofs.Ytllepjhimkogjaa.Ob
end Go.Proofs.Ytllepjhimkogjaa.Ob
namespace Go.Proofs.Ytllepjhimkogjaa.Two
end Go.Proofs.Ytllepjhimkogjaa.Two
namespace Go.Proofs.YtllepjhimkogjaaW.PrintLast
end Go.Proofs.YtllepjhimkogjaaW.PrintLast
namespace Go.Proofs.YtllepjhimkogjaaW.PrintMore
end Go.Proofs.YtllepjhimkogjaaW.PrintMore
namespace Go.Proofs.YtllepjhimkogjaaW.PrintWords
end Go.Proofs.YtllepjhimkogjaaW.PrintWords
namespace Go.Proofs.Ytllepjhimkogjaa.Al
open Go.RowKit Go.Proofs.YtllepjhimkogjaaW.PrintWords Go.Proofs.YtllepjhimkogjaaW.PrintLast Go.Proofs.YtllepjhimkogjaaW.PrintMore
open Go.Proofs.Ytllepjhimkogjaa.Ob Go.Proofs.Ytllepjhimkogjaa.Two
set_option linter.unusedSimpArgs false
set_option linter.unusedVariables false
theorem clone_none (W : World) (A : Option Addr) (c : Nat) : Calls Try.prog 59 #[.slice A 0 c] W fun e w' => ∃ v : Value, e = .returned v ∧ Kd.R XSl.k51 51 w' W.heap.size (fun _ => True) v [] ∧ Below W.heap.size W w' :=
  XSl.api_Attr.calls A c [] [] W ⟨rfl, by simp, fun h => absurd h (by simp)⟩ (by simp) (by unfold XSl.api_Attr.f; simp)
set_option maxHeartbeats 8000000 in
set_option maxRecDepth 1000000 in
theorem alike_none (w : World) (a0 : Int) (a1 : Int) (a2 : Int) (a3 : ByteArray) (a4 : ByteArray) (a5 : Int) (a6 : Int) (a7 : Int) (a8 : Int) (A : Option Addr) (c : Nat) (m : Int) (r3 r4 : ByteArray) (h3 : XSl.span_label.f 20 a3 m = some r3) (h4 : XSl.span_label.f 20 a4 m = some r4) :
    Calls Try.prog 27 #[.agg #[.int .u64 a0, .int .u64 a1, .int .u64 a2, .string a3, .string a4, .int .i64 a5, .int .i64 a6, .int .u64 a7, .int .u64 a8, .slice A 0 c], .int .i64 m] w fun e w' => ∃ v : Value, e = .returned (.agg #[.int .u64 a0, .int .u64 a1, .int .u64 a2, .string r3, .string r4, .int .i64 a5, .int .i64 a6, .int .u64 a7, .int .u64 a8, v]) ∧ Kd.R XSl.k51 51 w' w.heap.size (fun _ => True) v [] ∧ Below w.heap.size w w' := by
  replace h3 := Aside0.mk h3
  replace h4 := Aside0.mk h4
  go_enter Try.func27, Try.ntmps27
  go_wp2
  have hS := (show Two w _ w.heap.size (w.heap.size + 1) [.int .u64 a0, .int .u64 a1, .int .u64 a2, .string a3, .string a4, .int .i64 a5, .int .i64 a6, .int .u64 a7, .int .u64 a8, .slice A 0 c] [.int .u64 0, .int .u64 0, .int .u64 0, .string ⟨#[]⟩, .string ⟨#[]⟩, .int .i64 0, .int .i64 0, .int .u64 0, .int .u64 0, .slice none 0 0] from (Two.of w 40 40 _ _).drew)
  refine start_ (n := 12) (S := fun W => Two w W w.heap.size (w.heap.size + 1) [.int .u64 a0, .int .u64 a1, .int .u64 a2, .string a3, .string a4, .int .i64 a5, .int .i64 a6, .int .u64 a7, .int .u64 a8, .slice A 0 c] [.int .u64 0, .int .u64 0, .int .u64 0, .string ⟨#[]⟩, .string ⟨#[]⟩, .int .i64 0, .int .i64 0, .int .u64 0, .int .u64 0, .slice none 0 0]) (ds := [9, 11]) #[false, false, false, false, false, false, false, false, false, false, false, false] (by kernel_rfl) rfl rfl hS (fun hHeld => ?_)
  clear hS
  refine pure_ (i := 0) (N := some 5) (v := ?_) (a' := ?_) #[true, false, false, false, false, false, false, false, false, false, false, false] rfl rfl (by kernel_rfl) (fun _ _ _ h => h) (Or.inl ⟨by rfl, ?_⟩) ?_ ?_
  rotate_left
  · intro w'
    go_simp
    with_reducible rfl
  rotate_left
  · simp only [Act.put, List.setIfInBounds_toArray, List.set_cons_zero, List.set_cons_succ, i64_w, i32_w]
    rfl
  refine pure_ (i := 2) (N := some 7) (v := ?_) (a' := ?_) #[true, false, true, false, false, false, false, false, false, false, false, false] rfl rfl (by kernel_rfl) (fun _ _ _ h => h) (Or.inl ⟨by rfl, ?_⟩) ?_ ?_
  rotate_left
  · intro w'
    go_simp
    with_reducible rfl
  rotate_left
  · simp only [Act.put, List.setIfInBounds_toArray, List.set_cons_zero, List.set_cons_succ, i64_w, i32_w]
    rfl
  refine pure_ (i := 4) (N := some 9) (v := ?_) (a' := ?_) #[true, false, true, false, true, false, false, false, false, false, false, false] rfl rfl (by kernel_rfl) (fun _ _ _ h => h) (Or.inl ⟨by rfl, ?_⟩) ?_ ?_
  rotate_left
  · intro w'
    go_simp
    with_reducible rfl
  rotate_left
  · simp only [Act.put, List.setIfInBounds_toArray, List.set_cons_zero, List.set_cons_succ, i64_w, i32_w]
    rfl
  refine pure_ (i := 6) (N := some 11) (v := ?_) (a' := ?_) #[true, false, true, false, true, false, true, false, false, false, false, false] rfl rfl (by kernel_rfl) (fun _ _ _ h => h) (Or.inl ⟨by rfl, ?_⟩) ?_ ?_
  rotate_left
  · intro w'
    go_simp
    with_reducible rfl
  rotate_left
  · simp only [Act.put, List.setIfInBounds_toArray, List.set_cons_zero, List.set_cons_succ, i64_w, i32_w]
    rfl
  refine take_ (i := 1) (N := some 6) (v := ?_) (a' := ?_) #[true, true, true, false, true, false, true, false, false, false, false, false] rfl rfl (by kernel_rfl) (fun _ _ _ h => h) (Or.inl ⟨by rfl, ?_⟩) hHeld ?_ ?_
  rotate_left
  · rintro w' h
    have hc := (h.r0 3 _ rfl).1
    go_simp
    with_reducible rfl
  rotate_left
  · simp only [Act.put, List.setIfInBounds_toArray, List.set_cons_zero, List.set_cons_succ, i64_w, i32_w]
    rfl
  refine take_ (i := 5) (N := some 10) (v := ?_) (a' := ?_) #[true, true, true, false, true, true, true, false, false, false, false, false] rfl rfl (by kernel_rfl) (fun _ _ _ h => h) (Or.inl ⟨by rfl, ?_⟩) hHeld ?_ ?_
  rotate_left
  · rintro w' h
    have hc := (h.r0 4 _ rfl).1
    go_simp
    with_reducible rfl
  rotate_left
  · simp only [Act.put, List.setIfInBounds_toArray, List.set_cons_zero, List.set_cons_succ, i64_w, i32_w]
    rfl
  refine one_ (i := 3) (N := some 8) #[true, true, true, true, true, true, true, false, false, false, false, false] rfl rfl (by kernel_rfl) (by decide) (fun K hK => ?_)
  refine goes_ Try.func58 (by kernel_rfl) rfl #[.string a3, .int .i64 m] (by rfl) rfl rfl (by (try simp only [List.map_toArray, List.map_cons, List.map_nil]); first | done | rfl) ?_
  refine (XSl.span_label.calls 20 a3 m r3 _ h3.out).mono ?_
  rintro e w' ⟨rfl, hb⟩
  have hH2 := Aside0.mk (hHeld.keep hb)
  clear hb
  refine ⟨_, rfl, ?_⟩
  refine hK.out _ _ (hH2.out) (fun hHeld => ?_)
  clear hK K
  refine norm_ (a' := ?_) ?_ ?_
  rotate_left
  · show Act.put _ (some 8) _ = _
    simp only [Act.put, List.setIfInBounds_toArray, List.set_cons_zero, List.set_cons_succ, i64_w, i32_w]
    rfl
  refine pure_ (i := 8) (N := some 13) (v := ?_) (a' := ?_) #[true, true, true, true, true, true, true, false, true, false, false, false] rfl rfl (by kernel_rfl) (fun _ _ _ h => h) (Or.inl ⟨by rfl, ?_⟩) ?_ ?_
  rotate_left
  · intro w'
    go_simp
    with_reducible rfl
  rotate_left
  · simp only [Act.put, List.setIfInBounds_toArray, List.set_cons_zero, List.set_cons_succ, i64_w, i32_w]
    rfl
  refine one_ (i := 7) (N := some 12) #[true, true, true, true, true, true, true, true, true, false, false, false] rfl rfl (by kernel_rfl) (by decide) (fun K hK => ?_)
  refine goes_ Try.func58 (by kernel_rfl) rfl #[.string a4, .int .i64 m] (by rfl) rfl rfl (by (try simp only [List.map_toArray, List.map_cons, List.map_nil]); first | done | rfl) ?_
  refine (XSl.span_label.calls 20 a4 m r4 _ h4.out).mono ?_
  rintro e w' ⟨rfl, hb⟩
  have hH2 := Aside0.mk (hHeld.keep hb)
  clear hb
  refine ⟨_, rfl, ?_⟩
  refine hK.out _ _ (hH2.out) (fun hHeld => ?_)
  clear hK K
  refine norm_ (a' := ?_) ?_ ?_
  rotate_left
  · show Act.put _ (some 12) _ = _
    simp only [Act.put, List.setIfInBounds_toArray, List.set_cons_zero, List.set_cons_succ, i64_w, i32_w]
    rfl
  refine last_ (i := 9) (N := none) #[true, true, true, true, true, true, true, true, true, true, false, false] rfl rfl (by kernel_rfl) (by decide) (fun K hK => ?_)
  obtain ⟨hq3, hqf3⟩ := hHeld.r0 3 _ rfl
  obtain ⟨hq4, hqf4⟩ := hHeld.r0 4 _ rfl
  refine skip_ (w1 := ?_) (by rfl) rfl ?_ ?_
  rotate_left
  · go_simp
    rfl
  refine hK.out _ _ ?_
  clear hK K
  refine pure_ (i := 10) (N := some 14) (v := ?_) (a' := ?_) #[true, true, true, true, true, true, true, true, true, true, true, false] rfl rfl (by kernel_rfl) (fun _ _ _ h => h) (Or.inl ⟨by rfl, ?_⟩) ?_ ?_
  rotate_left
  · intro w'
    go_simp
    with_reducible rfl
  rotate_left
  · simp only [Act.put, List.setIfInBounds_toArray, List.set_cons_zero, List.set_cons_succ, i64_w, i32_w]
    rfl
  refine last_ (i := 11) (N := none) #[true, true, true, true, true, true, true, true, true, true, true, true] rfl rfl (by kernel_rfl) (by decide) (fun K hK => ?_)
  refine skip_ (w1 := ?_) (by rfl) rfl ?_ ?_
  rotate_left
  · go_simp
    rfl
  refine hK.out _ _ ?_
  clear hK K
  refine done_ (by kernel_rfl) ?_
  have hT := (hHeld.set0 3 (.string r3)).set0 4 (.string r4)
  replace hT := Aside0.mk (show Two w _ w.heap.size (w.heap.size + 1) [.int .u64 a0, .int .u64 a1, .int .u64 a2, .string r3, .string r4, .int .i64 a5, .int .i64 a6, .int .u64 a7, .int .u64 a8, .slice A 0 c] [.int .u64 0, .int .u64 0, .int .u64 0, .string ⟨#[]⟩, .string ⟨#[]⟩, .int .i64 0, .int .i64 0, .int .u64 0, .int .u64 0, .slice none 0 0] from hT)
  clear hHeld
  generalize (w'.setCell ⟨w.heap.size, 3, none⟩ (.string r3)).setCell ⟨w.heap.size, 4, none⟩ (.string r4) = W1 at hT ⊢
  have q9 := (hT.out.r0 9 _ rfl).1
  have q9f := (hT.out.r0 9 _ rfl).2
  go_wp2_with (first
    | (go_at_call 59; refine (clone_none _ A c).mono ?_; rintro e W2 ⟨v, rfl, hR, hb⟩; obtain ⟨A2, c2, rfl⟩ := Kd.R_slice hR; have hT2 := Aside0.mk (hT.out.keep hb); have p9 := (hT2.out.r0 9 _ rfl).1; have p9f := (hT2.out.r0 9 _ rfl).2; have hsz := Aside0.mk (Nat.le_trans hT.out.b.size hb.size); replace hR := Aside0.mk (Kd.R_lower (Kd.R_fresh rfl hR) (Nat.le_refl _)); have hbs := Aside0.mk (show w.heap.size + 2 ≤ W1.heap.size from hT.out.r1.lt (by simp)); clear hb p9 p9f; have ⟨p9, p9f⟩ := hT2.out.r0 9 _ rfl)
    | (go_at_call 60; have hT3 := Aside0.mk (show Two w (W2.setCell ⟨w.heap.size, 9, none⟩ (.slice A2 0 c2)) w.heap.size (w.heap.size + 1) [.int .u64 a0, .int .u64 a1, .int .u64 a2, .string r3, .string r4, .int .i64 a5, .int .i64 a6, .int .u64 a7, .int .u64 a8, .slice A2 0 c2] [.int .u64 0, .int .u64 0, .int .u64 0, .string ⟨#[]⟩, .string ⟨#[]⟩, .int .i64 0, .int .i64 0, .int .u64 0, .int .u64 0, .slice none 0 0] from hT2.out.set0 9 _); have hR3 := Aside0.mk (Kd.R_far hR.out (p := ⟨w.heap.size, 9, none⟩) (fun k hk e => by have := hbs.out; have e2 : k = w.heap.size := e; have h2 : W1.heap.size ≤ k := hk; omega) (.slice A2 0 c2)); generalize W2.setCell ⟨w.heap.size, 9, none⟩ (.slice A2 0 c2) = W3 at hT3 hR3 ⊢; refine (sort_none W3 A2 c2).mono ?_; rintro e w4 ⟨rfl, rfl⟩; have ⟨u0, z0⟩ := hT3.out.r1 0 _ rfl; have ⟨u1, z1⟩ := hT3.out.r1 1 _ rfl; have ⟨u2, z2⟩ := hT3.out.r1 2 _ rfl; have ⟨u3, z3⟩ := hT3.out.r1 3 _ rfl; have ⟨u4, z4⟩ := hT3.out.r1 4 _ rfl; have ⟨u5, z5⟩ := hT3.out.r1 5 _ rfl; have ⟨u6, z6⟩ := hT3.out.r1 6 _ rfl; have ⟨u7, z7⟩ := hT3.out.r1 7 _ rfl; have ⟨u8, z8⟩ := hT3.out.r1 8 _ rfl; have ⟨u9, z9⟩ := hT3.out.r1 9 _ rfl)
    | (refine wpList_load_at (by rfl) 40 _ rfl w.heap.size 0 rfl [.int .u64 a0, .int .u64 a1, .int .u64 a2, .string r3, .string r4, .int .i64 a5, .int .i64 a6, .int .u64 a7, .int .u64 a8, .slice A2 0 c2] _ (row_at0 hT3.out.r0) Try.underlying40 rfl (by kernel_rfl) ?_))
  have hT4 := ((((((((((hT3.out.set1 0 (.int .u64 a0)).set1 1 (.int .u64 a1)).set1 2 (.int .u64 a2)).set1 3 (.string r3)).set1 4 (.string r4)).set1 5 (.int .i64 a5)).set1 6 (.int .i64 a6)).set1 7 (.int .u64 a7)).set1 8 (.int .u64 a8)).set1 9 (.slice A2 0 c2))
  refine bodyPost_ret (results_at rfl _ _ (w.heap.size + 1) [.int .u64 a0, .int .u64 a1, .int .u64 a2, .string r3, .string r4, .int .i64 a5, .int .i64 a6, .int .u64 a7, .int .u64 a8, .slice A2 0 c2] _ rfl (show Row _ _ [.int .u64 a0, .int .u64 a1, .int .u64 a2, .string r3, .string r4, .int .i64 a5, .int .i64 a6, .int .u64 a7, .int .u64 a8, .slice A2 0 c2] from hT4.r1) Try.underlying40 rfl (by kernel_rfl)) rfl ⟨.slice A2 0 c2, rfl, ?_, hT4.b⟩
  refine Kd.R_mono (ok := fun k => W1.heap.size ≤ k) ?_ (fun _ _ => trivial)
  iterate 10 refine Kd.R_far ?_ (fun k hk e => by have := hbs.out; have e2 : k = w.heap.size + 1 := e; have h2 : W1.heap.size ≤ k := hk; omega) _
  exact Kd.R_lower hR3.out hT.out.b.size
end Go.Proofs.Ytllepjhimkogjaa.Al
