/- The law's proof, part 31: the text SpanKit of this session, or words printed for this seat; what the theorem doesn't use is left out. No conditions. -/
import Derived.Test.YtllepjhimkogjaaFSTe14
import Derived.Test.YtllepjhimkogjaaFSTe19
import Derived.Test.YtllepjhimkogjaaFSTe21
import Derived.Laws.Rows
import Derived.Deep.WholeRow
import Derived.Test.YtllepjhimkogjaaFSTe29
import Derived.Test.YtllepjhimkogjaaFSTe30
namespace Go.Proofs.Ytllepjhimkogjaa.Ob
end Go.Proofs.Ytllepjhimkogjaa.Ob
namespace Go.Proofs.Ytllepjhimkogjaa.Sk
end Go.Proofs.Ytllepjhimkogjaa.Sk
namespace Go.Proofs.Ytllepjhimkogjaa.Two
end Go.Proofs.Ytllepjhimkogjaa.Two
namespace Go.Proofs.Ytllepjhimkogjaa.Txt
end Go.Proofs.Ytllepjhimkogjaa.Txt
namespace Go.Proofs.YtllepjhimkogjaaW
end Go.Proofs.YtllepjhimkogjaaW
namespace Go.Proofs.YtllepjhimkogjaaW.PrintLast
end Go.Proofs.YtllepjhimkogjaaW.PrintLast
namespace Go.Proofs.YtllepjhimkogjaaW.PrintMore
end Go.Proofs.YtllepjhimkogjaaW.PrintMore
namespace Go.Proofs.YtllepjhimkogjaaW.PrintWords
end Go.Proofs.YtllepjhimkogjaaW.PrintWords
namespace Go.Proofs.Ytllepjhimkogjaa.Rw
open Go.RowKit Go.Proofs.YtllepjhimkogjaaW.PrintWords Go.Proofs.YtllepjhimkogjaaW.PrintLast Go.Proofs.YtllepjhimkogjaaW.PrintMore
open Go.Proofs.Ytllepjhimkogjaa.Ob Go.Proofs.Ytllepjhimkogjaa.Two
set_option linter.unusedSimpArgs false
set_option linter.unusedVariables false
def toL (x : E) : XSl.S51 := ⟨x.f0, ⟨x.f1.f0, x.f1.f1, x.f1.f2⟩⟩
def ofL (x : XSl.S51) : E := ⟨x.f0, ⟨x.f1.f0, x.f1.f1, x.f1.f2⟩⟩
theorem ofL_toL (l : List E) : (l.map toL).map ofL = l := by rw [List.map_map]; exact List.map_id _
theorem clone_w (W : World) (A : Option Addr) (c : Nat) (l : List E) (hC : Kd.C K51 W A l.length l) (hc : l.length ≤ c) (hl : l.length ≤ 1000) : Calls Try.prog 59 #[.slice A l.length c] W fun e w' => ∃ V c', e = .returned (.slice V l.length c') ∧ Own w' W.heap.size V c' l ∧ Below W.heap.size W w' := by
  have hC2 := Sm.C_map (d' := XSl.k51) toL rfl (fun w x cs h => by obtain rfl := Ty.k51_open h; exact XSl.k51_mk w (toL x)) hC
  have e : (l.map toL).length = l.length := List.length_map _
  have hf : XSl.api_Attr.f (l.map toL) = some (l.map toL) := by
    unfold XSl.api_Attr.f
    simp only [Option.bind_some, List.length_nil, Nat.zero_add, List.nil_append]
    rw [if_pos (by omega)]
  have h := XSl.api_Attr.calls A c (l.map toL) (l.map toL) W (by rw [e]; exact hC2) (by rw [e]; exact hc) hf
  rw [e] at h
  refine h.mono ?_
  rintro e1 w' ⟨v, rfl, hR, hb⟩
  obtain ⟨V, c', rfl, hO⟩ := Own.of_R ofL rfl (fun w b ok x cs h => by rw [XSl.k51_openM h]; rfl) hR
  rw [ofL_toL] at hO
  exact ⟨V, c', by rw [e], hO, hb⟩
theorem Two.only {w W W' : World} {b0 b1 : Nat} {cs0 cs1 : List Value} {S : Nat → Prop} (h : Two w W b0 b1 cs0 cs1) (k : Only S W W') (h0 : ¬ S b0) (h1 : ¬ S b1) (hS : ∀ g, S g → w.heap.size ≤ g) : Two w W' b0 b1 cs0 cs1 :=
  ⟨h.r0.only k h0, h.r1.only k h1, h.b.trans (k.below hS h.b.size), h.n0, h.n1, h.ne⟩
set_option maxHeartbeats 8000000 in
set_option maxRecDepth 1000000 in
theorem alike_walk (w : World) (a0 : Int) (a1 : Int) (a2 : Int) (a3 : ByteArray) (a4 : ByteArray) (a5 : Int) (a6 : Int) (a7 : Int) (a8 : Int) (A : Option Addr) (c : Nat) (l : List E) (m : Int) (r3 r4 : ByteArray) (hC : Kd.C K51 w A l.length l) (hc : l.length ≤ c) (hl : l.length ≤ 40) (h3 : XSl.span_label.f 20 a3 m = some r3) (h4 : XSl.span_label.f 20 a4 m = some r4) :
    Calls Try.prog 27 #[.agg #[.int .u64 a0, .int .u64 a1, .int .u64 a2, .string a3, .string a4, .int .i64 a5, .int .i64 a6, .int .u64 a7, .int .u64 a8, .slice A l.length c], .int .i64 m] w fun e w' => ∃ V d, e = .returned (.agg #[.int .u64 a0, .int .u64 a1, .int .u64 a2, .string r3, .string r4, .int .i64 a5, .int .i64 a6, .int .u64 a7, .int .u64 a8, .slice V l.length d]) ∧ Own w' w.heap.size V d (srtL l) ∧ Below w.heap.size w w' := by
  replace h3 := Aside0.mk h3
  replace h4 := Aside0.mk h4
  replace hC := Aside0.mk hC
  replace hc := Aside0.mk hc
  replace hl := Aside0.mk hl
  go_enter Try.func27, Try.ntmps27
  go_wp2
  have hS := (show Two w _ w.heap.size (w.heap.size + 1) [.int .u64 a0, .int .u64 a1, .int .u64 a2, .string a3, .string a4, .int .i64 a5, .int .i64 a6, .int .u64 a7, .int .u64 a8, .slice A l.length c] [.int .u64 0, .int .u64 0, .int .u64 0, .string ⟨#[]⟩, .string ⟨#[]⟩, .int .i64 0, .int .i64 0, .int .u64 0, .int .u64 0, .slice none 0 0] from (Two.of w 40 40 _ _).drew)
  refine start_ (n := 12) (S := fun W => Two w W w.heap.size (w.heap.size + 1) [.int .u64 a0, .int .u64 a1, .int .u64 a2, .string a3, .string a4, .int .i64 a5, .int .i64 a6, .int .u64 a7, .int .u64 a8, .slice A l.length c] [.int .u64 0, .int .u64 0, .int .u64 0, .string ⟨#[]⟩, .string ⟨#[]⟩, .int .i64 0, .int .i64 0, .int .u64 0, .int .u64 0, .slice none 0 0]) (ds := [9, 11]) #[false, false, false, false, false, false, false, false, false, false, false, false] (by kernel_rfl) rfl rfl hS (fun hHeld => ?_)
  clear hS
  refine pure_ (i := 0) (N := some 5) (v := ?_) (a' := ?_) #[true, false, false, false, false, false, false, false, false, false, false, false] rfl rfl (by kernel_rfl) (fun _ _ _ h => h) (Or.inl ⟨by rfl, ?_⟩) ?_ ?_
  rotate_left
  · intro w'
    go_simp
    with_reducible rfl
  rotate_left
  · simp only [Act.put, List.setIfInBounds_toArray, List.set_cons_zero, List.set_cons_succ, i64_w, i32_w]
    rfl
  refine pure_ (i := 2) (N := some 7) (v := ?_) (a' := ?_) #[true, false, true, false, false, false, false, false, false, false, false, false] rfl rfl (by kernel_rfl) (fun _ _ _ h => h) (Or.inl ⟨by rfl, ?_⟩) ?_ ?_
  rotate_left
  · intro w'
    go_simp
    with_reducible rfl
  rotate_left
  · simp only [Act.put, List.setIfInBounds_toArray, List.set_cons_zero, List.set_cons_succ, i64_w, i32_w]
    rfl
  refine pure_ (i := 4) (N := some 9) (v := ?_) (a' := ?_) #[true, false, true, false, true, false, false, false, false, false, false, false] rfl rfl (by kernel_rfl) (fun _ _ _ h => h) (Or.inl ⟨by rfl, ?_⟩) ?_ ?_
  rotate_left
  · intro w'
    go_simp
    with_reducible rfl
  rotate_left
  · simp only [Act.put, List.setIfInBounds_toArray, List.set_cons_zero, List.set_cons_succ, i64_w, i32_w]
    rfl
  refine pure_ (i := 6) (N := some 11) (v := ?_) (a' := ?_) #[true, false, true, false, true, false, true, false, false, false, false, false] rfl rfl (by kernel_rfl) (fun _ _ _ h => h) (Or.inl ⟨by rfl, ?_⟩) ?_ ?_
  rotate_left
  · intro w'
    go_simp
    with_reducible rfl
  rotate_left
  · simp only [Act.put, List.setIfInBounds_toArray, List.set_cons_zero, List.set_cons_succ, i64_w, i32_w]
    rfl
  refine take_ (i := 1) (N := some 6) (v := ?_) (a' := ?_) #[true, true, true, false, true, false, true, false, false, false, false, false] rfl rfl (by kernel_rfl) (fun _ _ _ h => h) (Or.inl ⟨by rfl, ?_⟩) hHeld ?_ ?_
  rotate_left
  · rintro w' h
    have hc := (h.r0 3 _ rfl).1
    go_simp
    with_reducible rfl
  rotate_left
  · simp only [Act.put, List.setIfInBounds_toArray, List.set_cons_zero, List.set_cons_succ, i64_w, i32_w]
    rfl
  refine take_ (i := 5) (N := some 10) (v := ?_) (a' := ?_) #[true, true, true, false, true, true, true, false, false, false, false, false] rfl rfl (by kernel_rfl) (fun _ _ _ h => h) (Or.inl ⟨by rfl, ?_⟩) hHeld ?_ ?_
  rotate_left
  · rintro w' h
    have hc := (h.r0 4 _ rfl).1
    go_simp
    with_reducible rfl
  rotate_left
  · simp only [Act.put, List.setIfInBounds_toArray, List.set_cons_zero, List.set_cons_succ, i64_w, i32_w]
    rfl
  refine one_ (i := 3) (N := some 8) #[true, true, true, true, true, true, true, false, false, false, false, false] rfl rfl (by kernel_rfl) (by decide) (fun K hK => ?_)
  refine goes_ Try.func58 (by kernel_rfl) rfl #[.string a3, .int .i64 m] (by rfl) rfl rfl (by (try simp only [List.map_toArray, List.map_cons, List.map_nil]); first | done | rfl) ?_
  refine (XSl.span_label.calls 20 a3 m r3 _ h3.out).mono ?_
  rintro e w' ⟨rfl, hb⟩
  have hH2 := Aside0.mk (hHeld.keep hb)
  clear hb
  refine ⟨_, rfl, ?_⟩
  refine hK.out _ _ (hH2.out) (fun hHeld => ?_)
  clear hK K
  refine norm_ (a' := ?_) ?_ ?_
  rotate_left
  · show Act.put _ (some 8) _ = _
    simp only [Act.put, List.setIfInBounds_toArray, List.set_cons_zero, List.set_cons_succ, i64_w, i32_w]
    rfl
  refine pure_ (i := 8) (N := some 13) (v := ?_) (a' := ?_) #[true, true, true, true, true, true, true, false, true, false, false, false] rfl rfl (by kernel_rfl) (fun _ _ _ h => h) (Or.inl ⟨by rfl, ?_⟩) ?_ ?_
  rotate_left
  · intro w'
    go_simp
    with_reducible rfl
  rotate_left
  · simp only [Act.put, List.setIfInBounds_toArray, List.set_cons_zero, List.set_cons_succ, i64_w, i32_w]
    rfl
  refine one_ (i := 7) (N := some 12) #[true, true, true, true, true, true, true, true, true, false, false, false] rfl rfl (by kernel_rfl) (by decide) (fun K hK => ?_)
  refine goes_ Try.func58 (by kernel_rfl) rfl #[.string a4, .int .i64 m] (by rfl) rfl rfl (by (try simp only [List.map_toArray, List.map_cons, List.map_nil]); first | done | rfl) ?_
  refine (XSl.span_label.calls 20 a4 m r4 _ h4.out).mono ?_
  rintro e w' ⟨rfl, hb⟩
  have hH2 := Aside0.mk (hHeld.keep hb)
  clear hb
  refine ⟨_, rfl, ?_⟩
  refine hK.out _ _ (hH2.out) (fun hHeld => ?_)
  clear hK K
  refine norm_ (a' := ?_) ?_ ?_
  rotate_left
  · show Act.put _ (some 12) _ = _
    simp only [Act.put, List.setIfInBounds_toArray, List.set_cons_zero, List.set_cons_succ, i64_w, i32_w]
    rfl
  refine last_ (i := 9) (N := none) #[true, true, true, true, true, true, true, true, true, true, false, false] rfl rfl (by kernel_rfl) (by decide) (fun K hK => ?_)
  obtain ⟨hq3, hqf3⟩ := hHeld.r0 3 _ rfl
  obtain ⟨hq4, hqf4⟩ := hHeld.r0 4 _ rfl
  refine skip_ (w1 := ?_) (by rfl) rfl ?_ ?_
  rotate_left
  · go_simp
    rfl
  refine hK.out _ _ ?_
  clear hK K
  refine pure_ (i := 10) (N := some 14) (v := ?_) (a' := ?_) #[true, true, true, true, true, true, true, true, true, true, true, false] rfl rfl (by kernel_rfl) (fun _ _ _ h => h) (Or.inl ⟨by rfl, ?_⟩) ?_ ?_
  rotate_left
  · intro w'
    go_simp
    with_reducible rfl
  rotate_left
  · simp only [Act.put, List.setIfInBounds_toArray, List.set_cons_zero, List.set_cons_succ, i64_w, i32_w]
    rfl
  refine last_ (i := 11) (N := none) #[true, true, true, true, true, true, true, true, true, true, true, true] rfl rfl (by kernel_rfl) (by decide) (fun K hK => ?_)
  refine skip_ (w1 := ?_) (by rfl) rfl ?_ ?_
  rotate_left
  · go_simp
    rfl
  refine hK.out _ _ ?_
  clear hK K
  refine done_ (by kernel_rfl) ?_
  have hT := (hHeld.set0 3 (.string r3)).set0 4 (.string r4)
  replace hT := Aside0.mk (show Two w _ w.heap.size (w.heap.size + 1) [.int .u64 a0, .int .u64 a1, .int .u64 a2, .string r3, .string r4, .int .i64 a5, .int .i64 a6, .int .u64 a7, .int .u64 a8, .slice A l.length c] [.int .u64 0, .int .u64 0, .int .u64 0, .string ⟨#[]⟩, .string ⟨#[]⟩, .int .i64 0, .int .i64 0, .int .u64 0, .int .u64 0, .slice none 0 0] from hT)
  clear hHeld
  generalize (w'.setCell ⟨w.heap.size, 3, none⟩ (.string r3)).setCell ⟨w.heap.size, 4, none⟩ (.string r4) = W1 at hT ⊢
  have q9 := (hT.out.r0 9 _ rfl).1
  have q9f := (hT.out.r0 9 _ rfl).2
  go_wp2_with (first
    | (go_at_call 59; refine (clone_w _ A c l (Kd.C_below hC.out hT.out.b) hc.out (by have := hl.out; omega)).mono ?_; rintro e W2 ⟨A2, c2, rfl, hO, hb⟩; have hT2 := Aside0.mk (hT.out.keep hb); have hsz := Aside0.mk (Nat.le_trans hT.out.b.size hb.size); replace hO := Aside0.mk hO; have hbs := Aside0.mk (show w.heap.size + 2 ≤ W1.heap.size from hT.out.r1.lt (by simp)); clear hb; have ⟨p9, p9f⟩ := hT2.out.r0 9 _ rfl)
    | (go_at_call 60; have hT3 := Aside0.mk (show Two w (W2.setCell ⟨w.heap.size, 9, none⟩ (.slice A2 l.length c2)) w.heap.size (w.heap.size + 1) [.int .u64 a0, .int .u64 a1, .int .u64 a2, .string r3, .string r4, .int .i64 a5, .int .i64 a6, .int .u64 a7, .int .u64 a8, .slice A2 l.length c2] [.int .u64 0, .int .u64 0, .int .u64 0, .string ⟨#[]⟩, .string ⟨#[]⟩, .int .i64 0, .int .i64 0, .int .u64 0, .int .u64 0, .slice none 0 0] from hT2.out.set0 9 _); have hO3 := Aside0.mk (hO.out.far ⟨w.heap.size, 9, none⟩ (.slice A2 l.length c2) (by have := hbs.out; show w.heap.size < W1.heap.size; omega)); generalize W2.setCell ⟨w.heap.size, 9, none⟩ (.slice A2 l.length c2) = W3 at hT3 hO3 ⊢; refine (sort_own W3 _ A2 c2 l hl.out hO3.out).mono ?_; rintro e w4 ⟨rfl, hO4, hon⟩; replace hO4 := Aside0.mk hO4; replace hT3 := Aside0.mk (Two.only hT3.out hon (fun (e : W1.heap.size ≤ w.heap.size) => by have := hbs.out; omega) (fun (e : W1.heap.size ≤ w.heap.size + 1) => by have := hbs.out; omega) (fun g (hg : W1.heap.size ≤ g) => by have := hbs.out; omega)); clear hon hO3; have ⟨u0, z0⟩ := hT3.out.r1 0 _ rfl; have ⟨u1, z1⟩ := hT3.out.r1 1 _ rfl; have ⟨u2, z2⟩ := hT3.out.r1 2 _ rfl; have ⟨u3, z3⟩ := hT3.out.r1 3 _ rfl; have ⟨u4, z4⟩ := hT3.out.r1 4 _ rfl; have ⟨u5, z5⟩ := hT3.out.r1 5 _ rfl; have ⟨u6, z6⟩ := hT3.out.r1 6 _ rfl; have ⟨u7, z7⟩ := hT3.out.r1 7 _ rfl; have ⟨u8, z8⟩ := hT3.out.r1 8 _ rfl; have ⟨u9, z9⟩ := hT3.out.r1 9 _ rfl)
    | (refine wpList_load_at (by rfl) 40 _ rfl w.heap.size 0 rfl [.int .u64 a0, .int .u64 a1, .int .u64 a2, .string r3, .string r4, .int .i64 a5, .int .i64 a6, .int .u64 a7, .int .u64 a8, .slice A2 l.length c2] _ (row_at0 hT3.out.r0) Try.underlying40 rfl (by kernel_rfl) ?_))
  have hT4 := ((((((((((hT3.out.set1 0 (.int .u64 a0)).set1 1 (.int .u64 a1)).set1 2 (.int .u64 a2)).set1 3 (.string r3)).set1 4 (.string r4)).set1 5 (.int .i64 a5)).set1 6 (.int .i64 a6)).set1 7 (.int .u64 a7)).set1 8 (.int .u64 a8)).set1 9 (.slice A2 l.length c2))
  refine bodyPost_ret (results_at rfl _ _ (w.heap.size + 1) [.int .u64 a0, .int .u64 a1, .int .u64 a2, .string r3, .string r4, .int .i64 a5, .int .i64 a6, .int .u64 a7, .int .u64 a8, .slice A2 l.length c2] _ rfl (show Row _ _ [.int .u64 a0, .int .u64 a1, .int .u64 a2, .string r3, .string r4, .int .i64 a5, .int .i64 a6, .int .u64 a7, .int .u64 a8, .slice A2 l.length c2] from hT4.r1) Try.underlying40 rfl (by kernel_rfl)) rfl ⟨A2, c2, rfl, ?_, hT4.b⟩
  refine Own.lower (b := W1.heap.size) ?_ (by have := hbs.out; omega)
  iterate 10 refine Own.far ?_ _ _ (by have := hbs.out; show w.heap.size + 1 < W1.heap.size; omega)
  exact hO4.out
end Go.Proofs.Ytllepjhimkogjaa.Rw
namespace Go.Proofs.Ytllepjhimkogjaa.Lb
open Go.Proofs.Ytllepjhimkogjaa.Txt Go.Proofs.YtllepjhimkogjaaW
set_option linter.unusedSimpArgs false
set_option linter.unusedVariables false
def D (s : ByteArray) : List UInt8 := s.data.toList
def B (l : List UInt8) : ByteArray := ⟨l.toArray⟩
theorem D_B (l : List UInt8) : D (B l) = l := by simp [D, B]
theorem B_D (s : ByteArray) : B (D s) = s := by cases s; simp [D, B]
theorem D_inj {a b : ByteArray} (h : D a = D b) : a = b := by rw [← B_D a, ← B_D b, h]
theorem D_len (s : ByteArray) : (D s).length = s.size := rfl
theorem B_size (l : List UInt8) : (B l).size = l.length := by rw [← D_len, D_B]
theorem D_extract (s : ByteArray) (a b : Nat) : D (s.extract a b) = ((D s).drop a).take (b - a) := by
  simp [D, ByteArray.data_extract, Array.toList_extract]
theorem cutB_eq (s : ByteArray) (n : Int) : Tw.cutB s n = B (cut n.toNat (D s)) := by
  apply D_inj
  rw [D_B, Tw.cutB, D_extract, List.drop_zero, Nat.sub_zero]
  exact (cut_us n.toNat (D s)).2.2.symm
theorem cl_len (u : Nat × List UInt8) (h : 1 ≤ u.2.length) : (cl u).2.length ≤ u.2.length := by
  unfold cl
  by_cases hp : plain u.1 = true
  · rw [if_pos hp]; exact Nat.le_refl _
  · rw [if_neg hp]; exact h
theorem clean_len (l : List UInt8) : (clean l).length ≤ l.length := by
  have : ∀ L : List (Nat × List UInt8), (∀ u ∈ L, 1 ≤ u.2.length) → (join (L.map cl)).length ≤ (join L).length := by
    intro L
    induction L with
    | nil => intro _; exact Nat.le_refl _
    | cons u r ih =>
      intro h
      rw [List.map_cons, join_cons, join_cons, List.length_append, List.length_append]
      have h1 := cl_len u (h u (List.mem_cons_self ..))
      have h2 := ih (fun v hv => h v (List.mem_cons_of_mem _ hv))
      omega
  have h := this (us l) (us_len l)
  rw [us_join] at h
  exact h
def labL (l : List UInt8) (n : Nat) : List UInt8 := if cut n (clean l) = [] then [95] else cut n (clean l)
def lab (s : ByteArray) (m : Int) : ByteArray := B (labL (D s) m.toNat)
theorem toList_D (s : ByteArray) : s.toList = D s := ByteArray.toList_eq s
theorem label_f (s : ByteArray) (m : Int) (h : s.size ≤ 1000000) : XSl.span_label.f 20 s m = some (lab s m) := by
  unfold XSl.span_label.f XSl.text_Label.f XSl.text_Clean.f
  rw [if_pos (by omega), Option.bind_some]
  unfold XSl.text_Cut.f
  have hc := clean_len (D s)
  rw [D_len] at hc
  rw [if_pos (by show (B (clean (D s))).size ≤ _; rw [B_size]; omega), Option.bind_some, Option.bind_some]
  have e : Tw.cutB (⟨(clean s.data.toList).toArray⟩ : ByteArray) m = B (cut m.toNat (clean (D s))) := by
    show Tw.cutB (B (clean (D s))) m = _
    rw [cutB_eq, D_B]
  rw [e]
  have hl : labL (D s) m.toNat = if cut m.toNat (clean (D s)) = [] then [95] else cut m.toNat (clean (D s)) := rfl
  unfold XSl.cmp_Or_string.f lab
  rw [show (20 : Nat) = 18 + 1 + 1 from rfl, XSl.cmp_Or_string.l0, if_pos (by simp), if_pos (by omega), if_pos (by simp)]
  have r0 : ∀ (x y : ByteArray), PrintWords.rdOf ByteArray.empty [x, y] 0 = x := fun x y => rfl
  have r1 : ∀ (x y : ByteArray), PrintWords.rdOf ByteArray.empty [x, y] 1 = y := fun x y => rfl
  rw [r0, toList_D, toList_D, D_B]
  by_cases hz : cut m.toNat (clean (D s)) = []
  · rw [hl, if_pos hz, hz, if_pos (show ([] : List UInt8) = D { data := #[] } from rfl), show RowKit.wrap64 (0 + 1) = 1 from IntWalk.wrap64_in _ (by omega), XSl.cmp_Or_string.l0, if_pos (by simp), if_pos (by omega), if_pos (by simp), r1, toList_D, toList_D, if_neg (show ¬ D { data := #[95] } = D { data := #[] } by decide)]; rfl
  · rw [hl, if_neg hz, if_neg (show ¬ cut m.toNat (clean (D s)) = D { data := #[] } from hz)]; rfl
end Go.Proofs.Ytllepjhimkogjaa.Lb
namespace Go.Proofs.Ytllepjhimkogjaa.Sw
open Go.RowKit Go.Proofs.YtllepjhimkogjaaW.PrintWords Go.Proofs.YtllepjhimkogjaaW.PrintLast
open Go.Proofs.Ytllepjhimkogjaa.Ob Go.Proofs.Ytllepjhimkogjaa.Two Go.Proofs.Ytllepjhimkogjaa.Sk
set_option linter.unusedSimpArgs false
set_option linter.unusedVariables false
structure Bx (w W : World) (L : List (Nat × List Value)) : Prop where
  b : Below w.heap.size w W
  r : ∀ p ∈ L, w.heap.size ≤ p.1 ∧ p.1 < W.heap.size ∧ Row W p.1 p.2
theorem Bx.keep {w W W' : World} {L : List (Nat × List Value)} (h : Bx w W L) (k : Below W.heap.size W W') : Bx w W' L :=
  ⟨h.b.trans (k.mono h.b.size), fun p hp => ⟨(h.r p hp).1, Nat.lt_of_lt_of_le (h.r p hp).2.1 k.size, (h.r p hp).2.2.only (Two.below_only0 k) id⟩⟩
theorem Bx.drewN {w W : World} {L : List (Nat × List Value)} (h : Bx w W L) (n : Nat) : Bx w (W.drewN n) L := h.keep ⟨rfl, rfl, rfl, Nat.le_refl _, fun _ _ => rfl⟩
theorem Bx.drew {w W : World} {L : List (Nat × List Value)} (h : Bx w W L) : Bx w W.drew L := h.keep ⟨rfl, rfl, rfl, Nat.le_refl _, fun _ _ => rfl⟩
theorem Bx.only {w W W' : World} {L : List (Nat × List Value)} {S : Nat → Prop} (h : Bx w W L) (k : Only S W W') (hS : ∀ g, S g → w.heap.size ≤ g) (hL : ∀ p ∈ L, ¬ S p.1) : Bx w W' L :=
  ⟨h.b.trans (k.below hS h.b.size), fun p hp => ⟨(h.r p hp).1, Nat.lt_of_lt_of_le (h.r p hp).2.1 k.size, (h.r p hp).2.2.only k (hL p hp)⟩⟩
theorem size_alloc (W : World) (o : Obj) : (W.alloc o).heap.size = W.heap.size + 1 := by show (W.heap.push _).size = _; simp
theorem Bx.new {w W : World} {L : List (Nat × List Value)} (h : Bx w W L) (cs : List Value) (t : TypeId) : Bx w (W.alloc (.cells cs.toArray t)) ((W.heap.size, cs) :: L) := by
  refine ⟨h.b.alloc h.b.size _, fun p hp => ?_⟩
  rw [size_alloc]
  rcases List.mem_cons.1 hp with rfl | hp
  · exact ⟨h.b.size, Nat.lt_succ_self _, Row.new W cs t⟩
  · have := h.r p hp
    exact ⟨this.1, by omega, this.2.2.alloc _⟩
theorem Bx.start (w : World) : Bx w w [] := ⟨Below.refl _ _, fun p hp => by cases hp⟩
theorem Bx.sub {w W : World} {L L' : List (Nat × List Value)} (h : Bx w W L) (k : ∀ p ∈ L', p ∈ L) : Bx w W L' := ⟨h.b, fun p hp => h.r p (k p hp)⟩
theorem Bx.row {w W : World} {L : List (Nat × List Value)} (h : Bx w W L) {g : Nat} {cs : List Value} (k : (g, cs) ∈ L) : Row W g cs := (h.r _ k).2.2
theorem wpList_store_new {P : Program} {ops : Array Oper} {rest : List Oper} {o : Oper} {a : Act} {Q : Exit → Act → World → Prop} (w : World) (hw : Region.wanted o (yielded ops a.tmps) = true) (ty : TypeId) (x y : Operand) (ho : o.op = .store ty x y) (hx : a.eval x = .pointer (some ⟨w.heap.size, 0, none⟩)) (c c' : Array Value) (hy : a.eval y = .agg c')
    (hi : (P.info? ty).map (·.size) = some c'.size) (hs : c.size = c'.size) (h1 : c'.all (·.oneCell') = true)
    (h : wpList P ops Q rest (a.put o.dst undef) (w.alloc (.cells c' ty))) : wpList P ops Q (o :: rest) a (w.alloc (.cells c ty)) := by
  unfold wpList
  rw [if_pos hw]
  refine Or.inl ?_
  unfold Oper.wp execOp
  simp only [ho, hx, hy, Sem.run_bind, run_storeAt_new w ty c c' hi hs h1, Result.andThen_ok, Sem.run_pure]
  exact h
abbrev av := Go.Proofs.Ytllepjhimkogjaa.Oz.av
def ua (x : Ty.S51) : XSf.S63 := ⟨x.f0, ⟨x.f1.f0, x.f1.f1, x.f1.f2⟩⟩
def ca (x : Ty.S51) : XSf.S51 := ⟨x.f0, ⟨x.f1.f0, x.f1.f1, x.f1.f2⟩⟩
theorem av_ua (l : List Ty.S51) : (l.map ua).map av = l := by rw [List.map_map]; exact List.map_id _
set_option maxHeartbeats 4000000 in
set_option maxRecDepth 1000000 in
theorem took_w (w : World) (a0 a1 a2 : Int) (a3 a4 : ByteArray) (a5 a6 a7 a8 : Int) (v : Value) : Calls Try.prog 28 #[.agg #[.int .u64 a0, .int .u64 a1, .int .u64 a2, .string a3, .string a4, .int .i64 a5, .int .i64 a6, .int .u64 a7, .int .u64 a8, v]] w fun e w' => e = .returned (.int .u64 (if a8 < a7 then 0 else IntKind.u64.wrap (a8 - a7))) ∧ Below w.heap.size w w' := by
  have hT := Aside0.mk ((Bx.start w).new [.int .u64 a0, .int .u64 a1, .int .u64 a2, .string a3, .string a4, .int .i64 a5, .int .i64 a6, .int .u64 a7, .int .u64 a8, v] 40)
  obtain ⟨y7, z7⟩ := hT.out.row (List.mem_cons_self ..) 7 _ rfl
  obtain ⟨y8, z8⟩ := hT.out.row (List.mem_cons_self ..) 8 _ rfl
  by_cases h : a8 < a7
  · rw [if_pos h]
    go_enter Try.func28, Try.ntmps28
    go_wp2
    go_ret
    exact ⟨rfl, hT.out.b⟩
  · rw [if_neg h]
    go_enter Try.func28, Try.ntmps28
    go_wp2
    go_ret
    exact ⟨rfl, hT.out.b⟩
set_option maxHeartbeats 4000000 in
set_option maxRecDepth 1000000 in
theorem failed_w (w : World) (a0 a1 a2 : Int) (a3 a4 : ByteArray) (a5 a6 a7 a8 : Int) (v : Value) : Calls Try.prog 29 #[.agg #[.int .u64 a0, .int .u64 a1, .int .u64 a2, .string a3, .string a4, .int .i64 a5, .int .i64 a6, .int .u64 a7, .int .u64 a8, v]] w fun e w' => e = .returned (.bool (a6 == 2)) ∧ Below w.heap.size w w' := by
  have hT := Aside0.mk ((Bx.start w).new [.int .u64 a0, .int .u64 a1, .int .u64 a2, .string a3, .string a4, .int .i64 a5, .int .i64 a6, .int .u64 a7, .int .u64 a8, v] 40)
  obtain ⟨y6, z6⟩ := hT.out.row (List.mem_cons_self ..) 6 _ rfl
  go_enter Try.func29, Try.ntmps29
  go_wp2
  go_ret
  exact ⟨by first | rfl | simp, hT.out.b⟩
theorem of_w2 (w : World) (x0 x1 x2 : Int) (x3 x4 : ByteArray) (x5 x6 x7 x8 : Int) (Ax : Option Addr) (cx : Nat) (lx : List XSf.S63) (hC : Kd.C XSf.k63 w Ax lx.length lx) (hc : lx.length ≤ cx) (hl : lx.length ≤ 40) : Calls Try.prog 21 #[.agg #[.int .u64 x0, .int .u64 x1, .int .u64 x2, .string x3, .string x4, .int .i64 x5, .int .i64 x6, .int .u64 x7, .int .u64 x8, .slice Ax lx.length cx]] w fun e w' => ∃ A c, e = .returned (.agg #[.int .u64 x0, .int .u64 x1, .int .u64 x2, .string x3, .string x4, .int .i64 x5, .int .i64 x6, .int .u64 x7, .int .u64 x8, .slice A (lx.map av).length c]) ∧ (lx.map av).length ≤ c ∧ Kd.C Ty.k51 w' A (lx.map av).length (lx.map av) ∧ Below w.heap.size w w' := by
  refine (XSf.tallyroomlaw06_Of.calls 60 x0 x1 x2 x3 x4 x5 x6 x7 x8 Ax cx lx _ _ _ _ _ _ _ _ _ _ w hC hc (Oz.of_loop x0 x1 x2 x3 x4 x5 x6 x7 x8 lx hl lx.length 0 60 (by omega) (by omega))).mono ?_
  rintro e w' ⟨v, rfl, hR, hb⟩
  obtain ⟨A, c, rfl, hcc, hC2⟩ := Kd.R_reads hR
  have h3 := Sm.C_map (d' := Ty.k51) Oz.ty rfl (fun w x cs h => by obtain rfl := XSf.k51_open h; exact Ty.k51_mk w (Oz.ty x)) hC2
  rw [List.map_map] at h3
  have e1 : (lx.map Oz.cv).length = (lx.map av).length := by rw [List.length_map, List.length_map]
  rw [e1] at h3 hcc ⊢
  exact ⟨A, c, rfl, hcc, h3, hb⟩
theorem rd51 (l : List XSf.S51) (i : Nat) (h : i < l.length) : XSf.rd_T51 l (i : Int) = l[i] := by
  unfold XSf.rd_T51
  rw [Int.toNat_natCast, List.getD_eq_getElem?_getD, List.getElem?_eq_getElem h]; rfl
def du (x : XSf.S51) : XSf.S63 := ⟨x.f0, ⟨x.f1.f0, x.f1.f1, x.f1.f2⟩⟩
theorem to_loop (x0 x1 x2 : Int) (x3 x4 : ByteArray) (x5 x6 x7 x8 : Int) (l : List XSf.S51) (hl : l.length ≤ 1000) : ∀ (d i k : Nat), i + d = l.length → d < k →
    XSf.tallyroomlaw06_To.l0 k (i : Int) x0 x1 x2 x3 x4 x5 x6 x7 x8 l x0 x1 x2 x3 x4 x5 x6 x7 x8 ((l.take i).map du) = some (x0, x1, x2, x3, x4, x5, x6, x7, x8, l.map du) := by
  intro d
  induction d with
  | zero =>
    intro i k hi hk
    obtain ⟨k, rfl⟩ : ∃ m, k = m + 1 := ⟨k - 1, by omega⟩
    rw [XSf.tallyroomlaw06_To.l0, if_neg (by omega), List.take_of_length_le (by omega)]
  | succ d ih =>
    intro i k hi hk
    obtain ⟨k, rfl⟩ : ∃ m, k = m + 1 := ⟨k - 1, by omega⟩
    have hlt : i < l.length := by omega
    rw [XSf.tallyroomlaw06_To.l0, if_pos (by omega), if_pos (by omega), if_pos (by rw [List.length_map, List.length_take]; omega), rd51 l i hlt, IntWalk.wrap64_in _ (by omega), show (i : Int) + 1 = ((i + 1 : Nat) : Int) by omega]
    have := ih (i + 1) k (by omega) (by omega)
    rw [List.take_succ_eq_append_getElem hlt, List.map_append] at this
    exact this
theorem to_w (w : World) (x0 x1 x2 : Int) (x3 x4 : ByteArray) (x5 x6 x7 x8 : Int) (Ax : Option Addr) (cx : Nat) (lx : List Ty.S51) (hC : Kd.C Ty.k51 w Ax lx.length lx) (hc : lx.length ≤ cx) (hl : lx.length ≤ 40) : Calls Try.prog 24 #[.agg #[.int .u64 x0, .int .u64 x1, .int .u64 x2, .string x3, .string x4, .int .i64 x5, .int .i64 x6, .int .u64 x7, .int .u64 x8, .slice Ax lx.length cx]] w fun e w' => ∃ A c, e = .returned (.agg #[.int .u64 x0, .int .u64 x1, .int .u64 x2, .string x3, .string x4, .int .i64 x5, .int .i64 x6, .int .u64 x7, .int .u64 x8, .slice A (lx.map ua).length c]) ∧ (lx.map ua).length ≤ c ∧ Kd.C XSf.k63 w' A (lx.map ua).length (lx.map ua) ∧ Below w.heap.size w w' := by
  have e0 : (lx.map ca).length = lx.length := List.length_map _
  have h0 := Sm.C_map (d' := XSf.k51) ca rfl (fun w x cs h => by obtain rfl := Ty.k51_open h; exact XSf.k51_mk w (ca x)) hC
  have h1 := XSf.tallyroomlaw06_To.calls 60 x0 x1 x2 x3 x4 x5 x6 x7 x8 Ax cx (lx.map ca) _ _ _ _ _ _ _ _ _ _ w (by rw [e0]; exact h0) (by rw [e0]; exact hc) (to_loop x0 x1 x2 x3 x4 x5 x6 x7 x8 (lx.map ca) (by omega) (lx.map ca).length 0 60 (by omega) (by omega))
  rw [e0] at h1
  refine h1.mono ?_
  rintro e w' ⟨v, rfl, hR, hb⟩
  obtain ⟨A, c, rfl, hcc, hC2⟩ := Kd.R_reads hR
  have e2 : (lx.map ca).map du = lx.map ua := by rw [List.map_map]; rfl
  rw [e2] at hcc hC2 ⊢
  exact ⟨A, c, rfl, hcc, hC2, hb⟩
set_option maxHeartbeats 4000000 in
set_option maxRecDepth 1000000 in
theorem same_w (w : World) (a0 a1 a2 : Int) (a3 a4 : ByteArray) (a5 a6 a7 a8 : Int) (Aa : Option Addr) (ca : Nat) (la : List XSf.S63) (b0 b1 b2 : Int) (b3 b4 : ByteArray) (b5 b6 b7 b8 : Int) (Ab : Option Addr) (cb : Nat) (lb : List XSf.S63) (hCa : Kd.C XSf.k63 w Aa la.length la) (hca : la.length ≤ ca) (hCb : Kd.C XSf.k63 w Ab lb.length lb) (hcb : lb.length ≤ cb) (hla : la.length ≤ 40) (hlb : lb.length ≤ 40) (x : Int) (hx : cmpS ⟨a0, a1, a2, a3, a4, a5, a6, a7, a8, la.map Oz.av⟩ ⟨b0, b1, b2, b3, b4, b5, b6, b7, b8, lb.map Oz.av⟩ = x) :
    Calls Try.prog 23 #[.agg #[.int .u64 a0, .int .u64 a1, .int .u64 a2, .string a3, .string a4, .int .i64 a5, .int .i64 a6, .int .u64 a7, .int .u64 a8, .slice Aa la.length ca], .agg #[.int .u64 b0, .int .u64 b1, .int .u64 b2, .string b3, .string b4, .int .i64 b5, .int .i64 b6, .int .u64 b7, .int .u64 b8, .slice Ab lb.length cb]] w fun e w' => e = .returned (.bool (x == 0)) ∧ Below w.heap.size w w' := by
  have hT := Aside0.mk (((Bx.start w).new [.int .u64 a0, .int .u64 a1, .int .u64 a2, .string a3, .string a4, .int .i64 a5, .int .i64 a6, .int .u64 a7, .int .u64 a8, .slice Aa la.length ca] 37).new [.int .u64 b0, .int .u64 b1, .int .u64 b2, .string b3, .string b4, .int .i64 b5, .int .i64 b6, .int .u64 b7, .int .u64 b8, .slice Ab lb.length cb] 37)
  replace hCa := Aside0.mk hCa
  replace hCb := Aside0.mk hCb
  have e1 := size_alloc w (.cells [.int .u64 a0, .int .u64 a1, .int .u64 a2, .string a3, .string a4, .int .i64 a5, .int .i64 a6, .int .u64 a7, .int .u64 a8, .slice Aa la.length ca].toArray 37)
  rw [e1] at hT
  go_enter Try.func23, Try.ntmps23
  go_wp2_with (first
    | (refine wpList_load_at (by rfl) 37 _ rfl w.heap.size 0 rfl [.int .u64 a0, .int .u64 a1, .int .u64 a2, .string a3, .string a4, .int .i64 a5, .int .i64 a6, .int .u64 a7, .int .u64 a8, .slice Aa la.length ca] _ (row_at0 (hT.out.row (by simp))) Try.underlying37 rfl (by kernel_rfl) ?_)
    | (refine wpList_load_at (by rfl) 37 _ rfl (w.heap.size + 1) 0 rfl [.int .u64 b0, .int .u64 b1, .int .u64 b2, .string b3, .string b4, .int .i64 b5, .int .i64 b6, .int .u64 b7, .int .u64 b8, .slice Ab lb.length cb] _ (row_at0 (hT.out.row (by simp))) Try.underlying37 rfl (by kernel_rfl) ?_)
    | (go_at_call 25; refine (Oz.ref_w _ a0 a1 a2 a3 a4 a5 a6 a7 a8 Aa ca la b0 b1 b2 b3 b4 b5 b6 b7 b8 Ab cb lb (Kd.C_below hCa.out hT.out.b) hca (Kd.C_below hCb.out hT.out.b) hcb hla hlb x hx).mono ?_; rintro e w1 ⟨rfl, hb1⟩; replace hT := Aside0.mk (hT.out.keep hb1); clear hb1))
  go_ret
  exact ⟨by first | rfl | simp, hT.out.b⟩
end Go.Proofs.Ytllepjhimkogjaa.Sw
namespace Go.Proofs.Ytllepjhimkogjaa.Sw
open Go.RowKit Go.Proofs.YtllepjhimkogjaaW.PrintWords Go.Proofs.YtllepjhimkogjaaW.PrintLast
open Go.Proofs.Ytllepjhimkogjaa.Ob Go.Proofs.Ytllepjhimkogjaa.Two Go.Proofs.Ytllepjhimkogjaa.Sk
set_option linter.unusedSimpArgs false
set_option linter.unusedVariables false
def Near (a3 a4 : ByteArray) (l : List XSf.S63) : Prop := l.length ≤ 40 ∧ a3.size ≤ 5000 ∧ a4.size ≤ 5000 ∧ ∀ x ∈ l, x.f0.size ≤ 300 ∧ x.f1.f2.size ≤ 5000
theorem far_loop2 (x0 x1 x2 : Int) (x3 x4 : ByteArray) (x5 x6 x7 x8 : Int) (l : List XSf.S63) (hl : l.length ≤ 40) : ∀ (d i k : Nat), i + d = l.length → d < k → ∃ r, XSf.tallyroomlaw06_Far.l0 k (i : Int) x0 x1 x2 x3 x4 x5 x6 x7 x8 l = some r ∧ (r = false → ∀ j, i ≤ j → ∀ h : j < l.length, l[j].f0.size ≤ 300 ∧ l[j].f1.f2.size ≤ 5000) := by
  intro d
  induction d with
  | zero =>
    intro i k hi hk
    obtain ⟨k, rfl⟩ : ∃ m, k = m + 1 := ⟨k - 1, by omega⟩
    exact ⟨false, by rw [XSf.tallyroomlaw06_Far.l0, if_neg (by omega)], fun _ j h1 h2 => absurd h2 (by omega)⟩
  | succ d ih =>
    intro i k hi hk
    obtain ⟨k, rfl⟩ : ∃ m, k = m + 1 := ⟨k - 1, by omega⟩
    have hlt : i < l.length := by omega
    rw [XSf.tallyroomlaw06_Far.l0, if_pos (by omega), if_pos (by omega), Oz.rd63 l i hlt]
    by_cases h1 : ((l[i].f0).size : Int) > 300
    · exact ⟨true, by rw [if_pos h1], fun h => by cases h⟩
    · by_cases h2 : ((l[i].f1.f2).size : Int) > 5000
      · exact ⟨true, by rw [if_neg h1, if_pos h2], fun h => by cases h⟩
      · obtain ⟨r, e, hr⟩ := ih (i + 1) k (by omega) (by omega)
        refine ⟨r, by rw [if_neg h1, if_neg h2, IntWalk.wrap64_in _ (by omega), show (i : Int) + 1 = ((i + 1 : Nat) : Int) by omega]; exact e, fun h j hj hjl => ?_⟩
        by_cases e : j = i
        · subst e; omega
        · exact hr h j (by omega) hjl
theorem far_f2 (x0 x1 x2 : Int) (x3 x4 : ByteArray) (x5 x6 x7 x8 : Int) (l : List XSf.S63) : ∃ r, XSf.tallyroomlaw06_Far.f 60 x0 x1 x2 x3 x4 x5 x6 x7 x8 l = some r ∧ (r = false → Near x3 x4 l) := by
  unfold XSf.tallyroomlaw06_Far.f
  rw [show (60 : Nat) = 59 + 1 from rfl]
  by_cases h3 : (x3.size : Int) > 5000
  · exact ⟨true, by rw [if_pos h3, XSf.tallyroomlaw06_Far.j0, if_pos rfl], fun h => by cases h⟩
  · by_cases h4 : (x4.size : Int) > 5000
    · exact ⟨true, by rw [if_neg h3, if_pos h4, XSf.tallyroomlaw06_Far.j0, if_pos rfl], fun h => by cases h⟩
    · rw [if_neg h3, if_neg h4]
      by_cases h : (l.length : Int) > 40
      · exact ⟨true, by rw [XSf.tallyroomlaw06_Far.j0, decide_eq_true h, if_pos rfl], fun h => by cases h⟩
      · obtain ⟨r, hr, hn⟩ := far_loop2 x0 x1 x2 x3 x4 x5 x6 x7 x8 l (by omega) l.length 0 59 (by omega) (by omega)
        refine ⟨r, by rw [XSf.tallyroomlaw06_Far.j0, decide_eq_false h, if_neg (by decide)]; exact hr, fun e => ⟨by omega, by omega, by omega, fun x hx => ?_⟩⟩
        obtain ⟨j, hj, rfl⟩ := List.mem_iff_getElem.1 hx
        exact hn e j (Nat.zero_le _) hj
theorem of_w3 (w : World) (x0 x1 x2 : Int) (x3 x4 : ByteArray) (x5 x6 x7 x8 : Int) (Ax : Option Addr) (cx : Nat) (lx : List XSf.S63) (hC : Kd.C XSf.k63 w Ax lx.length lx) (hc : lx.length ≤ cx) (hl : lx.length ≤ 40) : Calls Try.prog 21 #[.agg #[.int .u64 x0, .int .u64 x1, .int .u64 x2, .string x3, .string x4, .int .i64 x5, .int .i64 x6, .int .u64 x7, .int .u64 x8, .slice Ax lx.length cx]] w fun e w' => ∃ A c, e = .returned (.agg #[.int .u64 x0, .int .u64 x1, .int .u64 x2, .string x3, .string x4, .int .i64 x5, .int .i64 x6, .int .u64 x7, .int .u64 x8, .slice A lx.length c]) ∧ lx.length ≤ c ∧ Kd.C Ty.k51 w' A lx.length (lx.map av) ∧ Below w.heap.size w w' := by
  have h := of_w2 w x0 x1 x2 x3 x4 x5 x6 x7 x8 Ax cx lx hC hc hl
  rw [List.length_map] at h
  exact h
theorem alike_w3 (w : World) (x0 x1 x2 : Int) (x3 x4 : ByteArray) (x5 x6 x7 x8 : Int) (A : Option Addr) (c : Nat) (l : List Ty.S51) (n : Nat) (hn : l.length = n) (m : Int) (hC : Kd.C Ty.k51 w A n l) (hc : n ≤ c) (hl : n ≤ 40) (h3 : x3.size ≤ 5000) (h4 : x4.size ≤ 5000) :
    Calls Try.prog 27 #[.agg #[.int .u64 x0, .int .u64 x1, .int .u64 x2, .string x3, .string x4, .int .i64 x5, .int .i64 x6, .int .u64 x7, .int .u64 x8, .slice A n c], .int .i64 m] w fun e w' => ∃ V d, e = .returned (.agg #[.int .u64 x0, .int .u64 x1, .int .u64 x2, .string (Lb.lab x3 m), .string (Lb.lab x4 m), .int .i64 x5, .int .i64 x6, .int .u64 x7, .int .u64 x8, .slice V n d]) ∧ Rw.Own w' w.heap.size V d (Rw.srtL l) ∧ Below w.heap.size w w' := by
  subst hn
  exact Rw.alike_walk w x0 x1 x2 x3 x4 x5 x6 x7 x8 A c l m _ _ hC hc hl (Lb.label_f _ _ (by omega)) (Lb.label_f _ _ (by omega))
end Go.Proofs.Ytllepjhimkogjaa.Sw
namespace Go.Proofs.Ytllepjhimkogjaa.Rw
open Go.RowKit Go.Proofs.Ytllepjhimkogjaa.Ob Go.Proofs.YtllepjhimkogjaaW.PrintWords
theorem At.key {W : World} {g n : Nat} {f : Nat → E} (h : At W g n f) (i : Nat) (q : ByteArray) : At (W.setCell ⟨g, i * 4, none⟩ (.string q)) g n (upd f i ⟨q, (f i).f1⟩) := by
  have h4 := FRow.set h (i * 4) (.string q)
  unfold At
  have e : flat (upd f i ⟨q, (f i).f1⟩) = (fun o => if o = i * 4 then Value.string q else flat f o) := by
    funext o
    unfold flat upd
    by_cases hq : o / 4 = i
    · have hr : o % 4 = 0 ∨ o % 4 = 1 ∨ o % 4 = 2 ∨ o % 4 = 3 := by omega
      rw [if_pos hq]
      rcases hr with r | r | r | r
      · rw [r, if_pos (by omega)]; rfl
      · rw [r, if_neg (by omega), hq]; rfl
      · rw [r, if_neg (by omega), hq]; rfl
      · rw [r, if_neg (by omega), hq]; rfl
    · rw [if_neg hq, if_neg (by omega)]
  rw [e]
  exact h4
end Go.Proofs.Ytllepjhimkogjaa.Rw
