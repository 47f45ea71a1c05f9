/- The law SpanOrder, walked. No conditions but bounds. -/
import Derived.Test.YtllepjhimkogjaaOy
namespace Go.Proofs.Ytllepjhimkogjaa.Oz
open Go.RowKit Go.Proofs.YtllepjhimkogjaaW.PrintWords Go.Proofs.YtllepjhimkogjaaW.PrintLast Go.Proofs.YtllepjhimkogjaaW.PrintMore
open Go.Proofs.Ytllepjhimkogjaa.Ob Go.Proofs.Ytllepjhimkogjaa.Two Go.Proofs.Ytllepjhimkogjaa.Sk
set_option linter.unusedSimpArgs false
set_option linter.unusedVariables false
set_option maxHeartbeats 16000000 in
set_option maxRecDepth 1000000 in
theorem order_law (w : World) (a0 a1 a2 : Int) (a3 a4 : ByteArray) (a5 a6 a7 a8 : Int) (Aa : Option Addr) (ca : Nat) (la : List XSf.S63) (b0 b1 b2 : Int) (b3 b4 : ByteArray) (b5 b6 b7 b8 : Int) (Ab : Option Addr) (cb : Nat) (lb : List XSf.S63) (c0 c1 c2 : Int) (c3 c4 : ByteArray) (c5 c6 c7 c8 : Int) (Ac : Option Addr) (cc : Nat) (lc : List XSf.S63) (hCa : Kd.C XSf.k63 w Aa la.length la) (hca : la.length ≤ ca) (hCb : Kd.C XSf.k63 w Ab lb.length lb) (hcb : lb.length ≤ cb) (hCc : Kd.C XSf.k63 w Ac lc.length lc) (hcc : lc.length ≤ cc) :
    Calls Try.prog 8 #[.agg #[.int .u64 a0, .int .u64 a1, .int .u64 a2, .string a3, .string a4, .int .i64 a5, .int .i64 a6, .int .u64 a7, .int .u64 a8, .slice Aa la.length ca], .agg #[.int .u64 b0, .int .u64 b1, .int .u64 b2, .string b3, .string b4, .int .i64 b5, .int .i64 b6, .int .u64 b7, .int .u64 b8, .slice Ab lb.length cb], .agg #[.int .u64 c0, .int .u64 c1, .int .u64 c2, .string c3, .string c4, .int .i64 c5, .int .i64 c6, .int .u64 c7, .int .u64 c8, .slice Ac lc.length cc]] w fun e w' => e = .returned (.bool true) ∧ Below w.heap.size w w' := by
  replace hCa := Aside0.mk hCa
  replace hCb := Aside0.mk hCb
  replace hCc := Aside0.mk hCc
  replace hca := Aside0.mk hca
  replace hcb := Aside0.mk hcb
  replace hcc := Aside0.mk hcc
  obtain ⟨ra, hfa, hla⟩ := far_f a0 a1 a2 a3 a4 a5 a6 a7 a8 la
  obtain ⟨rb, hfb, hlb⟩ := far_f b0 b1 b2 b3 b4 b5 b6 b7 b8 lb
  obtain ⟨rc, hfc, hlc⟩ := far_f c0 c1 c2 c3 c4 c5 c6 c7 c8 lc
  replace hfa := Aside0.mk hfa
  replace hfb := Aside0.mk hfb
  replace hfc := Aside0.mk hfc
  have hT := Aside0.mk (Tri.of w 37 [.int .u64 a0, .int .u64 a1, .int .u64 a2, .string a3, .string a4, .int .i64 a5, .int .i64 a6, .int .u64 a7, .int .u64 a8, .slice Aa la.length ca] [.int .u64 b0, .int .u64 b1, .int .u64 b2, .string b3, .string b4, .int .i64 b5, .int .i64 b6, .int .u64 b7, .int .u64 b8, .slice Ab lb.length cb] [.int .u64 c0, .int .u64 c1, .int .u64 c2, .string c3, .string c4, .int .i64 c5, .int .i64 c6, .int .u64 c7, .int .u64 c8, .slice Ac lc.length cc])
  cases ra with
  | true =>
    clear hla hlb hlc
    go_enter Try.func8, Try.ntmps8
    go_wp2_with (first 
      | (go_at_call 26; refine (Oa.alive_w _).mono ?_; rintro e w1 ⟨rfl, hb1⟩; replace hT := Aside0.mk (hT.out.keep hb1); replace hb1 := Aside0.mk hb1)
      | (refine wpList_load_at (by rfl) 37 _ rfl w.heap.size 0 rfl [.int .u64 a0, .int .u64 a1, .int .u64 a2, .string a3, .string a4, .int .i64 a5, .int .i64 a6, .int .u64 a7, .int .u64 a8, .slice Aa la.length ca] _ (row_at0 hT.out.r0) Try.underlying37 rfl (by kernel_rfl) ?_)
      | (refine wpList_load_at (by rfl) 37 _ rfl (w.heap.size + 1) 0 rfl [.int .u64 b0, .int .u64 b1, .int .u64 b2, .string b3, .string b4, .int .i64 b5, .int .i64 b6, .int .u64 b7, .int .u64 b8, .slice Ab lb.length cb] _ (row_at0 hT.out.r1) Try.underlying37 rfl (by kernel_rfl) ?_)
      | (refine wpList_load_at (by rfl) 37 _ rfl (w.heap.size + 2) 0 rfl [.int .u64 c0, .int .u64 c1, .int .u64 c2, .string c3, .string c4, .int .i64 c5, .int .i64 c6, .int .u64 c7, .int .u64 c8, .slice Ac lc.length cc] _ (row_at0 hT.out.r2) Try.underlying37 rfl (by kernel_rfl) ?_)
      | (go_at_call 20; (with_reducible refine (XSf.tallyroomlaw06_Far.calls 60 a0 a1 a2 a3 a4 a5 a6 a7 a8 Aa ca la _ _ (Kd.C_below hCa.out hT.out.b) hca.out hfa.out).mono ?_); rintro e w1 ⟨rfl, hb1⟩; replace hT := Aside0.mk (hT.out.keep hb1); replace hb1 := Aside0.mk hb1)
      | (go_at_call 20; (with_reducible refine (XSf.tallyroomlaw06_Far.calls 60 b0 b1 b2 b3 b4 b5 b6 b7 b8 Ab cb lb _ _ (Kd.C_below hCb.out hT.out.b) hcb.out hfb.out).mono ?_); rintro e w1 ⟨rfl, hb1⟩; replace hT := Aside0.mk (hT.out.keep hb1); replace hb1 := Aside0.mk hb1)
      | (go_at_call 20; (with_reducible refine (XSf.tallyroomlaw06_Far.calls 60 c0 c1 c2 c3 c4 c5 c6 c7 c8 Ac cc lc _ _ (Kd.C_below hCc.out hT.out.b) hcc.out hfc.out).mono ?_); rintro e w1 ⟨rfl, hb1⟩; replace hT := Aside0.mk (hT.out.keep hb1); replace hb1 := Aside0.mk hb1))
    go_ret
    exact ⟨by first | rfl | simp, hT.out.b⟩
  | false =>
  replace hla := Aside0.mk (hla rfl)
  cases rb with
  | true =>
    clear hlb hlc
    go_enter Try.func8, Try.ntmps8
    go_wp2_with (first 
      | (go_at_call 26; refine (Oa.alive_w _).mono ?_; rintro e w1 ⟨rfl, hb1⟩; replace hT := Aside0.mk (hT.out.keep hb1); replace hb1 := Aside0.mk hb1)
      | (refine wpList_load_at (by rfl) 37 _ rfl w.heap.size 0 rfl [.int .u64 a0, .int .u64 a1, .int .u64 a2, .string a3, .string a4, .int .i64 a5, .int .i64 a6, .int .u64 a7, .int .u64 a8, .slice Aa la.length ca] _ (row_at0 hT.out.r0) Try.underlying37 rfl (by kernel_rfl) ?_)
      | (refine wpList_load_at (by rfl) 37 _ rfl (w.heap.size + 1) 0 rfl [.int .u64 b0, .int .u64 b1, .int .u64 b2, .string b3, .string b4, .int .i64 b5, .int .i64 b6, .int .u64 b7, .int .u64 b8, .slice Ab lb.length cb] _ (row_at0 hT.out.r1) Try.underlying37 rfl (by kernel_rfl) ?_)
      | (refine wpList_load_at (by rfl) 37 _ rfl (w.heap.size + 2) 0 rfl [.int .u64 c0, .int .u64 c1, .int .u64 c2, .string c3, .string c4, .int .i64 c5, .int .i64 c6, .int .u64 c7, .int .u64 c8, .slice Ac lc.length cc] _ (row_at0 hT.out.r2) Try.underlying37 rfl (by kernel_rfl) ?_)
      | (go_at_call 20; (with_reducible refine (XSf.tallyroomlaw06_Far.calls 60 a0 a1 a2 a3 a4 a5 a6 a7 a8 Aa ca la _ _ (Kd.C_below hCa.out hT.out.b) hca.out hfa.out).mono ?_); rintro e w1 ⟨rfl, hb1⟩; replace hT := Aside0.mk (hT.out.keep hb1); replace hb1 := Aside0.mk hb1)
      | (go_at_call 20; (with_reducible refine (XSf.tallyroomlaw06_Far.calls 60 b0 b1 b2 b3 b4 b5 b6 b7 b8 Ab cb lb _ _ (Kd.C_below hCb.out hT.out.b) hcb.out hfb.out).mono ?_); rintro e w1 ⟨rfl, hb1⟩; replace hT := Aside0.mk (hT.out.keep hb1); replace hb1 := Aside0.mk hb1)
      | (go_at_call 20; (with_reducible refine (XSf.tallyroomlaw06_Far.calls 60 c0 c1 c2 c3 c4 c5 c6 c7 c8 Ac cc lc _ _ (Kd.C_below hCc.out hT.out.b) hcc.out hfc.out).mono ?_); rintro e w1 ⟨rfl, hb1⟩; replace hT := Aside0.mk (hT.out.keep hb1); replace hb1 := Aside0.mk hb1))
    go_ret
    exact ⟨by first | rfl | simp, hT.out.b⟩
  | false =>
  replace hlb := Aside0.mk (hlb rfl)
  cases rc with
  | true =>
    clear hlc
    go_enter Try.func8, Try.ntmps8
    go_wp2_with (first 
      | (go_at_call 26; refine (Oa.alive_w _).mono ?_; rintro e w1 ⟨rfl, hb1⟩; replace hT := Aside0.mk (hT.out.keep hb1); replace hb1 := Aside0.mk hb1)
      | (refine wpList_load_at (by rfl) 37 _ rfl w.heap.size 0 rfl [.int .u64 a0, .int .u64 a1, .int .u64 a2, .string a3, .string a4, .int .i64 a5, .int .i64 a6, .int .u64 a7, .int .u64 a8, .slice Aa la.length ca] _ (row_at0 hT.out.r0) Try.underlying37 rfl (by kernel_rfl) ?_)
      | (refine wpList_load_at (by rfl) 37 _ rfl (w.heap.size + 1) 0 rfl [.int .u64 b0, .int .u64 b1, .int .u64 b2, .string b3, .string b4, .int .i64 b5, .int .i64 b6, .int .u64 b7, .int .u64 b8, .slice Ab lb.length cb] _ (row_at0 hT.out.r1) Try.underlying37 rfl (by kernel_rfl) ?_)
      | (refine wpList_load_at (by rfl) 37 _ rfl (w.heap.size + 2) 0 rfl [.int .u64 c0, .int .u64 c1, .int .u64 c2, .string c3, .string c4, .int .i64 c5, .int .i64 c6, .int .u64 c7, .int .u64 c8, .slice Ac lc.length cc] _ (row_at0 hT.out.r2) Try.underlying37 rfl (by kernel_rfl) ?_)
      | (go_at_call 20; (with_reducible refine (XSf.tallyroomlaw06_Far.calls 60 a0 a1 a2 a3 a4 a5 a6 a7 a8 Aa ca la _ _ (Kd.C_below hCa.out hT.out.b) hca.out hfa.out).mono ?_); rintro e w1 ⟨rfl, hb1⟩; replace hT := Aside0.mk (hT.out.keep hb1); replace hb1 := Aside0.mk hb1)
      | (go_at_call 20; (with_reducible refine (XSf.tallyroomlaw06_Far.calls 60 b0 b1 b2 b3 b4 b5 b6 b7 b8 Ab cb lb _ _ (Kd.C_below hCb.out hT.out.b) hcb.out hfb.out).mono ?_); rintro e w1 ⟨rfl, hb1⟩; replace hT := Aside0.mk (hT.out.keep hb1); replace hb1 := Aside0.mk hb1)
      | (go_at_call 20; (with_reducible refine (XSf.tallyroomlaw06_Far.calls 60 c0 c1 c2 c3 c4 c5 c6 c7 c8 Ac cc lc _ _ (Kd.C_below hCc.out hT.out.b) hcc.out hfc.out).mono ?_); rintro e w1 ⟨rfl, hb1⟩; replace hT := Aside0.mk (hT.out.keep hb1); replace hb1 := Aside0.mk hb1))
    go_ret
    exact ⟨by first | rfl | simp, hT.out.b⟩
  | false =>
  replace hlc := Aside0.mk (hlc rfl)
  obtain ⟨x, hxy⟩ : ∃ x, cmpS ⟨a0, a1, a2, a3, a4, a5, a6, a7, a8, la.map av⟩ ⟨b0, b1, b2, b3, b4, b5, b6, b7, b8, lb.map av⟩ = x := ⟨_, rfl⟩
  obtain ⟨y, hyz⟩ : ∃ y, cmpS ⟨b0, b1, b2, b3, b4, b5, b6, b7, b8, lb.map av⟩ ⟨c0, c1, c2, c3, c4, c5, c6, c7, c8, lc.map av⟩ = y := ⟨_, rfl⟩
  obtain ⟨z, hxz⟩ : ∃ z, cmpS ⟨a0, a1, a2, a3, a4, a5, a6, a7, a8, la.map av⟩ ⟨c0, c1, c2, c3, c4, c5, c6, c7, c8, lc.map av⟩ = z := ⟨_, rfl⟩
  obtain ⟨v, hyx⟩ : ∃ v, cmpS ⟨b0, b1, b2, b3, b4, b5, b6, b7, b8, lb.map av⟩ ⟨a0, a1, a2, a3, a4, a5, a6, a7, a8, la.map av⟩ = v := ⟨_, rfl⟩
  have hv : v = -x := by rw [← hyx, ← hxy]; exact cmpS_cmp.swap _ _
  have hxr : x = -1 ∨ x = 0 ∨ x = 1 := by rw [← hxy]; exact cmpS_cmp.range _ _
  have hneg := Aside0.mk (show IntKind.i64.wrap (-v) = x by rw [hv, IntWalk.i64_in _ (by omega)]; omega)
  have hle : x ≤ 0 → y ≤ 0 → z ≤ 0 := by rw [← hxy, ← hyz, ← hxz]; exact fun h k => cmpS_cmp.le_trans h k
  have hlt : x ≤ 0 → y ≤ 0 → (x = 0 ∧ y = 0) ∨ z < 0 := by
    intro h k
    have h2 := hle h k
    rcases Int.lt_or_eq_of_le h2 with e | e
    · exact Or.inr e
    · refine Or.inl ?_
      have eac := cmpS_cmp.zero _ _ (hxz.trans e)
      have h3 := cmpS_cmp.swap ⟨a0, a1, a2, a3, a4, a5, a6, a7, a8, la.map av⟩ ⟨b0, b1, b2, b3, b4, b5, b6, b7, b8, lb.map av⟩
      rw [eac] at hxy h3
      rw [hxy, hyz] at h3
      exact ⟨by omega, by omega⟩
  replace hle := Aside0.mk hle
  replace hlt := Aside0.mk hlt
  replace hxy := Aside0.mk hxy
  replace hyz := Aside0.mk hyz
  replace hxz := Aside0.mk hxz
  replace hyx := Aside0.mk hyx
  clear hv hxr
  go_enter Try.func8, Try.ntmps8
  go_wp2_with (first 
      | (go_at_call 26; refine (Oa.alive_w _).mono ?_; rintro e w1 ⟨rfl, hb1⟩; replace hT := Aside0.mk (hT.out.keep hb1); replace hb1 := Aside0.mk hb1)
      | (refine wpList_load_at (by rfl) 37 _ rfl w.heap.size 0 rfl [.int .u64 a0, .int .u64 a1, .int .u64 a2, .string a3, .string a4, .int .i64 a5, .int .i64 a6, .int .u64 a7, .int .u64 a8, .slice Aa la.length ca] _ (row_at0 hT.out.r0) Try.underlying37 rfl (by kernel_rfl) ?_)
      | (refine wpList_load_at (by rfl) 37 _ rfl (w.heap.size + 1) 0 rfl [.int .u64 b0, .int .u64 b1, .int .u64 b2, .string b3, .string b4, .int .i64 b5, .int .i64 b6, .int .u64 b7, .int .u64 b8, .slice Ab lb.length cb] _ (row_at0 hT.out.r1) Try.underlying37 rfl (by kernel_rfl) ?_)
      | (refine wpList_load_at (by rfl) 37 _ rfl (w.heap.size + 2) 0 rfl [.int .u64 c0, .int .u64 c1, .int .u64 c2, .string c3, .string c4, .int .i64 c5, .int .i64 c6, .int .u64 c7, .int .u64 c8, .slice Ac lc.length cc] _ (row_at0 hT.out.r2) Try.underlying37 rfl (by kernel_rfl) ?_)
      | (go_at_call 20; (with_reducible refine (XSf.tallyroomlaw06_Far.calls 60 a0 a1 a2 a3 a4 a5 a6 a7 a8 Aa ca la _ _ (Kd.C_below hCa.out hT.out.b) hca.out hfa.out).mono ?_); rintro e w1 ⟨rfl, hb1⟩; replace hT := Aside0.mk (hT.out.keep hb1); replace hb1 := Aside0.mk hb1)
      | (go_at_call 20; (with_reducible refine (XSf.tallyroomlaw06_Far.calls 60 b0 b1 b2 b3 b4 b5 b6 b7 b8 Ab cb lb _ _ (Kd.C_below hCb.out hT.out.b) hcb.out hfb.out).mono ?_); rintro e w1 ⟨rfl, hb1⟩; replace hT := Aside0.mk (hT.out.keep hb1); replace hb1 := Aside0.mk hb1)
      | (go_at_call 20; (with_reducible refine (XSf.tallyroomlaw06_Far.calls 60 c0 c1 c2 c3 c4 c5 c6 c7 c8 Ac cc lc _ _ (Kd.C_below hCc.out hT.out.b) hcc.out hfc.out).mono ?_); rintro e w1 ⟨rfl, hb1⟩; replace hT := Aside0.mk (hT.out.keep hb1); replace hb1 := Aside0.mk hb1))
  have hS := hT.out.drew
  refine start_ (n := 6) (S := fun W => Tri w W [.int .u64 a0, .int .u64 a1, .int .u64 a2, .string a3, .string a4, .int .i64 a5, .int .i64 a6, .int .u64 a7, .int .u64 a8, .slice Aa la.length ca] [.int .u64 b0, .int .u64 b1, .int .u64 b2, .string b3, .string b4, .int .i64 b5, .int .i64 b6, .int .u64 b7, .int .u64 b8, .slice Ab lb.length cb] [.int .u64 c0, .int .u64 c1, .int .u64 c2, .string c3, .string c4, .int .i64 c5, .int .i64 c6, .int .u64 c7, .int .u64 c8, .slice Ac lc.length cc]) (ds := []) #[false, false, false, false, false, false] (by kernel_rfl) rfl rfl hS (fun hHeld => ?_)
  clear hS
  refine take_ (i := 0) (N := some 22) (v := .agg #[.int .u64 a0, .int .u64 a1, .int .u64 a2, .string a3, .string a4, .int .i64 a5, .int .i64 a6, .int .u64 a7, .int .u64 a8, .slice Aa la.length ca]) (a' := ?_) #[true, false, false, false, false, false] rfl rfl (by kernel_rfl) (fun _ _ _ h => h) (Or.inl ⟨by rfl, ?_⟩) hHeld ?_ ?_
  · rintro w' h
    exact exec_load_at 37 (.tmp 3) rfl w.heap.size 0 rfl [.int .u64 a0, .int .u64 a1, .int .u64 a2, .string a3, .string a4, .int .i64 a5, .int .i64 a6, .int .u64 a7, .int .u64 a8, .slice Aa la.length ca] _ (row_at0 h.r0) Try.underlying37 rfl (by kernel_rfl)
  rotate_left
  · simp only [Act.put, List.setIfInBounds_toArray, List.set_cons_zero, List.set_cons_succ, i64_w, i32_w]
    rfl
  refine take_ (i := 2) (N := some 24) (v := .agg #[.int .u64 b0, .int .u64 b1, .int .u64 b2, .string b3, .string b4, .int .i64 b5, .int .i64 b6, .int .u64 b7, .int .u64 b8, .slice Ab lb.length cb]) (a' := ?_) #[true, false, true, false, false, false] rfl rfl (by kernel_rfl) (fun _ _ _ h => h) (Or.inl ⟨by rfl, ?_⟩) hHeld ?_ ?_
  · rintro w' h
    exact exec_load_at 37 (.tmp 4) rfl (w.heap.size + 1) 0 rfl [.int .u64 b0, .int .u64 b1, .int .u64 b2, .string b3, .string b4, .int .i64 b5, .int .i64 b6, .int .u64 b7, .int .u64 b8, .slice Ab lb.length cb] _ (row_at0 h.r1) Try.underlying37 rfl (by kernel_rfl)
  rotate_left
  · simp only [Act.put, List.setIfInBounds_toArray, List.set_cons_zero, List.set_cons_succ, i64_w, i32_w]
    rfl
  refine one_ (i := 1) (N := some 23) #[true, true, true, false, false, false] rfl rfl (by kernel_rfl) (by decide) (fun K hK => ?_)
  refine goes_ Try.func21 (by kernel_rfl) rfl #[.agg #[.int .u64 a0, .int .u64 a1, .int .u64 a2, .string a3, .string a4, .int .i64 a5, .int .i64 a6, .int .u64 a7, .int .u64 a8, .slice Aa la.length ca]] (by rfl) rfl rfl (by (try simp only [List.map_toArray, List.map_cons, List.map_nil]); first | done | rfl) ?_
  refine (of_w _ a0 a1 a2 a3 a4 a5 a6 a7 a8 Aa ca la (Kd.C_below hCa.out hHeld.b) hca.out hla.out).mono ?_
  rintro e w' ⟨B1, d1, rfl, hO1, hb⟩
  replace hO1 := Aside0.mk hO1
  have hH2 := Aside0.mk (hHeld.keep hb)
  clear hb
  refine ⟨_, rfl, ?_⟩
  refine hK.out _ _ (hH2.out) (fun hHeld => ?_)
  clear hK K
  refine norm_ (a' := ?_) ?_ ?_
  rotate_left
  · show Act.put _ (some 23) _ = _
    simp only [Act.put, List.setIfInBounds_toArray, List.set_cons_zero, List.set_cons_succ, i64_w, i32_w]
    rfl
  refine one_ (i := 3) (N := some 25) #[true, true, true, true, false, false] rfl rfl (by kernel_rfl) (by decide) (fun K hK => ?_)
  refine goes_ Try.func21 (by kernel_rfl) rfl #[.agg #[.int .u64 b0, .int .u64 b1, .int .u64 b2, .string b3, .string b4, .int .i64 b5, .int .i64 b6, .int .u64 b7, .int .u64 b8, .slice Ab lb.length cb]] (by rfl) rfl rfl (by (try simp only [List.map_toArray, List.map_cons, List.map_nil]); first | done | rfl) ?_
  refine (of_w _ b0 b1 b2 b3 b4 b5 b6 b7 b8 Ab cb lb (Kd.C_below hCb.out hHeld.b) hcb.out hlb.out).mono ?_
  rintro e w' ⟨B2, d2, rfl, hO2, hb⟩
  replace hO2 := Aside0.mk hO2
  replace hO1 := Aside0.mk (Kd.C_below hO1.out hb)
  have hH2 := Aside0.mk (hHeld.keep hb)
  clear hb
  refine ⟨_, rfl, ?_⟩
  refine hK.out _ _ (hH2.out) (fun hHeld => ?_)
  clear hK K
  refine norm_ (a' := ?_) ?_ ?_
  rotate_left
  · show Act.put _ (some 25) _ = _
    simp only [Act.put, List.setIfInBounds_toArray, List.set_cons_zero, List.set_cons_succ, i64_w, i32_w]
    rfl
  refine one_ (i := 4) (N := some 26) #[true, true, true, true, true, false] rfl rfl (by kernel_rfl) (by decide) (fun K hK => ?_)
  refine goes_ Try.func34 (by kernel_rfl) rfl #[.agg #[.int .u64 a0, .int .u64 a1, .int .u64 a2, .string a3, .string a4, .int .i64 a5, .int .i64 a6, .int .u64 a7, .int .u64 a8, .slice B1 (la.map av).length d1], .agg #[.int .u64 b0, .int .u64 b1, .int .u64 b2, .string b3, .string b4, .int .i64 b5, .int .i64 b6, .int .u64 b7, .int .u64 b8, .slice B2 (lb.map av).length d2]] (by rfl) rfl rfl (by (try simp only [List.map_toArray, List.map_cons, List.map_nil]); first | done | rfl) ?_
  refine (cmp_w _ a0 a1 a2 a3 a4 a5 a6 a7 a8 B1 d1 la b0 b1 b2 b3 b4 b5 b6 b7 b8 B2 d2 lb hO1.out hO2.out hla.out hlb.out _ hxy.out).mono ?_
  rintro e w' ⟨rfl, hb⟩
  have hH2 := Aside0.mk (hHeld.keep hb)
  clear hb
  refine ⟨_, rfl, ?_⟩
  refine hK.out _ _ (hH2.out) (fun hHeld => ?_)
  clear hK K
  refine norm_ (a' := ?_) ?_ ?_
  rotate_left
  · show Act.put _ (some 26) _ = _
    simp only [Act.put, List.setIfInBounds_toArray, List.set_cons_zero, List.set_cons_succ, i64_w, i32_w]
    rfl
  refine pure_ (i := 5) (N := some 7) (v := ?_) (a' := ?_) #[true, true, true, true, true, true] rfl rfl (by kernel_rfl) (fun _ _ _ h => h) (Or.inl ⟨by rfl, ?_⟩) ?_ ?_
  rotate_left
  · intro w'
    go_simp
    with_reducible rfl
  rotate_left
  · simp only [Act.put, List.setIfInBounds_toArray, List.set_cons_zero, List.set_cons_succ, i64_w, i32_w]
    rfl
  refine done_ (by kernel_rfl) ?_
  replace hT := Aside0.mk hHeld
  clear hHeld
  clear hO1
  clear hO2
  go_wp2
  have hS := hT.out.drew
  refine start_ (n := 6) (S := fun W => Tri w W [.int .u64 a0, .int .u64 a1, .int .u64 a2, .string a3, .string a4, .int .i64 a5, .int .i64 a6, .int .u64 a7, .int .u64 a8, .slice Aa la.length ca] [.int .u64 b0, .int .u64 b1, .int .u64 b2, .string b3, .string b4, .int .i64 b5, .int .i64 b6, .int .u64 b7, .int .u64 b8, .slice Ab lb.length cb] [.int .u64 c0, .int .u64 c1, .int .u64 c2, .string c3, .string c4, .int .i64 c5, .int .i64 c6, .int .u64 c7, .int .u64 c8, .slice Ac lc.length cc]) (ds := []) #[false, false, false, false, false, false] (by kernel_rfl) rfl rfl hS (fun hHeld => ?_)
  clear hS
  refine take_ (i := 0) (N := some 27) (v := .agg #[.int .u64 b0, .int .u64 b1, .int .u64 b2, .string b3, .string b4, .int .i64 b5, .int .i64 b6, .int .u64 b7, .int .u64 b8, .slice Ab lb.length cb]) (a' := ?_) #[true, false, false, false, false, false] rfl rfl (by kernel_rfl) (fun _ _ _ h => h) (Or.inl ⟨by rfl, ?_⟩) hHeld ?_ ?_
  · rintro w' h
    exact exec_load_at 37 (.tmp 4) rfl (w.heap.size + 1) 0 rfl [.int .u64 b0, .int .u64 b1, .int .u64 b2, .string b3, .string b4, .int .i64 b5, .int .i64 b6, .int .u64 b7, .int .u64 b8, .slice Ab lb.length cb] _ (row_at0 h.r1) Try.underlying37 rfl (by kernel_rfl)
  rotate_left
  · simp only [Act.put, List.setIfInBounds_toArray, List.set_cons_zero, List.set_cons_succ, i64_w, i32_w]
    rfl
  refine take_ (i := 2) (N := some 29) (v := .agg #[.int .u64 c0, .int .u64 c1, .int .u64 c2, .string c3, .string c4, .int .i64 c5, .int .i64 c6, .int .u64 c7, .int .u64 c8, .slice Ac lc.length cc]) (a' := ?_) #[true, false, true, false, false, false] rfl rfl (by kernel_rfl) (fun _ _ _ h => h) (Or.inl ⟨by rfl, ?_⟩) hHeld ?_ ?_
  · rintro w' h
    exact exec_load_at 37 (.tmp 5) rfl (w.heap.size + 2) 0 rfl [.int .u64 c0, .int .u64 c1, .int .u64 c2, .string c3, .string c4, .int .i64 c5, .int .i64 c6, .int .u64 c7, .int .u64 c8, .slice Ac lc.length cc] _ (row_at0 h.r2) Try.underlying37 rfl (by kernel_rfl)
  rotate_left
  · simp only [Act.put, List.setIfInBounds_toArray, List.set_cons_zero, List.set_cons_succ, i64_w, i32_w]
    rfl
  refine one_ (i := 1) (N := some 28) #[true, true, true, false, false, false] rfl rfl (by kernel_rfl) (by decide) (fun K hK => ?_)
  refine goes_ Try.func21 (by kernel_rfl) rfl #[.agg #[.int .u64 b0, .int .u64 b1, .int .u64 b2, .string b3, .string b4, .int .i64 b5, .int .i64 b6, .int .u64 b7, .int .u64 b8, .slice Ab lb.length cb]] (by rfl) rfl rfl (by (try simp only [List.map_toArray, List.map_cons, List.map_nil]); first | done | rfl) ?_
  refine (of_w _ b0 b1 b2 b3 b4 b5 b6 b7 b8 Ab cb lb (Kd.C_below hCb.out hHeld.b) hcb.out hlb.out).mono ?_
  rintro e w' ⟨B1, d1, rfl, hO1, hb⟩
  replace hO1 := Aside0.mk hO1
  have hH2 := Aside0.mk (hHeld.keep hb)
  clear hb
  refine ⟨_, rfl, ?_⟩
  refine hK.out _ _ (hH2.out) (fun hHeld => ?_)
  clear hK K
  refine norm_ (a' := ?_) ?_ ?_
  rotate_left
  · show Act.put _ (some 28) _ = _
    simp only [Act.put, List.setIfInBounds_toArray, List.set_cons_zero, List.set_cons_succ, i64_w, i32_w]
    rfl
  refine one_ (i := 3) (N := some 30) #[true, true, true, true, false, false] rfl rfl (by kernel_rfl) (by decide) (fun K hK => ?_)
  refine goes_ Try.func21 (by kernel_rfl) rfl #[.agg #[.int .u64 c0, .int .u64 c1, .int .u64 c2, .string c3, .string c4, .int .i64 c5, .int .i64 c6, .int .u64 c7, .int .u64 c8, .slice Ac lc.length cc]] (by rfl) rfl rfl (by (try simp only [List.map_toArray, List.map_cons, List.map_nil]); first | done | rfl) ?_
  refine (of_w _ c0 c1 c2 c3 c4 c5 c6 c7 c8 Ac cc lc (Kd.C_below hCc.out hHeld.b) hcc.out hlc.out).mono ?_
  rintro e w' ⟨B2, d2, rfl, hO2, hb⟩
  replace hO2 := Aside0.mk hO2
  replace hO1 := Aside0.mk (Kd.C_below hO1.out hb)
  have hH2 := Aside0.mk (hHeld.keep hb)
  clear hb
  refine ⟨_, rfl, ?_⟩
  refine hK.out _ _ (hH2.out) (fun hHeld => ?_)
  clear hK K
  refine norm_ (a' := ?_) ?_ ?_
  rotate_left
  · show Act.put _ (some 30) _ = _
    simp only [Act.put, List.setIfInBounds_toArray, List.set_cons_zero, List.set_cons_succ, i64_w, i32_w]
    rfl
  refine one_ (i := 4) (N := some 31) #[true, true, true, true, true, false] rfl rfl (by kernel_rfl) (by decide) (fun K hK => ?_)
  refine goes_ Try.func34 (by kernel_rfl) rfl #[.agg #[.int .u64 b0, .int .u64 b1, .int .u64 b2, .string b3, .string b4, .int .i64 b5, .int .i64 b6, .int .u64 b7, .int .u64 b8, .slice B1 (lb.map av).length d1], .agg #[.int .u64 c0, .int .u64 c1, .int .u64 c2, .string c3, .string c4, .int .i64 c5, .int .i64 c6, .int .u64 c7, .int .u64 c8, .slice B2 (lc.map av).length d2]] (by rfl) rfl rfl (by (try simp only [List.map_toArray, List.map_cons, List.map_nil]); first | done | rfl) ?_
  refine (cmp_w _ b0 b1 b2 b3 b4 b5 b6 b7 b8 B1 d1 lb c0 c1 c2 c3 c4 c5 c6 c7 c8 B2 d2 lc hO1.out hO2.out hlb.out hlc.out _ hyz.out).mono ?_
  rintro e w' ⟨rfl, hb⟩
  have hH2 := Aside0.mk (hHeld.keep hb)
  clear hb
  refine ⟨_, rfl, ?_⟩
  refine hK.out _ _ (hH2.out) (fun hHeld => ?_)
  clear hK K
  refine norm_ (a' := ?_) ?_ ?_
  rotate_left
  · show Act.put _ (some 31) _ = _
    simp only [Act.put, List.setIfInBounds_toArray, List.set_cons_zero, List.set_cons_succ, i64_w, i32_w]
    rfl
  refine pure_ (i := 5) (N := some 8) (v := ?_) (a' := ?_) #[true, true, true, true, true, true] rfl rfl (by kernel_rfl) (fun _ _ _ h => h) (Or.inl ⟨by rfl, ?_⟩) ?_ ?_
  rotate_left
  · intro w'
    go_simp
    with_reducible rfl
  rotate_left
  · simp only [Act.put, List.setIfInBounds_toArray, List.set_cons_zero, List.set_cons_succ, i64_w, i32_w]
    rfl
  refine done_ (by kernel_rfl) ?_
  replace hT := Aside0.mk hHeld
  clear hHeld
  clear hO1
  clear hO2
  go_wp2
  have hS := hT.out.drew
  refine start_ (n := 6) (S := fun W => Tri w W [.int .u64 a0, .int .u64 a1, .int .u64 a2, .string a3, .string a4, .int .i64 a5, .int .i64 a6, .int .u64 a7, .int .u64 a8, .slice Aa la.length ca] [.int .u64 b0, .int .u64 b1, .int .u64 b2, .string b3, .string b4, .int .i64 b5, .int .i64 b6, .int .u64 b7, .int .u64 b8, .slice Ab lb.length cb] [.int .u64 c0, .int .u64 c1, .int .u64 c2, .string c3, .string c4, .int .i64 c5, .int .i64 c6, .int .u64 c7, .int .u64 c8, .slice Ac lc.length cc]) (ds := []) #[false, false, false, false, false, false] (by kernel_rfl) rfl rfl hS (fun hHeld => ?_)
  clear hS
  refine take_ (i := 0) (N := some 32) (v := .agg #[.int .u64 a0, .int .u64 a1, .int .u64 a2, .string a3, .string a4, .int .i64 a5, .int .i64 a6, .int .u64 a7, .int .u64 a8, .slice Aa la.length ca]) (a' := ?_) #[true, false, false, false, false, false] rfl rfl (by kernel_rfl) (fun _ _ _ h => h) (Or.inl ⟨by rfl, ?_⟩) hHeld ?_ ?_
  · rintro w' h
    exact exec_load_at 37 (.tmp 3) rfl w.heap.size 0 rfl [.int .u64 a0, .int .u64 a1, .int .u64 a2, .string a3, .string a4, .int .i64 a5, .int .i64 a6, .int .u64 a7, .int .u64 a8, .slice Aa la.length ca] _ (row_at0 h.r0) Try.underlying37 rfl (by kernel_rfl)
  rotate_left
  · simp only [Act.put, List.setIfInBounds_toArray, List.set_cons_zero, List.set_cons_succ, i64_w, i32_w]
    rfl
  refine take_ (i := 2) (N := some 34) (v := .agg #[.int .u64 c0, .int .u64 c1, .int .u64 c2, .string c3, .string c4, .int .i64 c5, .int .i64 c6, .int .u64 c7, .int .u64 c8, .slice Ac lc.length cc]) (a' := ?_) #[true, false, true, false, false, false] rfl rfl (by kernel_rfl) (fun _ _ _ h => h) (Or.inl ⟨by rfl, ?_⟩) hHeld ?_ ?_
  · rintro w' h
    exact exec_load_at 37 (.tmp 5) rfl (w.heap.size + 2) 0 rfl [.int .u64 c0, .int .u64 c1, .int .u64 c2, .string c3, .string c4, .int .i64 c5, .int .i64 c6, .int .u64 c7, .int .u64 c8, .slice Ac lc.length cc] _ (row_at0 h.r2) Try.underlying37 rfl (by kernel_rfl)
  rotate_left
  · simp only [Act.put, List.setIfInBounds_toArray, List.set_cons_zero, List.set_cons_succ, i64_w, i32_w]
    rfl
  refine one_ (i := 1) (N := some 33) #[true, true, true, false, false, false] rfl rfl (by kernel_rfl) (by decide) (fun K hK => ?_)
  refine goes_ Try.func21 (by kernel_rfl) rfl #[.agg #[.int .u64 a0, .int .u64 a1, .int .u64 a2, .string a3, .string a4, .int .i64 a5, .int .i64 a6, .int .u64 a7, .int .u64 a8, .slice Aa la.length ca]] (by rfl) rfl rfl (by (try simp only [List.map_toArray, List.map_cons, List.map_nil]); first | done | rfl) ?_
  refine (of_w _ a0 a1 a2 a3 a4 a5 a6 a7 a8 Aa ca la (Kd.C_below hCa.out hHeld.b) hca.out hla.out).mono ?_
  rintro e w' ⟨B1, d1, rfl, hO1, hb⟩
  replace hO1 := Aside0.mk hO1
  have hH2 := Aside0.mk (hHeld.keep hb)
  clear hb
  refine ⟨_, rfl, ?_⟩
  refine hK.out _ _ (hH2.out) (fun hHeld => ?_)
  clear hK K
  refine norm_ (a' := ?_) ?_ ?_
  rotate_left
  · show Act.put _ (some 33) _ = _
    simp only [Act.put, List.setIfInBounds_toArray, List.set_cons_zero, List.set_cons_succ, i64_w, i32_w]
    rfl
  refine one_ (i := 3) (N := some 35) #[true, true, true, true, false, false] rfl rfl (by kernel_rfl) (by decide) (fun K hK => ?_)
  refine goes_ Try.func21 (by kernel_rfl) rfl #[.agg #[.int .u64 c0, .int .u64 c1, .int .u64 c2, .string c3, .string c4, .int .i64 c5, .int .i64 c6, .int .u64 c7, .int .u64 c8, .slice Ac lc.length cc]] (by rfl) rfl rfl (by (try simp only [List.map_toArray, List.map_cons, List.map_nil]); first | done | rfl) ?_
  refine (of_w _ c0 c1 c2 c3 c4 c5 c6 c7 c8 Ac cc lc (Kd.C_below hCc.out hHeld.b) hcc.out hlc.out).mono ?_
  rintro e w' ⟨B2, d2, rfl, hO2, hb⟩
  replace hO2 := Aside0.mk hO2
  replace hO1 := Aside0.mk (Kd.C_below hO1.out hb)
  have hH2 := Aside0.mk (hHeld.keep hb)
  clear hb
  refine ⟨_, rfl, ?_⟩
  refine hK.out _ _ (hH2.out) (fun hHeld => ?_)
  clear hK K
  refine norm_ (a' := ?_) ?_ ?_
  rotate_left
  · show Act.put _ (some 35) _ = _
    simp only [Act.put, List.setIfInBounds_toArray, List.set_cons_zero, List.set_cons_succ, i64_w, i32_w]
    rfl
  refine one_ (i := 4) (N := some 36) #[true, true, true, true, true, false] rfl rfl (by kernel_rfl) (by decide) (fun K hK => ?_)
  refine goes_ Try.func34 (by kernel_rfl) rfl #[.agg #[.int .u64 a0, .int .u64 a1, .int .u64 a2, .string a3, .string a4, .int .i64 a5, .int .i64 a6, .int .u64 a7, .int .u64 a8, .slice B1 (la.map av).length d1], .agg #[.int .u64 c0, .int .u64 c1, .int .u64 c2, .string c3, .string c4, .int .i64 c5, .int .i64 c6, .int .u64 c7, .int .u64 c8, .slice B2 (lc.map av).length d2]] (by rfl) rfl rfl (by (try simp only [List.map_toArray, List.map_cons, List.map_nil]); first | done | rfl) ?_
  refine (cmp_w _ a0 a1 a2 a3 a4 a5 a6 a7 a8 B1 d1 la c0 c1 c2 c3 c4 c5 c6 c7 c8 B2 d2 lc hO1.out hO2.out hla.out hlc.out _ hxz.out).mono ?_
  rintro e w' ⟨rfl, hb⟩
  have hH2 := Aside0.mk (hHeld.keep hb)
  clear hb
  refine ⟨_, rfl, ?_⟩
  refine hK.out _ _ (hH2.out) (fun hHeld => ?_)
  clear hK K
  refine norm_ (a' := ?_) ?_ ?_
  rotate_left
  · show Act.put _ (some 36) _ = _
    simp only [Act.put, List.setIfInBounds_toArray, List.set_cons_zero, List.set_cons_succ, i64_w, i32_w]
    rfl
  refine pure_ (i := 5) (N := some 9) (v := ?_) (a' := ?_) #[true, true, true, true, true, true] rfl rfl (by kernel_rfl) (fun _ _ _ h => h) (Or.inl ⟨by rfl, ?_⟩) ?_ ?_
  rotate_left
  · intro w'
    go_simp
    with_reducible rfl
  rotate_left
  · simp only [Act.put, List.setIfInBounds_toArray, List.set_cons_zero, List.set_cons_succ, i64_w, i32_w]
    rfl
  refine done_ (by kernel_rfl) ?_
  replace hT := Aside0.mk hHeld
  clear hHeld
  clear hO1
  clear hO2
  go_wp2
  have hS := hT.out.drew
  refine start_ (n := 15) (S := fun W => Tri w W [.int .u64 a0, .int .u64 a1, .int .u64 a2, .string a3, .string a4, .int .i64 a5, .int .i64 a6, .int .u64 a7, .int .u64 a8, .slice Aa la.length ca] [.int .u64 b0, .int .u64 b1, .int .u64 b2, .string b3, .string b4, .int .i64 b5, .int .i64 b6, .int .u64 b7, .int .u64 b8, .slice Ab lb.length cb] [.int .u64 c0, .int .u64 c1, .int .u64 c2, .string c3, .string c4, .int .i64 c5, .int .i64 c6, .int .u64 c7, .int .u64 c8, .slice Ac lc.length cc]) (ds := []) #[false, false, false, false, false, false, false, false, false, false, false, false, false, false, false] (by kernel_rfl) rfl rfl hS (fun hHeld => ?_)
  clear hS
  refine pure_ (i := 0) (N := some 37) (v := ?_) (a' := ?_) #[true, false, false, false, false, false, false, false, false, false, false, false, false, false, false] rfl rfl (by kernel_rfl) (fun _ _ _ h => h) (Or.inl ⟨by rfl, ?_⟩) ?_ ?_
  rotate_left
  · intro w'
    go_simp
    with_reducible rfl
  rotate_left
  · simp only [Act.put, List.setIfInBounds_toArray, List.set_cons_zero, List.set_cons_succ, i64_w, i32_w]
    rfl
  refine take_ (i := 1) (N := some 38) (v := .agg #[.int .u64 a0, .int .u64 a1, .int .u64 a2, .string a3, .string a4, .int .i64 a5, .int .i64 a6, .int .u64 a7, .int .u64 a8, .slice Aa la.length ca]) (a' := ?_) #[true, true, false, false, false, false, false, false, false, false, false, false, false, false, false] rfl rfl (by kernel_rfl) (fun _ _ _ h => h) (Or.inl ⟨by rfl, ?_⟩) hHeld ?_ ?_
  · rintro w' h
    exact exec_load_at 37 (.tmp 3) rfl w.heap.size 0 rfl [.int .u64 a0, .int .u64 a1, .int .u64 a2, .string a3, .string a4, .int .i64 a5, .int .i64 a6, .int .u64 a7, .int .u64 a8, .slice Aa la.length ca] _ (row_at0 h.r0) Try.underlying37 rfl (by kernel_rfl)
  rotate_left
  · simp only [Act.put, List.setIfInBounds_toArray, List.set_cons_zero, List.set_cons_succ, i64_w, i32_w]
    rfl
  refine take_ (i := 2) (N := some 39) (v := .agg #[.int .u64 b0, .int .u64 b1, .int .u64 b2, .string b3, .string b4, .int .i64 b5, .int .i64 b6, .int .u64 b7, .int .u64 b8, .slice Ab lb.length cb]) (a' := ?_) #[true, true, true, false, false, false, false, false, false, false, false, false, false, false, false] rfl rfl (by kernel_rfl) (fun _ _ _ h => h) (Or.inl ⟨by rfl, ?_⟩) hHeld ?_ ?_
  · rintro w' h
    exact exec_load_at 37 (.tmp 4) rfl (w.heap.size + 1) 0 rfl [.int .u64 b0, .int .u64 b1, .int .u64 b2, .string b3, .string b4, .int .i64 b5, .int .i64 b6, .int .u64 b7, .int .u64 b8, .slice Ab lb.length cb] _ (row_at0 h.r1) Try.underlying37 rfl (by kernel_rfl)
  rotate_left
  · simp only [Act.put, List.setIfInBounds_toArray, List.set_cons_zero, List.set_cons_succ, i64_w, i32_w]
    rfl
  refine one_ (i := 3) (N := some 40) #[true, true, true, true, false, false, false, false, false, false, false, false, false, false, false] rfl rfl (by kernel_rfl) (by decide) (fun K hK => ?_)
  refine goes_ Try.func25 (by kernel_rfl) rfl #[.agg #[.int .u64 a0, .int .u64 a1, .int .u64 a2, .string a3, .string a4, .int .i64 a5, .int .i64 a6, .int .u64 a7, .int .u64 a8, .slice Aa la.length ca], .agg #[.int .u64 b0, .int .u64 b1, .int .u64 b2, .string b3, .string b4, .int .i64 b5, .int .i64 b6, .int .u64 b7, .int .u64 b8, .slice Ab lb.length cb]] (by rfl) rfl rfl (by (try simp only [List.map_toArray, List.map_cons, List.map_nil]); first | done | rfl) ?_
  refine (ref_w _ a0 a1 a2 a3 a4 a5 a6 a7 a8 Aa ca la b0 b1 b2 b3 b4 b5 b6 b7 b8 Ab cb lb (Kd.C_below hCa.out hHeld.b) hca.out (Kd.C_below hCb.out hHeld.b) hcb.out hla.out hlb.out _ hxy.out).mono ?_
  rintro e w' ⟨rfl, hb⟩
  have hH2 := Aside0.mk (hHeld.keep hb)
  clear hb
  refine ⟨_, rfl, ?_⟩
  refine hK.out _ _ (hH2.out) (fun hHeld => ?_)
  clear hK K
  refine norm_ (a' := ?_) ?_ ?_
  rotate_left
  · show Act.put _ (some 40) _ = _
    simp only [Act.put, List.setIfInBounds_toArray, List.set_cons_zero, List.set_cons_succ, i64_w, i32_w]
    rfl
  refine pure_ (i := 4) (N := some 41) (v := ?_) (a' := ?_) #[true, true, true, true, true, false, false, false, false, false, false, false, false, false, false] rfl rfl (by kernel_rfl) (fun _ _ _ h => h) (Or.inl ⟨by rfl, ?_⟩) ?_ ?_
  rotate_left
  · intro w'
    go_simp
    with_reducible rfl
  rotate_left
  · simp only [Act.put, List.setIfInBounds_toArray, List.set_cons_zero, List.set_cons_succ, i64_w, i32_w]
    rfl
  refine pure_ (i := 5) (N := some 42) (v := ?_) (a' := ?_) #[true, true, true, true, true, true, false, false, false, false, false, false, false, false, false] rfl rfl (by kernel_rfl) (fun _ _ _ h => h) (Or.inl ⟨by rfl, ?_⟩) ?_ ?_
  rotate_left
  · intro w'
    go_simp
    with_reducible rfl
  rotate_left
  · simp only [Act.put, List.setIfInBounds_toArray, List.set_cons_zero, List.set_cons_succ, i64_w, i32_w]
    rfl
  refine pure_ (i := 6) (N := some 43) (v := ?_) (a' := ?_) #[true, true, true, true, true, true, true, false, false, false, false, false, false, false, false] rfl rfl (by kernel_rfl) (fun _ _ _ h => h) (Or.inl ⟨by rfl, ?_⟩) ?_ ?_
  rotate_left
  · intro w'
    go_simp
    with_reducible rfl
  rotate_left
  · simp only [Act.put, List.setIfInBounds_toArray, List.set_cons_zero, List.set_cons_succ, i64_w, i32_w]
    rfl
  refine take_ (i := 7) (N := some 44) (v := .agg #[.int .u64 b0, .int .u64 b1, .int .u64 b2, .string b3, .string b4, .int .i64 b5, .int .i64 b6, .int .u64 b7, .int .u64 b8, .slice Ab lb.length cb]) (a' := ?_) #[true, true, true, true, true, true, true, true, false, false, false, false, false, false, false] rfl rfl (by kernel_rfl) (fun _ _ _ h => h) (Or.inl ⟨by rfl, ?_⟩) hHeld ?_ ?_
  · rintro w' h
    exact exec_load_at 37 (.tmp 4) rfl (w.heap.size + 1) 0 rfl [.int .u64 b0, .int .u64 b1, .int .u64 b2, .string b3, .string b4, .int .i64 b5, .int .i64 b6, .int .u64 b7, .int .u64 b8, .slice Ab lb.length cb] _ (row_at0 h.r1) Try.underlying37 rfl (by kernel_rfl)
  rotate_left
  · simp only [Act.put, List.setIfInBounds_toArray, List.set_cons_zero, List.set_cons_succ, i64_w, i32_w]
    rfl
  refine take_ (i := 9) (N := some 46) (v := .agg #[.int .u64 a0, .int .u64 a1, .int .u64 a2, .string a3, .string a4, .int .i64 a5, .int .i64 a6, .int .u64 a7, .int .u64 a8, .slice Aa la.length ca]) (a' := ?_) #[true, true, true, true, true, true, true, true, false, true, false, false, false, false, false] rfl rfl (by kernel_rfl) (fun _ _ _ h => h) (Or.inl ⟨by rfl, ?_⟩) hHeld ?_ ?_
  · rintro w' h
    exact exec_load_at 37 (.tmp 3) rfl w.heap.size 0 rfl [.int .u64 a0, .int .u64 a1, .int .u64 a2, .string a3, .string a4, .int .i64 a5, .int .i64 a6, .int .u64 a7, .int .u64 a8, .slice Aa la.length ca] _ (row_at0 h.r0) Try.underlying37 rfl (by kernel_rfl)
  rotate_left
  · simp only [Act.put, List.setIfInBounds_toArray, List.set_cons_zero, List.set_cons_succ, i64_w, i32_w]
    rfl
  refine one_ (i := 8) (N := some 45) #[true, true, true, true, true, true, true, true, true, true, false, false, false, false, false] rfl rfl (by kernel_rfl) (by decide) (fun K hK => ?_)
  refine goes_ Try.func21 (by kernel_rfl) rfl #[.agg #[.int .u64 b0, .int .u64 b1, .int .u64 b2, .string b3, .string b4, .int .i64 b5, .int .i64 b6, .int .u64 b7, .int .u64 b8, .slice Ab lb.length cb]] (by rfl) rfl rfl (by (try simp only [List.map_toArray, List.map_cons, List.map_nil]); first | done | rfl) ?_
  refine (of_w _ b0 b1 b2 b3 b4 b5 b6 b7 b8 Ab cb lb (Kd.C_below hCb.out hHeld.b) hcb.out hlb.out).mono ?_
  rintro e w' ⟨B1, d1, rfl, hO1, hb⟩
  replace hO1 := Aside0.mk hO1
  have hH2 := Aside0.mk (hHeld.keep hb)
  clear hb
  refine ⟨_, rfl, ?_⟩
  refine hK.out _ _ (hH2.out) (fun hHeld => ?_)
  clear hK K
  refine norm_ (a' := ?_) ?_ ?_
  rotate_left
  · show Act.put _ (some 45) _ = _
    simp only [Act.put, List.setIfInBounds_toArray, List.set_cons_zero, List.set_cons_succ, i64_w, i32_w]
    rfl
  refine one_ (i := 10) (N := some 47) #[true, true, true, true, true, true, true, true, true, true, true, false, false, false, false] rfl rfl (by kernel_rfl) (by decide) (fun K hK => ?_)
  refine goes_ Try.func21 (by kernel_rfl) rfl #[.agg #[.int .u64 a0, .int .u64 a1, .int .u64 a2, .string a3, .string a4, .int .i64 a5, .int .i64 a6, .int .u64 a7, .int .u64 a8, .slice Aa la.length ca]] (by rfl) rfl rfl (by (try simp only [List.map_toArray, List.map_cons, List.map_nil]); first | done | rfl) ?_
  refine (of_w _ a0 a1 a2 a3 a4 a5 a6 a7 a8 Aa ca la (Kd.C_below hCa.out hHeld.b) hca.out hla.out).mono ?_
  rintro e w' ⟨B2, d2, rfl, hO2, hb⟩
  replace hO2 := Aside0.mk hO2
  replace hO1 := Aside0.mk (Kd.C_below hO1.out hb)
  have hH2 := Aside0.mk (hHeld.keep hb)
  clear hb
  refine ⟨_, rfl, ?_⟩
  refine hK.out _ _ (hH2.out) (fun hHeld => ?_)
  clear hK K
  refine norm_ (a' := ?_) ?_ ?_
  rotate_left
  · show Act.put _ (some 47) _ = _
    simp only [Act.put, List.setIfInBounds_toArray, List.set_cons_zero, List.set_cons_succ, i64_w, i32_w]
    rfl
  refine one_ (i := 11) (N := some 48) #[true, true, true, true, true, true, true, true, true, true, true, true, false, false, false] rfl rfl (by kernel_rfl) (by decide) (fun K hK => ?_)
  refine goes_ Try.func34 (by kernel_rfl) rfl #[.agg #[.int .u64 b0, .int .u64 b1, .int .u64 b2, .string b3, .string b4, .int .i64 b5, .int .i64 b6, .int .u64 b7, .int .u64 b8, .slice B1 (lb.map av).length d1], .agg #[.int .u64 a0, .int .u64 a1, .int .u64 a2, .string a3, .string a4, .int .i64 a5, .int .i64 a6, .int .u64 a7, .int .u64 a8, .slice B2 (la.map av).length d2]] (by rfl) rfl rfl (by (try simp only [List.map_toArray, List.map_cons, List.map_nil]); first | done | rfl) ?_
  refine (cmp_w _ b0 b1 b2 b3 b4 b5 b6 b7 b8 B1 d1 lb a0 a1 a2 a3 a4 a5 a6 a7 a8 B2 d2 la hO1.out hO2.out hlb.out hla.out _ hyx.out).mono ?_
  rintro e w' ⟨rfl, hb⟩
  have hH2 := Aside0.mk (hHeld.keep hb)
  clear hb
  refine ⟨_, rfl, ?_⟩
  refine hK.out _ _ (hH2.out) (fun hHeld => ?_)
  clear hK K
  refine norm_ (a' := ?_) ?_ ?_
  rotate_left
  · show Act.put _ (some 48) _ = _
    simp only [Act.put, List.setIfInBounds_toArray, List.set_cons_zero, List.set_cons_succ, i64_w, i32_w]
    rfl
  refine pure_ (i := 12) (N := some 49) (v := ?_) (a' := ?_) #[true, true, true, true, true, true, true, true, true, true, true, true, true, false, false] rfl rfl (by kernel_rfl) (fun _ _ _ h => h) (Or.inl ⟨by rfl, ?_⟩) ?_ ?_
  rotate_left
  · intro w'
    go_simp
    rw [hneg.out]
  rotate_left
  · simp only [Act.put, List.setIfInBounds_toArray, List.set_cons_zero, List.set_cons_succ, i64_w, i32_w]
    rfl
  refine pure_ (i := 13) (N := some 50) (v := ?_) (a' := ?_) #[true, true, true, true, true, true, true, true, true, true, true, true, true, true, false] rfl rfl (by kernel_rfl) (fun _ _ _ h => h) (Or.inl ⟨by rfl, ?_⟩) ?_ ?_
  rotate_left
  · intro w'
    go_simp
    with_reducible rfl
  rotate_left
  · simp only [Act.put, List.setIfInBounds_toArray, List.set_cons_zero, List.set_cons_succ, i64_w, i32_w]
    rfl
  refine pure_ (i := 14) (N := some 51) (v := ?_) (a' := ?_) #[true, true, true, true, true, true, true, true, true, true, true, true, true, true, true] rfl rfl (by kernel_rfl) (fun _ _ _ h => h) (Or.inl ⟨by rfl, ?_⟩) ?_ ?_
  rotate_left
  · intro w'
    go_simp
    with_reducible rfl
  rotate_left
  · simp only [Act.put, List.setIfInBounds_toArray, List.set_cons_zero, List.set_cons_succ, i64_w, i32_w]
    rfl
  refine done_ (by kernel_rfl) ?_
  replace hT := Aside0.mk hHeld
  clear hHeld
  clear hO1
  clear hO2
  have hz1 := hle.out
  have hz2 := hlt.out
  by_cases hx0 : x ≤ 0
  · by_cases hy0 : y ≤ 0
    · have hz0 := hz1 hx0 hy0
      rcases hz2 hx0 hy0 with ⟨rfl, rfl⟩ | hzl
      · clear hz1 hz2
        go_wp2
        go_ret
        exact ⟨by first | rfl | simp, hT.out.b⟩
      · clear hz1 hz2
        by_cases hx1 : x = 0
        · subst hx1
          by_cases hy1 : y = 0
          · subst hy1
            go_wp2
            go_ret
            exact ⟨by first | rfl | simp, hT.out.b⟩
          · have hy2 : (y == 0) = false := by simpa using hy1
            go_wp2
            go_ret
            exact ⟨by first | rfl | simp, hT.out.b⟩
        · have hx2 : (x == 0) = false := by simpa using hx1
          go_wp2
          go_ret
          exact ⟨by first | rfl | simp, hT.out.b⟩
    · clear hz1 hz2
      go_wp2
      go_ret
      exact ⟨by first | rfl | simp, hT.out.b⟩
  · clear hz1 hz2
    go_wp2
    go_ret
    exact ⟨by first | rfl | simp, hT.out.b⟩
end Go.Proofs.Ytllepjhimkogjaa.Oz
