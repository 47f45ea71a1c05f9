/- The law's proof, part 39: the text Te of this session, or words printed for this seat; what the theorem doesn't use is left out. No conditions. -/
import Derived.Test.YtllepjhimkogjaaFSTe37
import Derived.Test.YtllepjhimkogjaaFSTe38
namespace Go.Proofs.Ytllepjhimkogjaa.Ix
end Go.Proofs.Ytllepjhimkogjaa.Ix
namespace Go.Proofs.Ytllepjhimkogjaa.Ob
end Go.Proofs.Ytllepjhimkogjaa.Ob
namespace Go.Proofs.Ytllepjhimkogjaa.Rw
end Go.Proofs.Ytllepjhimkogjaa.Rw
namespace Go.Proofs.Ytllepjhimkogjaa.Sk
end Go.Proofs.Ytllepjhimkogjaa.Sk
namespace Go.Proofs.Ytllepjhimkogjaa.Sw
end Go.Proofs.Ytllepjhimkogjaa.Sw
namespace Go.Proofs.Ytllepjhimkogjaa.Two
end Go.Proofs.Ytllepjhimkogjaa.Two
namespace Go.Proofs.YtllepjhimkogjaaW.PrintLast
end Go.Proofs.YtllepjhimkogjaaW.PrintLast
namespace Go.Proofs.YtllepjhimkogjaaW.PrintMore
end Go.Proofs.YtllepjhimkogjaaW.PrintMore
namespace Go.Proofs.YtllepjhimkogjaaW.PrintWords
end Go.Proofs.YtllepjhimkogjaaW.PrintWords
namespace Go.Proofs.Ytllepjhimkogjaa.Ck
open Go.RowKit Go.Proofs.YtllepjhimkogjaaW.PrintWords Go.Proofs.YtllepjhimkogjaaW.PrintLast
open Go.Proofs.Ytllepjhimkogjaa.Ob Go.Proofs.Ytllepjhimkogjaa.Two Go.Proofs.Ytllepjhimkogjaa.Sk Go.Proofs.YtllepjhimkogjaaW.PrintMore
set_option linter.unusedSimpArgs false
set_option linter.unusedVariables false
open Go.Proofs.Ytllepjhimkogjaa.Sw Go.Proofs.Ytllepjhimkogjaa.Ix
open Go.Proofs.Ytllepjhimkogjaa.Rw (srtL srtL_length srtL_mem srtL_find srtL_ord srtL_id)
theorem took_n (w : World) (a0 a1 a2 : Int) (a3 a4 : ByteArray) (a5 a6 a7 a8 : Int) (v : Value) (T : Int) (h : (if a8 < a7 then 0 else IntKind.u64.wrap (a8 - a7)) = T) : Calls Try.prog 28 #[.agg #[.int .u64 a0, .int .u64 a1, .int .u64 a2, .string a3, .string a4, .int .i64 a5, .int .i64 a6, .int .u64 a7, .int .u64 a8, v]] w fun e w' => e = .returned (.int .u64 T) ∧ Below w.heap.size w w' := by
  subst h; exact took_w w a0 a1 a2 a3 a4 a5 a6 a7 a8 v
theorem failed_n (w : World) (a0 a1 a2 : Int) (a3 a4 : ByteArray) (a5 a6 a7 a8 : Int) (v : Value) (T : Bool) (h : (a6 == 2) = T) : Calls Try.prog 29 #[.agg #[.int .u64 a0, .int .u64 a1, .int .u64 a2, .string a3, .string a4, .int .i64 a5, .int .i64 a6, .int .u64 a7, .int .u64 a8, v]] w fun e w' => e = .returned (.bool T) ∧ Below w.heap.size w w' := by
  subst h; exact failed_w w a0 a1 a2 a3 a4 a5 a6 a7 a8 v
theorem to_w4 (w : World) (x0 x1 x2 : Int) (x3 x4 : ByteArray) (x5 x6 x7 x8 : Int) (A : Option Addr) (c : Nat) (l : List E) (k : Nat) (hk : l.length = k) (hC : Kd.C K51 w A k l) (hc : k ≤ c) (hl : k ≤ 40) : Calls Try.prog 24 #[.agg #[.int .u64 x0, .int .u64 x1, .int .u64 x2, .string x3, .string x4, .int .i64 x5, .int .i64 x6, .int .u64 x7, .int .u64 x8, .slice A k c]] w fun e w' => ∃ A' c', e = .returned (.agg #[.int .u64 x0, .int .u64 x1, .int .u64 x2, .string x3, .string x4, .int .i64 x5, .int .i64 x6, .int .u64 x7, .int .u64 x8, .slice A' k c']) ∧ k ≤ c' ∧ Kd.C XSf.k63 w' A' k (l.map ua) ∧ Below w.heap.size w w' := by
  subst hk
  have h := to_w w x0 x1 x2 x3 x4 x5 x6 x7 x8 A c l hC hc hl
  rw [List.length_map] at h
  exact h
theorem same_w4 (w : World) (x0 x1 x2 : Int) (x3 x4 : ByteArray) (x5 x6 x7 x8 : Int) (Aa Ab : Option Addr) (ca cb : Nat) (la lb : List XSf.S63) (k : Nat) (ha : la.length = k) (hb : lb.length = k) (he : la.map av = lb.map av) (hCa : Kd.C XSf.k63 w Aa k la) (hca : k ≤ ca) (hCb : Kd.C XSf.k63 w Ab k lb) (hcb : k ≤ cb) (hl : k ≤ 40) :
    Calls Try.prog 23 #[.agg #[.int .u64 x0, .int .u64 x1, .int .u64 x2, .string x3, .string x4, .int .i64 x5, .int .i64 x6, .int .u64 x7, .int .u64 x8, .slice Aa k ca], .agg #[.int .u64 x0, .int .u64 x1, .int .u64 x2, .string x3, .string x4, .int .i64 x5, .int .i64 x6, .int .u64 x7, .int .u64 x8, .slice Ab k cb]] w fun e w' => e = .returned (.bool true) ∧ Below w.heap.size w w' := by
  have h := same_w w x0 x1 x2 x3 x4 x5 x6 x7 x8 Aa ca la x0 x1 x2 x3 x4 x5 x6 x7 x8 Ab cb lb (by rw [ha]; exact hCa) (by rw [ha]; exact hca) (by rw [hb]; exact hCb) (by rw [hb]; exact hcb) (by omega) (by omega) 0 (by show cmpS ⟨_, _, _, _, _, _, _, _, _, la.map av⟩ ⟨_, _, _, _, _, _, _, _, _, lb.map av⟩ = 0; rw [he]; exact cmpS_cmp.self _)
  rw [ha, hb] at h
  exact h
theorem find_at {l : List E} {q : ByteArray} {i0 : Nat} (h : ixI l q = (i0 : Int)) (hi : i0 < l.length) : (l.find? (fun y => decide (y.f0 = q))) = some l[i0] ∧ l[i0].f0 = q ∧ ∀ j, j < i0 → ∀ h : j < l.length, ¬ l[j].f0 = q := by
  unfold ixI at h
  cases hx : ix l q with
  | none => rw [hx] at h; simp at h
  | some i =>
    rw [hx] at h
    have e : i = i0 := by
      have h' : (i : Int) = (i0 : Int) := h
      omega
    subst e
    unfold ix at hx
    rw [List.findIdx?_eq_some_iff_getElem] at hx
    obtain ⟨h1, h2, h3⟩ := hx
    have h4 : l[i].f0 = q := by simpa using h2
    have h5 : ∀ j, j < i → ∀ h : j < l.length, ¬ l[j].f0 = q := fun j hj hjl => by simpa using h3 j hj
    exact ⟨List.find?_eq_some_iff_getElem.2 ⟨by simpa using h4, i, h1, rfl, fun j hj => by simpa using h5 j hj (by omega)⟩, h4, h5⟩
attribute [local go_sem high] XSp.eqA61
set_option maxHeartbeats 32000000 in
set_option maxRecDepth 1000000 in
theorem tells_law (w : World) (s0 s1 s2 : Int) (s3 s4 : ByteArray) (s5 s6 s7 s8 : Int) (As : Option Addr) (cs : Nat) (ls : List XSf.S63) (m : Int) (key : ByteArray) (hC : Kd.C XSf.k63 w As ls.length ls) (hc : ls.length ≤ cs) :
    Calls Try.prog 7 #[.agg #[.int .u64 s0, .int .u64 s1, .int .u64 s2, .string s3, .string s4, .int .i64 s5, .int .i64 s6, .int .u64 s7, .int .u64 s8, .slice As ls.length cs], .int .i64 m, .string key] w fun e w' => e = .returned (.bool true) ∧ Below w.heap.size w w' := by
  replace hC := Aside0.mk hC
  replace hc := Aside0.mk hc
  obtain ⟨r, hf, hn⟩ := far_f2 s0 s1 s2 s3 s4 s5 s6 s7 s8 ls
  replace hf := Aside0.mk hf
  have hT := Aside0.mk ((Bx.start w).new [.int .u64 s0, .int .u64 s1, .int .u64 s2, .string s3, .string s4, .int .i64 s5, .int .i64 s6, .int .u64 s7, .int .u64 s8, .slice As ls.length cs] 37)
  cases r with
  | true =>
    clear hn
    go_enter Try.func7, Try.ntmps7
    go_wp2_with (first 
      | (go_at_call 26; refine (Oa.alive_w _).mono ?_; rintro e wa ⟨rfl, hb1⟩; replace hT := Aside0.mk (hT.out.keep hb1); clear hb1)
      | (go_at_call 20; refine (XSf.tallyroomlaw06_Far.calls 60 s0 s1 s2 s3 s4 s5 s6 s7 s8 As cs ls _ _ (Kd.C_below hC.out hT.out.b) hc.out hf.out).mono ?_; rintro e wf ⟨rfl, hb1⟩; replace hT := Aside0.mk (hT.out.keep hb1); clear hb1)
      | (refine wpList_load_at (by rfl) 37 _ rfl w.heap.size 0 rfl [.int .u64 s0, .int .u64 s1, .int .u64 s2, .string s3, .string s4, .int .i64 s5, .int .i64 s6, .int .u64 s7, .int .u64 s8, .slice As ls.length cs] _ (row_at0 (hT.out.row (by simp))) Try.underlying37 rfl (by kernel_rfl) ?_))
    go_ret
    exact ⟨by first | rfl | simp, hT.out.b⟩
  | false =>
  obtain ⟨hl, hs3, hs4, hkey⟩ := hn rfl
  clear hn
  replace hs3 := Aside0.mk hs3
  replace hs4 := Aside0.mk hs4
  obtain ⟨y3, hy3⟩ : ∃ t, Lb.lab s3 m = t := ⟨_, rfl⟩
  obtain ⟨y4, hy4⟩ : ∃ t, Lb.lab s4 m = t := ⟨_, rfl⟩
  obtain ⟨L, hLd⟩ : ∃ L, ls.map av = L := ⟨_, rfl⟩
  have hLn := Aside0.mk (show L.length = ls.length by rw [← hLd, List.length_map])
  have hSn := Aside0.mk (show (srtL L).length = ls.length by rw [srtL_length, hLn.out])
  have hkL := Aside0.mk (show ∀ x ∈ L, x.f0.size ≤ 1000000 from fun x hx => by
    rw [← hLd] at hx
    obtain ⟨z, hz, rfl⟩ := List.mem_map.1 hx
    have := (hkey z hz).1
    show z.f0.size ≤ _; omega)
  obtain ⟨ev, hev⟩ : ∃ ev, check s0 s1 s3 s4 s5 s6 s7 s8 L = ev := ⟨_, rfl⟩
  have hev2 := Aside0.mk (show check s0 s1 s3 s4 s5 s6 s7 s8 (ls.map av) = ev by rw [hLd]; exact hev)
  obtain ⟨T, hTk⟩ : ∃ T, (if s8 < s7 then 0 else IntKind.u64.wrap (s8 - s7)) = T := ⟨_, rfl⟩
  obtain ⟨G, hFl⟩ : ∃ G, (s6 == 2) = G := ⟨_, rfl⟩
  replace hTk := Aside0.mk hTk
  replace hFl := Aside0.mk hFl
  replace hev := Aside0.mk hev
  replace hy3 := Aside0.mk hy3
  replace hy4 := Aside0.mk hy4
  replace hl := Aside0.mk hl
  replace hLd := Aside0.mk hLd
  replace hkey := Aside0.mk (show ∀ x ∈ ls, x.f0.size ≤ 1000 from fun x hx => by have := (hkey x hx).1; omega)
  go_enter Try.func7, Try.ntmps7
  go_wp2_with (first 
      | (go_at_call 26; refine (Oa.alive_w _).mono ?_; rintro e wa ⟨rfl, hb1⟩; replace hT := Aside0.mk (hT.out.keep hb1); clear hb1)
      | (go_at_call 20; refine (XSf.tallyroomlaw06_Far.calls 60 s0 s1 s2 s3 s4 s5 s6 s7 s8 As cs ls _ _ (Kd.C_below hC.out hT.out.b) hc.out hf.out).mono ?_; rintro e wf ⟨rfl, hb1⟩; replace hT := Aside0.mk (hT.out.keep hb1); clear hb1)
      | (go_at_call 21; refine (of_w3 _ s0 s1 s2 s3 s4 s5 s6 s7 s8 As cs ls (Kd.C_below hC.out hT.out.b) hc.out hl.out).mono ?_; rintro e w1 ⟨X, dx, rfl, hdx, hX, hb1⟩; rw [hLd.out] at hX; replace hT := Aside0.mk (hT.out.keep hb1); replace hX := Aside0.mk hX; replace hdx := Aside0.mk hdx; clear hb1)
      | (refine wpList_store_new w1 (by rfl) 40 _ _ rfl rfl _ #[.int .u64 s0, .int .u64 s1, .int .u64 s2, .string s3, .string s4, .int .i64 s5, .int .i64 s6, .int .u64 s7, .int .u64 s8, .slice X ls.length dx] rfl (by kernel_rfl) (by kernel_rfl) (by kernel_rfl) ?_; replace hT := Aside0.mk (show Bx w (w1.alloc (.cells #[.int .u64 s0, .int .u64 s1, .int .u64 s2, .string s3, .string s4, .int .i64 s5, .int .i64 s6, .int .u64 s7, .int .u64 s8, .slice X ls.length dx] 40)) _ from hT.out.new [.int .u64 s0, .int .u64 s1, .int .u64 s2, .string s3, .string s4, .int .i64 s5, .int .i64 s6, .int .u64 s7, .int .u64 s8, .slice X ls.length dx] 40); replace hX := Aside0.mk (Kd.C_below hX.out ((Below.refl _ w1).alloc (Nat.le_refl _) (.cells #[.int .u64 s0, .int .u64 s1, .int .u64 s2, .string s3, .string s4, .int .i64 s5, .int .i64 s6, .int .u64 s7, .int .u64 s8, .slice X ls.length dx] 40))); generalize w1.alloc (.cells #[.int .u64 s0, .int .u64 s1, .int .u64 s2, .string s3, .string s4, .int .i64 s5, .int .i64 s6, .int .u64 s7, .int .u64 s8, .slice X ls.length dx] 40) = w4 at hT hX ⊢; have hz := Aside0.mk (show w1.heap.size < w4.heap.size ∧ w.heap.size < w4.heap.size from ⟨(hT.out.r (w1.heap.size, [.int .u64 s0, .int .u64 s1, .int .u64 s2, .string s3, .string s4, .int .i64 s5, .int .i64 s6, .int .u64 s7, .int .u64 s8, .slice X ls.length dx]) (by simp)).2.1, (hT.out.r (w.heap.size, [.int .u64 s0, .int .u64 s1, .int .u64 s2, .string s3, .string s4, .int .i64 s5, .int .i64 s6, .int .u64 s7, .int .u64 s8, .slice As ls.length cs]) (by simp)).2.1⟩); replace hT := Aside0.mk (show Ow w w4 w4 _ from ⟨hT.out, Below.refl _ _⟩))
      | (refine wpList_load_at (by rfl) 37 _ rfl w.heap.size 0 rfl [.int .u64 s0, .int .u64 s1, .int .u64 s2, .string s3, .string s4, .int .i64 s5, .int .i64 s6, .int .u64 s7, .int .u64 s8, .slice As ls.length cs] _ (row_at0 (hT.out.row (by simp))) Try.underlying37 rfl (by kernel_rfl) ?_))
  have hS := hT.out.drew
  refine start_ (n := 24) (S := fun W => Ow w w4 W [(w1.heap.size, [.int .u64 s0, .int .u64 s1, .int .u64 s2, .string s3, .string s4, .int .i64 s5, .int .i64 s6, .int .u64 s7, .int .u64 s8, .slice X ls.length dx]), (w.heap.size, [.int .u64 s0, .int .u64 s1, .int .u64 s2, .string s3, .string s4, .int .i64 s5, .int .i64 s6, .int .u64 s7, .int .u64 s8, .slice As ls.length cs])]) (ds := []) #[false, false, false, false, false, false, false, false, false, false, false, false, false, false, false, false, false, false, false, false, false, false, false, false] (by kernel_rfl) rfl rfl hS (fun hHeld => ?_)
  clear hS
  refine take_ (i := 0) (N := some 18) (v := .agg #[.int .u64 s0, .int .u64 s1, .int .u64 s2, .string s3, .string s4, .int .i64 s5, .int .i64 s6, .int .u64 s7, .int .u64 s8, .slice X ls.length dx]) (a' := ?_) #[true, false, false, false, false, false, false, false, false, false, false, false, false, false, false, false, false, false, false, false, false, false, false, false] rfl rfl (by kernel_rfl) (fun _ _ _ h => h) (Or.inl ⟨by rfl, ?_⟩) hHeld ?_ ?_
  · rintro w' h
    exact exec_load_at 40 (.tmp 7) rfl w1.heap.size 0 rfl [.int .u64 s0, .int .u64 s1, .int .u64 s2, .string s3, .string s4, .int .i64 s5, .int .i64 s6, .int .u64 s7, .int .u64 s8, .slice X ls.length dx] _ (row_at0 (h.t.row (by simp))) Try.underlying40 rfl (by kernel_rfl)
  rotate_left
  · simp only [Act.put, List.setIfInBounds_toArray, List.set_cons_zero, List.set_cons_succ, i64_w, i32_w]
    rfl
  refine take_ (i := 2) (N := some 20) (v := .agg #[.int .u64 s0, .int .u64 s1, .int .u64 s2, .string s3, .string s4, .int .i64 s5, .int .i64 s6, .int .u64 s7, .int .u64 s8, .slice As ls.length cs]) (a' := ?_) #[true, false, true, false, false, false, false, false, false, false, false, false, false, false, false, false, false, false, false, false, false, false, false, false] rfl rfl (by kernel_rfl) (fun _ _ _ h => h) (Or.inl ⟨by rfl, ?_⟩) hHeld ?_ ?_
  · rintro w' h
    exact exec_load_at 37 (.tmp 3) rfl w.heap.size 0 rfl [.int .u64 s0, .int .u64 s1, .int .u64 s2, .string s3, .string s4, .int .i64 s5, .int .i64 s6, .int .u64 s7, .int .u64 s8, .slice As ls.length cs] _ (row_at0 (h.t.row (by simp))) Try.underlying37 rfl (by kernel_rfl)
  rotate_left
  · simp only [Act.put, List.setIfInBounds_toArray, List.set_cons_zero, List.set_cons_succ, i64_w, i32_w]
    rfl
  refine one_ (i := 1) (N := some 19) #[true, true, true, false, false, false, false, false, false, false, false, false, false, false, false, false, false, false, false, false, false, false, false, false] rfl rfl (by kernel_rfl) (by decide) (fun K hK => ?_)
  refine goes_ Try.func30 (by kernel_rfl) rfl #[.agg #[.int .u64 s0, .int .u64 s1, .int .u64 s2, .string s3, .string s4, .int .i64 s5, .int .i64 s6, .int .u64 s7, .int .u64 s8, .slice X ls.length dx]] (by rfl) rfl rfl (by (try simp only [List.map_toArray, List.map_cons, List.map_nil]); first | done | rfl) ?_
  refine (check_w _ s0 s1 s2 s3 s4 s5 s6 s7 s8 X ls.length dx L ev hev.out (Kd.C_below hX.out hHeld.b) (by have := hl.out; omega) hdx.out hkL.out).mono ?_
  rintro e w' ⟨rfl, hb⟩
  have hH2 := Aside0.mk (hHeld.keep hb)
  clear hb
  refine ⟨_, rfl, ?_⟩
  refine hK.out _ _ (hH2.out) (fun hHeld => ?_)
  clear hK K
  refine norm_ (a' := ?_) ?_ ?_
  rotate_left
  · show Act.put _ (some 19) _ = _
    simp only [Act.put, List.setIfInBounds_toArray, List.set_cons_zero, List.set_cons_succ, i64_w, i32_w]
    rfl
  refine one_ (i := 3) (N := some 21) #[true, true, true, true, false, false, false, false, false, false, false, false, false, false, false, false, false, false, false, false, false, false, false, false] rfl rfl (by kernel_rfl) (by decide) (fun K hK => ?_)
  refine goes_ Try.func31 (by kernel_rfl) rfl #[.agg #[.int .u64 s0, .int .u64 s1, .int .u64 s2, .string s3, .string s4, .int .i64 s5, .int .i64 s6, .int .u64 s7, .int .u64 s8, .slice As ls.length cs]] (by rfl) rfl rfl (by (try simp only [List.map_toArray, List.map_cons, List.map_nil]); first | done | rfl) ?_
  refine (rcheck_w _ s0 s1 s2 s3 s4 s5 s6 s7 s8 As cs ls ev hev2.out (Kd.C_below hC.out hHeld.t.b) hl.out hkey.out).mono ?_
  rintro e w' ⟨rfl, hb⟩
  have hH2 := Aside0.mk (hHeld.keep hb)
  clear hb
  refine ⟨_, rfl, ?_⟩
  refine hK.out _ _ (hH2.out) (fun hHeld => ?_)
  clear hK K
  refine norm_ (a' := ?_) ?_ ?_
  rotate_left
  · show Act.put _ (some 21) _ = _
    simp only [Act.put, List.setIfInBounds_toArray, List.set_cons_zero, List.set_cons_succ, i64_w, i32_w]
    rfl
  refine pure_ (i := 4) (N := some 22) (v := ?_) (a' := ?_) #[true, true, true, true, true, false, false, false, false, false, false, false, false, false, false, false, false, false, false, false, false, false, false, false] rfl rfl (by kernel_rfl) (fun _ _ _ h => h) (Or.inl ⟨by rfl, ?_⟩) ?_ ?_
  rotate_left
  · intro w'
    go_simp
    first | with_reducible rfl | rw [show (ev != ev) = false by simp]
  rotate_left
  · simp only [Act.put, List.setIfInBounds_toArray, List.set_cons_zero, List.set_cons_succ, i64_w, i32_w]
    rfl
  refine pure_ (i := 5) (N := some 23) (v := ?_) (a' := ?_) #[true, true, true, true, true, true, false, false, false, false, false, false, false, false, false, false, false, false, false, false, false, false, false, false] rfl rfl (by kernel_rfl) (fun _ _ _ h => h) (Or.inl ⟨by rfl, ?_⟩) ?_ ?_
  rotate_left
  · intro w'
    go_simp
    with_reducible rfl
  rotate_left
  · simp only [Act.put, List.setIfInBounds_toArray, List.set_cons_zero, List.set_cons_succ, i64_w, i32_w]
    rfl
  refine pure_ (i := 7) (N := some 25) (v := ?_) (a' := ?_) #[true, true, true, true, true, true, false, true, false, false, false, false, false, false, false, false, false, false, false, false, false, false, false, false] rfl rfl (by kernel_rfl) (fun _ _ _ h => h) (Or.inl ⟨by rfl, ?_⟩) ?_ ?_
  rotate_left
  · intro w'
    go_simp
    with_reducible rfl
  rotate_left
  · simp only [Act.put, List.setIfInBounds_toArray, List.set_cons_zero, List.set_cons_succ, i64_w, i32_w]
    rfl
  refine pure_ (i := 11) (N := some 29) (v := ?_) (a' := ?_) #[true, true, true, true, true, true, false, true, false, false, false, true, false, false, false, false, false, false, false, false, false, false, false, false] rfl rfl (by kernel_rfl) (fun _ _ _ h => h) (Or.inl ⟨by rfl, ?_⟩) ?_ ?_
  rotate_left
  · intro w'
    go_simp
    with_reducible rfl
  rotate_left
  · simp only [Act.put, List.setIfInBounds_toArray, List.set_cons_zero, List.set_cons_succ, i64_w, i32_w]
    rfl
  refine take_ (i := 6) (N := some 24) (v := .agg #[.int .u64 s0, .int .u64 s1, .int .u64 s2, .string s3, .string s4, .int .i64 s5, .int .i64 s6, .int .u64 s7, .int .u64 s8, .slice X ls.length dx]) (a' := ?_) #[true, true, true, true, true, true, true, true, false, false, false, true, false, false, false, false, false, false, false, false, false, false, false, false] rfl rfl (by kernel_rfl) (fun _ _ _ h => h) (Or.inl ⟨by rfl, ?_⟩) hHeld ?_ ?_
  · rintro w' h
    exact exec_load_at 40 (.tmp 7) rfl w1.heap.size 0 rfl [.int .u64 s0, .int .u64 s1, .int .u64 s2, .string s3, .string s4, .int .i64 s5, .int .i64 s6, .int .u64 s7, .int .u64 s8, .slice X ls.length dx] _ (row_at0 (h.t.row (by simp))) Try.underlying40 rfl (by kernel_rfl)
  rotate_left
  · simp only [Act.put, List.setIfInBounds_toArray, List.set_cons_zero, List.set_cons_succ, i64_w, i32_w]
    rfl
  refine take_ (i := 10) (N := some 28) (v := .agg #[.int .u64 s0, .int .u64 s1, .int .u64 s2, .string s3, .string s4, .int .i64 s5, .int .i64 s6, .int .u64 s7, .int .u64 s8, .slice As ls.length cs]) (a' := ?_) #[true, true, true, true, true, true, true, true, false, false, true, true, false, false, false, false, false, false, false, false, false, false, false, false] rfl rfl (by kernel_rfl) (fun _ _ _ h => h) (Or.inl ⟨by rfl, ?_⟩) hHeld ?_ ?_
  · rintro w' h
    exact exec_load_at 37 (.tmp 3) rfl w.heap.size 0 rfl [.int .u64 s0, .int .u64 s1, .int .u64 s2, .string s3, .string s4, .int .i64 s5, .int .i64 s6, .int .u64 s7, .int .u64 s8, .slice As ls.length cs] _ (row_at0 (h.t.row (by simp))) Try.underlying37 rfl (by kernel_rfl)
  rotate_left
  · simp only [Act.put, List.setIfInBounds_toArray, List.set_cons_zero, List.set_cons_succ, i64_w, i32_w]
    rfl
  refine one_ (i := 8) (N := some 26) #[true, true, true, true, true, true, true, true, true, false, true, true, false, false, false, false, false, false, false, false, false, false, false, false] rfl rfl (by kernel_rfl) (by decide) (fun K hK => ?_)
  refine goes_ Try.func27 (by kernel_rfl) rfl #[.agg #[.int .u64 s0, .int .u64 s1, .int .u64 s2, .string s3, .string s4, .int .i64 s5, .int .i64 s6, .int .u64 s7, .int .u64 s8, .slice X ls.length dx], .int .i64 m] (by rfl) rfl rfl (by (try simp only [List.map_toArray, List.map_cons, List.map_nil]); first | done | rfl) ?_
  refine (alike_y _ s0 s1 s2 s3 s4 s5 s6 s7 s8 X dx L _ hLn.out m y3 y4 hy3.out hy4.out (Kd.C_below hX.out hHeld.b) hdx.out hl.out hs3.out hs4.out).mono ?_
  rintro e w' ⟨Z, dz, rfl, hdz, hZ, hb⟩
  replace hZ := Aside0.mk hZ
  replace hdz := Aside0.mk hdz
  have hH2 := Aside0.mk (hHeld.keep hb)
  clear hb
  refine ⟨_, rfl, ?_⟩
  refine hK.out _ _ (hH2.out) (fun hHeld => ?_)
  clear hK K
  refine norm_ (a' := ?_) ?_ ?_
  rotate_left
  · show Act.put _ (some 26) _ = _
    simp only [Act.put, List.setIfInBounds_toArray, List.set_cons_zero, List.set_cons_succ, i64_w, i32_w]
    rfl
  refine one_ (i := 9) (N := some 27) #[true, true, true, true, true, true, true, true, true, true, true, true, false, false, false, false, false, false, false, false, false, false, false, false] rfl rfl (by kernel_rfl) (by decide) (fun K hK => ?_)
  refine goes_ Try.func24 (by kernel_rfl) rfl #[.agg #[.int .u64 s0, .int .u64 s1, .int .u64 s2, .string y3, .string y4, .int .i64 s5, .int .i64 s6, .int .u64 s7, .int .u64 s8, .slice Z ls.length dz]] (by rfl) rfl rfl (by (try simp only [List.map_toArray, List.map_cons, List.map_nil]); first | done | rfl) ?_
  refine (to_w4 _ s0 s1 s2 y3 y4 s5 s6 s7 s8 Z dz (srtL L) _ hSn.out hZ.out hdz.out hl.out).mono ?_
  rintro e w' ⟨Z2, d2, rfl, hd2, hZ2, hb⟩
  replace hZ2 := Aside0.mk hZ2
  replace hd2 := Aside0.mk hd2
  clear hZ hdz
  have hH2 := Aside0.mk (hHeld.keep hb)
  clear hb
  refine ⟨_, rfl, ?_⟩
  refine hK.out _ _ (hH2.out) (fun hHeld => ?_)
  clear hK K
  refine norm_ (a' := ?_) ?_ ?_
  rotate_left
  · show Act.put _ (some 27) _ = _
    simp only [Act.put, List.setIfInBounds_toArray, List.set_cons_zero, List.set_cons_succ, i64_w, i32_w]
    rfl
  refine one_ (i := 12) (N := some 30) #[true, true, true, true, true, true, true, true, true, true, true, true, true, false, false, false, false, false, false, false, false, false, false, false] rfl rfl (by kernel_rfl) (by decide) (fun K hK => ?_)
  refine goes_ Try.func32 (by kernel_rfl) rfl #[.agg #[.int .u64 s0, .int .u64 s1, .int .u64 s2, .string s3, .string s4, .int .i64 s5, .int .i64 s6, .int .u64 s7, .int .u64 s8, .slice As ls.length cs], .int .i64 m] (by rfl) rfl rfl (by (try simp only [List.map_toArray, List.map_cons, List.map_nil]); first | done | rfl) ?_
  refine (ralike_w _ s0 s1 s2 s3 s4 s5 s6 s7 s8 As cs ls m y3 y4 hy3.out hy4.out (Kd.C_below hC.out hHeld.t.b) hl.out hs3.out hs4.out).mono ?_
  rintro e w' ⟨Z3, d3, R, rfl, hRl, hd3, hRm, hZ3, hb⟩
  replace hZ2 := Aside0.mk (Kd.C_below hZ2.out hb)
  replace hZ3 := Aside0.mk hZ3
  replace hd3 := Aside0.mk hd3
  rw [hLd.out] at hRm
  replace hRm := Aside0.mk hRm
  replace hRl := Aside0.mk hRl
  have hH2 := Aside0.mk (hHeld.keep hb)
  clear hb
  refine ⟨_, rfl, ?_⟩
  refine hK.out _ _ (hH2.out) (fun hHeld => ?_)
  clear hK K
  refine norm_ (a' := ?_) ?_ ?_
  rotate_left
  · show Act.put _ (some 30) _ = _
    simp only [Act.put, List.setIfInBounds_toArray, List.set_cons_zero, List.set_cons_succ, i64_w, i32_w]
    rfl
  refine one_ (i := 13) (N := some 31) #[true, true, true, true, true, true, true, true, true, true, true, true, true, true, false, false, false, false, false, false, false, false, false, false] rfl rfl (by kernel_rfl) (by decide) (fun K hK => ?_)
  refine goes_ Try.func23 (by kernel_rfl) rfl #[.agg #[.int .u64 s0, .int .u64 s1, .int .u64 s2, .string y3, .string y4, .int .i64 s5, .int .i64 s6, .int .u64 s7, .int .u64 s8, .slice Z2 ls.length d2], .agg #[.int .u64 s0, .int .u64 s1, .int .u64 s2, .string y3, .string y4, .int .i64 s5, .int .i64 s6, .int .u64 s7, .int .u64 s8, .slice Z3 ls.length d3]] (by rfl) rfl rfl (by (try simp only [List.map_toArray, List.map_cons, List.map_nil]); first | done | rfl) ?_
  refine (same_w4 _ s0 s1 s2 y3 y4 s5 s6 s7 s8 Z2 Z3 d2 d3 ((srtL L).map ua) R _ (by rw [List.length_map]; exact hSn.out) hRl.out (by rw [hRm.out]; exact av_ua _) hZ2.out hd2.out hZ3.out hd3.out hl.out).mono ?_
  rintro e w' ⟨rfl, hb⟩
  have hH2 := Aside0.mk (hHeld.keep hb)
  clear hb
  clear hZ2 hd2 hZ3 hd3 hRm hRl
  refine ⟨_, rfl, ?_⟩
  refine hK.out _ _ (hH2.out) (fun hHeld => ?_)
  clear hK K
  refine norm_ (a' := ?_) ?_ ?_
  rotate_left
  · show Act.put _ (some 31) _ = _
    simp only [Act.put, List.setIfInBounds_toArray, List.set_cons_zero, List.set_cons_succ, i64_w, i32_w]
    rfl
  refine pure_ (i := 14) (N := some 32) (v := ?_) (a' := ?_) #[true, true, true, true, true, true, true, true, true, true, true, true, true, true, true, false, false, false, false, false, false, false, false, false] rfl rfl (by kernel_rfl) (fun _ _ _ h => h) (Or.inl ⟨by rfl, ?_⟩) ?_ ?_
  rotate_left
  · intro w'
    go_simp
    with_reducible rfl
  rotate_left
  · simp only [Act.put, List.setIfInBounds_toArray, List.set_cons_zero, List.set_cons_succ, i64_w, i32_w]
    rfl
  refine pure_ (i := 15) (N := some 33) (v := ?_) (a' := ?_) #[true, true, true, true, true, true, true, true, true, true, true, true, true, true, true, true, false, false, false, false, false, false, false, false] rfl rfl (by kernel_rfl) (fun _ _ _ h => h) (Or.inl ⟨by rfl, ?_⟩) ?_ ?_
  rotate_left
  · intro w'
    go_simp
    with_reducible rfl
  rotate_left
  · simp only [Act.put, List.setIfInBounds_toArray, List.set_cons_zero, List.set_cons_succ, i64_w, i32_w]
    rfl
  refine pure_ (i := 16) (N := some 34) (v := ?_) (a' := ?_) #[true, true, true, true, true, true, true, true, true, true, true, true, true, true, true, true, true, false, false, false, false, false, false, false] rfl rfl (by kernel_rfl) (fun _ _ _ h => h) (Or.inl ⟨by rfl, ?_⟩) ?_ ?_
  rotate_left
  · intro w'
    go_simp
    with_reducible rfl
  rotate_left
  · simp only [Act.put, List.setIfInBounds_toArray, List.set_cons_zero, List.set_cons_succ, i64_w, i32_w]
    rfl
  refine pure_ (i := 19) (N := some 37) (v := ?_) (a' := ?_) #[true, true, true, true, true, true, true, true, true, true, true, true, true, true, true, true, true, false, false, true, false, false, false, false] rfl rfl (by kernel_rfl) (fun _ _ _ h => h) (Or.inl ⟨by rfl, ?_⟩) ?_ ?_
  rotate_left
  · intro w'
    go_simp
    with_reducible rfl
  rotate_left
  · simp only [Act.put, List.setIfInBounds_toArray, List.set_cons_zero, List.set_cons_succ, i64_w, i32_w]
    rfl
  refine take_ (i := 17) (N := some 35) (v := .agg #[.int .u64 s0, .int .u64 s1, .int .u64 s2, .string s3, .string s4, .int .i64 s5, .int .i64 s6, .int .u64 s7, .int .u64 s8, .slice X ls.length dx]) (a' := ?_) #[true, true, true, true, true, true, true, true, true, true, true, true, true, true, true, true, true, true, false, true, false, false, false, false] rfl rfl (by kernel_rfl) (fun _ _ _ h => h) (Or.inl ⟨by rfl, ?_⟩) hHeld ?_ ?_
  · rintro w' h
    exact exec_load_at 40 (.tmp 7) rfl w1.heap.size 0 rfl [.int .u64 s0, .int .u64 s1, .int .u64 s2, .string s3, .string s4, .int .i64 s5, .int .i64 s6, .int .u64 s7, .int .u64 s8, .slice X ls.length dx] _ (row_at0 (h.t.row (by simp))) Try.underlying40 rfl (by kernel_rfl)
  rotate_left
  · simp only [Act.put, List.setIfInBounds_toArray, List.set_cons_zero, List.set_cons_succ, i64_w, i32_w]
    rfl
  refine take_ (i := 20) (N := some 38) (v := ?_) (a' := ?_) #[true, true, true, true, true, true, true, true, true, true, true, true, true, true, true, true, true, true, false, true, true, false, false, false] rfl rfl (by kernel_rfl) (fun _ _ _ h => h) (Or.inl ⟨by rfl, ?_⟩) hHeld ?_ ?_
  rotate_left
  · rintro w' h
    have hq := (h.t.row (g := w.heap.size) (cs := [.int .u64 s0, .int .u64 s1, .int .u64 s2, .string s3, .string s4, .int .i64 s5, .int .i64 s6, .int .u64 s7, .int .u64 s8, .slice As ls.length cs]) (by simp) 6 _ rfl).1
    go_simp
    with_reducible rfl
  rotate_left
  · simp only [Act.put, List.setIfInBounds_toArray, List.set_cons_zero, List.set_cons_succ, i64_w, i32_w]
    rfl
  refine pure_ (i := 21) (N := some 39) (v := ?_) (a' := ?_) #[true, true, true, true, true, true, true, true, true, true, true, true, true, true, true, true, true, true, false, true, true, true, false, false] rfl rfl (by kernel_rfl) (fun _ _ _ h => h) (Or.inl ⟨by rfl, ?_⟩) ?_ ?_
  rotate_left
  · intro w'
    go_simp
    rw [hFl.out]
  rotate_left
  · simp only [Act.put, List.setIfInBounds_toArray, List.set_cons_zero, List.set_cons_succ, i64_w, i32_w]
    rfl
  refine one_ (i := 18) (N := some 36) #[true, true, true, true, true, true, true, true, true, true, true, true, true, true, true, true, true, true, true, true, true, true, false, false] rfl rfl (by kernel_rfl) (by decide) (fun K hK => ?_)
  refine goes_ Try.func29 (by kernel_rfl) rfl #[.agg #[.int .u64 s0, .int .u64 s1, .int .u64 s2, .string s3, .string s4, .int .i64 s5, .int .i64 s6, .int .u64 s7, .int .u64 s8, .slice X ls.length dx]] (by rfl) rfl rfl (by (try simp only [List.map_toArray, List.map_cons, List.map_nil]); first | done | rfl) ?_
  refine (failed_n _ s0 s1 s2 s3 s4 s5 s6 s7 s8 (.slice X ls.length dx) G hFl.out).mono ?_
  rintro e w' ⟨rfl, hb⟩
  have hH2 := Aside0.mk (hHeld.keep hb)
  clear hb
  refine ⟨_, rfl, ?_⟩
  refine hK.out _ _ (hH2.out) (fun hHeld => ?_)
  clear hK K
  refine norm_ (a' := ?_) ?_ ?_
  rotate_left
  · show Act.put _ (some 36) _ = _
    simp only [Act.put, List.setIfInBounds_toArray, List.set_cons_zero, List.set_cons_succ, i64_w, i32_w]
    rfl
  refine pure_ (i := 22) (N := some 40) (v := ?_) (a' := ?_) #[true, true, true, true, true, true, true, true, true, true, true, true, true, true, true, true, true, true, true, true, true, true, true, false] rfl rfl (by kernel_rfl) (fun _ _ _ h => h) (Or.inl ⟨by rfl, ?_⟩) ?_ ?_
  rotate_left
  · intro w'
    go_simp
    first | with_reducible rfl | rw [show (G != G) = false by simp]
  rotate_left
  · simp only [Act.put, List.setIfInBounds_toArray, List.set_cons_zero, List.set_cons_succ, i64_w, i32_w]
    rfl
  refine pure_ (i := 23) (N := some 41) (v := ?_) (a' := ?_) #[true, true, true, true, true, true, true, true, true, true, true, true, true, true, true, true, true, true, true, true, true, true, true, true] rfl rfl (by kernel_rfl) (fun _ _ _ h => h) (Or.inl ⟨by rfl, ?_⟩) ?_ ?_
  rotate_left
  · intro w'
    go_simp
    with_reducible rfl
  rotate_left
  · simp only [Act.put, List.setIfInBounds_toArray, List.set_cons_zero, List.set_cons_succ, i64_w, i32_w]
    rfl
  refine done_ (by kernel_rfl) ?_
  replace hT := Aside0.mk hHeld
  clear hHeld
  have ⟨c7, _⟩ := hT.out.t.row (g := w.heap.size) (cs := [.int .u64 s0, .int .u64 s1, .int .u64 s2, .string s3, .string s4, .int .i64 s5, .int .i64 s6, .int .u64 s7, .int .u64 s8, .slice As ls.length cs]) (by simp) 7 _ rfl
  have ⟨c8, _⟩ := hT.out.t.row (g := w.heap.size) (cs := [.int .u64 s0, .int .u64 s1, .int .u64 s2, .string s3, .string s4, .int .i64 s5, .int .i64 s6, .int .u64 s7, .int .u64 s8, .slice As ls.length cs]) (by simp) 8 _ rfl
  by_cases h87 : s8 < s7
  · have hT0 : T = 0 := by rw [← hTk.out, if_pos h87]
    subst hT0
    cases hv : attrV L key with
    | none =>
      have hno := Aside0.mk (show ∀ i, ∀ h : i < ls.length, ¬ ls[i].f0 = key from fun i h e => by
        have h2 := attrV_mem L i (by rw [hLn.out]; exact h)
        have h3 : L[i]'(by rw [hLn.out]; exact h) = av ls[i] := by have e := hLd.out; subst e; rw [List.getElem_map]
        rw [h3] at h2
        obtain ⟨v, h2⟩ := h2
        have h4 : (av ls[i]).f0 = key := e
        rw [h4, hv] at h2
        cases h2)
      replace hv := Aside0.mk hv
      go_wp2_with (first 
            | (go_at_call 33; refine (attr_w0 _ s0 s1 s2 s3 s4 s5 s6 s7 s8 X ls.length dx L key hv.out (Kd.C_below hX.out hT.out.b) (by have := hl.out; omega)).mono ?_; rintro e w5 ⟨rfl, hb⟩; replace hT := Aside0.mk (hT.out.keep hb); clear hb)
            | (refine wpList_store_new w5 (by rfl) 49 _ _ rfl rfl _ #[.int .i64 0, .int .i64 0, .string ⟨#[]⟩] rfl (by kernel_rfl) (by kernel_rfl) (by kernel_rfl) ?_; have hz5 := Aside0.mk hT.out.b.size; replace hT := Aside0.mk (show Ow w w4 (w5.alloc (.cells #[.int .i64 0, .int .i64 0, .string ⟨#[]⟩] 49)) ((w5.heap.size, [.int .i64 0, .int .i64 0, .string ⟨#[]⟩]) :: [(w1.heap.size, [.int .u64 s0, .int .u64 s1, .int .u64 s2, .string s3, .string s4, .int .i64 s5, .int .i64 s6, .int .u64 s7, .int .u64 s8, .slice X ls.length dx]), (w.heap.size, [.int .u64 s0, .int .u64 s1, .int .u64 s2, .string s3, .string s4, .int .i64 s5, .int .i64 s6, .int .u64 s7, .int .u64 s8, .slice As ls.length cs])]) from hT.out.new [.int .i64 0, .int .i64 0, .string ⟨#[]⟩] 49); generalize w5.alloc (.cells #[.int .i64 0, .int .i64 0, .string ⟨#[]⟩] 49) = w6 at hT ⊢)
            | (refine wpList_load_at (by rfl) 40 _ rfl w1.heap.size 0 rfl [.int .u64 s0, .int .u64 s1, .int .u64 s2, .string s3, .string s4, .int .i64 s5, .int .i64 s6, .int .u64 s7, .int .u64 s8, .slice X ls.length dx] _ (row_at0 (hT.out.t.row (by simp))) Try.underlying40 rfl (by kernel_rfl) ?_))
      clear c7 c8
      go_loopg [11] (ls.length + 1) (fun kq v11 wr => ∃ i : Nat, v11 = .int .i64 (i : Int) ∧ i ≤ ls.length ∧ ls.length - i < kq ∧ Aside0 (Ow w w4 wr ((w5.heap.size, [.int .i64 0, .int .i64 0, .string ⟨#[]⟩]) :: [(w1.heap.size, [.int .u64 s0, .int .u64 s1, .int .u64 s2, .string s3, .string s4, .int .i64 s5, .int .i64 s6, .int .u64 s7, .int .u64 s8, .slice X ls.length dx]), (w.heap.size, [.int .u64 s0, .int .u64 s1, .int .u64 s2, .string s3, .string s4, .int .i64 s5, .int .i64 s6, .int .u64 s7, .int .u64 s8, .slice As ls.length cs])])))
      case atStart => exact ⟨0, rfl, Nat.zero_le _, by omega, hT⟩
      case round =>
        clear hT
        obtain ⟨i, rfl, hi, hkq, hT⟩ := hrel
        obtain ⟨k1, rfl⟩ : ∃ m, gk = m + 1 := ⟨gk - 1, by omega⟩
        have hi0 : (0 : Int) ≤ (i : Int) := by omega
        have ⟨s9, s9f⟩ := hT.out.t.row (g := w.heap.size) (cs := [.int .u64 s0, .int .u64 s1, .int .u64 s2, .string s3, .string s4, .int .i64 s5, .int .i64 s6, .int .u64 s7, .int .u64 s8, .slice As ls.length cs]) (by simp) 9 _ rfl
        by_cases hin : i < ls.length
        · have hinI : (i : Int) < (ls.length : Int) := by omega
          have hl4 := hl.out
          obtain ⟨ax, rfl, x0, x1, x2, x3⟩ := XSf.at_T63 (Kd.C_below hC.out hT.out.t.b) (i : Int) hi0 hinI
          rw [Oz.rd63 _ i hin, Int.toNat_natCast] at x0 x1 x2 x3
          have hnk := hno.out i hin
          have hee := toList_ne hnk
          have heb : (ls[i].f0.toList == key.toList) = false := by simpa using hee
          clear hnk
          generalize ls[i].f0 = q at x0 hee heb
          go_wp2
          go_roundg k1
          case measure => omega
          case rel => exact ⟨i + 1, by first | rfl | simp, by omega, by omega, hT⟩
        · have hinI : ¬ (i : Int) < (ls.length : Int) := by omega
          have ⟨d0, _⟩ := hT.out.t.row (g := w5.heap.size) (cs := [.int .i64 0, .int .i64 0, .string ⟨#[]⟩]) (by simp) 0 _ rfl
          go_wp2_with (first 
            | (refine wpList_load_at (by rfl) 40 _ rfl w1.heap.size 0 rfl [.int .u64 s0, .int .u64 s1, .int .u64 s2, .string s3, .string s4, .int .i64 s5, .int .i64 s6, .int .u64 s7, .int .u64 s8, .slice X ls.length dx] _ (row_at0 (hT.out.t.row (by simp))) Try.underlying40 rfl (by kernel_rfl) ?_)
            | (go_at_call 28; refine (took_n _ s0 s1 s2 s3 s4 s5 s6 s7 s8 (.slice X ls.length dx) _ hTk.out).mono ?_; rintro e w7 ⟨rfl, hb⟩; replace hT := Aside0.mk (hT.out.keep hb); clear hb))
          go_ret
          exact ⟨by first | rfl | simp, hT.out.t.b⟩
    | some v =>
      obtain ⟨i0, hi0L, hix, hvi⟩ := attr_some hv
      have hi0n := Aside0.mk (show i0 < ls.length by have := hLn.out; omega)
      have hmap : ∀ i, ∀ h : i < ls.length, L[i]'(by rw [hLn.out]; exact h) = av ls[i] := fun i h => by have e := hLd.out; subst e; rw [List.getElem_map]
      have hfi : (L.find? (fun y => decide (y.f0 = key))) = some L[i0] ∧ L[i0].f0 = key ∧ ∀ j, j < i0 → ∀ h : j < L.length, ¬ L[j].f0 = key := find_at hix hi0L
      have hat := Aside0.mk (show ∀ i, ∀ h : i < ls.length, i = i0 → ls[i].f0 = key ∧ ls[i].f1.f0 = v.f0 ∧ ls[i].f1.f1 = v.f1 ∧ ls[i].f1.f2 = v.f2 from fun i h e => by
        subst e
        have h1 := hfi.2.1
        have h2 := hvi
        rw [hmap i h] at h1 h2
        subst h2
        exact ⟨h1, rfl, rfl, rfl⟩)
      have hbef := Aside0.mk (show ∀ i, ∀ h : i < ls.length, i < i0 → ¬ ls[i].f0 = key from fun i h hlt e => by
        have h1 := hfi.2.2 i hlt (by rw [hLn.out]; exact h)
        rw [hmap i h] at h1
        exact h1 e)
      clear hfi hmap hvi hix hi0L
      replace hv := Aside0.mk hv
      go_wp2_with (first 
            | (go_at_call 33; refine (attr_w1 _ s0 s1 s2 s3 s4 s5 s6 s7 s8 X ls.length dx L key v hv.out (Kd.C_below hX.out hT.out.b) (by have := hl.out; omega)).mono ?_; rintro e w5 ⟨rfl, hb⟩; replace hT := Aside0.mk (hT.out.keep hb); clear hb)
            | (refine wpList_store_new w5 (by rfl) 49 _ _ rfl rfl _ #[.int .i64 v.f0, .int .i64 v.f1, .string v.f2] rfl (by kernel_rfl) (by kernel_rfl) (by kernel_rfl) ?_; have hz5 := Aside0.mk hT.out.b.size; replace hT := Aside0.mk (show Ow w w4 (w5.alloc (.cells #[.int .i64 v.f0, .int .i64 v.f1, .string v.f2] 49)) ((w5.heap.size, [.int .i64 v.f0, .int .i64 v.f1, .string v.f2]) :: [(w1.heap.size, [.int .u64 s0, .int .u64 s1, .int .u64 s2, .string s3, .string s4, .int .i64 s5, .int .i64 s6, .int .u64 s7, .int .u64 s8, .slice X ls.length dx]), (w.heap.size, [.int .u64 s0, .int .u64 s1, .int .u64 s2, .string s3, .string s4, .int .i64 s5, .int .i64 s6, .int .u64 s7, .int .u64 s8, .slice As ls.length cs])]) from hT.out.new [.int .i64 v.f0, .int .i64 v.f1, .string v.f2] 49); generalize w5.alloc (.cells #[.int .i64 v.f0, .int .i64 v.f1, .string v.f2] 49) = w6 at hT ⊢)
            | (refine wpList_load_at (by rfl) 40 _ rfl w1.heap.size 0 rfl [.int .u64 s0, .int .u64 s1, .int .u64 s2, .string s3, .string s4, .int .i64 s5, .int .i64 s6, .int .u64 s7, .int .u64 s8, .slice X ls.length dx] _ (row_at0 (hT.out.t.row (by simp))) Try.underlying40 rfl (by kernel_rfl) ?_))
      clear c7 c8
      go_loopg [11] (ls.length + 1) (fun kq v11 wr => ∃ i : Nat, v11 = .int .i64 (i : Int) ∧ i ≤ i0 ∧ ls.length - i < kq ∧ Aside0 (Ow w w4 wr ((w5.heap.size, [.int .i64 v.f0, .int .i64 v.f1, .string v.f2]) :: [(w1.heap.size, [.int .u64 s0, .int .u64 s1, .int .u64 s2, .string s3, .string s4, .int .i64 s5, .int .i64 s6, .int .u64 s7, .int .u64 s8, .slice X ls.length dx]), (w.heap.size, [.int .u64 s0, .int .u64 s1, .int .u64 s2, .string s3, .string s4, .int .i64 s5, .int .i64 s6, .int .u64 s7, .int .u64 s8, .slice As ls.length cs])])))
      case atStart => exact ⟨0, rfl, Nat.zero_le _, by omega, hT⟩
      case round =>
        clear hT
        obtain ⟨i, rfl, hi, hkq, hT⟩ := hrel
        obtain ⟨k1, rfl⟩ : ∃ m, gk = m + 1 := ⟨gk - 1, by omega⟩
        have hi0 : (0 : Int) ≤ (i : Int) := by omega
        have ⟨s9, s9f⟩ := hT.out.t.row (g := w.heap.size) (cs := [.int .u64 s0, .int .u64 s1, .int .u64 s2, .string s3, .string s4, .int .i64 s5, .int .i64 s6, .int .u64 s7, .int .u64 s8, .slice As ls.length cs]) (by simp) 9 _ rfl
        have hin : i < ls.length := by have := hi0n.out; omega
        have hinI : (i : Int) < (ls.length : Int) := by omega
        have hl4 := hl.out
        obtain ⟨ax, rfl, x0, x1, x2, x3⟩ := XSf.at_T63 (Kd.C_below hC.out hT.out.t.b) (i : Int) hi0 hinI
        rw [Oz.rd63 _ i hin, Int.toNat_natCast] at x0 x1 x2 x3
        by_cases he : i = i0
        · have hek := hat.out i hin he
          have hee : ls[i].f0.toList = key.toList := by rw [hek.1]
          have hval := Aside0.mk (show ∀ W, Below w.heap.size w W → W.cell? ⟨(ax.add (i * 4)).block, (ax.add (i * 4)).off + 1, none⟩ = some (.int .i64 v.f0) ∧ W.cell? ⟨(ax.add (i * 4)).block, (ax.add (i * 4)).off + 2, none⟩ = some (.int .i64 v.f1) ∧ W.cell? ⟨(ax.add (i * 4)).block, (ax.add (i * 4)).off + 3, none⟩ = some (.string v.f2) from fun W hb => by
            obtain ⟨ax2, e2, q0, q1, q2, q3⟩ := XSf.at_T63 (Kd.C_below hC.out hb) (i : Int) hi0 hinI
            obtain rfl := Option.some.inj e2
            rw [Oz.rd63 _ i hin, Int.toNat_natCast] at q0 q1 q2 q3
            rw [hek.2.1] at q1
            rw [hek.2.2.1] at q2
            rw [hek.2.2.2] at q3
            exact ⟨q1, q2, q3⟩)
          clear hek he x1 x2 x3
          generalize ls[i].f0 = q at x0 hee
          go_wp2
          clear x0 hee
          have hS := hT.out.drew
          refine start_ (n := 18) (S := fun W => Ow w w4 W ((w5.heap.size, [.int .i64 v.f0, .int .i64 v.f1, .string v.f2]) :: [(w1.heap.size, [.int .u64 s0, .int .u64 s1, .int .u64 s2, .string s3, .string s4, .int .i64 s5, .int .i64 s6, .int .u64 s7, .int .u64 s8, .slice X ls.length dx]), (w.heap.size, [.int .u64 s0, .int .u64 s1, .int .u64 s2, .string s3, .string s4, .int .i64 s5, .int .i64 s6, .int .u64 s7, .int .u64 s8, .slice (some ax) ls.length cs])])) (ds := []) #[false, false, false, false, false, false, false, false, false, false, false, false, false, false, false, false, false, false] (by kernel_rfl) rfl rfl hS (fun hHeld => ?_)
          clear hS
          refine pure_ (i := 0) (N := some 73) (v := ?_) (a' := ?_) #[true, false, false, false, false, false, false, false, false, false, false, false, false, false, false, false, false, false] rfl rfl (by kernel_rfl) (fun _ _ _ h => h) (Or.inl ⟨by rfl, ?_⟩) ?_ ?_
          rotate_left
          · intro w'
            go_simp
            with_reducible rfl
          rotate_left
          · simp only [Act.put, List.setIfInBounds_toArray, List.set_cons_zero, List.set_cons_succ, i64_w, i32_w]
            rfl
          refine pure_ (i := 1) (N := some 74) (v := ?_) (a' := ?_) #[true, true, false, false, false, false, false, false, false, false, false, false, false, false, false, false, false, false] rfl rfl (by kernel_rfl) (fun _ _ _ h => h) (Or.inl ⟨by rfl, ?_⟩) ?_ ?_
          rotate_left
          · intro w'
            go_simp
            with_reducible rfl
          rotate_left
          · simp only [Act.put, List.setIfInBounds_toArray, List.set_cons_zero, List.set_cons_succ, i64_w, i32_w]
            rfl
          refine pure_ (i := 3) (N := some 76) (v := ?_) (a' := ?_) #[true, true, false, true, false, false, false, false, false, false, false, false, false, false, false, false, false, false] rfl rfl (by kernel_rfl) (fun _ _ _ h => h) (Or.inl ⟨by rfl, ?_⟩) ?_ ?_
          rotate_left
          · intro w'
            go_simp
            with_reducible rfl
          rotate_left
          · simp only [Act.put, List.setIfInBounds_toArray, List.set_cons_zero, List.set_cons_succ, i64_w, i32_w]
            rfl
          refine pure_ (i := 5) (N := some 78) (v := ?_) (a' := ?_) #[true, true, false, true, false, true, false, false, false, false, false, false, false, false, false, false, false, false] rfl rfl (by kernel_rfl) (fun _ _ _ h => h) (Or.inl ⟨by rfl, ?_⟩) ?_ ?_
          rotate_left
          · intro w'
            go_simp
            with_reducible rfl
          rotate_left
          · simp only [Act.put, List.setIfInBounds_toArray, List.set_cons_zero, List.set_cons_succ, i64_w, i32_w]
            rfl
          refine take_ (i := 2) (N := some 75) (v := .agg #[.int .i64 v.f0, .int .i64 v.f1, .string v.f2]) (a' := ?_) #[true, true, true, true, false, true, false, false, false, false, false, false, false, false, false, false, false, false] rfl rfl (by kernel_rfl) (fun _ _ _ h => h) (Or.inl ⟨by rfl, ?_⟩) hHeld ?_ ?_
          · rintro w' h
            exact exec_load_at 49 (.tmp 9) rfl w5.heap.size 0 rfl [.int .i64 v.f0, .int .i64 v.f1, .string v.f2] _ (row_at0 (h.t.row (by simp))) Try.underlying49 rfl (by kernel_rfl)
          rotate_left
          · simp only [Act.put, List.setIfInBounds_toArray, List.set_cons_zero, List.set_cons_succ, i64_w, i32_w]
            rfl
          refine take_ (i := 4) (N := some 77) (v := ?_) (a' := ?_) #[true, true, true, true, true, true, false, false, false, false, false, false, false, false, false, false, false, false] rfl rfl (by kernel_rfl) (fun _ _ _ h => h) (Or.inl ⟨by rfl, ?_⟩) hHeld ?_ ?_
          rotate_left
          · rintro w' h
            have hq := (h.t.row (g := w.heap.size) (cs := [.int .u64 s0, .int .u64 s1, .int .u64 s2, .string s3, .string s4, .int .i64 s5, .int .i64 s6, .int .u64 s7, .int .u64 s8, .slice (some ax) ls.length cs]) (by simp) 9 _ rfl).1
            go_simp
            with_reducible rfl
          rotate_left
          · simp only [Act.put, List.setIfInBounds_toArray, List.set_cons_zero, List.set_cons_succ, i64_w, i32_w]
            rfl
          refine pure_ (i := 6) (N := some 79) (v := ?_) (a' := ?_) #[true, true, true, true, true, true, true, false, false, false, false, false, false, false, false, false, false, false] rfl rfl (by kernel_rfl) (fun _ _ _ h => h) (Or.inl ⟨by rfl, ?_⟩) ?_ ?_
          rotate_left
          · intro w'
            refine exec_index63 (.tmp 77) (.tmp 78) ?_ ax ls.length cs i ?_ ?_ hin
            · rfl
            · rfl
            · rfl
          rotate_left
          · simp only [Act.put, List.setIfInBounds_toArray, List.set_cons_zero, List.set_cons_succ, i64_w, i32_w]
            rfl
          refine pure_ (i := 7) (N := some 80) (v := ?_) (a' := ?_) #[true, true, true, true, true, true, true, true, false, false, false, false, false, false, false, false, false, false] rfl rfl (by kernel_rfl) (fun _ _ _ h => h) (Or.inl ⟨by rfl, ?_⟩) ?_ ?_
          rotate_left
          · intro w'
            go_simp
            with_reducible rfl
          rotate_left
          · simp only [Act.put, List.setIfInBounds_toArray, List.set_cons_zero, List.set_cons_succ, i64_w, i32_w]
            rfl
          refine take_ (i := 8) (N := some 81) (v := ?_) (a' := ?_) #[true, true, true, true, true, true, true, true, true, false, false, false, false, false, false, false, false, false] rfl rfl (by kernel_rfl) (fun _ _ _ h => h) (Or.inl ⟨by rfl, ?_⟩) hHeld ?_ ?_
          rotate_left
          · rintro w' h
            have ⟨h1, h2, h3⟩ := hval.out w' h.t.b
            go_simp
            with_reducible rfl
          rotate_left
          · simp only [Act.put, List.setIfInBounds_toArray, List.set_cons_zero, List.set_cons_succ, i64_w, i32_w]
            rfl
          refine pure_ (i := 9) (N := some 82) (v := ?_) (a' := ?_) #[true, true, true, true, true, true, true, true, true, true, false, false, false, false, false, false, false, false] rfl rfl (by kernel_rfl) (fun _ _ _ h => h) (Or.inl ⟨by rfl, ?_⟩) ?_ ?_
          rotate_left
          · intro w'
            go_simp
            with_reducible rfl
          rotate_left
          · simp only [Act.put, List.setIfInBounds_toArray, List.set_cons_zero, List.set_cons_succ, i64_w, i32_w]
            rfl
          refine pure_ (i := 10) (N := some 83) (v := ?_) (a' := ?_) #[true, true, true, true, true, true, true, true, true, true, true, false, false, false, false, false, false, false] rfl rfl (by kernel_rfl) (fun _ _ _ h => h) (Or.inl ⟨by rfl, ?_⟩) ?_ ?_
          rotate_left
          · intro w'
            go_simp
            with_reducible rfl
          rotate_left
          · simp only [Act.put, List.setIfInBounds_toArray, List.set_cons_zero, List.set_cons_succ, i64_w, i32_w]
            rfl
          refine pure_ (i := 11) (N := some 84) (v := ?_) (a' := ?_) #[true, true, true, true, true, true, true, true, true, true, true, true, false, false, false, false, false, false] rfl rfl (by kernel_rfl) (fun _ _ _ h => h) (Or.inl ⟨by rfl, ?_⟩) ?_ ?_
          rotate_left
          · intro w'
            go_simp
            with_reducible rfl
          rotate_left
          · simp only [Act.put, List.setIfInBounds_toArray, List.set_cons_zero, List.set_cons_succ, i64_w, i32_w]
            rfl
          refine pure_ (i := 14) (N := some 87) (v := ?_) (a' := ?_) #[true, true, true, true, true, true, true, true, true, true, true, true, false, false, true, false, false, false] rfl rfl (by kernel_rfl) (fun _ _ _ h => h) (Or.inl ⟨by rfl, ?_⟩) ?_ ?_
          rotate_left
          · intro w'
            go_simp
            with_reducible rfl
          rotate_left
          · simp only [Act.put, List.setIfInBounds_toArray, List.set_cons_zero, List.set_cons_succ, i64_w, i32_w]
            rfl
          refine take_ (i := 12) (N := some 85) (v := .agg #[.int .u64 s0, .int .u64 s1, .int .u64 s2, .string s3, .string s4, .int .i64 s5, .int .i64 s6, .int .u64 s7, .int .u64 s8, .slice X ls.length dx]) (a' := ?_) #[true, true, true, true, true, true, true, true, true, true, true, true, true, false, true, false, false, false] rfl rfl (by kernel_rfl) (fun _ _ _ h => h) (Or.inl ⟨by rfl, ?_⟩) hHeld ?_ ?_
          · rintro w' h
            exact exec_load_at 40 (.tmp 7) rfl w1.heap.size 0 rfl [.int .u64 s0, .int .u64 s1, .int .u64 s2, .string s3, .string s4, .int .i64 s5, .int .i64 s6, .int .u64 s7, .int .u64 s8, .slice X ls.length dx] _ (row_at0 (h.t.row (by simp))) Try.underlying40 rfl (by kernel_rfl)
          rotate_left
          · simp only [Act.put, List.setIfInBounds_toArray, List.set_cons_zero, List.set_cons_succ, i64_w, i32_w]
            rfl
          refine one_ (i := 13) (N := some 86) #[true, true, true, true, true, true, true, true, true, true, true, true, true, true, true, false, false, false] rfl rfl (by kernel_rfl) (by decide) (fun K hK => ?_)
          refine goes_ Try.func28 (by kernel_rfl) rfl #[.agg #[.int .u64 s0, .int .u64 s1, .int .u64 s2, .string s3, .string s4, .int .i64 s5, .int .i64 s6, .int .u64 s7, .int .u64 s8, .slice X ls.length dx]] (by rfl) rfl rfl (by (try simp only [List.map_toArray, List.map_cons, List.map_nil]); first | done | rfl) ?_
          refine (took_n _ s0 s1 s2 s3 s4 s5 s6 s7 s8 (.slice X ls.length dx) _ hTk.out).mono ?_
          rintro e w' ⟨rfl, hb⟩
          have hH2 := Aside0.mk (hHeld.keep hb)
          clear hb
          refine ⟨_, rfl, ?_⟩
          refine hK.out _ _ (hH2.out) (fun hHeld => ?_)
          clear hK K
          refine norm_ (a' := ?_) ?_ ?_
          rotate_left
          · show Act.put _ (some 86) _ = _
            simp only [Act.put, List.setIfInBounds_toArray, List.set_cons_zero, List.set_cons_succ, i64_w, i32_w]
            rfl
          refine pure_ (i := 15) (N := some 88) (v := ?_) (a' := ?_) #[true, true, true, true, true, true, true, true, true, true, true, true, true, true, true, true, false, false] rfl rfl (by kernel_rfl) (fun _ _ _ h => h) (Or.inl ⟨by rfl, ?_⟩) ?_ ?_
          rotate_left
          · intro w'
            go_simp
            first | with_reducible rfl | rw [show (T == T) = true by simp] | rw [show ((0 : Int) == 0) = true from rfl]
          rotate_left
          · simp only [Act.put, List.setIfInBounds_toArray, List.set_cons_zero, List.set_cons_succ, i64_w, i32_w]
            rfl
          refine pure_ (i := 16) (N := some 89) (v := ?_) (a' := ?_) #[true, true, true, true, true, true, true, true, true, true, true, true, true, true, true, true, true, false] rfl rfl (by kernel_rfl) (fun _ _ _ h => h) (Or.inl ⟨by rfl, ?_⟩) ?_ ?_
          rotate_left
          · intro w'
            go_simp
            with_reducible rfl
          rotate_left
          · simp only [Act.put, List.setIfInBounds_toArray, List.set_cons_zero, List.set_cons_succ, i64_w, i32_w]
            rfl
          refine pure_ (i := 17) (N := some 6) (v := ?_) (a' := ?_) #[true, true, true, true, true, true, true, true, true, true, true, true, true, true, true, true, true, true] rfl rfl (by kernel_rfl) (fun _ _ _ h => h) (Or.inl ⟨by rfl, ?_⟩) ?_ ?_
          rotate_left
          · intro w'
            go_simp
            with_reducible rfl
          rotate_left
          · simp only [Act.put, List.setIfInBounds_toArray, List.set_cons_zero, List.set_cons_succ, i64_w, i32_w]
            rfl
          refine done_ (by kernel_rfl) ?_
          replace hT := Aside0.mk hHeld
          clear hHeld
          go_wp2
          go_ret
          exact ⟨by first | rfl | simp, hT.out.t.b⟩
        · have hnk := hbef.out i hin (by omega)
          have hee := toList_ne hnk
          have heb : (ls[i].f0.toList == key.toList) = false := by simpa using hee
          clear hnk
          generalize ls[i].f0 = q at x0 hee heb
          go_wp2
          go_roundg k1
          case measure => omega
          case rel => exact ⟨i + 1, by first | rfl | simp, by omega, by omega, hT⟩
  · have hTw : IntKind.u64.wrap (s8 - s7) = T := by rw [← hTk.out, if_neg h87]
    cases hv : attrV L key with
    | none =>
      have hno := Aside0.mk (show ∀ i, ∀ h : i < ls.length, ¬ ls[i].f0 = key from fun i h e => by
        have h2 := attrV_mem L i (by rw [hLn.out]; exact h)
        have h3 : L[i]'(by rw [hLn.out]; exact h) = av ls[i] := by have e := hLd.out; subst e; rw [List.getElem_map]
        rw [h3] at h2
        obtain ⟨v, h2⟩ := h2
        have h4 : (av ls[i]).f0 = key := e
        rw [h4, hv] at h2
        cases h2)
      replace hv := Aside0.mk hv
      go_wp2_with (first 
            | (go_at_call 33; refine (attr_w0 _ s0 s1 s2 s3 s4 s5 s6 s7 s8 X ls.length dx L key hv.out (Kd.C_below hX.out hT.out.b) (by have := hl.out; omega)).mono ?_; rintro e w5 ⟨rfl, hb⟩; replace hT := Aside0.mk (hT.out.keep hb); clear hb)
            | (refine wpList_store_new w5 (by rfl) 49 _ _ rfl rfl _ #[.int .i64 0, .int .i64 0, .string ⟨#[]⟩] rfl (by kernel_rfl) (by kernel_rfl) (by kernel_rfl) ?_; have hz5 := Aside0.mk hT.out.b.size; replace hT := Aside0.mk (show Ow w w4 (w5.alloc (.cells #[.int .i64 0, .int .i64 0, .string ⟨#[]⟩] 49)) ((w5.heap.size, [.int .i64 0, .int .i64 0, .string ⟨#[]⟩]) :: [(w1.heap.size, [.int .u64 s0, .int .u64 s1, .int .u64 s2, .string s3, .string s4, .int .i64 s5, .int .i64 s6, .int .u64 s7, .int .u64 s8, .slice X ls.length dx]), (w.heap.size, [.int .u64 s0, .int .u64 s1, .int .u64 s2, .string s3, .string s4, .int .i64 s5, .int .i64 s6, .int .u64 s7, .int .u64 s8, .slice As ls.length cs])]) from hT.out.new [.int .i64 0, .int .i64 0, .string ⟨#[]⟩] 49); generalize w5.alloc (.cells #[.int .i64 0, .int .i64 0, .string ⟨#[]⟩] 49) = w6 at hT ⊢)
            | (refine wpList_load_at (by rfl) 40 _ rfl w1.heap.size 0 rfl [.int .u64 s0, .int .u64 s1, .int .u64 s2, .string s3, .string s4, .int .i64 s5, .int .i64 s6, .int .u64 s7, .int .u64 s8, .slice X ls.length dx] _ (row_at0 (hT.out.t.row (by simp))) Try.underlying40 rfl (by kernel_rfl) ?_))
      clear c7 c8
      go_loopg [11] (ls.length + 1) (fun kq v11 wr => ∃ i : Nat, v11 = .int .i64 (i : Int) ∧ i ≤ ls.length ∧ ls.length - i < kq ∧ Aside0 (Ow w w4 wr ((w5.heap.size, [.int .i64 0, .int .i64 0, .string ⟨#[]⟩]) :: [(w1.heap.size, [.int .u64 s0, .int .u64 s1, .int .u64 s2, .string s3, .string s4, .int .i64 s5, .int .i64 s6, .int .u64 s7, .int .u64 s8, .slice X ls.length dx]), (w.heap.size, [.int .u64 s0, .int .u64 s1, .int .u64 s2, .string s3, .string s4, .int .i64 s5, .int .i64 s6, .int .u64 s7, .int .u64 s8, .slice As ls.length cs])])))
      case atStart => exact ⟨0, rfl, Nat.zero_le _, by omega, hT⟩
      case round =>
        clear hT
        obtain ⟨i, rfl, hi, hkq, hT⟩ := hrel
        obtain ⟨k1, rfl⟩ : ∃ m, gk = m + 1 := ⟨gk - 1, by omega⟩
        have hi0 : (0 : Int) ≤ (i : Int) := by omega
        have ⟨s9, s9f⟩ := hT.out.t.row (g := w.heap.size) (cs := [.int .u64 s0, .int .u64 s1, .int .u64 s2, .string s3, .string s4, .int .i64 s5, .int .i64 s6, .int .u64 s7, .int .u64 s8, .slice As ls.length cs]) (by simp) 9 _ rfl
        by_cases hin : i < ls.length
        · have hinI : (i : Int) < (ls.length : Int) := by omega
          have hl4 := hl.out
          obtain ⟨ax, rfl, x0, x1, x2, x3⟩ := XSf.at_T63 (Kd.C_below hC.out hT.out.t.b) (i : Int) hi0 hinI
          rw [Oz.rd63 _ i hin, Int.toNat_natCast] at x0 x1 x2 x3
          have hnk := hno.out i hin
          have hee := toList_ne hnk
          have heb : (ls[i].f0.toList == key.toList) = false := by simpa using hee
          clear hnk
          generalize ls[i].f0 = q at x0 hee heb
          go_wp2
          go_roundg k1
          case measure => omega
          case rel => exact ⟨i + 1, by first | rfl | simp, by omega, by omega, hT⟩
        · have hinI : ¬ (i : Int) < (ls.length : Int) := by omega
          have ⟨d0, _⟩ := hT.out.t.row (g := w5.heap.size) (cs := [.int .i64 0, .int .i64 0, .string ⟨#[]⟩]) (by simp) 0 _ rfl
          go_wp2_with (first 
            | (refine wpList_load_at (by rfl) 40 _ rfl w1.heap.size 0 rfl [.int .u64 s0, .int .u64 s1, .int .u64 s2, .string s3, .string s4, .int .i64 s5, .int .i64 s6, .int .u64 s7, .int .u64 s8, .slice X ls.length dx] _ (row_at0 (hT.out.t.row (by simp))) Try.underlying40 rfl (by kernel_rfl) ?_)
            | (go_at_call 28; refine (took_n _ s0 s1 s2 s3 s4 s5 s6 s7 s8 (.slice X ls.length dx) _ hTk.out).mono ?_; rintro e w7 ⟨rfl, hb⟩; replace hT := Aside0.mk (hT.out.keep hb); clear hb))
          go_ret
          exact ⟨by first | rfl | simp, hT.out.t.b⟩
    | some v =>
      obtain ⟨i0, hi0L, hix, hvi⟩ := attr_some hv
      have hi0n := Aside0.mk (show i0 < ls.length by have := hLn.out; omega)
      have hmap : ∀ i, ∀ h : i < ls.length, L[i]'(by rw [hLn.out]; exact h) = av ls[i] := fun i h => by have e := hLd.out; subst e; rw [List.getElem_map]
      have hfi : (L.find? (fun y => decide (y.f0 = key))) = some L[i0] ∧ L[i0].f0 = key ∧ ∀ j, j < i0 → ∀ h : j < L.length, ¬ L[j].f0 = key := find_at hix hi0L
      have hat := Aside0.mk (show ∀ i, ∀ h : i < ls.length, i = i0 → ls[i].f0 = key ∧ ls[i].f1.f0 = v.f0 ∧ ls[i].f1.f1 = v.f1 ∧ ls[i].f1.f2 = v.f2 from fun i h e => by
        subst e
        have h1 := hfi.2.1
        have h2 := hvi
        rw [hmap i h] at h1 h2
        subst h2
        exact ⟨h1, rfl, rfl, rfl⟩)
      have hbef := Aside0.mk (show ∀ i, ∀ h : i < ls.length, i < i0 → ¬ ls[i].f0 = key from fun i h hlt e => by
        have h1 := hfi.2.2 i hlt (by rw [hLn.out]; exact h)
        rw [hmap i h] at h1
        exact h1 e)
      clear hfi hmap hvi hix hi0L
      replace hv := Aside0.mk hv
      go_wp2_with (first 
            | (go_at_call 33; refine (attr_w1 _ s0 s1 s2 s3 s4 s5 s6 s7 s8 X ls.length dx L key v hv.out (Kd.C_below hX.out hT.out.b) (by have := hl.out; omega)).mono ?_; rintro e w5 ⟨rfl, hb⟩; replace hT := Aside0.mk (hT.out.keep hb); clear hb)
            | (refine wpList_store_new w5 (by rfl) 49 _ _ rfl rfl _ #[.int .i64 v.f0, .int .i64 v.f1, .string v.f2] rfl (by kernel_rfl) (by kernel_rfl) (by kernel_rfl) ?_; have hz5 := Aside0.mk hT.out.b.size; replace hT := Aside0.mk (show Ow w w4 (w5.alloc (.cells #[.int .i64 v.f0, .int .i64 v.f1, .string v.f2] 49)) ((w5.heap.size, [.int .i64 v.f0, .int .i64 v.f1, .string v.f2]) :: [(w1.heap.size, [.int .u64 s0, .int .u64 s1, .int .u64 s2, .string s3, .string s4, .int .i64 s5, .int .i64 s6, .int .u64 s7, .int .u64 s8, .slice X ls.length dx]), (w.heap.size, [.int .u64 s0, .int .u64 s1, .int .u64 s2, .string s3, .string s4, .int .i64 s5, .int .i64 s6, .int .u64 s7, .int .u64 s8, .slice As ls.length cs])]) from hT.out.new [.int .i64 v.f0, .int .i64 v.f1, .string v.f2] 49); generalize w5.alloc (.cells #[.int .i64 v.f0, .int .i64 v.f1, .string v.f2] 49) = w6 at hT ⊢)
            | (refine wpList_load_at (by rfl) 40 _ rfl w1.heap.size 0 rfl [.int .u64 s0, .int .u64 s1, .int .u64 s2, .string s3, .string s4, .int .i64 s5, .int .i64 s6, .int .u64 s7, .int .u64 s8, .slice X ls.length dx] _ (row_at0 (hT.out.t.row (by simp))) Try.underlying40 rfl (by kernel_rfl) ?_))
      clear c7 c8
      go_loopg [11] (ls.length + 1) (fun kq v11 wr => ∃ i : Nat, v11 = .int .i64 (i : Int) ∧ i ≤ i0 ∧ ls.length - i < kq ∧ Aside0 (Ow w w4 wr ((w5.heap.size, [.int .i64 v.f0, .int .i64 v.f1, .string v.f2]) :: [(w1.heap.size, [.int .u64 s0, .int .u64 s1, .int .u64 s2, .string s3, .string s4, .int .i64 s5, .int .i64 s6, .int .u64 s7, .int .u64 s8, .slice X ls.length dx]), (w.heap.size, [.int .u64 s0, .int .u64 s1, .int .u64 s2, .string s3, .string s4, .int .i64 s5, .int .i64 s6, .int .u64 s7, .int .u64 s8, .slice As ls.length cs])])))
      case atStart => exact ⟨0, rfl, Nat.zero_le _, by omega, hT⟩
      case round =>
        clear hT
        obtain ⟨i, rfl, hi, hkq, hT⟩ := hrel
        obtain ⟨k1, rfl⟩ : ∃ m, gk = m + 1 := ⟨gk - 1, by omega⟩
        have hi0 : (0 : Int) ≤ (i : Int) := by omega
        have ⟨s9, s9f⟩ := hT.out.t.row (g := w.heap.size) (cs := [.int .u64 s0, .int .u64 s1, .int .u64 s2, .string s3, .string s4, .int .i64 s5, .int .i64 s6, .int .u64 s7, .int .u64 s8, .slice As ls.length cs]) (by simp) 9 _ rfl
        have hin : i < ls.length := by have := hi0n.out; omega
        have hinI : (i : Int) < (ls.length : Int) := by omega
        have hl4 := hl.out
        obtain ⟨ax, rfl, x0, x1, x2, x3⟩ := XSf.at_T63 (Kd.C_below hC.out hT.out.t.b) (i : Int) hi0 hinI
        rw [Oz.rd63 _ i hin, Int.toNat_natCast] at x0 x1 x2 x3
        by_cases he : i = i0
        · have hek := hat.out i hin he
          have hee : ls[i].f0.toList = key.toList := by rw [hek.1]
          have hval := Aside0.mk (show ∀ W, Below w.heap.size w W → W.cell? ⟨(ax.add (i * 4)).block, (ax.add (i * 4)).off + 1, none⟩ = some (.int .i64 v.f0) ∧ W.cell? ⟨(ax.add (i * 4)).block, (ax.add (i * 4)).off + 2, none⟩ = some (.int .i64 v.f1) ∧ W.cell? ⟨(ax.add (i * 4)).block, (ax.add (i * 4)).off + 3, none⟩ = some (.string v.f2) from fun W hb => by
            obtain ⟨ax2, e2, q0, q1, q2, q3⟩ := XSf.at_T63 (Kd.C_below hC.out hb) (i : Int) hi0 hinI
            obtain rfl := Option.some.inj e2
            rw [Oz.rd63 _ i hin, Int.toNat_natCast] at q0 q1 q2 q3
            rw [hek.2.1] at q1
            rw [hek.2.2.1] at q2
            rw [hek.2.2.2] at q3
            exact ⟨q1, q2, q3⟩)
          clear hek he x1 x2 x3
          generalize ls[i].f0 = q at x0 hee
          go_wp2
          clear x0 hee
          have hS := hT.out.drew
          refine start_ (n := 18) (S := fun W => Ow w w4 W ((w5.heap.size, [.int .i64 v.f0, .int .i64 v.f1, .string v.f2]) :: [(w1.heap.size, [.int .u64 s0, .int .u64 s1, .int .u64 s2, .string s3, .string s4, .int .i64 s5, .int .i64 s6, .int .u64 s7, .int .u64 s8, .slice X ls.length dx]), (w.heap.size, [.int .u64 s0, .int .u64 s1, .int .u64 s2, .string s3, .string s4, .int .i64 s5, .int .i64 s6, .int .u64 s7, .int .u64 s8, .slice (some ax) ls.length cs])])) (ds := []) #[false, false, false, false, false, false, false, false, false, false, false, false, false, false, false, false, false, false] (by kernel_rfl) rfl rfl hS (fun hHeld => ?_)
          clear hS
          refine pure_ (i := 0) (N := some 73) (v := ?_) (a' := ?_) #[true, false, false, false, false, false, false, false, false, false, false, false, false, false, false, false, false, false] rfl rfl (by kernel_rfl) (fun _ _ _ h => h) (Or.inl ⟨by rfl, ?_⟩) ?_ ?_
          rotate_left
          · intro w'
            go_simp
            with_reducible rfl
          rotate_left
          · simp only [Act.put, List.setIfInBounds_toArray, List.set_cons_zero, List.set_cons_succ, i64_w, i32_w]
            rfl
          refine pure_ (i := 1) (N := some 74) (v := ?_) (a' := ?_) #[true, true, false, false, false, false, false, false, false, false, false, false, false, false, false, false, false, false] rfl rfl (by kernel_rfl) (fun _ _ _ h => h) (Or.inl ⟨by rfl, ?_⟩) ?_ ?_
          rotate_left
          · intro w'
            go_simp
            with_reducible rfl
          rotate_left
          · simp only [Act.put, List.setIfInBounds_toArray, List.set_cons_zero, List.set_cons_succ, i64_w, i32_w]
            rfl
          refine pure_ (i := 3) (N := some 76) (v := ?_) (a' := ?_) #[true, true, false, true, false, false, false, false, false, false, false, false, false, false, false, false, false, false] rfl rfl (by kernel_rfl) (fun _ _ _ h => h) (Or.inl ⟨by rfl, ?_⟩) ?_ ?_
          rotate_left
          · intro w'
            go_simp
            with_reducible rfl
          rotate_left
          · simp only [Act.put, List.setIfInBounds_toArray, List.set_cons_zero, List.set_cons_succ, i64_w, i32_w]
            rfl
          refine pure_ (i := 5) (N := some 78) (v := ?_) (a' := ?_) #[true, true, false, true, false, true, false, false, false, false, false, false, false, false, false, false, false, false] rfl rfl (by kernel_rfl) (fun _ _ _ h => h) (Or.inl ⟨by rfl, ?_⟩) ?_ ?_
          rotate_left
          · intro w'
            go_simp
            with_reducible rfl
          rotate_left
          · simp only [Act.put, List.setIfInBounds_toArray, List.set_cons_zero, List.set_cons_succ, i64_w, i32_w]
            rfl
          refine take_ (i := 2) (N := some 75) (v := .agg #[.int .i64 v.f0, .int .i64 v.f1, .string v.f2]) (a' := ?_) #[true, true, true, true, false, true, false, false, false, false, false, false, false, false, false, false, false, false] rfl rfl (by kernel_rfl) (fun _ _ _ h => h) (Or.inl ⟨by rfl, ?_⟩) hHeld ?_ ?_
          · rintro w' h
            exact exec_load_at 49 (.tmp 9) rfl w5.heap.size 0 rfl [.int .i64 v.f0, .int .i64 v.f1, .string v.f2] _ (row_at0 (h.t.row (by simp))) Try.underlying49 rfl (by kernel_rfl)
          rotate_left
          · simp only [Act.put, List.setIfInBounds_toArray, List.set_cons_zero, List.set_cons_succ, i64_w, i32_w]
            rfl
          refine take_ (i := 4) (N := some 77) (v := ?_) (a' := ?_) #[true, true, true, true, true, true, false, false, false, false, false, false, false, false, false, false, false, false] rfl rfl (by kernel_rfl) (fun _ _ _ h => h) (Or.inl ⟨by rfl, ?_⟩) hHeld ?_ ?_
          rotate_left
          · rintro w' h
            have hq := (h.t.row (g := w.heap.size) (cs := [.int .u64 s0, .int .u64 s1, .int .u64 s2, .string s3, .string s4, .int .i64 s5, .int .i64 s6, .int .u64 s7, .int .u64 s8, .slice (some ax) ls.length cs]) (by simp) 9 _ rfl).1
            go_simp
            with_reducible rfl
          rotate_left
          · simp only [Act.put, List.setIfInBounds_toArray, List.set_cons_zero, List.set_cons_succ, i64_w, i32_w]
            rfl
          refine pure_ (i := 6) (N := some 79) (v := ?_) (a' := ?_) #[true, true, true, true, true, true, true, false, false, false, false, false, false, false, false, false, false, false] rfl rfl (by kernel_rfl) (fun _ _ _ h => h) (Or.inl ⟨by rfl, ?_⟩) ?_ ?_
          rotate_left
          · intro w'
            refine exec_index63 (.tmp 77) (.tmp 78) ?_ ax ls.length cs i ?_ ?_ hin
            · rfl
            · rfl
            · rfl
          rotate_left
          · simp only [Act.put, List.setIfInBounds_toArray, List.set_cons_zero, List.set_cons_succ, i64_w, i32_w]
            rfl
          refine pure_ (i := 7) (N := some 80) (v := ?_) (a' := ?_) #[true, true, true, true, true, true, true, true, false, false, false, false, false, false, false, false, false, false] rfl rfl (by kernel_rfl) (fun _ _ _ h => h) (Or.inl ⟨by rfl, ?_⟩) ?_ ?_
          rotate_left
          · intro w'
            go_simp
            with_reducible rfl
          rotate_left
          · simp only [Act.put, List.setIfInBounds_toArray, List.set_cons_zero, List.set_cons_succ, i64_w, i32_w]
            rfl
          refine take_ (i := 8) (N := some 81) (v := ?_) (a' := ?_) #[true, true, true, true, true, true, true, true, true, false, false, false, false, false, false, false, false, false] rfl rfl (by kernel_rfl) (fun _ _ _ h => h) (Or.inl ⟨by rfl, ?_⟩) hHeld ?_ ?_
          rotate_left
          · rintro w' h
            have ⟨h1, h2, h3⟩ := hval.out w' h.t.b
            go_simp
            with_reducible rfl
          rotate_left
          · simp only [Act.put, List.setIfInBounds_toArray, List.set_cons_zero, List.set_cons_succ, i64_w, i32_w]
            rfl
          refine pure_ (i := 9) (N := some 82) (v := ?_) (a' := ?_) #[true, true, true, true, true, true, true, true, true, true, false, false, false, false, false, false, false, false] rfl rfl (by kernel_rfl) (fun _ _ _ h => h) (Or.inl ⟨by rfl, ?_⟩) ?_ ?_
          rotate_left
          · intro w'
            go_simp
            with_reducible rfl
          rotate_left
          · simp only [Act.put, List.setIfInBounds_toArray, List.set_cons_zero, List.set_cons_succ, i64_w, i32_w]
            rfl
          refine pure_ (i := 10) (N := some 83) (v := ?_) (a' := ?_) #[true, true, true, true, true, true, true, true, true, true, true, false, false, false, false, false, false, false] rfl rfl (by kernel_rfl) (fun _ _ _ h => h) (Or.inl ⟨by rfl, ?_⟩) ?_ ?_
          rotate_left
          · intro w'
            go_simp
            with_reducible rfl
          rotate_left
          · simp only [Act.put, List.setIfInBounds_toArray, List.set_cons_zero, List.set_cons_succ, i64_w, i32_w]
            rfl
          refine pure_ (i := 11) (N := some 84) (v := ?_) (a' := ?_) #[true, true, true, true, true, true, true, true, true, true, true, true, false, false, false, false, false, false] rfl rfl (by kernel_rfl) (fun _ _ _ h => h) (Or.inl ⟨by rfl, ?_⟩) ?_ ?_
          rotate_left
          · intro w'
            go_simp
            with_reducible rfl
          rotate_left
          · simp only [Act.put, List.setIfInBounds_toArray, List.set_cons_zero, List.set_cons_succ, i64_w, i32_w]
            rfl
          refine pure_ (i := 14) (N := some 87) (v := ?_) (a' := ?_) #[true, true, true, true, true, true, true, true, true, true, true, true, false, false, true, false, false, false] rfl rfl (by kernel_rfl) (fun _ _ _ h => h) (Or.inl ⟨by rfl, ?_⟩) ?_ ?_
          rotate_left
          · intro w'
            go_simp
            with_reducible rfl
          rotate_left
          · simp only [Act.put, List.setIfInBounds_toArray, List.set_cons_zero, List.set_cons_succ, i64_w, i32_w]
            rfl
          refine take_ (i := 12) (N := some 85) (v := .agg #[.int .u64 s0, .int .u64 s1, .int .u64 s2, .string s3, .string s4, .int .i64 s5, .int .i64 s6, .int .u64 s7, .int .u64 s8, .slice X ls.length dx]) (a' := ?_) #[true, true, true, true, true, true, true, true, true, true, true, true, true, false, true, false, false, false] rfl rfl (by kernel_rfl) (fun _ _ _ h => h) (Or.inl ⟨by rfl, ?_⟩) hHeld ?_ ?_
          · rintro w' h
            exact exec_load_at 40 (.tmp 7) rfl w1.heap.size 0 rfl [.int .u64 s0, .int .u64 s1, .int .u64 s2, .string s3, .string s4, .int .i64 s5, .int .i64 s6, .int .u64 s7, .int .u64 s8, .slice X ls.length dx] _ (row_at0 (h.t.row (by simp))) Try.underlying40 rfl (by kernel_rfl)
          rotate_left
          · simp only [Act.put, List.setIfInBounds_toArray, List.set_cons_zero, List.set_cons_succ, i64_w, i32_w]
            rfl
          refine one_ (i := 13) (N := some 86) #[true, true, true, true, true, true, true, true, true, true, true, true, true, true, true, false, false, false] rfl rfl (by kernel_rfl) (by decide) (fun K hK => ?_)
          refine goes_ Try.func28 (by kernel_rfl) rfl #[.agg #[.int .u64 s0, .int .u64 s1, .int .u64 s2, .string s3, .string s4, .int .i64 s5, .int .i64 s6, .int .u64 s7, .int .u64 s8, .slice X ls.length dx]] (by rfl) rfl rfl (by (try simp only [List.map_toArray, List.map_cons, List.map_nil]); first | done | rfl) ?_
          refine (took_n _ s0 s1 s2 s3 s4 s5 s6 s7 s8 (.slice X ls.length dx) _ hTk.out).mono ?_
          rintro e w' ⟨rfl, hb⟩
          have hH2 := Aside0.mk (hHeld.keep hb)
          clear hb
          refine ⟨_, rfl, ?_⟩
          refine hK.out _ _ (hH2.out) (fun hHeld => ?_)
          clear hK K
          refine norm_ (a' := ?_) ?_ ?_
          rotate_left
          · show Act.put _ (some 86) _ = _
            simp only [Act.put, List.setIfInBounds_toArray, List.set_cons_zero, List.set_cons_succ, i64_w, i32_w]
            rfl
          refine pure_ (i := 15) (N := some 88) (v := ?_) (a' := ?_) #[true, true, true, true, true, true, true, true, true, true, true, true, true, true, true, true, false, false] rfl rfl (by kernel_rfl) (fun _ _ _ h => h) (Or.inl ⟨by rfl, ?_⟩) ?_ ?_
          rotate_left
          · intro w'
            go_simp
            first | with_reducible rfl | rw [show (T == T) = true by simp] | rw [show ((0 : Int) == 0) = true from rfl]
          rotate_left
          · simp only [Act.put, List.setIfInBounds_toArray, List.set_cons_zero, List.set_cons_succ, i64_w, i32_w]
            rfl
          refine pure_ (i := 16) (N := some 89) (v := ?_) (a' := ?_) #[true, true, true, true, true, true, true, true, true, true, true, true, true, true, true, true, true, false] rfl rfl (by kernel_rfl) (fun _ _ _ h => h) (Or.inl ⟨by rfl, ?_⟩) ?_ ?_
          rotate_left
          · intro w'
            go_simp
            with_reducible rfl
          rotate_left
          · simp only [Act.put, List.setIfInBounds_toArray, List.set_cons_zero, List.set_cons_succ, i64_w, i32_w]
            rfl
          refine pure_ (i := 17) (N := some 6) (v := ?_) (a' := ?_) #[true, true, true, true, true, true, true, true, true, true, true, true, true, true, true, true, true, true] rfl rfl (by kernel_rfl) (fun _ _ _ h => h) (Or.inl ⟨by rfl, ?_⟩) ?_ ?_
          rotate_left
          · intro w'
            go_simp
            with_reducible rfl
          rotate_left
          · simp only [Act.put, List.setIfInBounds_toArray, List.set_cons_zero, List.set_cons_succ, i64_w, i32_w]
            rfl
          refine done_ (by kernel_rfl) ?_
          replace hT := Aside0.mk hHeld
          clear hHeld
          go_wp2
          go_ret
          exact ⟨by first | rfl | simp, hT.out.t.b⟩
        · have hnk := hbef.out i hin (by omega)
          have hee := toList_ne hnk
          have heb : (ls[i].f0.toList == key.toList) = false := by simpa using hee
          clear hnk
          generalize ls[i].f0 = q at x0 hee heb
          go_wp2
          go_roundg k1
          case measure => omega
          case rel => exact ⟨i + 1, by first | rfl | simp, by omega, by omega, hT⟩
end Go.Proofs.Ytllepjhimkogjaa.Ck
