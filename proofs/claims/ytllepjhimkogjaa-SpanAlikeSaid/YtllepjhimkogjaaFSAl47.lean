/- The law's proof, part 47: the text Oal of this session, or words printed for this seat; what the theorem doesn't use is left out. No conditions. -/
import Derived.Test.YtllepjhimkogjaaFSAl46
namespace Go.Proofs.Ytllepjhimkogjaa.Ix
end Go.Proofs.Ytllepjhimkogjaa.Ix
namespace Go.Proofs.Ytllepjhimkogjaa.Ob
end Go.Proofs.Ytllepjhimkogjaa.Ob
namespace Go.Proofs.Ytllepjhimkogjaa.Rw
end Go.Proofs.Ytllepjhimkogjaa.Rw
namespace Go.Proofs.Ytllepjhimkogjaa.Sk
end Go.Proofs.Ytllepjhimkogjaa.Sk
namespace Go.Proofs.Ytllepjhimkogjaa.Sw
end Go.Proofs.Ytllepjhimkogjaa.Sw
namespace Go.Proofs.Ytllepjhimkogjaa.Two
end Go.Proofs.Ytllepjhimkogjaa.Two
namespace Go.Proofs.YtllepjhimkogjaaW.PrintLast
end Go.Proofs.YtllepjhimkogjaaW.PrintLast
namespace Go.Proofs.YtllepjhimkogjaaW.PrintMore
end Go.Proofs.YtllepjhimkogjaaW.PrintMore
namespace Go.Proofs.YtllepjhimkogjaaW.PrintWords
end Go.Proofs.YtllepjhimkogjaaW.PrintWords
namespace Go.Proofs.Ytllepjhimkogjaa.Ck
open Go.RowKit Go.Proofs.YtllepjhimkogjaaW.PrintWords Go.Proofs.YtllepjhimkogjaaW.PrintLast
open Go.Proofs.Ytllepjhimkogjaa.Ob Go.Proofs.Ytllepjhimkogjaa.Two Go.Proofs.Ytllepjhimkogjaa.Sk Go.Proofs.YtllepjhimkogjaaW.PrintMore
set_option linter.unusedSimpArgs false
set_option linter.unusedVariables false
open Go.Proofs.Ytllepjhimkogjaa.Sw Go.Proofs.Ytllepjhimkogjaa.Ix
open Go.Proofs.Ytllepjhimkogjaa.Rw (srtL srtL_length srtL_mem srtL_find srtL_ord srtL_id)
theorem alike_y (w : World) (s0 s1 s2 : Int) (s3 s4 : ByteArray) (s5 s6 s7 s8 : Int) (A : Option Addr) (c : Nat) (l : List E) (k : Nat) (hk : l.length = k) (m : Int) (y3 y4 : ByteArray) (e3 : Lb.lab s3 m = y3) (e4 : Lb.lab s4 m = y4) (hC : Kd.C K51 w A k l) (hc : k ≤ c) (hl : k ≤ 40) (h3 : s3.size ≤ 5000) (h4 : s4.size ≤ 5000) :
    Calls Try.prog 27 #[.agg #[.int .u64 s0, .int .u64 s1, .int .u64 s2, .string s3, .string s4, .int .i64 s5, .int .i64 s6, .int .u64 s7, .int .u64 s8, .slice A k c], .int .i64 m] w fun e w' => ∃ V d, e = .returned (.agg #[.int .u64 s0, .int .u64 s1, .int .u64 s2, .string y3, .string y4, .int .i64 s5, .int .i64 s6, .int .u64 s7, .int .u64 s8, .slice V k d]) ∧ k ≤ d ∧ Kd.C K51 w' V k (srtL l) ∧ Below w.heap.size w w' := by
  subst e3 e4
  refine (alike_w3 w s0 s1 s2 s3 s4 s5 s6 s7 s8 A c l k hk m hC hc hl h3 h4).mono ?_
  rintro e w' ⟨V, d, rfl, hO, hb⟩
  have hL : (srtL l).length = k := by rw [srtL_length]; exact hk
  have hR := hO.reads (by omega)
  rw [hL] at hR
  exact ⟨V, d, rfl, by have := hO.1; omega, hR, hb⟩
structure Ow (w W2 W : World) (L : List (Nat × List Value)) : Prop where
  t : Bx w W L
  b : Below W2.heap.size W2 W
theorem Ow.keep {w W2 W W' : World} {L : List (Nat × List Value)} (h : Ow w W2 W L) (k : Below W.heap.size W W') : Ow w W2 W' L := ⟨h.t.keep k, h.b.trans (k.mono h.b.size)⟩
theorem Ow.drewN {w W2 W : World} {L : List (Nat × List Value)} (h : Ow w W2 W L) (n : Nat) : Ow w W2 (W.drewN n) L := h.keep ⟨rfl, rfl, rfl, Nat.le_refl _, fun _ _ => rfl⟩
theorem Ow.drew {w W2 W : World} {L : List (Nat × List Value)} (h : Ow w W2 W L) : Ow w W2 W.drew L := h.keep ⟨rfl, rfl, rfl, Nat.le_refl _, fun _ _ => rfl⟩
theorem Ow.new {w W2 W : World} {L : List (Nat × List Value)} (h : Ow w W2 W L) (cs : List Value) (t : TypeId) : Ow w W2 (W.alloc (.cells cs.toArray t)) ((W.heap.size, cs) :: L) := ⟨h.t.new cs t, h.b.alloc h.b.size _⟩
theorem Ow.rest {w W2 W : World} {p : Nat × List Value} {L : List (Nat × List Value)} (h : Ow w W2 W (p :: L)) : Ow w W2 W L := ⟨h.t.sub (fun q hq => List.mem_cons_of_mem _ hq), h.b⟩
theorem Ow.set3 {w W2 W : World} {g : Nat} {L : List (Nat × List Value)} {a b c : Value} (h : Ow w W2 W ((g, [a, b, c]) :: L)) (hg : W2.heap.size ≤ g) (hL : ∀ p ∈ L, p.1 ≠ g) (a' b' c' : Value) :
    Ow w W2 (((W.setCell ⟨g, 0, none⟩ a').setCell ⟨g, 1, none⟩ b').setCell ⟨g, 2, none⟩ c') ((g, [a', b', c']) :: L) := by
  have hr := (h.t.r (g, [a, b, c]) (by simp))
  have ho : Only (fun q => q = g) W (((W.setCell ⟨g, 0, none⟩ a').setCell ⟨g, 1, none⟩ b').setCell ⟨g, 2, none⟩ c') := (((Only.refl (fun q => q = g) W).setCell ⟨g, 0, none⟩ _ rfl).setCell ⟨g, 1, none⟩ _ rfl).setCell ⟨g, 2, none⟩ _ rfl
  have h1 : Bx w (((W.setCell ⟨g, 0, none⟩ a').setCell ⟨g, 1, none⟩ b').setCell ⟨g, 2, none⟩ c') L := (h.t.sub (fun q hq => List.mem_cons_of_mem _ hq)).only ho (fun q hq => by have e : q = g := hq; rw [e]; exact hr.1) (fun p hp e => hL p hp e)
  refine ⟨⟨h1.b, fun p hp => ?_⟩, ((h.b.setCell hg _).setCell hg _).setCell hg _⟩
  rcases List.mem_cons.1 hp with rfl | hp
  · exact ⟨hr.1, Nat.lt_of_lt_of_le hr.2.1 ho.size, ((hr.2.2.set 0 a').set 1 b').set 2 c'⟩
  · exact h1.r p hp
attribute [local go_sem] Go.Proofs.Ytllepjhimkogjaa.Sb.gtr_string
attribute [local go_sem high] eqA49
set_option maxHeartbeats 32000000 in
set_option maxRecDepth 1000000 in
theorem alike_law (w : World) (s0 s1 s2 : Int) (s3 s4 : ByteArray) (s5 s6 s7 s8 : Int) (As : Option Addr) (cs : Nat) (ls : List XSf.S63) (p : Int) (hp : 0 ≤ p ∧ p ≤ 255) (hC : Kd.C XSf.k63 w As ls.length ls) (hc : ls.length ≤ cs) :
    Calls Try.prog 9 #[.agg #[.int .u64 s0, .int .u64 s1, .int .u64 s2, .string s3, .string s4, .int .i64 s5, .int .i64 s6, .int .u64 s7, .int .u64 s8, .slice As ls.length cs], .int .u8 p] w fun e w' => e = .returned (.bool true) ∧ Below w.heap.size w w' := by
  replace hC := Aside0.mk hC
  replace hc := Aside0.mk hc
  obtain ⟨r, hf, hn⟩ := far_f2 s0 s1 s2 s3 s4 s5 s6 s7 s8 ls
  replace hf := Aside0.mk hf
  have hT := Aside0.mk ((Bx.start w).new [.int .u64 s0, .int .u64 s1, .int .u64 s2, .string s3, .string s4, .int .i64 s5, .int .i64 s6, .int .u64 s7, .int .u64 s8, .slice As ls.length cs] 37)
  obtain ⟨hp0, hp1⟩ := hp
  cases r with
  | true =>
    clear hn
    go_enter Try.func9, Try.ntmps9
    go_wp2_with (first 
      | (go_at_call 26; refine (Oa.alive_w _).mono ?_; rintro e wa ⟨rfl, hb1⟩; replace hT := Aside0.mk (hT.out.keep hb1); clear hb1)
      | (go_at_call 20; refine (XSf.tallyroomlaw06_Far.calls 60 s0 s1 s2 s3 s4 s5 s6 s7 s8 As cs ls _ _ (Kd.C_below hC.out hT.out.b) hc.out hf.out).mono ?_; rintro e wf ⟨rfl, hb1⟩; replace hT := Aside0.mk (hT.out.keep hb1); clear hb1)
      | (refine wpList_load_at (by rfl) 37 _ rfl w.heap.size 0 rfl [.int .u64 s0, .int .u64 s1, .int .u64 s2, .string s3, .string s4, .int .i64 s5, .int .i64 s6, .int .u64 s7, .int .u64 s8, .slice As ls.length cs] _ (row_at0 (hT.out.row (by simp))) Try.underlying37 rfl (by kernel_rfl) ?_))
    go_ret
    exact ⟨by first | rfl | simp, hT.out.b⟩
  | false =>
  obtain ⟨hl, hs3, hs4, hkey⟩ := hn rfl
  clear hn
  replace hs3 := Aside0.mk hs3
  replace hs4 := Aside0.mk hs4
  obtain ⟨m, hm⟩ : ∃ m, 1 + p = m := ⟨_, rfl⟩
  have hm1 : 1 ≤ m := by omega
  have hm2 : m ≤ 256 := by omega
  obtain ⟨y3, hy3⟩ : ∃ t, Lb.lab s3 m = t := ⟨_, rfl⟩
  obtain ⟨y4, hy4⟩ : ∃ t, Lb.lab s4 m = t := ⟨_, rfl⟩
  obtain ⟨L, hLd⟩ : ∃ L, ls.map av = L := ⟨_, rfl⟩
  have hLn := Aside0.mk (show L.length = ls.length by rw [← hLd, List.length_map])
  have hSn := Aside0.mk (show (srtL L).length = ls.length by rw [srtL_length, hLn.out])
  have hss := Aside0.mk (show srtL (srtL L) = srtL L from srtL_id _ (srtL_ord _))
  have hyy3 := Aside0.mk (show Lb.lab y3 m = y3 by rw [← hy3]; exact Lb.lab_lab _ _ hm1)
  have hyy4 := Aside0.mk (show Lb.lab y4 m = y4 by rw [← hy4]; exact Lb.lab_lab _ _ hm1)
  have hz3 := Aside0.mk (show (y3.size : Int) ≤ m by rw [← hy3]; exact (Lb.lab_size _ _ hm1).1)
  have hz4 := Aside0.mk (show (y4.size : Int) ≤ m by rw [← hy4]; exact (Lb.lab_size _ _ hm1).1)
  have hkL := Aside0.mk (show ∀ x ∈ L, x.f0.size ≤ 1000000 from fun x hx => by
    rw [← hLd] at hx
    obtain ⟨z, hz, rfl⟩ := List.mem_map.1 hx
    have := (hkey z hz).1
    show z.f0.size ≤ _; omega)
  have hkS := Aside0.mk (show ∀ x ∈ srtL L, x.f0.size ≤ 1000000 from fun x hx => hkL.out x ((srtL_mem L x).1 hx))
  obtain ⟨ev, hev⟩ : ∃ ev, check s0 s1 s3 s4 s5 s6 s7 s8 L = ev := ⟨_, rfl⟩
  have hevr := Aside0.mk (show ev = 0 ∨ (50 ≤ ev ∧ ev ≤ 55) by rw [← hev]; exact check_range ..)
  have hev0 := Aside0.mk (show ev = 0 → check s0 s1 y3 y4 s5 s6 s7 s8 (srtL L) = 0 from fun h => by
    rw [← hy3, ← hy4]
    exact check_alike m hm1 (by omega) (by rw [hev, h]))
  replace hev := Aside0.mk hev
  replace hy3 := Aside0.mk hy3
  replace hy4 := Aside0.mk hy4
  replace hl := Aside0.mk hl
  replace hLd := Aside0.mk hLd
  replace hkey := Aside0.mk hkey
  go_enter Try.func9, Try.ntmps9
  go_wp2_with (first 
      | (go_at_call 26; refine (Oa.alive_w _).mono ?_; rintro e wa ⟨rfl, hb1⟩; replace hT := Aside0.mk (hT.out.keep hb1); clear hb1)
      | (go_at_call 20; refine (XSf.tallyroomlaw06_Far.calls 60 s0 s1 s2 s3 s4 s5 s6 s7 s8 As cs ls _ _ (Kd.C_below hC.out hT.out.b) hc.out hf.out).mono ?_; rintro e wf ⟨rfl, hb1⟩; replace hT := Aside0.mk (hT.out.keep hb1); clear hb1)
      | (go_at_call 21; refine (of_w3 _ s0 s1 s2 s3 s4 s5 s6 s7 s8 As cs ls (Kd.C_below hC.out hT.out.b) hc.out hl.out).mono ?_; rintro e w1 ⟨X, dx, rfl, hdx, hX, hb1⟩; rw [hLd.out] at hX; replace hT := Aside0.mk (hT.out.keep hb1); replace hX := Aside0.mk hX; replace hdx := Aside0.mk hdx; clear hb1)
      | (go_at_call 27; refine (alike_y _ s0 s1 s2 s3 s4 s5 s6 s7 s8 X dx L _ hLn.out m y3 y4 hy3.out hy4.out hX.out hdx.out hl.out hs3.out hs4.out).mono ?_; rintro e w3 ⟨Y, dy, rfl, hdy, hY, hb1⟩; replace hT := Aside0.mk (hT.out.keep hb1); replace hY := Aside0.mk hY; replace hdy := Aside0.mk hdy; clear hX hdx hb1)
      | (refine wpList_store_new w3 (by rfl) 40 _ _ rfl rfl _ #[.int .u64 s0, .int .u64 s1, .int .u64 s2, .string y3, .string y4, .int .i64 s5, .int .i64 s6, .int .u64 s7, .int .u64 s8, .slice Y ls.length dy] rfl (by kernel_rfl) (by kernel_rfl) (by kernel_rfl) ?_; replace hT := Aside0.mk (show Bx w (w3.alloc (.cells #[.int .u64 s0, .int .u64 s1, .int .u64 s2, .string y3, .string y4, .int .i64 s5, .int .i64 s6, .int .u64 s7, .int .u64 s8, .slice Y ls.length dy] 40)) _ from hT.out.new [.int .u64 s0, .int .u64 s1, .int .u64 s2, .string y3, .string y4, .int .i64 s5, .int .i64 s6, .int .u64 s7, .int .u64 s8, .slice Y ls.length dy] 40); replace hY := Aside0.mk (Kd.C_below hY.out ((Below.refl _ w3).alloc (Nat.le_refl _) (.cells #[.int .u64 s0, .int .u64 s1, .int .u64 s2, .string y3, .string y4, .int .i64 s5, .int .i64 s6, .int .u64 s7, .int .u64 s8, .slice Y ls.length dy] 40))); generalize w3.alloc (.cells #[.int .u64 s0, .int .u64 s1, .int .u64 s2, .string y3, .string y4, .int .i64 s5, .int .i64 s6, .int .u64 s7, .int .u64 s8, .slice Y ls.length dy] 40) = w4 at hT hY ⊢; have hz := Aside0.mk (show w3.heap.size < w4.heap.size ∧ w.heap.size < w4.heap.size from ⟨(hT.out.r (w3.heap.size, [.int .u64 s0, .int .u64 s1, .int .u64 s2, .string y3, .string y4, .int .i64 s5, .int .i64 s6, .int .u64 s7, .int .u64 s8, .slice Y ls.length dy]) (by simp)).2.1, (hT.out.r (w.heap.size, [.int .u64 s0, .int .u64 s1, .int .u64 s2, .string s3, .string s4, .int .i64 s5, .int .i64 s6, .int .u64 s7, .int .u64 s8, .slice As ls.length cs]) (by simp)).2.1⟩); replace hT := Aside0.mk (show Ow w w4 w4 _ from ⟨hT.out, Below.refl _ _⟩))
      | (refine wpList_load_at (by rfl) 37 _ rfl w.heap.size 0 rfl [.int .u64 s0, .int .u64 s1, .int .u64 s2, .string s3, .string s4, .int .i64 s5, .int .i64 s6, .int .u64 s7, .int .u64 s8, .slice As ls.length cs] _ (row_at0 (hT.out.row (by simp))) Try.underlying37 rfl (by kernel_rfl) ?_))
  have hl40 := Aside0.mk hl.out
  have hS := hT.out.drew
  refine start_ (n := 40) (S := fun W => Ow w w4 W [(w3.heap.size, [.int .u64 s0, .int .u64 s1, .int .u64 s2, .string y3, .string y4, .int .i64 s5, .int .i64 s6, .int .u64 s7, .int .u64 s8, .slice Y ls.length dy]), (w.heap.size, [.int .u64 s0, .int .u64 s1, .int .u64 s2, .string s3, .string s4, .int .i64 s5, .int .i64 s6, .int .u64 s7, .int .u64 s8, .slice As ls.length cs])]) (ds := []) #[false, false, false, false, false, false, false, false, false, false, false, false, false, false, false, false, false, false, false, false, false, false, false, false, false, false, false, false, false, false, false, false, false, false, false, false, false, false, false, false] (by kernel_rfl) rfl rfl hS (fun hHeld => ?_)
  clear hS
  refine take_ (i := 0) (N := some 28) (v := .agg #[.int .u64 s0, .int .u64 s1, .int .u64 s2, .string s3, .string s4, .int .i64 s5, .int .i64 s6, .int .u64 s7, .int .u64 s8, .slice As ls.length cs]) (a' := ?_) #[true, false, false, false, false, false, false, false, false, false, false, false, false, false, false, false, false, false, false, false, false, false, false, false, false, false, false, false, false, false, false, false, false, false, false, false, false, false, false, false] rfl rfl (by kernel_rfl) (fun _ _ _ h => h) (Or.inl ⟨by rfl, ?_⟩) hHeld ?_ ?_
  · rintro w' h
    exact exec_load_at 37 (.tmp 2) rfl w.heap.size 0 rfl [.int .u64 s0, .int .u64 s1, .int .u64 s2, .string s3, .string s4, .int .i64 s5, .int .i64 s6, .int .u64 s7, .int .u64 s8, .slice As ls.length cs] _ (row_at0 (h.t.row (by simp))) Try.underlying37 rfl (by kernel_rfl)
  rotate_left
  · simp only [Act.put, List.setIfInBounds_toArray, List.set_cons_zero, List.set_cons_succ, i64_w, i32_w]
    rfl
  refine one_ (i := 1) (N := some 29) #[true, true, false, false, false, false, false, false, false, false, false, false, false, false, false, false, false, false, false, false, false, false, false, false, false, false, false, false, false, false, false, false, false, false, false, false, false, false, false, false] rfl rfl (by kernel_rfl) (by decide) (fun K hK => ?_)
  refine goes_ Try.func21 (by kernel_rfl) rfl #[.agg #[.int .u64 s0, .int .u64 s1, .int .u64 s2, .string s3, .string s4, .int .i64 s5, .int .i64 s6, .int .u64 s7, .int .u64 s8, .slice As ls.length cs]] (by rfl) rfl rfl (by (try simp only [List.map_toArray, List.map_cons, List.map_nil]); first | done | rfl) ?_
  refine (of_w3 _ s0 s1 s2 s3 s4 s5 s6 s7 s8 As cs ls (Kd.C_below hC.out hHeld.t.b) hc.out hl.out).mono ?_
  rintro e w' ⟨X2, d2, rfl, hd2, hO, hb⟩
  rw [hLd.out] at hO
  replace hO := Aside0.mk hO
  replace hd2 := Aside0.mk hd2
  have hH2 := Aside0.mk (hHeld.keep hb)
  clear hb
  refine ⟨_, rfl, ?_⟩
  refine hK.out _ _ (hH2.out) (fun hHeld => ?_)
  clear hK K
  refine norm_ (a' := ?_) ?_ ?_
  rotate_left
  · show Act.put _ (some 29) _ = _
    simp only [Act.put, List.setIfInBounds_toArray, List.set_cons_zero, List.set_cons_succ, i64_w, i32_w]
    rfl
  refine one_ (i := 2) (N := some 30) #[true, true, true, false, false, false, false, false, false, false, false, false, false, false, false, false, false, false, false, false, false, false, false, false, false, false, false, false, false, false, false, false, false, false, false, false, false, false, false, false] rfl rfl (by kernel_rfl) (by decide) (fun K hK => ?_)
  refine goes_ Try.func30 (by kernel_rfl) rfl #[.agg #[.int .u64 s0, .int .u64 s1, .int .u64 s2, .string s3, .string s4, .int .i64 s5, .int .i64 s6, .int .u64 s7, .int .u64 s8, .slice X2 ls.length d2]] (by rfl) rfl rfl (by (try simp only [List.map_toArray, List.map_cons, List.map_nil]); first | done | rfl) ?_
  refine (check_w _ s0 s1 s2 s3 s4 s5 s6 s7 s8 X2 ls.length d2 L ev hev.out hO.out (by have := hl.out; omega) hd2.out hkL.out).mono ?_
  rintro e w' ⟨rfl, hb⟩
  have hH2 := Aside0.mk (hHeld.keep hb)
  clear hb hO hd2
  refine ⟨_, rfl, ?_⟩
  refine hK.out _ _ (hH2.out) (fun hHeld => ?_)
  clear hK K
  refine norm_ (a' := ?_) ?_ ?_
  rotate_left
  · show Act.put _ (some 30) _ = _
    simp only [Act.put, List.setIfInBounds_toArray, List.set_cons_zero, List.set_cons_succ, i64_w, i32_w]
    rfl
  refine join_ (σ := Value × Value × Value × Value × Value) 31 #[true, true, true, true, true, true, true, true, true, false, false, false, false, false, false, false, false, false, false, false, false, false, false, false, false, false, false, false, false, false, false, false, false, false, false, false, false, false, false, false] (fun s_ => [(31, s_.1), (32, s_.2.1), (33, s_.2.2.1), (34, s_.2.2.2.1), (35, s_.2.2.2.2), (36, .bool false)]) (fun _ w' => Ow w w4 w' [(w3.heap.size, [.int .u64 s0, .int .u64 s1, .int .u64 s2, .string y3, .string y4, .int .i64 s5, .int .i64 s6, .int .u64 s7, .int .u64 s8, .slice Y ls.length dy]), (w.heap.size, [.int .u64 s0, .int .u64 s1, .int .u64 s2, .string s3, .string s4, .int .i64 s5, .int .i64 s6, .int .u64 s7, .int .u64 s8, .slice As ls.length cs])]) ?_ ?_
  · rintro ⟨v31, v32, v33, v34, v35⟩ W hHeld
    refine norm_ (a' := ?_) ?_ ?_
    rotate_left
    · simp only [putAll, Act.put, List.setIfInBounds_toArray, List.set_cons_zero, List.set_cons_succ]
      rfl
    refine pure_ (i := 9) (N := some 37) (v := ?_) (a' := ?_) #[true, true, true, true, true, true, true, true, true, true, false, false, false, false, false, false, false, false, false, false, false, false, false, false, false, false, false, false, false, false, false, false, false, false, false, false, false, false, false, false] rfl rfl (by kernel_rfl) (fun _ _ _ h => h) (Or.inl ⟨by rfl, ?_⟩) ?_ ?_
    rotate_left
    · intro w'
      go_simp
      with_reducible rfl
    rotate_left
    · simp only [Act.put, List.setIfInBounds_toArray, List.set_cons_zero, List.set_cons_succ, i64_w, i32_w]
      rfl
    refine pure_ (i := 11) (N := some 39) (v := ?_) (a' := ?_) #[true, true, true, true, true, true, true, true, true, true, false, true, false, false, false, false, false, false, false, false, false, false, false, false, false, false, false, false, false, false, false, false, false, false, false, false, false, false, false, false] rfl rfl (by kernel_rfl) (fun _ _ _ h => h) (Or.inl ⟨by rfl, ?_⟩) ?_ ?_
    rotate_left
    · intro w'
      go_simp
      with_reducible rfl
    rotate_left
    · simp only [Act.put, List.setIfInBounds_toArray, List.set_cons_zero, List.set_cons_succ, i64_w, i32_w]
      rfl
    refine take_ (i := 10) (N := some 38) (v := .agg #[.int .u64 s0, .int .u64 s1, .int .u64 s2, .string y3, .string y4, .int .i64 s5, .int .i64 s6, .int .u64 s7, .int .u64 s8, .slice Y ls.length dy]) (a' := ?_) #[true, true, true, true, true, true, true, true, true, true, true, true, false, false, false, false, false, false, false, false, false, false, false, false, false, false, false, false, false, false, false, false, false, false, false, false, false, false, false, false] rfl rfl (by kernel_rfl) (fun _ _ _ h => h) (Or.inl ⟨by rfl, ?_⟩) hHeld ?_ ?_
    · rintro w' h
      exact exec_load_at 40 (.tmp 6) rfl w3.heap.size 0 rfl [.int .u64 s0, .int .u64 s1, .int .u64 s2, .string y3, .string y4, .int .i64 s5, .int .i64 s6, .int .u64 s7, .int .u64 s8, .slice Y ls.length dy] _ (row_at0 (h.t.row (by simp))) Try.underlying40 rfl (by kernel_rfl)
    rotate_left
    · simp only [Act.put, List.setIfInBounds_toArray, List.set_cons_zero, List.set_cons_succ, i64_w, i32_w]
      rfl
    refine take_ (i := 13) (N := some 41) (v := .agg #[.int .u64 s0, .int .u64 s1, .int .u64 s2, .string y3, .string y4, .int .i64 s5, .int .i64 s6, .int .u64 s7, .int .u64 s8, .slice Y ls.length dy]) (a' := ?_) #[true, true, true, true, true, true, true, true, true, true, true, true, false, true, false, false, false, false, false, false, false, false, false, false, false, false, false, false, false, false, false, false, false, false, false, false, false, false, false, false] rfl rfl (by kernel_rfl) (fun _ _ _ h => h) (Or.inl ⟨by rfl, ?_⟩) hHeld ?_ ?_
    · rintro w' h
      exact exec_load_at 40 (.tmp 6) rfl w3.heap.size 0 rfl [.int .u64 s0, .int .u64 s1, .int .u64 s2, .string y3, .string y4, .int .i64 s5, .int .i64 s6, .int .u64 s7, .int .u64 s8, .slice Y ls.length dy] _ (row_at0 (h.t.row (by simp))) Try.underlying40 rfl (by kernel_rfl)
    rotate_left
    · simp only [Act.put, List.setIfInBounds_toArray, List.set_cons_zero, List.set_cons_succ, i64_w, i32_w]
      rfl
    refine one_ (i := 12) (N := some 40) #[true, true, true, true, true, true, true, true, true, true, true, true, true, true, false, false, false, false, false, false, false, false, false, false, false, false, false, false, false, false, false, false, false, false, false, false, false, false, false, false] rfl rfl (by kernel_rfl) (by decide) (fun K hK => ?_)
    refine goes_ Try.func27 (by kernel_rfl) rfl #[.agg #[.int .u64 s0, .int .u64 s1, .int .u64 s2, .string y3, .string y4, .int .i64 s5, .int .i64 s6, .int .u64 s7, .int .u64 s8, .slice Y ls.length dy], .int .i64 m] (by rfl) rfl rfl (by (try simp only [List.map_toArray, List.map_cons, List.map_nil]); first | done | rfl) ?_
    refine (alike_y _ s0 s1 s2 y3 y4 s5 s6 s7 s8 Y dy (srtL L) _ hSn.out m y3 y4 hyy3.out hyy4.out (Kd.C_below hY.out hHeld.b) hdy.out hl.out (by have := hz3.out; omega) (by have := hz4.out; omega)).mono ?_
    rintro e w' ⟨Z, d3, rfl, hd3, hZ, hb⟩
    rw [hss.out] at hZ
    replace hZ := Aside0.mk hZ
    clear hd3
    have hH2 := Aside0.mk (hHeld.keep hb)
    clear hb
    refine ⟨_, rfl, ?_⟩
    refine hK.out _ _ (hH2.out) (fun hHeld => ?_)
    clear hK K
    refine norm_ (a' := ?_) ?_ ?_
    rotate_left
    · show Act.put _ (some 40) _ = _
      simp only [Act.put, List.setIfInBounds_toArray, List.set_cons_zero, List.set_cons_succ, i64_w, i32_w]
      rfl
    refine one_ (i := 14) (N := some 42) #[true, true, true, true, true, true, true, true, true, true, true, true, true, true, true, false, false, false, false, false, false, false, false, false, false, false, false, false, false, false, false, false, false, false, false, false, false, false, false, false] rfl rfl (by kernel_rfl) (by decide) (fun K hK => ?_)
    refine goes_ Try.func34 (by kernel_rfl) rfl #[.agg #[.int .u64 s0, .int .u64 s1, .int .u64 s2, .string y3, .string y4, .int .i64 s5, .int .i64 s6, .int .u64 s7, .int .u64 s8, .slice Z ls.length d3], .agg #[.int .u64 s0, .int .u64 s1, .int .u64 s2, .string y3, .string y4, .int .i64 s5, .int .i64 s6, .int .u64 s7, .int .u64 s8, .slice Y ls.length dy]] (by rfl) rfl rfl (by (try simp only [List.map_toArray, List.map_cons, List.map_nil]); first | done | rfl) ?_
    refine (cmp_self _ s0 s1 s2 y3 y4 s5 s6 s7 s8 Z Y d3 dy (srtL L) _ hSn.out hZ.out (Kd.C_below hY.out hHeld.b) (by have := hl.out; omega)).mono ?_
    rintro e w' ⟨rfl, hb⟩
    have hH2 := Aside0.mk (hHeld.keep hb)
    clear hb hZ
    refine ⟨_, rfl, ?_⟩
    refine hK.out _ _ (hH2.out) (fun hHeld => ?_)
    clear hK K
    refine norm_ (a' := ?_) ?_ ?_
    rotate_left
    · show Act.put _ (some 42) _ = _
      simp only [Act.put, List.setIfInBounds_toArray, List.set_cons_zero, List.set_cons_succ, i64_w, i32_w]
      rfl
    refine pure_ (i := 15) (N := some 43) (v := ?_) (a' := ?_) #[true, true, true, true, true, true, true, true, true, true, true, true, true, true, true, true, false, false, false, false, false, false, false, false, false, false, false, false, false, false, false, false, false, false, false, false, false, false, false, false] rfl rfl (by kernel_rfl) (fun _ _ _ h => h) (Or.inl ⟨by rfl, ?_⟩) ?_ ?_
    rotate_left
    · intro w'
      go_simp
      with_reducible rfl
    rotate_left
    · simp only [Act.put, List.setIfInBounds_toArray, List.set_cons_zero, List.set_cons_succ, i64_w, i32_w]
      rfl
    refine pure_ (i := 16) (N := some 44) (v := ?_) (a' := ?_) #[true, true, true, true, true, true, true, true, true, true, true, true, true, true, true, true, true, false, false, false, false, false, false, false, false, false, false, false, false, false, false, false, false, false, false, false, false, false, false, false] rfl rfl (by kernel_rfl) (fun _ _ _ h => h) (Or.inl ⟨by rfl, ?_⟩) ?_ ?_
    rotate_left
    · intro w'
      go_simp
      with_reducible rfl
    rotate_left
    · simp only [Act.put, List.setIfInBounds_toArray, List.set_cons_zero, List.set_cons_succ, i64_w, i32_w]
      rfl
    refine pure_ (i := 17) (N := some 45) (v := ?_) (a' := ?_) #[true, true, true, true, true, true, true, true, true, true, true, true, true, true, true, true, true, true, false, false, false, false, false, false, false, false, false, false, false, false, false, false, false, false, false, false, false, false, false, false] rfl rfl (by kernel_rfl) (fun _ _ _ h => h) (Or.inl ⟨by rfl, ?_⟩) ?_ ?_
    rotate_left
    · intro w'
      go_simp
      with_reducible rfl
    rotate_left
    · simp only [Act.put, List.setIfInBounds_toArray, List.set_cons_zero, List.set_cons_succ, i64_w, i32_w]
      rfl
    refine pure_ (i := 18) (N := some 46) (v := ?_) (a' := ?_) #[true, true, true, true, true, true, true, true, true, true, true, true, true, true, true, true, true, true, true, false, false, false, false, false, false, false, false, false, false, false, false, false, false, false, false, false, false, false, false, false] rfl rfl (by kernel_rfl) (fun _ _ _ h => h) (Or.inl ⟨by rfl, ?_⟩) ?_ ?_
    rotate_left
    · intro w'
      go_simp
      with_reducible rfl
    rotate_left
    · simp only [Act.put, List.setIfInBounds_toArray, List.set_cons_zero, List.set_cons_succ, i64_w, i32_w]
      rfl
    refine pure_ (i := 21) (N := some 49) (v := ?_) (a' := ?_) #[true, true, true, true, true, true, true, true, true, true, true, true, true, true, true, true, true, true, true, false, false, true, false, false, false, false, false, false, false, false, false, false, false, false, false, false, false, false, false, false] rfl rfl (by kernel_rfl) (fun _ _ _ h => h) (Or.inl ⟨by rfl, ?_⟩) ?_ ?_
    rotate_left
    · intro w'
      go_simp
      with_reducible rfl
    rotate_left
    · simp only [Act.put, List.setIfInBounds_toArray, List.set_cons_zero, List.set_cons_succ, i64_w, i32_w]
      rfl
    refine take_ (i := 19) (N := some 47) (v := ?_) (a' := ?_) #[true, true, true, true, true, true, true, true, true, true, true, true, true, true, true, true, true, true, true, true, false, true, false, false, false, false, false, false, false, false, false, false, false, false, false, false, false, false, false, false] rfl rfl (by kernel_rfl) (fun _ _ _ h => h) (Or.inl ⟨by rfl, ?_⟩) hHeld ?_ ?_
    rotate_left
    · rintro w' h
      have hq := (h.t.row (g := w3.heap.size) (cs := [.int .u64 s0, .int .u64 s1, .int .u64 s2, .string y3, .string y4, .int .i64 s5, .int .i64 s6, .int .u64 s7, .int .u64 s8, .slice Y ls.length dy]) (by simp) 3 _ rfl).1
      go_simp
      with_reducible rfl
    rotate_left
    · simp only [Act.put, List.setIfInBounds_toArray, List.set_cons_zero, List.set_cons_succ, i64_w, i32_w]
      rfl
    refine pure_ (i := 20) (N := some 48) (v := ?_) (a' := ?_) #[true, true, true, true, true, true, true, true, true, true, true, true, true, true, true, true, true, true, true, true, true, true, false, false, false, false, false, false, false, false, false, false, false, false, false, false, false, false, false, false] rfl rfl (by kernel_rfl) (fun _ _ _ h => h) (Or.inl ⟨by rfl, ?_⟩) ?_ ?_
    rotate_left
    · intro w'
      go_simp
      with_reducible rfl
    rotate_left
    · simp only [Act.put, List.setIfInBounds_toArray, List.set_cons_zero, List.set_cons_succ, i64_w, i32_w]
      rfl
    refine pure_ (i := 22) (N := some 50) (v := ?_) (a' := ?_) #[true, true, true, true, true, true, true, true, true, true, true, true, true, true, true, true, true, true, true, true, true, true, true, false, false, false, false, false, false, false, false, false, false, false, false, false, false, false, false, false] rfl rfl (by kernel_rfl) (fun _ _ _ h => h) (Or.inl ⟨by rfl, ?_⟩) ?_ ?_
    rotate_left
    · intro w'
      go_simp
      rw [show decide (m < (y3.size : Int)) = false from decide_eq_false (by have := hz3.out; omega)]
    rotate_left
    · simp only [Act.put, List.setIfInBounds_toArray, List.set_cons_zero, List.set_cons_succ, i64_w, i32_w]
      rfl
    refine pure_ (i := 23) (N := some 51) (v := ?_) (a' := ?_) #[true, true, true, true, true, true, true, true, true, true, true, true, true, true, true, true, true, true, true, true, true, true, true, true, false, false, false, false, false, false, false, false, false, false, false, false, false, false, false, false] rfl rfl (by kernel_rfl) (fun _ _ _ h => h) (Or.inl ⟨by rfl, ?_⟩) ?_ ?_
    rotate_left
    · intro w'
      go_simp
      with_reducible rfl
    rotate_left
    · simp only [Act.put, List.setIfInBounds_toArray, List.set_cons_zero, List.set_cons_succ, i64_w, i32_w]
      rfl
    refine pure_ (i := 24) (N := some 52) (v := ?_) (a' := ?_) #[true, true, true, true, true, true, true, true, true, true, true, true, true, true, true, true, true, true, true, true, true, true, true, true, true, false, false, false, false, false, false, false, false, false, false, false, false, false, false, false] rfl rfl (by kernel_rfl) (fun _ _ _ h => h) (Or.inl ⟨by rfl, ?_⟩) ?_ ?_
    rotate_left
    · intro w'
      go_simp
      with_reducible rfl
    rotate_left
    · simp only [Act.put, List.setIfInBounds_toArray, List.set_cons_zero, List.set_cons_succ, i64_w, i32_w]
      rfl
    refine pure_ (i := 25) (N := some 53) (v := ?_) (a' := ?_) #[true, true, true, true, true, true, true, true, true, true, true, true, true, true, true, true, true, true, true, true, true, true, true, true, true, true, false, false, false, false, false, false, false, false, false, false, false, false, false, false] rfl rfl (by kernel_rfl) (fun _ _ _ h => h) (Or.inl ⟨by rfl, ?_⟩) ?_ ?_
    rotate_left
    · intro w'
      go_simp
      with_reducible rfl
    rotate_left
    · simp only [Act.put, List.setIfInBounds_toArray, List.set_cons_zero, List.set_cons_succ, i64_w, i32_w]
      rfl
    refine pure_ (i := 28) (N := some 56) (v := ?_) (a' := ?_) #[true, true, true, true, true, true, true, true, true, true, true, true, true, true, true, true, true, true, true, true, true, true, true, true, true, true, false, false, true, false, false, false, false, false, false, false, false, false, false, false] rfl rfl (by kernel_rfl) (fun _ _ _ h => h) (Or.inl ⟨by rfl, ?_⟩) ?_ ?_
    rotate_left
    · intro w'
      go_simp
      with_reducible rfl
    rotate_left
    · simp only [Act.put, List.setIfInBounds_toArray, List.set_cons_zero, List.set_cons_succ, i64_w, i32_w]
      rfl
    refine take_ (i := 26) (N := some 54) (v := ?_) (a' := ?_) #[true, true, true, true, true, true, true, true, true, true, true, true, true, true, true, true, true, true, true, true, true, true, true, true, true, true, true, false, true, false, false, false, false, false, false, false, false, false, false, false] rfl rfl (by kernel_rfl) (fun _ _ _ h => h) (Or.inl ⟨by rfl, ?_⟩) hHeld ?_ ?_
    rotate_left
    · rintro w' h
      have hq := (h.t.row (g := w3.heap.size) (cs := [.int .u64 s0, .int .u64 s1, .int .u64 s2, .string y3, .string y4, .int .i64 s5, .int .i64 s6, .int .u64 s7, .int .u64 s8, .slice Y ls.length dy]) (by simp) 4 _ rfl).1
      go_simp
      with_reducible rfl
    rotate_left
    · simp only [Act.put, List.setIfInBounds_toArray, List.set_cons_zero, List.set_cons_succ, i64_w, i32_w]
      rfl
    refine pure_ (i := 27) (N := some 55) (v := ?_) (a' := ?_) #[true, true, true, true, true, true, true, true, true, true, true, true, true, true, true, true, true, true, true, true, true, true, true, true, true, true, true, true, true, false, false, false, false, false, false, false, false, false, false, false] rfl rfl (by kernel_rfl) (fun _ _ _ h => h) (Or.inl ⟨by rfl, ?_⟩) ?_ ?_
    rotate_left
    · intro w'
      go_simp
      with_reducible rfl
    rotate_left
    · simp only [Act.put, List.setIfInBounds_toArray, List.set_cons_zero, List.set_cons_succ, i64_w, i32_w]
      rfl
    refine pure_ (i := 29) (N := some 57) (v := ?_) (a' := ?_) #[true, true, true, true, true, true, true, true, true, true, true, true, true, true, true, true, true, true, true, true, true, true, true, true, true, true, true, true, true, true, false, false, false, false, false, false, false, false, false, false] rfl rfl (by kernel_rfl) (fun _ _ _ h => h) (Or.inl ⟨by rfl, ?_⟩) ?_ ?_
    rotate_left
    · intro w'
      go_simp
      rw [show decide (m < (y4.size : Int)) = false from decide_eq_false (by have := hz4.out; omega)]
    rotate_left
    · simp only [Act.put, List.setIfInBounds_toArray, List.set_cons_zero, List.set_cons_succ, i64_w, i32_w]
      rfl
    refine pure_ (i := 30) (N := some 58) (v := ?_) (a' := ?_) #[true, true, true, true, true, true, true, true, true, true, true, true, true, true, true, true, true, true, true, true, true, true, true, true, true, true, true, true, true, true, true, false, false, false, false, false, false, false, false, false] rfl rfl (by kernel_rfl) (fun _ _ _ h => h) (Or.inl ⟨by rfl, ?_⟩) ?_ ?_
    rotate_left
    · intro w'
      go_simp
      with_reducible rfl
    rotate_left
    · simp only [Act.put, List.setIfInBounds_toArray, List.set_cons_zero, List.set_cons_succ, i64_w, i32_w]
      rfl
    refine pure_ (i := 31) (N := some 59) (v := ?_) (a' := ?_) #[true, true, true, true, true, true, true, true, true, true, true, true, true, true, true, true, true, true, true, true, true, true, true, true, true, true, true, true, true, true, true, true, false, false, false, false, false, false, false, false] rfl rfl (by kernel_rfl) (fun _ _ _ h => h) (Or.inl ⟨by rfl, ?_⟩) ?_ ?_
    rotate_left
    · intro w'
      go_simp
      with_reducible rfl
    rotate_left
    · simp only [Act.put, List.setIfInBounds_toArray, List.set_cons_zero, List.set_cons_succ, i64_w, i32_w]
      rfl
    refine pure_ (i := 32) (N := some 60) (v := ?_) (a' := ?_) #[true, true, true, true, true, true, true, true, true, true, true, true, true, true, true, true, true, true, true, true, true, true, true, true, true, true, true, true, true, true, true, true, true, false, false, false, false, false, false, false] rfl rfl (by kernel_rfl) (fun _ _ _ h => h) (Or.inl ⟨by rfl, ?_⟩) ?_ ?_
    rotate_left
    · intro w'
      go_simp
      with_reducible rfl
    rotate_left
    · simp only [Act.put, List.setIfInBounds_toArray, List.set_cons_zero, List.set_cons_succ, i64_w, i32_w]
      rfl
    refine pure_ (i := 35) (N := some 63) (v := ?_) (a' := ?_) #[true, true, true, true, true, true, true, true, true, true, true, true, true, true, true, true, true, true, true, true, true, true, true, true, true, true, true, true, true, true, true, true, true, false, false, true, false, false, false, false] rfl rfl (by kernel_rfl) (fun _ _ _ h => h) (Or.inl ⟨by rfl, ?_⟩) ?_ ?_
    rotate_left
    · intro w'
      go_simp
      with_reducible rfl
    rotate_left
    · simp only [Act.put, List.setIfInBounds_toArray, List.set_cons_zero, List.set_cons_succ, i64_w, i32_w]
      rfl
    refine take_ (i := 33) (N := some 61) (v := ?_) (a' := ?_) #[true, true, true, true, true, true, true, true, true, true, true, true, true, true, true, true, true, true, true, true, true, true, true, true, true, true, true, true, true, true, true, true, true, true, false, true, false, false, false, false] rfl rfl (by kernel_rfl) (fun _ _ _ h => h) (Or.inl ⟨by rfl, ?_⟩) hHeld ?_ ?_
    rotate_left
    · rintro w' h
      have hq := (h.t.row (g := w3.heap.size) (cs := [.int .u64 s0, .int .u64 s1, .int .u64 s2, .string y3, .string y4, .int .i64 s5, .int .i64 s6, .int .u64 s7, .int .u64 s8, .slice Y ls.length dy]) (by simp) 9 _ rfl).1
      go_simp
      with_reducible rfl
    rotate_left
    · simp only [Act.put, List.setIfInBounds_toArray, List.set_cons_zero, List.set_cons_succ, i64_w, i32_w]
      rfl
    refine pure_ (i := 34) (N := some 62) (v := ?_) (a' := ?_) #[true, true, true, true, true, true, true, true, true, true, true, true, true, true, true, true, true, true, true, true, true, true, true, true, true, true, true, true, true, true, true, true, true, true, true, true, false, false, false, false] rfl rfl (by kernel_rfl) (fun _ _ _ h => h) (Or.inl ⟨by rfl, ?_⟩) ?_ ?_
    rotate_left
    · intro w'
      go_simp
      with_reducible rfl
    rotate_left
    · simp only [Act.put, List.setIfInBounds_toArray, List.set_cons_zero, List.set_cons_succ, i64_w, i32_w]
      rfl
    refine take_ (i := 36) (N := some 64) (v := ?_) (a' := ?_) #[true, true, true, true, true, true, true, true, true, true, true, true, true, true, true, true, true, true, true, true, true, true, true, true, true, true, true, true, true, true, true, true, true, true, true, true, true, false, false, false] rfl rfl (by kernel_rfl) (fun _ _ _ h => h) (Or.inl ⟨by rfl, ?_⟩) hHeld ?_ ?_
    rotate_left
    · rintro w' h
      have hq := (h.t.row (g := w.heap.size) (cs := [.int .u64 s0, .int .u64 s1, .int .u64 s2, .string s3, .string s4, .int .i64 s5, .int .i64 s6, .int .u64 s7, .int .u64 s8, .slice As ls.length cs]) (by simp) 9 _ rfl).1
      go_simp
      with_reducible rfl
    rotate_left
    · simp only [Act.put, List.setIfInBounds_toArray, List.set_cons_zero, List.set_cons_succ, i64_w, i32_w]
      rfl
    refine pure_ (i := 37) (N := some 65) (v := ?_) (a' := ?_) #[true, true, true, true, true, true, true, true, true, true, true, true, true, true, true, true, true, true, true, true, true, true, true, true, true, true, true, true, true, true, true, true, true, true, true, true, true, true, false, false] rfl rfl (by kernel_rfl) (fun _ _ _ h => h) (Or.inl ⟨by rfl, ?_⟩) ?_ ?_
    rotate_left
    · intro w'
      go_simp
      with_reducible rfl
    rotate_left
    · simp only [Act.put, List.setIfInBounds_toArray, List.set_cons_zero, List.set_cons_succ, i64_w, i32_w]
      rfl
    refine pure_ (i := 38) (N := some 66) (v := ?_) (a' := ?_) #[true, true, true, true, true, true, true, true, true, true, true, true, true, true, true, true, true, true, true, true, true, true, true, true, true, true, true, true, true, true, true, true, true, true, true, true, true, true, true, false] rfl rfl (by kernel_rfl) (fun _ _ _ h => h) (Or.inl ⟨by rfl, ?_⟩) ?_ ?_
    rotate_left
    · intro w'
      go_simp
      with_reducible rfl
    rotate_left
    · simp only [Act.put, List.setIfInBounds_toArray, List.set_cons_zero, List.set_cons_succ, i64_w, i32_w]
      rfl
    refine pure_ (i := 39) (N := some 67) (v := ?_) (a' := ?_) #[true, true, true, true, true, true, true, true, true, true, true, true, true, true, true, true, true, true, true, true, true, true, true, true, true, true, true, true, true, true, true, true, true, true, true, true, true, true, true, true] rfl rfl (by kernel_rfl) (fun _ _ _ h => h) (Or.inl ⟨by rfl, ?_⟩) ?_ ?_
    rotate_left
    · intro w'
      go_simp
      with_reducible rfl
    rotate_left
    · simp only [Act.put, List.setIfInBounds_toArray, List.set_cons_zero, List.set_cons_succ, i64_w, i32_w]
      rfl
    refine done_ (by kernel_rfl) ?_
    replace hT := Aside0.mk hHeld
    clear hHeld
    clear hyy3 hyy4 hz3 hz4 hss hkS hev0 hy3 hy4
    go_wp2
    go_loopg [7] (ls.length + 1) (fun kq v7 wr => ∃ i : Nat, v7 = .int .i64 (i : Int) ∧ 1 ≤ i ∧ (i ≤ ls.length ∨ i = 1) ∧ ls.length + 1 - i < kq ∧ Aside0 (Ow w w4 wr [(w3.heap.size, [.int .u64 s0, .int .u64 s1, .int .u64 s2, .string y3, .string y4, .int .i64 s5, .int .i64 s6, .int .u64 s7, .int .u64 s8, .slice Y ls.length dy]), (w.heap.size, [.int .u64 s0, .int .u64 s1, .int .u64 s2, .string s3, .string s4, .int .i64 s5, .int .i64 s6, .int .u64 s7, .int .u64 s8, .slice As ls.length cs])]))
    case atStart => exact ⟨1, rfl, by omega, by omega, by omega, hT⟩
    case round =>
      clear hT
      obtain ⟨i, rfl, hi1, hi2, hk, hT⟩ := hrel
      obtain ⟨k1, rfl⟩ : ∃ m, gk = m + 1 := ⟨gk - 1, by omega⟩
      have ⟨b9, b9f⟩ := hT.out.t.row (g := w3.heap.size) (cs := [.int .u64 s0, .int .u64 s1, .int .u64 s2, .string y3, .string y4, .int .i64 s5, .int .i64 s6, .int .u64 s7, .int .u64 s8, .slice Y ls.length dy]) (by simp) 9 _ rfl
      by_cases hin : i < ls.length
      · have hl4 := hl40.out
        have hinI : (i : Int) < (ls.length : Int) := by omega
        have hi0 : (0 : Int) ≤ (i : Int) := by omega
        obtain ⟨j, rfl⟩ : ∃ j, i = j + 1 := ⟨i - 1, by omega⟩
        have hjI : ((j + 1 : Nat) : Int) - 1 = (j : Int) := by omega
        have hjw : wrap64 (((j + 1 : Nat) : Int) - 1) = (j : Int) := by rw [IntWalk.wrap64_in _ (by omega)]; exact hjI
        have hj0 : (0 : Int) ≤ (j : Int) := by omega
        have hjn : (j : Int) < (ls.length : Int) := by omega
        have hS1 : j < (srtL L).length := by rw [hSn.out]; omega
        have hS2 : j + 1 < (srtL L).length := by rw [hSn.out]; omega
        have hng := Aside0.mk (not_gtr (List.pairwise_iff_getElem.1 (srtL_ord L) j (j + 1) hS1 hS2 (by omega)))
        have hCw := Kd.C_below hY.out hT.out.b
        obtain ⟨ad, hade, x0, _⟩ := Ty.at_T51 hCw (j : Int) hj0 hjn
        obtain ⟨ad', hade', x1, _⟩ := Ty.at_T51 hCw ((j + 1 : Nat) : Int) hi0 hinI
        rw [hade] at hade'
        obtain rfl := Option.some.inj hade'
        rw [hade] at b9
        rw [Ix.rd_at _ j hS1, Int.toNat_natCast] at x0
        rw [Ix.rd_at _ (j + 1) hS2, Int.toNat_natCast] at x1
        clear hCw hade
        generalize (srtL L)[j].f0 = ka at x0 hng
        generalize (srtL L)[j + 1].f0 = kb at x1 hng
        have hngu := hng.out
        obtain ⟨i2, hi2e⟩ : ∃ i2, j + 1 = i2 := ⟨_, rfl⟩
        rw [hi2e] at x1 hjw hjI hinI hi0 ⊢
        replace hi2e := Aside0.mk hi2e
        go_wp2
        go_quiet (fail)
        go_wp2
        go_roundg k1
        case measure => have := hi2e.out; omega
        case rel => have := hi2e.out; exact ⟨i2 + 1, by first | rfl | simp, by omega, by omega, by omega, ⟨hT.out.drewN _⟩⟩
      · have hinI : ¬ (i : Int) < (ls.length : Int) := by omega
        clear hk hi2
        go_wp2
        clear b9 b9f hinI hin hi1
        go_loopg [8] (ls.length + 1) (fun kq v8 wr => ∃ i : Nat, v8 = .int .i64 (i : Int) ∧ i ≤ ls.length ∧ ls.length - i < kq ∧ Aside0 (Ow w w4 wr [(w3.heap.size, [.int .u64 s0, .int .u64 s1, .int .u64 s2, .string y3, .string y4, .int .i64 s5, .int .i64 s6, .int .u64 s7, .int .u64 s8, .slice Y ls.length dy]), (w.heap.size, [.int .u64 s0, .int .u64 s1, .int .u64 s2, .string s3, .string s4, .int .i64 s5, .int .i64 s6, .int .u64 s7, .int .u64 s8, .slice As ls.length cs])]))
        case atStart => exact ⟨0, rfl, Nat.zero_le _, by omega, hT⟩
        case round =>
          clear hT
          obtain ⟨i, rfl, hi2, hk, hT⟩ := hrel
          obtain ⟨k1, rfl⟩ : ∃ m, gk = m + 1 := ⟨gk - 1, by omega⟩
          have ⟨q9, q9f⟩ := hT.out.t.row (g := w.heap.size) (cs := [.int .u64 s0, .int .u64 s1, .int .u64 s2, .string s3, .string s4, .int .i64 s5, .int .i64 s6, .int .u64 s7, .int .u64 s8, .slice As ls.length cs]) (by simp) 9 _ rfl
          by_cases hin : i < ls.length
          · have hl4 := hl40.out
            have hinI : (i : Int) < (ls.length : Int) := by omega
            have hi0 : (0 : Int) ≤ (i : Int) := by omega
            have hil : i < L.length := by rw [hLn.out]; exact hin
            obtain ⟨v, hv⟩ := attrV_mem L i hil
            have hkq : ls[i].f0 = L[i].f0 := by
              have e := hLd.out
              subst e
              rw [List.getElem_map]; rfl
            obtain ⟨ax, rfl, _⟩ := XSf.at_T63 hC.out (i : Int) hi0 hinI
            have hcell := Aside0.mk (show ∀ W, Below w.heap.size w W → W.cell? (ax.add (i * 4)) = some (.string L[i].f0) from fun W hb => by
              obtain ⟨ax2, e2, x0, _⟩ := XSf.at_T63 (Kd.C_below hC.out hb) (i : Int) hi0 hinI
              obtain rfl := Option.some.inj e2
              rw [Oz.rd63 _ i hin, Int.toNat_natCast, hkq] at x0
              exact x0)
            clear hkq
            generalize L[i].f0 = q at hv hcell
            have hv1 := Aside0.mk (show attrV (srtL L) q = some v by rw [attrV_srt]; exact hv)
            have hv2 := Aside0.mk hv
            have hsz := Aside0.mk (fun {W : World} (h : Ow w w4 W [(w3.heap.size, [.int .u64 s0, .int .u64 s1, .int .u64 s2, .string y3, .string y4, .int .i64 s5, .int .i64 s6, .int .u64 s7, .int .u64 s8, .slice Y ls.length dy]), (w.heap.size, [.int .u64 s0, .int .u64 s1, .int .u64 s2, .string s3, .string s4, .int .i64 s5, .int .i64 s6, .int .u64 s7, .int .u64 s8, .slice (some ax) ls.length cs])]) => h.b.size)
            clear hv
            go_wp2
            clear q9 q9f
            have hS := hT.out.drew
            refine start_ (n := 14) (S := fun W => Ow w w4 W [(w3.heap.size, [.int .u64 s0, .int .u64 s1, .int .u64 s2, .string y3, .string y4, .int .i64 s5, .int .i64 s6, .int .u64 s7, .int .u64 s8, .slice Y ls.length dy]), (w.heap.size, [.int .u64 s0, .int .u64 s1, .int .u64 s2, .string s3, .string s4, .int .i64 s5, .int .i64 s6, .int .u64 s7, .int .u64 s8, .slice (some ax) ls.length cs])]) (ds := [12]) #[false, false, false, false, false, false, false, false, false, false, false, false, false, false] (by kernel_rfl) rfl rfl hS (fun hHeld => ?_)
            clear hS
            refine pure_ (i := 1) (N := some 98) (v := ?_) (a' := ?_) #[false, true, false, false, false, false, false, false, false, false, false, false, false, false] rfl rfl (by kernel_rfl) (fun _ _ _ h => h) (Or.inl ⟨by rfl, ?_⟩) ?_ ?_
            rotate_left
            · intro w'
              go_simp
              with_reducible rfl
            rotate_left
            · simp only [Act.put, List.setIfInBounds_toArray, List.set_cons_zero, List.set_cons_succ, i64_w, i32_w]
              rfl
            refine pure_ (i := 3) (N := some 100) (v := ?_) (a' := ?_) #[false, true, false, true, false, false, false, false, false, false, false, false, false, false] rfl rfl (by kernel_rfl) (fun _ _ _ h => h) (Or.inl ⟨by rfl, ?_⟩) ?_ ?_
            rotate_left
            · intro w'
              go_simp
              with_reducible rfl
            rotate_left
            · simp only [Act.put, List.setIfInBounds_toArray, List.set_cons_zero, List.set_cons_succ, i64_w, i32_w]
              rfl
            refine take_ (i := 0) (N := some 97) (v := .agg #[.int .u64 s0, .int .u64 s1, .int .u64 s2, .string y3, .string y4, .int .i64 s5, .int .i64 s6, .int .u64 s7, .int .u64 s8, .slice Y ls.length dy]) (a' := ?_) #[true, true, false, true, false, false, false, false, false, false, false, false, false, false] rfl rfl (by kernel_rfl) (fun _ _ _ h => h) (Or.inl ⟨by rfl, ?_⟩) hHeld ?_ ?_
            · rintro w' h
              exact exec_load_at 40 (.tmp 6) rfl w3.heap.size 0 rfl [.int .u64 s0, .int .u64 s1, .int .u64 s2, .string y3, .string y4, .int .i64 s5, .int .i64 s6, .int .u64 s7, .int .u64 s8, .slice Y ls.length dy] _ (row_at0 (h.t.row (by simp))) Try.underlying40 rfl (by kernel_rfl)
            rotate_left
            · simp only [Act.put, List.setIfInBounds_toArray, List.set_cons_zero, List.set_cons_succ, i64_w, i32_w]
              rfl
            refine take_ (i := 2) (N := some 99) (v := ?_) (a' := ?_) #[true, true, true, true, false, false, false, false, false, false, false, false, false, false] rfl rfl (by kernel_rfl) (fun _ _ _ h => h) (Or.inl ⟨by rfl, ?_⟩) hHeld ?_ ?_
            rotate_left
            · rintro w' h
              have hq := (h.t.row (g := w.heap.size) (cs := [.int .u64 s0, .int .u64 s1, .int .u64 s2, .string s3, .string s4, .int .i64 s5, .int .i64 s6, .int .u64 s7, .int .u64 s8, .slice (some ax) ls.length cs]) (by simp) 9 _ rfl).1
              go_simp
              with_reducible rfl
            rotate_left
            · simp only [Act.put, List.setIfInBounds_toArray, List.set_cons_zero, List.set_cons_succ, i64_w, i32_w]
              rfl
            refine pure_ (i := 4) (N := some 101) (v := ?_) (a' := ?_) #[true, true, true, true, true, false, false, false, false, false, false, false, false, false] rfl rfl (by kernel_rfl) (fun _ _ _ h => h) (Or.inl ⟨by rfl, ?_⟩) ?_ ?_
            rotate_left
            · intro w'
              refine exec_index63 (.tmp 99) (.tmp 100) ?_ ax ls.length cs i ?_ ?_ hin
              · rfl
              · rfl
              · rfl
            rotate_left
            · simp only [Act.put, List.setIfInBounds_toArray, List.set_cons_zero, List.set_cons_succ, i64_w, i32_w]
              rfl
            refine pure_ (i := 5) (N := some 102) (v := ?_) (a' := ?_) #[true, true, true, true, true, true, false, false, false, false, false, false, false, false] rfl rfl (by kernel_rfl) (fun _ _ _ h => h) (Or.inl ⟨by rfl, ?_⟩) ?_ ?_
            rotate_left
            · intro w'
              go_simp
              with_reducible rfl
            rotate_left
            · simp only [Act.put, List.setIfInBounds_toArray, List.set_cons_zero, List.set_cons_succ, i64_w, i32_w]
              rfl
            refine take_ (i := 6) (N := some 103) (v := ?_) (a' := ?_) #[true, true, true, true, true, true, true, false, false, false, false, false, false, false] rfl rfl (by kernel_rfl) (fun _ _ _ h => h) (Or.inl ⟨by rfl, ?_⟩) hHeld ?_ ?_
            rotate_left
            · rintro w' h
              have hq := hcell.out w' h.t.b
              go_simp
              with_reducible rfl
            rotate_left
            · simp only [Act.put, List.setIfInBounds_toArray, List.set_cons_zero, List.set_cons_succ, i64_w, i32_w]
              rfl
            refine join_ (σ := Nat) 2 #[true, true, true, true, true, true, true, true, true, true, true, true, false, false] (fun s_ => [(104, .tuple #[.agg #[.int .i64 v.f0, .int .i64 v.f1, .string v.f2], .bool true]), (96, .tuple #[.agg #[.int .i64 v.f0, .int .i64 v.f1, .string v.f2], .bool true]), (105, .agg #[.int .i64 v.f0, .int .i64 v.f1, .string v.f2]), (106, .bool true), (9, .pointer (some ⟨s_, 0, none⟩))]) (fun s_ w' => w4.heap.size ≤ s_ ∧ Ow w w4 w' ((s_, [.int .i64 0, .int .i64 0, .string ⟨#[]⟩]) :: [(w3.heap.size, [.int .u64 s0, .int .u64 s1, .int .u64 s2, .string y3, .string y4, .int .i64 s5, .int .i64 s6, .int .u64 s7, .int .u64 s8, .slice Y ls.length dy]), (w.heap.size, [.int .u64 s0, .int .u64 s1, .int .u64 s2, .string s3, .string s4, .int .i64 s5, .int .i64 s6, .int .u64 s7, .int .u64 s8, .slice (some ax) ls.length cs])])) ?_ ?_
            · rintro k1b W ⟨hkb, hF⟩
              replace hF := Aside0.mk hF
              have hHeld := hF.out.rest
              refine norm_ (a' := ?_) ?_ ?_
              rotate_left
              · simp only [putAll, Act.put, List.setIfInBounds_toArray, List.set_cons_zero, List.set_cons_succ]
                rfl
              refine last_ (i := 12) (N := none) #[true, true, true, true, true, true, true, true, true, true, true, true, true, false] rfl rfl (by kernel_rfl) (by decide) (fun K hK => ?_)
              have ⟨c0, c0f⟩ := hF.out.t.row (g := k1b) (cs := [.int .i64 0, .int .i64 0, .string ⟨#[]⟩]) (by simp) 0 _ rfl
              have ⟨c1, c1f⟩ := hF.out.t.row (g := k1b) (cs := [.int .i64 0, .int .i64 0, .string ⟨#[]⟩]) (by simp) 1 _ rfl
              have ⟨c2, c2f⟩ := hF.out.t.row (g := k1b) (cs := [.int .i64 0, .int .i64 0, .string ⟨#[]⟩]) (by simp) 2 _ rfl
              refine skip_ (w1 := ?_) (by rfl) rfl ?_ ?_
              rotate_left
              · go_simp
                rfl
              refine hK.out _ _ ?_
              clear hK K
              refine pure_ (i := 13) (N := some 10) (v := ?_) (a' := ?_) #[true, true, true, true, true, true, true, true, true, true, true, true, true, true] rfl rfl (by kernel_rfl) (fun _ _ _ h => h) (Or.inl ⟨by rfl, ?_⟩) ?_ ?_
              rotate_left
              · intro w'
                go_simp
                with_reducible rfl
              rotate_left
              · simp only [Act.put, List.setIfInBounds_toArray, List.set_cons_zero, List.set_cons_succ, i64_w, i32_w]
                rfl
              refine done_ (by kernel_rfl) ?_
              have hne1 : ∀ p ∈ ([(w3.heap.size, [.int .u64 s0, .int .u64 s1, .int .u64 s2, .string y3, .string y4, .int .i64 s5, .int .i64 s6, .int .u64 s7, .int .u64 s8, .slice Y ls.length dy]), (w.heap.size, [.int .u64 s0, .int .u64 s1, .int .u64 s2, .string s3, .string s4, .int .i64 s5, .int .i64 s6, .int .u64 s7, .int .u64 s8, .slice (some ax) ls.length cs])] : List (Nat × List Value)), p.1 ≠ k1b := by
                intro p hp e
                have := hz.out
                simp only [List.mem_cons, List.not_mem_nil, or_false] at hp
                rcases hp with rfl | rfl
                · have e : w3.heap.size = k1b := e
                  omega
                · have e : w.heap.size = k1b := e
                  omega
              have hT1 := Aside0.mk (hF.out.set3 hkb hne1 (.int .i64 v.f0) (.int .i64 v.f1) (.string v.f2))
              clear hF hHeld c0 c0f c1 c1f c2 c2f hne1
              generalize ((W.setCell ⟨k1b, 0, none⟩ (.int .i64 v.f0)).setCell ⟨k1b, 1, none⟩ (.int .i64 v.f1)).setCell ⟨k1b, 2, none⟩ (.string v.f2) = W1 at hT1 ⊢
              have hsz1 := Aside0.mk (fun {W : World} (h : Ow w w4 W ((k1b, [.int .i64 v.f0, .int .i64 v.f1, .string v.f2]) :: [(w3.heap.size, [.int .u64 s0, .int .u64 s1, .int .u64 s2, .string y3, .string y4, .int .i64 s5, .int .i64 s6, .int .u64 s7, .int .u64 s8, .slice Y ls.length dy]), (w.heap.size, [.int .u64 s0, .int .u64 s1, .int .u64 s2, .string s3, .string s4, .int .i64 s5, .int .i64 s6, .int .u64 s7, .int .u64 s8, .slice (some ax) ls.length cs])])) => (show w4.heap.size ≤ W.heap.size ∧ k1b < W.heap.size from ⟨h.b.size, (h.t.r (k1b, [.int .i64 v.f0, .int .i64 v.f1, .string v.f2]) (by simp)).2.1⟩))
              go_wp2
              have hS := hT1.out.drew
              refine start_ (n := 15) (S := fun W => Ow w w4 W ((k1b, [.int .i64 v.f0, .int .i64 v.f1, .string v.f2]) :: [(w3.heap.size, [.int .u64 s0, .int .u64 s1, .int .u64 s2, .string y3, .string y4, .int .i64 s5, .int .i64 s6, .int .u64 s7, .int .u64 s8, .slice Y ls.length dy]), (w.heap.size, [.int .u64 s0, .int .u64 s1, .int .u64 s2, .string s3, .string s4, .int .i64 s5, .int .i64 s6, .int .u64 s7, .int .u64 s8, .slice (some ax) ls.length cs])])) (ds := [13]) #[false, false, false, false, false, false, false, false, false, false, false, false, false, false, false] (by kernel_rfl) rfl rfl hS (fun hHeld => ?_)
              clear hS
              refine pure_ (i := 2) (N := some 110) (v := ?_) (a' := ?_) #[false, false, true, false, false, false, false, false, false, false, false, false, false, false, false] rfl rfl (by kernel_rfl) (fun _ _ _ h => h) (Or.inl ⟨by rfl, ?_⟩) ?_ ?_
              rotate_left
              · intro w'
                go_simp
                with_reducible rfl
              rotate_left
              · simp only [Act.put, List.setIfInBounds_toArray, List.set_cons_zero, List.set_cons_succ, i64_w, i32_w]
                rfl
              refine pure_ (i := 4) (N := some 112) (v := ?_) (a' := ?_) #[false, false, true, false, true, false, false, false, false, false, false, false, false, false, false] rfl rfl (by kernel_rfl) (fun _ _ _ h => h) (Or.inl ⟨by rfl, ?_⟩) ?_ ?_
              rotate_left
              · intro w'
                go_simp
                with_reducible rfl
              rotate_left
              · simp only [Act.put, List.setIfInBounds_toArray, List.set_cons_zero, List.set_cons_succ, i64_w, i32_w]
                rfl
              refine take_ (i := 0) (N := some 108) (v := .agg #[.int .u64 s0, .int .u64 s1, .int .u64 s2, .string s3, .string s4, .int .i64 s5, .int .i64 s6, .int .u64 s7, .int .u64 s8, .slice (some ax) ls.length cs]) (a' := ?_) #[true, false, true, false, true, false, false, false, false, false, false, false, false, false, false] rfl rfl (by kernel_rfl) (fun _ _ _ h => h) (Or.inl ⟨by rfl, ?_⟩) hHeld ?_ ?_
              · rintro w' h
                exact exec_load_at 37 (.tmp 2) rfl w.heap.size 0 rfl [.int .u64 s0, .int .u64 s1, .int .u64 s2, .string s3, .string s4, .int .i64 s5, .int .i64 s6, .int .u64 s7, .int .u64 s8, .slice (some ax) ls.length cs] _ (row_at0 (h.t.row (by simp))) Try.underlying37 rfl (by kernel_rfl)
              rotate_left
              · simp only [Act.put, List.setIfInBounds_toArray, List.set_cons_zero, List.set_cons_succ, i64_w, i32_w]
                rfl
              refine take_ (i := 3) (N := some 111) (v := ?_) (a' := ?_) #[true, false, true, true, true, false, false, false, false, false, false, false, false, false, false] rfl rfl (by kernel_rfl) (fun _ _ _ h => h) (Or.inl ⟨by rfl, ?_⟩) hHeld ?_ ?_
              rotate_left
              · rintro w' h
                have hq := (h.t.row (g := w.heap.size) (cs := [.int .u64 s0, .int .u64 s1, .int .u64 s2, .string s3, .string s4, .int .i64 s5, .int .i64 s6, .int .u64 s7, .int .u64 s8, .slice (some ax) ls.length cs]) (by simp) 9 _ rfl).1
                go_simp
                with_reducible rfl
              rotate_left
              · simp only [Act.put, List.setIfInBounds_toArray, List.set_cons_zero, List.set_cons_succ, i64_w, i32_w]
                rfl
              refine pure_ (i := 5) (N := some 113) (v := ?_) (a' := ?_) #[true, false, true, true, true, true, false, false, false, false, false, false, false, false, false] rfl rfl (by kernel_rfl) (fun _ _ _ h => h) (Or.inl ⟨by rfl, ?_⟩) ?_ ?_
              rotate_left
              · intro w'
                refine exec_index63 (.tmp 111) (.tmp 112) ?_ ax ls.length cs i ?_ ?_ hin
                · rfl
                · rfl
                · rfl
              rotate_left
              · simp only [Act.put, List.setIfInBounds_toArray, List.set_cons_zero, List.set_cons_succ, i64_w, i32_w]
                rfl
              refine pure_ (i := 6) (N := some 114) (v := ?_) (a' := ?_) #[true, false, true, true, true, true, true, false, false, false, false, false, false, false, false] rfl rfl (by kernel_rfl) (fun _ _ _ h => h) (Or.inl ⟨by rfl, ?_⟩) ?_ ?_
              rotate_left
              · intro w'
                go_simp
                with_reducible rfl
              rotate_left
              · simp only [Act.put, List.setIfInBounds_toArray, List.set_cons_zero, List.set_cons_succ, i64_w, i32_w]
                rfl
              refine take_ (i := 7) (N := some 115) (v := ?_) (a' := ?_) #[true, false, true, true, true, true, true, true, false, false, false, false, false, false, false] rfl rfl (by kernel_rfl) (fun _ _ _ h => h) (Or.inl ⟨by rfl, ?_⟩) hHeld ?_ ?_
              rotate_left
              · rintro w' h
                have hq := hcell.out w' h.t.b
                go_simp
                with_reducible rfl
              rotate_left
              · simp only [Act.put, List.setIfInBounds_toArray, List.set_cons_zero, List.set_cons_succ, i64_w, i32_w]
                rfl
              refine join_ (σ := Nat × Option Addr × Nat) 2 #[true, true, true, true, true, true, true, true, true, true, true, true, true, false, false] (fun s_ => [(109, .agg #[.int .u64 s0, .int .u64 s1, .int .u64 s2, .string s3, .string s4, .int .i64 s5, .int .i64 s6, .int .u64 s7, .int .u64 s8, .slice s_.2.1 ls.length s_.2.2]), (116, .tuple #[.agg #[.int .i64 v.f0, .int .i64 v.f1, .string v.f2], .bool true]), (107, .tuple #[.agg #[.int .i64 v.f0, .int .i64 v.f1, .string v.f2], .bool true]), (117, .agg #[.int .i64 v.f0, .int .i64 v.f1, .string v.f2]), (118, .bool true), (11, .pointer (some ⟨s_.1, 0, none⟩))]) (fun s_ w' => (w4.heap.size ≤ s_.1 ∧ k1b < s_.1) ∧ Ow w w4 w' ((s_.1, [.int .i64 0, .int .i64 0, .string ⟨#[]⟩]) :: ((k1b, [.int .i64 v.f0, .int .i64 v.f1, .string v.f2]) :: [(w3.heap.size, [.int .u64 s0, .int .u64 s1, .int .u64 s2, .string y3, .string y4, .int .i64 s5, .int .i64 s6, .int .u64 s7, .int .u64 s8, .slice Y ls.length dy]), (w.heap.size, [.int .u64 s0, .int .u64 s1, .int .u64 s2, .string s3, .string s4, .int .i64 s5, .int .i64 s6, .int .u64 s7, .int .u64 s8, .slice (some ax) ls.length cs])]))) ?_ ?_
              · rintro ⟨k2b, X3, d3⟩ W ⟨⟨hkb2, hkc⟩, hF⟩
                replace hF := Aside0.mk hF
                have hHeld := hF.out.rest
                refine norm_ (a' := ?_) ?_ ?_
                rotate_left
                · simp only [putAll, Act.put, List.setIfInBounds_toArray, List.set_cons_zero, List.set_cons_succ]
                  rfl
                refine last_ (i := 13) (N := none) #[true, true, true, true, true, true, true, true, true, true, true, true, true, true, false] rfl rfl (by kernel_rfl) (by decide) (fun K hK => ?_)
                have ⟨c0, c0f⟩ := hF.out.t.row (g := k2b) (cs := [.int .i64 0, .int .i64 0, .string ⟨#[]⟩]) (by simp) 0 _ rfl
                have ⟨c1, c1f⟩ := hF.out.t.row (g := k2b) (cs := [.int .i64 0, .int .i64 0, .string ⟨#[]⟩]) (by simp) 1 _ rfl
                have ⟨c2, c2f⟩ := hF.out.t.row (g := k2b) (cs := [.int .i64 0, .int .i64 0, .string ⟨#[]⟩]) (by simp) 2 _ rfl
                refine skip_ (w1 := ?_) (by rfl) rfl ?_ ?_
                rotate_left
                · go_simp
                  rfl
                refine hK.out _ _ ?_
                clear hK K
                refine pure_ (i := 14) (N := some 12) (v := ?_) (a' := ?_) #[true, true, true, true, true, true, true, true, true, true, true, true, true, true, true] rfl rfl (by kernel_rfl) (fun _ _ _ h => h) (Or.inl ⟨by rfl, ?_⟩) ?_ ?_
                rotate_left
                · intro w'
                  go_simp
                  with_reducible rfl
                rotate_left
                · simp only [Act.put, List.setIfInBounds_toArray, List.set_cons_zero, List.set_cons_succ, i64_w, i32_w]
                  rfl
                refine done_ (by kernel_rfl) ?_
                have hne2 : ∀ p ∈ (((k1b, [.int .i64 v.f0, .int .i64 v.f1, .string v.f2]) :: [(w3.heap.size, [.int .u64 s0, .int .u64 s1, .int .u64 s2, .string y3, .string y4, .int .i64 s5, .int .i64 s6, .int .u64 s7, .int .u64 s8, .slice Y ls.length dy]), (w.heap.size, [.int .u64 s0, .int .u64 s1, .int .u64 s2, .string s3, .string s4, .int .i64 s5, .int .i64 s6, .int .u64 s7, .int .u64 s8, .slice (some ax) ls.length cs])]) : List (Nat × List Value)), p.1 ≠ k2b := by
                  intro p hp e
                  have := hz.out
                  simp only [List.mem_cons, List.not_mem_nil, or_false] at hp
                  rcases hp with rfl | rfl | rfl
                  · have e : k1b = k2b := e
                    omega
                  · have e : w3.heap.size = k2b := e
                    omega
                  · have e : w.heap.size = k2b := e
                    omega
                have hT2 := Aside0.mk (hF.out.set3 hkb2 hne2 (.int .i64 v.f0) (.int .i64 v.f1) (.string v.f2))
                clear hF hHeld c0 c0f c1 c1f c2 c2f hT1 hne2
                generalize ((W.setCell ⟨k2b, 0, none⟩ (.int .i64 v.f0)).setCell ⟨k2b, 1, none⟩ (.int .i64 v.f1)).setCell ⟨k2b, 2, none⟩ (.string v.f2) = W2 at hT2 ⊢
                have ⟨d0, _⟩ := hT2.out.t.row (g := k1b) (cs := [.int .i64 v.f0, .int .i64 v.f1, .string v.f2]) (by simp) 0 _ rfl
                have ⟨e0, _⟩ := hT2.out.t.row (g := k2b) (cs := [.int .i64 v.f0, .int .i64 v.f1, .string v.f2]) (by simp) 0 _ rfl
                have ⟨d1, _⟩ := hT2.out.t.row (g := k1b) (cs := [.int .i64 v.f0, .int .i64 v.f1, .string v.f2]) (by simp) 1 _ rfl
                have ⟨e1, _⟩ := hT2.out.t.row (g := k2b) (cs := [.int .i64 v.f0, .int .i64 v.f1, .string v.f2]) (by simp) 1 _ rfl
                have ⟨d2, _⟩ := hT2.out.t.row (g := k1b) (cs := [.int .i64 v.f0, .int .i64 v.f1, .string v.f2]) (by simp) 2 _ rfl
                have ⟨e2, _⟩ := hT2.out.t.row (g := k2b) (cs := [.int .i64 v.f0, .int .i64 v.f1, .string v.f2]) (by simp) 2 _ rfl
                go_wp2
                go_roundg k1
                case measure => omega
                case rel => exact ⟨i + 1, by first | rfl | simp, by omega, by omega, ⟨hT2.out.rest.rest⟩⟩
              · intro hJ
                refine two_ (i := 1) (j := 12) (Ni := some 109) (Nj := some 11) #[true, true, true, true, true, true, true, true, false, false, false, false, false, false, false] #[true, false, true, true, true, true, true, true, false, false, false, false, true, false, false] rfl rfl rfl rfl (by kernel_rfl) (by decide) (by decide) (fun K hK => ?_) (fun K hK => ?_)
                · refine goes_ Try.func21 (by kernel_rfl) rfl #[.agg #[.int .u64 s0, .int .u64 s1, .int .u64 s2, .string s3, .string s4, .int .i64 s5, .int .i64 s6, .int .u64 s7, .int .u64 s8, .slice (some ax) ls.length cs]] (by rfl) rfl rfl (by (try simp only [List.map_toArray, List.map_cons, List.map_nil]); first | done | rfl) ?_
                  refine (of_w3 _ s0 s1 s2 s3 s4 s5 s6 s7 s8 (some ax) cs ls (Kd.C_below hC.out hHeld.t.b) hc.out hl40.out).mono ?_
                  rintro e w' ⟨X3, d3, rfl, hd3, hO, hb⟩
                  rw [hLd.out] at hO
                  replace hO := Aside0.mk hO
                  clear hd3
                  have hH2 := Aside0.mk (hHeld.keep hb)
                  clear hb
                  refine ⟨_, rfl, ?_⟩
                  refine hK.out _ _ (hH2.out) (fun hHeld => ?_)
                  clear hK K
                  refine norm_ (a' := ?_) ?_ ?_
                  rotate_left
                  · show Act.put _ (some 109) _ = _
                    simp only [Act.put, List.setIfInBounds_toArray, List.set_cons_zero, List.set_cons_succ, i64_w, i32_w]
                    rfl
                  refine two_ (i := 8) (j := 12) (Ni := some 116) (Nj := some 11) #[true, true, true, true, true, true, true, true, true, false, false, false, false, false, false] #[true, true, true, true, true, true, true, true, false, false, false, false, true, false, false] rfl rfl rfl rfl (by kernel_rfl) (by decide) (by decide) (fun K hK => ?_) (fun K hK => ?_)
                  · refine goes_ Try.func33 (by kernel_rfl) rfl #[.agg #[.int .u64 s0, .int .u64 s1, .int .u64 s2, .string s3, .string s4, .int .i64 s5, .int .i64 s6, .int .u64 s7, .int .u64 s8, .slice X3 ls.length d3], .string q] (by rfl) rfl rfl (by (try simp only [List.map_toArray, List.map_cons, List.map_nil]); first | done | rfl) ?_
                    refine (attr_w1 _ s0 s1 s2 s3 s4 s5 s6 s7 s8 X3 ls.length d3 L q v hv2.out hO.out (by have := hl40.out; omega)).mono ?_
                    rintro e w' ⟨rfl, hb⟩
                    have hH2 := Aside0.mk (hHeld.keep hb)
                    clear hb
                    refine ⟨_, rfl, ?_⟩
                    refine hK.out _ _ (hH2.out) (fun hHeld => ?_)
                    clear hK K
                    refine norm_ (a' := ?_) ?_ ?_
                    rotate_left
                    · show Act.put _ (some 116) _ = _
                      simp only [Act.put, List.setIfInBounds_toArray, List.set_cons_zero, List.set_cons_succ, i64_w, i32_w]
                      rfl
                    refine pure_ (i := 9) (N := some 107) (v := ?_) (a' := ?_) #[true, true, true, true, true, true, true, true, true, true, false, false, false, false, false] rfl rfl (by kernel_rfl) (fun _ _ _ h => h) (Or.inl ⟨by rfl, ?_⟩) ?_ ?_
                    rotate_left
                    · intro w'
                      go_simp
                      with_reducible rfl
                    rotate_left
                    · simp only [Act.put, List.setIfInBounds_toArray, List.set_cons_zero, List.set_cons_succ, i64_w, i32_w]
                      rfl
                    refine pure_ (i := 10) (N := some 117) (v := ?_) (a' := ?_) #[true, true, true, true, true, true, true, true, true, true, true, false, false, false, false] rfl rfl (by kernel_rfl) (fun _ _ _ h => h) (Or.inl ⟨by rfl, ?_⟩) ?_ ?_
                    rotate_left
                    · intro w'
                      go_simp
                      with_reducible rfl
                    rotate_left
                    · simp only [Act.put, List.setIfInBounds_toArray, List.set_cons_zero, List.set_cons_succ, i64_w, i32_w]
                      rfl
                    refine pure_ (i := 11) (N := some 118) (v := ?_) (a' := ?_) #[true, true, true, true, true, true, true, true, true, true, true, true, false, false, false] rfl rfl (by kernel_rfl) (fun _ _ _ h => h) (Or.inl ⟨by rfl, ?_⟩) ?_ ?_
                    rotate_left
                    · intro w'
                      go_simp
                      with_reducible rfl
                    rotate_left
                    · simp only [Act.put, List.setIfInBounds_toArray, List.set_cons_zero, List.set_cons_succ, i64_w, i32_w]
                      rfl
                    refine one_ (i := 12) (N := some 11) #[true, true, true, true, true, true, true, true, true, true, true, true, true, false, false] rfl rfl (by kernel_rfl) (by decide) (fun K hK => ?_)
                    refine alloc_step (by rfl) (N := 11) rfl (cs := [.int .i64 0, .int .i64 0, .string ⟨#[]⟩]) (t := 49) ?_ ?_
                    · first | (go_simp; done) | (go_simp; rfl)
                    have hk0 := Aside0.mk (hsz1.out hHeld)
                    have hBx := Aside0.mk (hHeld.new [.int .i64 0, .int .i64 0, .string ⟨#[]⟩] 49)
                    have hH9 := Aside0.mk (hBx.out.rest)
                    refine hK.out _ _ (hH9.out) (fun hHeld => ?_)
                    clear hK K
                    refine norm_ (a' := ?_) ?_ ?_
                    rotate_left
                    · show Act.put _ (some 11) _ = _
                      simp only [Act.put, List.setIfInBounds_toArray, List.set_cons_zero, List.set_cons_succ, i64_w, i32_w]
                      rfl
                    exact norm_ (by first | (simp only [putAll, Act.put, List.setIfInBounds_toArray, List.set_cons_zero, List.set_cons_succ]; done) | (simp only [putAll, Act.put, List.setIfInBounds_toArray, List.set_cons_zero, List.set_cons_succ]; rfl)) (hJ (_, X3, d3) _ ⟨hk0.out, hBx.out⟩)
                  · refine alloc_step (by rfl) (N := 11) rfl (cs := [.int .i64 0, .int .i64 0, .string ⟨#[]⟩]) (t := 49) ?_ ?_
                    · first | (go_simp; done) | (go_simp; rfl)
                    have hk0 := Aside0.mk (hsz1.out hHeld)
                    have hBx := Aside0.mk (hHeld.new [.int .i64 0, .int .i64 0, .string ⟨#[]⟩] 49)
                    have hH9 := Aside0.mk (hBx.out.rest)
                    replace hO := Aside0.mk (Kd.C_below hO.out ((Below.refl _ _).alloc (Nat.le_refl _) (.cells #[.int .i64 0, .int .i64 0, .string ⟨#[]⟩] 49)))
                    refine hK.out _ _ (hH9.out) (fun hHeld => ?_)
                    clear hK K
                    refine norm_ (a' := ?_) ?_ ?_
                    rotate_left
                    · show Act.put _ (some 11) _ = _
                      simp only [Act.put, List.setIfInBounds_toArray, List.set_cons_zero, List.set_cons_succ, i64_w, i32_w]
                      rfl
                    refine one_ (i := 8) (N := some 116) #[true, true, true, true, true, true, true, true, true, false, false, false, true, false, false] rfl rfl (by kernel_rfl) (by decide) (fun K hK => ?_)
                    refine goes_ Try.func33 (by kernel_rfl) rfl #[.agg #[.int .u64 s0, .int .u64 s1, .int .u64 s2, .string s3, .string s4, .int .i64 s5, .int .i64 s6, .int .u64 s7, .int .u64 s8, .slice X3 ls.length d3], .string q] (by rfl) rfl rfl (by (try simp only [List.map_toArray, List.map_cons, List.map_nil]); first | done | rfl) ?_
                    refine (attr_w1 _ s0 s1 s2 s3 s4 s5 s6 s7 s8 X3 ls.length d3 L q v hv2.out hO.out (by have := hl40.out; omega)).mono ?_
                    rintro e w' ⟨rfl, hb⟩
                    have hH2 := Aside0.mk (hHeld.keep hb)
                    replace hBx := Aside0.mk (hBx.out.keep hb)
                    clear hb
                    refine ⟨_, rfl, ?_⟩
                    refine hK.out _ _ (hH2.out) (fun hHeld => ?_)
                    clear hK K
                    refine norm_ (a' := ?_) ?_ ?_
                    rotate_left
                    · show Act.put _ (some 116) _ = _
                      simp only [Act.put, List.setIfInBounds_toArray, List.set_cons_zero, List.set_cons_succ, i64_w, i32_w]
                      rfl
                    refine pure_ (i := 9) (N := some 107) (v := ?_) (a' := ?_) #[true, true, true, true, true, true, true, true, true, true, false, false, true, false, false] rfl rfl (by kernel_rfl) (fun _ _ _ h => h) (Or.inl ⟨by rfl, ?_⟩) ?_ ?_
                    rotate_left
                    · intro w'
                      go_simp
                      with_reducible rfl
                    rotate_left
                    · simp only [Act.put, List.setIfInBounds_toArray, List.set_cons_zero, List.set_cons_succ, i64_w, i32_w]
                      rfl
                    refine pure_ (i := 10) (N := some 117) (v := ?_) (a' := ?_) #[true, true, true, true, true, true, true, true, true, true, true, false, true, false, false] rfl rfl (by kernel_rfl) (fun _ _ _ h => h) (Or.inl ⟨by rfl, ?_⟩) ?_ ?_
                    rotate_left
                    · intro w'
                      go_simp
                      with_reducible rfl
                    rotate_left
                    · simp only [Act.put, List.setIfInBounds_toArray, List.set_cons_zero, List.set_cons_succ, i64_w, i32_w]
                      rfl
                    refine pure_ (i := 11) (N := some 118) (v := ?_) (a' := ?_) #[true, true, true, true, true, true, true, true, true, true, true, true, true, false, false] rfl rfl (by kernel_rfl) (fun _ _ _ h => h) (Or.inl ⟨by rfl, ?_⟩) ?_ ?_
                    rotate_left
                    · intro w'
                      go_simp
                      with_reducible rfl
                    rotate_left
                    · simp only [Act.put, List.setIfInBounds_toArray, List.set_cons_zero, List.set_cons_succ, i64_w, i32_w]
                      rfl
                    exact norm_ (by first | (simp only [putAll, Act.put, List.setIfInBounds_toArray, List.set_cons_zero, List.set_cons_succ]; done) | (simp only [putAll, Act.put, List.setIfInBounds_toArray, List.set_cons_zero, List.set_cons_succ]; rfl)) (hJ (_, X3, d3) _ ⟨hk0.out, hBx.out⟩)
                · refine alloc_step (by rfl) (N := 11) rfl (cs := [.int .i64 0, .int .i64 0, .string ⟨#[]⟩]) (t := 49) ?_ ?_
                  · first | (go_simp; done) | (go_simp; rfl)
                  have hk0 := Aside0.mk (hsz1.out hHeld)
                  have hBx := Aside0.mk (hHeld.new [.int .i64 0, .int .i64 0, .string ⟨#[]⟩] 49)
                  have hH9 := Aside0.mk (hBx.out.rest)
                  refine hK.out _ _ (hH9.out) (fun hHeld => ?_)
                  clear hK K
                  refine norm_ (a' := ?_) ?_ ?_
                  rotate_left
                  · show Act.put _ (some 11) _ = _
                    simp only [Act.put, List.setIfInBounds_toArray, List.set_cons_zero, List.set_cons_succ, i64_w, i32_w]
                    rfl
                  refine one_ (i := 1) (N := some 109) #[true, true, true, true, true, true, true, true, false, false, false, false, true, false, false] rfl rfl (by kernel_rfl) (by decide) (fun K hK => ?_)
                  refine goes_ Try.func21 (by kernel_rfl) rfl #[.agg #[.int .u64 s0, .int .u64 s1, .int .u64 s2, .string s3, .string s4, .int .i64 s5, .int .i64 s6, .int .u64 s7, .int .u64 s8, .slice (some ax) ls.length cs]] (by rfl) rfl rfl (by (try simp only [List.map_toArray, List.map_cons, List.map_nil]); first | done | rfl) ?_
                  refine (of_w3 _ s0 s1 s2 s3 s4 s5 s6 s7 s8 (some ax) cs ls (Kd.C_below hC.out hHeld.t.b) hc.out hl40.out).mono ?_
                  rintro e w' ⟨X3, d3, rfl, hd3, hO, hb⟩
                  rw [hLd.out] at hO
                  replace hO := Aside0.mk hO
                  clear hd3
                  have hH2 := Aside0.mk (hHeld.keep hb)
                  replace hBx := Aside0.mk (hBx.out.keep hb)
                  clear hb
                  refine ⟨_, rfl, ?_⟩
                  refine hK.out _ _ (hH2.out) (fun hHeld => ?_)
                  clear hK K
                  refine norm_ (a' := ?_) ?_ ?_
                  rotate_left
                  · show Act.put _ (some 109) _ = _
                    simp only [Act.put, List.setIfInBounds_toArray, List.set_cons_zero, List.set_cons_succ, i64_w, i32_w]
                    rfl
                  refine one_ (i := 8) (N := some 116) #[true, true, true, true, true, true, true, true, true, false, false, false, true, false, false] rfl rfl (by kernel_rfl) (by decide) (fun K hK => ?_)
                  refine goes_ Try.func33 (by kernel_rfl) rfl #[.agg #[.int .u64 s0, .int .u64 s1, .int .u64 s2, .string s3, .string s4, .int .i64 s5, .int .i64 s6, .int .u64 s7, .int .u64 s8, .slice X3 ls.length d3], .string q] (by rfl) rfl rfl (by (try simp only [List.map_toArray, List.map_cons, List.map_nil]); first | done | rfl) ?_
                  refine (attr_w1 _ s0 s1 s2 s3 s4 s5 s6 s7 s8 X3 ls.length d3 L q v hv2.out hO.out (by have := hl40.out; omega)).mono ?_
                  rintro e w' ⟨rfl, hb⟩
                  have hH2 := Aside0.mk (hHeld.keep hb)
                  replace hBx := Aside0.mk (hBx.out.keep hb)
                  clear hb
                  refine ⟨_, rfl, ?_⟩
                  refine hK.out _ _ (hH2.out) (fun hHeld => ?_)
                  clear hK K
                  refine norm_ (a' := ?_) ?_ ?_
                  rotate_left
                  · show Act.put _ (some 116) _ = _
                    simp only [Act.put, List.setIfInBounds_toArray, List.set_cons_zero, List.set_cons_succ, i64_w, i32_w]
                    rfl
                  refine pure_ (i := 9) (N := some 107) (v := ?_) (a' := ?_) #[true, true, true, true, true, true, true, true, true, true, false, false, true, false, false] rfl rfl (by kernel_rfl) (fun _ _ _ h => h) (Or.inl ⟨by rfl, ?_⟩) ?_ ?_
                  rotate_left
                  · intro w'
                    go_simp
                    with_reducible rfl
                  rotate_left
                  · simp only [Act.put, List.setIfInBounds_toArray, List.set_cons_zero, List.set_cons_succ, i64_w, i32_w]
                    rfl
                  refine pure_ (i := 10) (N := some 117) (v := ?_) (a' := ?_) #[true, true, true, true, true, true, true, true, true, true, true, false, true, false, false] rfl rfl (by kernel_rfl) (fun _ _ _ h => h) (Or.inl ⟨by rfl, ?_⟩) ?_ ?_
                  rotate_left
                  · intro w'
                    go_simp
                    with_reducible rfl
                  rotate_left
                  · simp only [Act.put, List.setIfInBounds_toArray, List.set_cons_zero, List.set_cons_succ, i64_w, i32_w]
                    rfl
                  refine pure_ (i := 11) (N := some 118) (v := ?_) (a' := ?_) #[true, true, true, true, true, true, true, true, true, true, true, true, true, false, false] rfl rfl (by kernel_rfl) (fun _ _ _ h => h) (Or.inl ⟨by rfl, ?_⟩) ?_ ?_
                  rotate_left
                  · intro w'
                    go_simp
                    with_reducible rfl
                  rotate_left
                  · simp only [Act.put, List.setIfInBounds_toArray, List.set_cons_zero, List.set_cons_succ, i64_w, i32_w]
                    rfl
                  exact norm_ (by first | (simp only [putAll, Act.put, List.setIfInBounds_toArray, List.set_cons_zero, List.set_cons_succ]; done) | (simp only [putAll, Act.put, List.setIfInBounds_toArray, List.set_cons_zero, List.set_cons_succ]; rfl)) (hJ (_, X3, d3) _ ⟨hk0.out, hBx.out⟩)
            · intro hJ
              refine two_ (i := 7) (j := 11) (Ni := some 104) (Nj := some 9) #[true, true, true, true, true, true, true, true, false, false, false, false, false, false] #[true, true, true, true, true, true, true, false, false, false, false, true, false, false] rfl rfl rfl rfl (by kernel_rfl) (by decide) (by decide) (fun K hK => ?_) (fun K hK => ?_)
              · refine goes_ Try.func33 (by kernel_rfl) rfl #[.agg #[.int .u64 s0, .int .u64 s1, .int .u64 s2, .string y3, .string y4, .int .i64 s5, .int .i64 s6, .int .u64 s7, .int .u64 s8, .slice Y ls.length dy], .string q] (by rfl) rfl rfl (by (try simp only [List.map_toArray, List.map_cons, List.map_nil]); first | done | rfl) ?_
                refine (attr_w1 _ s0 s1 s2 y3 y4 s5 s6 s7 s8 Y ls.length dy (srtL L) q v hv1.out (Kd.C_below hY.out hHeld.b) (by have := hl40.out; omega)).mono ?_
                rintro e w' ⟨rfl, hb⟩
                have hH2 := Aside0.mk (hHeld.keep hb)
                clear hb
                refine ⟨_, rfl, ?_⟩
                refine hK.out _ _ (hH2.out) (fun hHeld => ?_)
                clear hK K
                refine norm_ (a' := ?_) ?_ ?_
                rotate_left
                · show Act.put _ (some 104) _ = _
                  simp only [Act.put, List.setIfInBounds_toArray, List.set_cons_zero, List.set_cons_succ, i64_w, i32_w]
                  rfl
                refine pure_ (i := 8) (N := some 96) (v := ?_) (a' := ?_) #[true, true, true, true, true, true, true, true, true, false, false, false, false, false] rfl rfl (by kernel_rfl) (fun _ _ _ h => h) (Or.inl ⟨by rfl, ?_⟩) ?_ ?_
                rotate_left
                · intro w'
                  go_simp
                  with_reducible rfl
                rotate_left
                · simp only [Act.put, List.setIfInBounds_toArray, List.set_cons_zero, List.set_cons_succ, i64_w, i32_w]
                  rfl
                refine pure_ (i := 9) (N := some 105) (v := ?_) (a' := ?_) #[true, true, true, true, true, true, true, true, true, true, false, false, false, false] rfl rfl (by kernel_rfl) (fun _ _ _ h => h) (Or.inl ⟨by rfl, ?_⟩) ?_ ?_
                rotate_left
                · intro w'
                  go_simp
                  with_reducible rfl
                rotate_left
                · simp only [Act.put, List.setIfInBounds_toArray, List.set_cons_zero, List.set_cons_succ, i64_w, i32_w]
                  rfl
                refine pure_ (i := 10) (N := some 106) (v := ?_) (a' := ?_) #[true, true, true, true, true, true, true, true, true, true, true, false, false, false] rfl rfl (by kernel_rfl) (fun _ _ _ h => h) (Or.inl ⟨by rfl, ?_⟩) ?_ ?_
                rotate_left
                · intro w'
                  go_simp
                  with_reducible rfl
                rotate_left
                · simp only [Act.put, List.setIfInBounds_toArray, List.set_cons_zero, List.set_cons_succ, i64_w, i32_w]
                  rfl
                refine one_ (i := 11) (N := some 9) #[true, true, true, true, true, true, true, true, true, true, true, true, false, false] rfl rfl (by kernel_rfl) (by decide) (fun K hK => ?_)
                refine alloc_step (by rfl) (N := 9) rfl (cs := [.int .i64 0, .int .i64 0, .string ⟨#[]⟩]) (t := 49) ?_ ?_
                · first | (go_simp; done) | (go_simp; rfl)
                have hBx := Aside0.mk (hHeld.new [.int .i64 0, .int .i64 0, .string ⟨#[]⟩] 49)
                have hH9 := Aside0.mk (hBx.out.rest)
                refine hK.out _ _ hH9.out (fun hHeld => ?_)
                clear hK K hH9
                refine norm_ (a' := ?_) ?_ ?_
                rotate_left
                · show Act.put _ (some 9) _ = _
                  simp only [Act.put, List.setIfInBounds_toArray, List.set_cons_zero, List.set_cons_succ, i64_w, i32_w]
                  rfl
                exact norm_ (by first | (simp only [putAll, Act.put, List.setIfInBounds_toArray, List.set_cons_zero, List.set_cons_succ]; done) | (simp only [putAll, Act.put, List.setIfInBounds_toArray, List.set_cons_zero, List.set_cons_succ]; rfl)) (hJ _ _ ⟨hsz.out hH2.out, hBx.out⟩)
              · refine alloc_step (by rfl) (N := 9) rfl (cs := [.int .i64 0, .int .i64 0, .string ⟨#[]⟩]) (t := 49) ?_ ?_
                · first | (go_simp; done) | (go_simp; rfl)
                have hk0 := Aside0.mk (hsz.out hHeld)
                have hBx := Aside0.mk (hHeld.new [.int .i64 0, .int .i64 0, .string ⟨#[]⟩] 49)
                have hH9 := Aside0.mk (hBx.out.rest)
                refine hK.out _ _ hH9.out (fun hHeld => ?_)
                clear hK K hH9
                refine norm_ (a' := ?_) ?_ ?_
                rotate_left
                · show Act.put _ (some 9) _ = _
                  simp only [Act.put, List.setIfInBounds_toArray, List.set_cons_zero, List.set_cons_succ, i64_w, i32_w]
                  rfl
                refine one_ (i := 7) (N := some 104) #[true, true, true, true, true, true, true, true, false, false, false, true, false, false] rfl rfl (by kernel_rfl) (by decide) (fun K hK => ?_)
                refine goes_ Try.func33 (by kernel_rfl) rfl #[.agg #[.int .u64 s0, .int .u64 s1, .int .u64 s2, .string y3, .string y4, .int .i64 s5, .int .i64 s6, .int .u64 s7, .int .u64 s8, .slice Y ls.length dy], .string q] (by rfl) rfl rfl (by (try simp only [List.map_toArray, List.map_cons, List.map_nil]); first | done | rfl) ?_
                refine (attr_w1 _ s0 s1 s2 y3 y4 s5 s6 s7 s8 Y ls.length dy (srtL L) q v hv1.out (Kd.C_below hY.out hHeld.b) (by have := hl40.out; omega)).mono ?_
                rintro e w' ⟨rfl, hb⟩
                have hH2 := Aside0.mk (hHeld.keep hb)
                replace hBx := Aside0.mk (hBx.out.keep hb)
                clear hb
                refine ⟨_, rfl, ?_⟩
                refine hK.out _ _ (hH2.out) (fun hHeld => ?_)
                clear hK K
                refine norm_ (a' := ?_) ?_ ?_
                rotate_left
                · show Act.put _ (some 104) _ = _
                  simp only [Act.put, List.setIfInBounds_toArray, List.set_cons_zero, List.set_cons_succ, i64_w, i32_w]
                  rfl
                refine pure_ (i := 8) (N := some 96) (v := ?_) (a' := ?_) #[true, true, true, true, true, true, true, true, true, false, false, true, false, false] rfl rfl (by kernel_rfl) (fun _ _ _ h => h) (Or.inl ⟨by rfl, ?_⟩) ?_ ?_
                rotate_left
                · intro w'
                  go_simp
                  with_reducible rfl
                rotate_left
                · simp only [Act.put, List.setIfInBounds_toArray, List.set_cons_zero, List.set_cons_succ, i64_w, i32_w]
                  rfl
                refine pure_ (i := 9) (N := some 105) (v := ?_) (a' := ?_) #[true, true, true, true, true, true, true, true, true, true, false, true, false, false] rfl rfl (by kernel_rfl) (fun _ _ _ h => h) (Or.inl ⟨by rfl, ?_⟩) ?_ ?_
                rotate_left
                · intro w'
                  go_simp
                  with_reducible rfl
                rotate_left
                · simp only [Act.put, List.setIfInBounds_toArray, List.set_cons_zero, List.set_cons_succ, i64_w, i32_w]
                  rfl
                refine pure_ (i := 10) (N := some 106) (v := ?_) (a' := ?_) #[true, true, true, true, true, true, true, true, true, true, true, true, false, false] rfl rfl (by kernel_rfl) (fun _ _ _ h => h) (Or.inl ⟨by rfl, ?_⟩) ?_ ?_
                rotate_left
                · intro w'
                  go_simp
                  with_reducible rfl
                rotate_left
                · simp only [Act.put, List.setIfInBounds_toArray, List.set_cons_zero, List.set_cons_succ, i64_w, i32_w]
                  rfl
                exact norm_ (by first | (simp only [putAll, Act.put, List.setIfInBounds_toArray, List.set_cons_zero, List.set_cons_succ]; done) | (simp only [putAll, Act.put, List.setIfInBounds_toArray, List.set_cons_zero, List.set_cons_succ]; rfl)) (hJ _ _ ⟨hk0.out, hBx.out⟩)
          · have hinI : ¬ (i : Int) < (ls.length : Int) := by omega
            clear hk hi2
            go_wp2_with (first
              | (go_at_call 30; refine (check_w _ s0 s1 s2 s3 s4 s5 s6 s7 s8 X4 ls.length d4 L ev hev.out hO4.out (by have := hl40.out; omega) hd4.out hkL.out).mono ?_; rintro e w8 ⟨rfl, hb8⟩; replace hT := Aside0.mk (hT.out.keep hb8); clear hb8 hO4 hd4)
              | (go_at_call 35; refine (reasons_w _).mono ?_; rintro e w9 ⟨g, rfl, hg, hR, hb9⟩; replace hT := Aside0.mk (hT.out.keep hb9); replace hR := Aside0.mk hR; clear hb9 hg)
              | (go_at_call 21; refine (of_w3 _ s0 s1 s2 s3 s4 s5 s6 s7 s8 As cs ls (Kd.C_below hC.out hT.out.t.b) hc.out hl40.out).mono ?_; rintro e w7 ⟨X4, d4, rfl, hd4, hO4, hb7⟩; rw [hLd.out] at hO4; replace hT := Aside0.mk (hT.out.keep hb7); replace hO4 := Aside0.mk hO4; replace hd4 := Aside0.mk hd4; clear hb7)
              | (refine wpList_load_at (by rfl) 37 _ rfl w.heap.size 0 rfl [.int .u64 s0, .int .u64 s1, .int .u64 s2, .string s3, .string s4, .int .i64 s5, .int .i64 s6, .int .u64 s7, .int .u64 s8, .slice As ls.length cs] _ (row_at0 (hT.out.t.row (by simp))) Try.underlying37 rfl (by kernel_rfl) ?_))
            clear q9 q9f hinI hin
            have hB := Aside0.mk hT.out.t.b
            clear hT
            obtain ⟨b0, hb0⟩ : ∃ b, (ev == 0) = b := ⟨_, rfl⟩
            try rw [hb0]
            have hbd := Aside0.mk (show b0 = decide (ev = 0 ∨ (50 ≤ ev ∧ ev < 50 + ((0 : Nat) : Int))) by
              rw [← hb0]
              by_cases e : ev = 0
              · rw [decide_eq_true (Or.inl e), e]; rfl
              · rw [decide_eq_false (by omega)]; simpa using e)
            clear hb0
            go_loopg [15, 16] 7 (fun kq v15 v16 wr => ∃ (i : Nat) (b : Bool), v16 = .int .i64 (i : Int) ∧ v15 = .bool b ∧ i ≤ 6 ∧ 6 - i < kq ∧ Aside0 (b = decide (ev = 0 ∨ (50 ≤ ev ∧ ev < 50 + (i : Int)))) ∧ Aside0 (Row wr g [.int .i64 50, .int .i64 51, .int .i64 52, .int .i64 53, .int .i64 54, .int .i64 55]) ∧ Aside0 (Below w.heap.size w wr))
            case atStart => exact ⟨0, b0, rfl, rfl, by omega, by omega, hbd, hR, hB⟩
            case round =>
              clear hR hB hbd
              obtain ⟨i, b, rfl, rfl, hi, hk, hbd, hR, hB⟩ := hrel
              obtain ⟨k1, rfl⟩ : ∃ m, gk = m + 1 := ⟨gk - 1, by omega⟩
              have hi0 : (0 : Int) ≤ (i : Int) := by omega
              by_cases hin : i < 6
              · have hinI : (i : Int) < 6 := by omega
                have ⟨cc, _⟩ := hR.out i (.int .i64 (50 + (i : Int))) (by
                  have : i = 0 ∨ i = 1 ∨ i = 2 ∨ i = 3 ∨ i = 4 ∨ i = 5 := by omega
                  rcases this with rfl | rfl | rfl | rfl | rfl | rfl <;> rfl)
                cases b with
                | true =>
                  have hb2 := Aside0.mk (show true = decide (ev = 0 ∨ (50 ≤ ev ∧ ev < 50 + ((i + 1 : Nat) : Int))) by
                    have h1 := of_decide_eq_true hbd.out.symm
                    rw [decide_eq_true (by omega)])
                  go_wp2
                  go_roundg k1
                  case measure => omega
                  case rel => exact ⟨i + 1, true, by first | rfl | simp, rfl, by omega, by omega, hb2, hR, hB⟩
                | false =>
                  have h1 := of_decide_eq_false hbd.out.symm
                  by_cases he : 50 + (i : Int) = ev
                  · have hq : (50 + (i : Int) == ev) = true := by simpa using he
                    have hb2 := Aside0.mk (show true = decide (ev = 0 ∨ (50 ≤ ev ∧ ev < 50 + ((i + 1 : Nat) : Int))) by rw [decide_eq_true (by omega)])
                    clear h1 he
                    go_wp2
                    go_roundg k1
                    case measure => omega
                    case rel => exact ⟨i + 1, true, by first | rfl | simp, by first | rfl | simp [hq], by omega, by omega, hb2, hR, hB⟩
                  · have hq : (50 + (i : Int) == ev) = false := by simpa using he
                    have hb2 := Aside0.mk (show false = decide (ev = 0 ∨ (50 ≤ ev ∧ ev < 50 + ((i + 1 : Nat) : Int))) by rw [decide_eq_false (by omega)])
                    clear h1 he
                    go_wp2
                    go_roundg k1
                    case measure => omega
                    case rel => exact ⟨i + 1, false, by first | rfl | simp, by first | rfl | simp [hq], by omega, by omega, hb2, hR, hB⟩
              · have hi6 : i = 6 := by omega
                have hb1 : b = true := by
                  rw [hbd.out]
                  have := hevr.out
                  exact decide_eq_true (by omega)
                subst hb1
                subst hi6
                have ⟨c0, _⟩ := hR.out 0 _ rfl
                have ⟨c5, _⟩ := hR.out 5 _ rfl
                clear hk
                go_wp2
                go_ret
                exact ⟨by first | rfl | simp, hB.out⟩
  · intro hJ
    by_cases he0 : ev = 0
    · subst he0
      refine pure_ (i := 3) (N := some 31) (v := ?_) (a' := ?_) #[true, true, true, true, false, false, false, false, false, false, false, false, false, false, false, false, false, false, false, false, false, false, false, false, false, false, false, false, false, false, false, false, false, false, false, false, false, false, false, false] rfl rfl (by kernel_rfl) (fun _ _ _ h => h) (Or.inl ⟨by rfl, ?_⟩) ?_ ?_
      rotate_left
      · intro w'
        go_simp
        with_reducible rfl
      rotate_left
      · simp only [Act.put, List.setIfInBounds_toArray, List.set_cons_zero, List.set_cons_succ, i64_w, i32_w]
        rfl
      refine pure_ (i := 4) (N := some 32) (v := ?_) (a' := ?_) #[true, true, true, true, true, false, false, false, false, false, false, false, false, false, false, false, false, false, false, false, false, false, false, false, false, false, false, false, false, false, false, false, false, false, false, false, false, false, false, false] rfl rfl (by kernel_rfl) (fun _ _ _ h => h) (Or.inl ⟨by rfl, ?_⟩) ?_ ?_
      rotate_left
      · intro w'
        go_simp
        with_reducible rfl
      rotate_left
      · simp only [Act.put, List.setIfInBounds_toArray, List.set_cons_zero, List.set_cons_succ, i64_w, i32_w]
        rfl
      refine take_ (i := 5) (N := some 33) (v := .agg #[.int .u64 s0, .int .u64 s1, .int .u64 s2, .string y3, .string y4, .int .i64 s5, .int .i64 s6, .int .u64 s7, .int .u64 s8, .slice Y ls.length dy]) (a' := ?_) #[true, true, true, true, true, true, false, false, false, false, false, false, false, false, false, false, false, false, false, false, false, false, false, false, false, false, false, false, false, false, false, false, false, false, false, false, false, false, false, false] rfl rfl (by kernel_rfl) (fun _ _ _ h => h) (Or.inl ⟨by rfl, ?_⟩) hHeld ?_ ?_
      · rintro w' h
        exact exec_load_at 40 (.tmp 6) rfl w3.heap.size 0 rfl [.int .u64 s0, .int .u64 s1, .int .u64 s2, .string y3, .string y4, .int .i64 s5, .int .i64 s6, .int .u64 s7, .int .u64 s8, .slice Y ls.length dy] _ (row_at0 (h.t.row (by simp))) Try.underlying40 rfl (by kernel_rfl)
      rotate_left
      · simp only [Act.put, List.setIfInBounds_toArray, List.set_cons_zero, List.set_cons_succ, i64_w, i32_w]
        rfl
      refine one_ (i := 6) (N := some 34) #[true, true, true, true, true, true, true, false, false, false, false, false, false, false, false, false, false, false, false, false, false, false, false, false, false, false, false, false, false, false, false, false, false, false, false, false, false, false, false, false] rfl rfl (by kernel_rfl) (by decide) (fun K hK => ?_)
      refine goes_ Try.func30 (by kernel_rfl) rfl #[.agg #[.int .u64 s0, .int .u64 s1, .int .u64 s2, .string y3, .string y4, .int .i64 s5, .int .i64 s6, .int .u64 s7, .int .u64 s8, .slice Y ls.length dy]] (by rfl) rfl rfl (by (try simp only [List.map_toArray, List.map_cons, List.map_nil]); first | done | rfl) ?_
      refine (check_w _ s0 s1 s2 y3 y4 s5 s6 s7 s8 Y ls.length dy (srtL L) 0 (hev0.out rfl) (Kd.C_below hY.out hHeld.b) (by have := hl.out; omega) hdy.out hkS.out).mono ?_
      rintro e w' ⟨rfl, hb⟩
      have hH2 := Aside0.mk (hHeld.keep hb)
      clear hb
      refine ⟨_, rfl, ?_⟩
      refine hK.out _ _ (hH2.out) (fun hHeld => ?_)
      clear hK K
      refine norm_ (a' := ?_) ?_ ?_
      rotate_left
      · show Act.put _ (some 34) _ = _
        simp only [Act.put, List.setIfInBounds_toArray, List.set_cons_zero, List.set_cons_succ, i64_w, i32_w]
        rfl
      refine pure_ (i := 7) (N := some 35) (v := ?_) (a' := ?_) #[true, true, true, true, true, true, true, true, false, false, false, false, false, false, false, false, false, false, false, false, false, false, false, false, false, false, false, false, false, false, false, false, false, false, false, false, false, false, false, false] rfl rfl (by kernel_rfl) (fun _ _ _ h => h) (Or.inl ⟨by rfl, ?_⟩) ?_ ?_
      rotate_left
      · intro w'
        go_simp
        with_reducible rfl
      rotate_left
      · simp only [Act.put, List.setIfInBounds_toArray, List.set_cons_zero, List.set_cons_succ, i64_w, i32_w]
        rfl
      refine pure_ (i := 8) (N := some 36) (v := ?_) (a' := ?_) #[true, true, true, true, true, true, true, true, true, false, false, false, false, false, false, false, false, false, false, false, false, false, false, false, false, false, false, false, false, false, false, false, false, false, false, false, false, false, false, false] rfl rfl (by kernel_rfl) (fun _ _ _ h => h) (Or.inl ⟨by rfl, ?_⟩) ?_ ?_
      rotate_left
      · intro w'
        go_simp
        with_reducible rfl
      rotate_left
      · simp only [Act.put, List.setIfInBounds_toArray, List.set_cons_zero, List.set_cons_succ, i64_w, i32_w]
        rfl
      exact norm_ (by first | (simp only [putAll, Act.put, List.setIfInBounds_toArray, List.set_cons_zero, List.set_cons_succ]; done) | (simp only [putAll, Act.put, List.setIfInBounds_toArray, List.set_cons_zero, List.set_cons_succ]; rfl)) (hJ (.bool true, .bool true, .agg #[.int .u64 s0, .int .u64 s1, .int .u64 s2, .string y3, .string y4, .int .i64 s5, .int .i64 s6, .int .u64 s7, .int .u64 s8, .slice Y ls.length dy], .int .i64 0, .bool false) _ hHeld)
    · have hne := Aside0.mk (show (ev == 0) = false by simpa using he0)
      refine pure_ (i := 3) (N := some 31) (v := ?_) (a' := ?_) #[true, true, true, true, false, false, false, false, false, false, false, false, false, false, false, false, false, false, false, false, false, false, false, false, false, false, false, false, false, false, false, false, false, false, false, false, false, false, false, false] rfl rfl (by kernel_rfl) (fun _ _ _ h => h) (Or.inl ⟨by rfl, ?_⟩) ?_ ?_
      rotate_left
      · intro w'
        go_simp
        rw [hne.out]
      rotate_left
      · simp only [Act.put, List.setIfInBounds_toArray, List.set_cons_zero, List.set_cons_succ, i64_w, i32_w]
        rfl
      refine pure_ (i := 4) (N := some 32) (v := ?_) (a' := ?_) #[true, true, true, true, true, false, false, false, false, false, false, false, false, false, false, false, false, false, false, false, false, false, false, false, false, false, false, false, false, false, false, false, false, false, false, false, false, false, false, false] rfl rfl (by kernel_rfl) (fun _ _ _ h => h) (Or.inl ⟨by rfl, ?_⟩) ?_ ?_
      rotate_left
      · intro w'
        go_simp
        with_reducible rfl
      rotate_left
      · simp only [Act.put, List.setIfInBounds_toArray, List.set_cons_zero, List.set_cons_succ, i64_w, i32_w]
        rfl
      refine pure_ (i := 5) (N := some 33) (v := undef) (a' := ?_) #[true, true, true, true, true, true, false, false, false, false, false, false, false, false, false, false, false, false, false, false, false, false, false, false, false, false, false, false, false, false, false, false, false, false, false, false, false, false, false, false] rfl rfl (by kernel_rfl) (fun _ _ _ h => h) (Or.inr ⟨by rfl, rfl⟩) ?_ ?_
      rotate_left
      · simp only [Act.put, List.setIfInBounds_toArray, List.set_cons_zero, List.set_cons_succ, i64_w, i32_w]
        rfl
      refine pure_ (i := 6) (N := some 34) (v := undef) (a' := ?_) #[true, true, true, true, true, true, true, false, false, false, false, false, false, false, false, false, false, false, false, false, false, false, false, false, false, false, false, false, false, false, false, false, false, false, false, false, false, false, false, false] rfl rfl (by kernel_rfl) (fun _ _ _ h => h) (Or.inr ⟨by rfl, rfl⟩) ?_ ?_
      rotate_left
      · simp only [Act.put, List.setIfInBounds_toArray, List.set_cons_zero, List.set_cons_succ, i64_w, i32_w]
        rfl
      refine pure_ (i := 7) (N := some 35) (v := undef) (a' := ?_) #[true, true, true, true, true, true, true, true, false, false, false, false, false, false, false, false, false, false, false, false, false, false, false, false, false, false, false, false, false, false, false, false, false, false, false, false, false, false, false, false] rfl rfl (by kernel_rfl) (fun _ _ _ h => h) (Or.inr ⟨by rfl, rfl⟩) ?_ ?_
      rotate_left
      · simp only [Act.put, List.setIfInBounds_toArray, List.set_cons_zero, List.set_cons_succ, i64_w, i32_w]
        rfl
      refine pure_ (i := 8) (N := some 36) (v := ?_) (a' := ?_) #[true, true, true, true, true, true, true, true, true, false, false, false, false, false, false, false, false, false, false, false, false, false, false, false, false, false, false, false, false, false, false, false, false, false, false, false, false, false, false, false] rfl rfl (by kernel_rfl) (fun _ _ _ h => h) (Or.inl ⟨by rfl, ?_⟩) ?_ ?_
      rotate_left
      · intro w'
        go_simp
        with_reducible rfl
      rotate_left
      · simp only [Act.put, List.setIfInBounds_toArray, List.set_cons_zero, List.set_cons_succ, i64_w, i32_w]
        rfl
      exact norm_ (by first | (simp only [putAll, Act.put, List.setIfInBounds_toArray, List.set_cons_zero, List.set_cons_succ]; done) | (simp only [putAll, Act.put, List.setIfInBounds_toArray, List.set_cons_zero, List.set_cons_succ]; rfl)) (hJ (.bool false, .bool false, undef, undef, undef) _ hHeld)
end Go.Proofs.Ytllepjhimkogjaa.Ck
