/- The law SpanOwn, walked. No conditions but bounds. -/
import Derived.Test.YtllepjhimkogjaaSpanKit
import Derived.Deep.LoopGhost
import Derived.RegionTactic
namespace Go.Proofs.Ytllepjhimkogjaa.Sw
open Go.RowKit Go.Proofs.YtllepjhimkogjaaW.PrintWords Go.Proofs.YtllepjhimkogjaaW.PrintLast
open Go.Proofs.Ytllepjhimkogjaa.Ob Go.Proofs.Ytllepjhimkogjaa.Two Go.Proofs.Ytllepjhimkogjaa.Sk Go.Proofs.YtllepjhimkogjaaW.PrintMore
set_option linter.unusedSimpArgs false
set_option linter.unusedVariables false
theorem alike_y (w : World) (s0 s1 s2 : Int) (s3 s4 : ByteArray) (s5 s6 s7 s8 : Int) (A : Option Addr) (c : Nat) (l : List Ty.S51) (n : Nat) (hn : l.length = n) (m : Int) (y3 y4 : ByteArray) (e3 : Lb.lab s3 m = y3) (e4 : Lb.lab s4 m = y4) (hC : Kd.C Ty.k51 w A n l) (hc : n ≤ c) (hl : n ≤ 40) (h3 : s3.size ≤ 5000) (h4 : s4.size ≤ 5000) :
    Calls Try.prog 27 #[.agg #[.int .u64 s0, .int .u64 s1, .int .u64 s2, .string s3, .string s4, .int .i64 s5, .int .i64 s6, .int .u64 s7, .int .u64 s8, .slice A n c], .int .i64 m] w fun e w' => ∃ V d, e = .returned (.agg #[.int .u64 s0, .int .u64 s1, .int .u64 s2, .string (y3), .string (y4), .int .i64 s5, .int .i64 s6, .int .u64 s7, .int .u64 s8, .slice V n d]) ∧ Rw.Own w' w.heap.size V d (Rw.srtL l) ∧ Below w.heap.size w w' := by
  subst e3 e4
  exact alike_w3 w s0 s1 s2 s3 s4 s5 s6 s7 s8 A c l n hn m hC hc hl h3 h4
theorem took_n (w : World) (a0 a1 a2 : Int) (a3 a4 : ByteArray) (a5 a6 a7 a8 : Int) (v : Value) (T : Int) (h : (if a8 < a7 then 0 else IntKind.u64.wrap (a8 - a7)) = T) : Calls Try.prog 28 #[.agg #[.int .u64 a0, .int .u64 a1, .int .u64 a2, .string a3, .string a4, .int .i64 a5, .int .i64 a6, .int .u64 a7, .int .u64 a8, v]] w fun e w' => e = .returned (.int .u64 T) ∧ Below w.heap.size w w' := by
  subst h; exact took_w w a0 a1 a2 a3 a4 a5 a6 a7 a8 v
theorem failed_n (w : World) (a0 a1 a2 : Int) (a3 a4 : ByteArray) (a5 a6 a7 a8 : Int) (v : Value) (T : Bool) (h : (a6 == 2) = T) : Calls Try.prog 29 #[.agg #[.int .u64 a0, .int .u64 a1, .int .u64 a2, .string a3, .string a4, .int .i64 a5, .int .i64 a6, .int .u64 a7, .int .u64 a8, v]] w fun e w' => e = .returned (.bool T) ∧ Below w.heap.size w w' := by
  subst h; exact failed_w w a0 a1 a2 a3 a4 a5 a6 a7 a8 v
/-- The boxes, and nothing other from a world on. -/
structure Ow (w W2 W : World) (L : List (Nat × List Value)) : Prop where
  t : Bx w W L
  b : Below W2.heap.size W2 W
theorem Ow.keep {w W2 W W' : World} {L : List (Nat × List Value)} (h : Ow w W2 W L) (k : Below W.heap.size W W') : Ow w W2 W' L := ⟨h.t.keep k, h.b.trans (k.mono h.b.size)⟩
theorem Ow.drewN {w W2 W : World} {L : List (Nat × List Value)} (h : Ow w W2 W L) (n : Nat) : Ow w W2 (W.drewN n) L := h.keep ⟨rfl, rfl, rfl, Nat.le_refl _, fun _ _ => rfl⟩
theorem Ow.drew {w W2 W : World} {L : List (Nat × List Value)} (h : Ow w W2 W L) : Ow w W2 W.drew L := h.keep ⟨rfl, rfl, rfl, Nat.le_refl _, fun _ _ => rfl⟩
attribute [local go_sem] max2_int min2_int max_two min_two
set_option maxHeartbeats 16000000 in
set_option maxRecDepth 1000000 in
theorem own_law (w : World) (s0 s1 s2 : Int) (s3 s4 : ByteArray) (s5 s6 s7 s8 : Int) (As : Option Addr) (cs : Nat) (ls : List XSf.S63) (p q : Int) (hp : 0 ≤ p ∧ p ≤ 255) (hq : 0 ≤ q ∧ q ≤ 255) (hC : Kd.C XSf.k63 w As ls.length ls) (hc : ls.length ≤ cs) :
    Calls Try.prog 6 #[.agg #[.int .u64 s0, .int .u64 s1, .int .u64 s2, .string s3, .string s4, .int .i64 s5, .int .i64 s6, .int .u64 s7, .int .u64 s8, .slice As ls.length cs], .int .u8 p, .int .u8 q] w fun e w' => e = .returned (.bool true) ∧ Below w.heap.size w w' := by
  replace hC := Aside0.mk hC
  replace hc := Aside0.mk hc
  obtain ⟨r, hf, hn⟩ := far_f2 s0 s1 s2 s3 s4 s5 s6 s7 s8 ls
  replace hf := Aside0.mk hf
  have hT := Aside0.mk ((Bx.start w).new [.int .u64 s0, .int .u64 s1, .int .u64 s2, .string s3, .string s4, .int .i64 s5, .int .i64 s6, .int .u64 s7, .int .u64 s8, .slice As ls.length cs] 37)
  cases r with
  | true =>
    clear hn
    go_enter Try.func6, Try.ntmps6
    go_wp2_with (first 
      | (go_at_call 26; refine (Oa.alive_w _).mono ?_; rintro e wa ⟨rfl, hb1⟩; replace hT := Aside0.mk (hT.out.keep hb1); clear hb1)
      | (go_at_call 20; refine (XSf.tallyroomlaw06_Far.calls 60 s0 s1 s2 s3 s4 s5 s6 s7 s8 As cs ls _ _ (Kd.C_below hC.out hT.out.b) hc.out hf.out).mono ?_; rintro e wf ⟨rfl, hb1⟩; replace hT := Aside0.mk (hT.out.keep hb1); clear hb1)
      | (refine wpList_load_at (by rfl) 37 _ rfl w.heap.size 0 rfl [.int .u64 s0, .int .u64 s1, .int .u64 s2, .string s3, .string s4, .int .i64 s5, .int .i64 s6, .int .u64 s7, .int .u64 s8, .slice As ls.length cs] _ (row_at0 (hT.out.row (by simp))) Try.underlying37 rfl (by kernel_rfl) ?_))
    go_ret
    exact ⟨by first | rfl | simp, hT.out.b⟩
  | false =>
  obtain ⟨hl, hs3, hs4, _⟩ := hn rfl
  replace hs3 := Aside0.mk hs3
  replace hs4 := Aside0.mk hs4
  obtain ⟨M, hM⟩ : ∃ M, (if p < q then q else p) = M := ⟨_, rfl⟩
  obtain ⟨m, hm⟩ : ∃ m, (if q < p then q else p) = m := ⟨_, rfl⟩
  have hM0 : 0 ≤ M ∧ M ≤ 255 := by rw [← hM]; split <;> omega
  have hm0 : 0 ≤ m ∧ m ≤ 255 := by rw [← hm]; split <;> omega
  have hmM : m ≤ M := by rw [← hM, ← hm]; split <;> split <;> omega
  obtain ⟨y3, hy3⟩ : ∃ t, Lb.lab s3 (1 + M) = t := ⟨_, rfl⟩
  obtain ⟨y4, hy4⟩ : ∃ t, Lb.lab s4 (1 + M) = t := ⟨_, rfl⟩
  obtain ⟨z3, hz3⟩ : ∃ t, Lb.lab s3 (1 + m) = t := ⟨_, rfl⟩
  obtain ⟨z4, hz4⟩ : ∃ t, Lb.lab s4 (1 + m) = t := ⟨_, rfl⟩
  have hmono := Lb.lab_mono s3 (show 1 + m ≤ 1 + M by omega)
  rw [hy3, hz3] at hmono
  replace hmono := Aside0.mk hmono
  replace hy3 := Aside0.mk hy3
  replace hy4 := Aside0.mk hy4
  replace hz3 := Aside0.mk hz3
  replace hz4 := Aside0.mk hz4
  replace hl := Aside0.mk hl
  clear hmM
  obtain ⟨hM1, hM2⟩ := hM0
  obtain ⟨hm1, hm2⟩ := hm0
  have hlen := Aside0.mk (show (Rw.srtL (ls.map av)).length = ls.length by rw [Rw.srtL_length, List.length_map])
  go_enter Try.func6, Try.ntmps6
  go_wp2_with (first 
      | (go_at_call 26; refine (Oa.alive_w _).mono ?_; rintro e wa ⟨rfl, hb1⟩; replace hT := Aside0.mk (hT.out.keep hb1); clear hb1)
      | (go_at_call 20; refine (XSf.tallyroomlaw06_Far.calls 60 s0 s1 s2 s3 s4 s5 s6 s7 s8 As cs ls _ _ (Kd.C_below hC.out hT.out.b) hc.out hf.out).mono ?_; rintro e wf ⟨rfl, hb1⟩; replace hT := Aside0.mk (hT.out.keep hb1); clear hb1)
      | (go_at_call 21; refine (of_w3 _ s0 s1 s2 s3 s4 s5 s6 s7 s8 As cs ls (Kd.C_below hC.out hT.out.b) hc.out hl.out).mono ?_; rintro e w1 ⟨X, dx, rfl, hdx, hX, hb1⟩; replace hT := Aside0.mk (hT.out.keep hb1); replace hX := Aside0.mk hX; replace hdx := Aside0.mk hdx; clear hb1)
      | (refine wpList_store_new w1 (by rfl) 40 _ _ rfl rfl _ #[.int .u64 s0, .int .u64 s1, .int .u64 s2, .string s3, .string s4, .int .i64 s5, .int .i64 s6, .int .u64 s7, .int .u64 s8, .slice X ls.length dx] rfl (by kernel_rfl) (by kernel_rfl) (by kernel_rfl) ?_; replace hT := Aside0.mk (show Bx w (w1.alloc (.cells #[.int .u64 s0, .int .u64 s1, .int .u64 s2, .string s3, .string s4, .int .i64 s5, .int .i64 s6, .int .u64 s7, .int .u64 s8, .slice X ls.length dx] 40)) _ from hT.out.new [.int .u64 s0, .int .u64 s1, .int .u64 s2, .string s3, .string s4, .int .i64 s5, .int .i64 s6, .int .u64 s7, .int .u64 s8, .slice X ls.length dx] 40); replace hX := Aside0.mk (Kd.C_below hX.out ((Below.refl _ w1).alloc (Nat.le_refl _) (.cells #[.int .u64 s0, .int .u64 s1, .int .u64 s2, .string s3, .string s4, .int .i64 s5, .int .i64 s6, .int .u64 s7, .int .u64 s8, .slice X ls.length dx] 40))); generalize w1.alloc (.cells #[.int .u64 s0, .int .u64 s1, .int .u64 s2, .string s3, .string s4, .int .i64 s5, .int .i64 s6, .int .u64 s7, .int .u64 s8, .slice X ls.length dx] 40) = w2 at hT hX ⊢; have hz1 := Aside0.mk (show w1.heap.size < w2.heap.size ∧ w.heap.size < w2.heap.size from ⟨(hT.out.r (w1.heap.size, [.int .u64 s0, .int .u64 s1, .int .u64 s2, .string s3, .string s4, .int .i64 s5, .int .i64 s6, .int .u64 s7, .int .u64 s8, .slice X ls.length dx]) (by simp)).2.1, (hT.out.r (w.heap.size, [.int .u64 s0, .int .u64 s1, .int .u64 s2, .string s3, .string s4, .int .i64 s5, .int .i64 s6, .int .u64 s7, .int .u64 s8, .slice As ls.length cs]) (by simp)).2.1⟩))
      | (go_at_call 27; refine (alike_y _ s0 s1 s2 s3 s4 s5 s6 s7 s8 X dx _ _ (List.length_map _) (1 + m) z3 z4 hz3.out hz4.out (Kd.C_below hX.out hb1.out) hdx.out hl.out hs3.out hs4.out).mono ?_; rintro e w5 ⟨Z, dz, rfl, hZ, hb2⟩; replace hT := Aside0.mk (hT.out.keep hb2); clear hZ; have hb3 := Aside0.mk (hb1.out.trans (hb2.mono hb1.out.size)); replace hY4 := Aside0.mk (hY4.out.keep hb2); have hs5e := Aside0.mk (Nat.le_trans (Nat.le_of_eq hs4e.out.symm) hb2.size); clear hb2)
      | (refine wpList_store_new w5 (by rfl) 40 _ _ rfl rfl _ #[.int .u64 s0, .int .u64 s1, .int .u64 s2, .string (z3), .string (z4), .int .i64 s5, .int .i64 s6, .int .u64 s7, .int .u64 s8, .slice Z ls.length dz] rfl (by kernel_rfl) (by kernel_rfl) (by kernel_rfl) ?_; replace hT := Aside0.mk (show Ow w w2 (w5.alloc (.cells #[.int .u64 s0, .int .u64 s1, .int .u64 s2, .string (z3), .string (z4), .int .i64 s5, .int .i64 s6, .int .u64 s7, .int .u64 s8, .slice Z ls.length dz] 40)) _ from ⟨hT.out.new [.int .u64 s0, .int .u64 s1, .int .u64 s2, .string (z3), .string (z4), .int .i64 s5, .int .i64 s6, .int .u64 s7, .int .u64 s8, .slice Z ls.length dz] 40, hb3.out.alloc hb3.out.size (.cells #[.int .u64 s0, .int .u64 s1, .int .u64 s2, .string (z3), .string (z4), .int .i64 s5, .int .i64 s6, .int .u64 s7, .int .u64 s8, .slice Z ls.length dz] 40)⟩); replace hY4 := Aside0.mk (hY4.out.keep ((Below.refl _ w5).alloc (Nat.le_refl _) (.cells #[.int .u64 s0, .int .u64 s1, .int .u64 s2, .string (z3), .string (z4), .int .i64 s5, .int .i64 s6, .int .u64 s7, .int .u64 s8, .slice Z ls.length dz] 40))); clear hb3 hb1 hs4e; generalize w5.alloc (.cells #[.int .u64 s0, .int .u64 s1, .int .u64 s2, .string (z3), .string (z4), .int .i64 s5, .int .i64 s6, .int .u64 s7, .int .u64 s8, .slice Z ls.length dz] 40) = w6 at hT hY4 ⊢)
      | (go_at_call 27; refine (alike_y _ s0 s1 s2 s3 s4 s5 s6 s7 s8 X dx _ _ (List.length_map _) (1 + M) y3 y4 hy3.out hy4.out hX.out hdx.out hl.out hs3.out hs4.out).mono ?_; rintro e w3 ⟨Y, dy, rfl, hY, hb1⟩; replace hT := Aside0.mk (hT.out.keep hb1); replace hY := Aside0.mk hY; have hz2 := Aside0.mk hb1.size; replace hb1 := Aside0.mk hb1)
      | (refine wpList_store_new w3 (by rfl) 40 _ _ rfl rfl _ #[.int .u64 s0, .int .u64 s1, .int .u64 s2, .string (y3), .string (y4), .int .i64 s5, .int .i64 s6, .int .u64 s7, .int .u64 s8, .slice Y ls.length dy] rfl (by kernel_rfl) (by kernel_rfl) (by kernel_rfl) ?_; replace hT := Aside0.mk (show Bx w (w3.alloc (.cells #[.int .u64 s0, .int .u64 s1, .int .u64 s2, .string (y3), .string (y4), .int .i64 s5, .int .i64 s6, .int .u64 s7, .int .u64 s8, .slice Y ls.length dy] 40)) _ from hT.out.new [.int .u64 s0, .int .u64 s1, .int .u64 s2, .string (y3), .string (y4), .int .i64 s5, .int .i64 s6, .int .u64 s7, .int .u64 s8, .slice Y ls.length dy] 40); replace hb1 := Aside0.mk (hb1.out.alloc hb1.out.size (.cells #[.int .u64 s0, .int .u64 s1, .int .u64 s2, .string (y3), .string (y4), .int .i64 s5, .int .i64 s6, .int .u64 s7, .int .u64 s8, .slice Y ls.length dy] 40)); have hY4 := Aside0.mk (hY.out.keep ((Below.refl _ w3).alloc (Nat.le_refl _) (.cells #[.int .u64 s0, .int .u64 s1, .int .u64 s2, .string (y3), .string (y4), .int .i64 s5, .int .i64 s6, .int .u64 s7, .int .u64 s8, .slice Y ls.length dy] 40))); have hs4e := Aside0.mk (size_alloc w3 (.cells #[.int .u64 s0, .int .u64 s1, .int .u64 s2, .string (y3), .string (y4), .int .i64 s5, .int .i64 s6, .int .u64 s7, .int .u64 s8, .slice Y ls.length dy] 40)); generalize w3.alloc (.cells #[.int .u64 s0, .int .u64 s1, .int .u64 s2, .string (y3), .string (y4), .int .i64 s5, .int .i64 s6, .int .u64 s7, .int .u64 s8, .slice Y ls.length dy] 40) = w4 at hT hb1 hY4 hs4e ⊢)
      | (refine wpList_load_at (by rfl) 40 _ rfl w1.heap.size 0 rfl [.int .u64 s0, .int .u64 s1, .int .u64 s2, .string s3, .string s4, .int .i64 s5, .int .i64 s6, .int .u64 s7, .int .u64 s8, .slice X ls.length dx] _ (row_at0 (hT.out.row (by simp))) Try.underlying40 rfl (by kernel_rfl) ?_)
      | (refine wpList_load_at (by rfl) 37 _ rfl w.heap.size 0 rfl [.int .u64 s0, .int .u64 s1, .int .u64 s2, .string s3, .string s4, .int .i64 s5, .int .i64 s6, .int .u64 s7, .int .u64 s8, .slice As ls.length cs] _ (row_at0 (hT.out.row (by simp))) Try.underlying37 rfl (by kernel_rfl) ?_))
  clear hM hm hp hq hn
  obtain ⟨gy, hgy, hA⟩ := hY4.out.box
  rw [hlen.out] at hgy hA
  have hgw := Aside0.mk (show 0 < ls.length → Y = some ⟨gy, 0, none⟩ ∧ w2.heap.size ≤ gy ∧ gy < w3.heap.size from fun h => by
    obtain ⟨h1, _, _⟩ := hgy h
    obtain ⟨g, k1, k2, k3, _⟩ := hY.out.2 (by rw [hlen.out]; exact h)
    rw [k1] at h1
    have e := Option.some.inj h1
    injection e with e _ _
    subst e
    exact ⟨k1, k2, k3⟩)
  clear hY hY4 hgy
  replace hA := Aside0.mk hA
  have h12 := Aside0.mk (show w.heap.size < w2.heap.size ∧ w1.heap.size < w2.heap.size ∧ w2.heap.size ≤ w3.heap.size from ⟨hz1.out.2, hz1.out.1, hz2.out⟩)
  go_loopg [10] (ls.length + 1) (fun kq v10 wr => ∃ (i : Nat) (f : Nat → Rw.E), v10 = .int .i64 (i : Int) ∧ i ≤ ls.length ∧ ls.length - i < kq ∧ Aside0 (Rw.At wr gy ls.length f) ∧ Aside0 (Ow w w2 wr [(w5.heap.size, [.int .u64 s0, .int .u64 s1, .int .u64 s2, .string (z3), .string (z4), .int .i64 s5, .int .i64 s6, .int .u64 s7, .int .u64 s8, .slice Z ls.length dz]), (w3.heap.size, [.int .u64 s0, .int .u64 s1, .int .u64 s2, .string (y3), .string (y4), .int .i64 s5, .int .i64 s6, .int .u64 s7, .int .u64 s8, .slice Y ls.length dy]), (w1.heap.size, [.int .u64 s0, .int .u64 s1, .int .u64 s2, .string s3, .string s4, .int .i64 s5, .int .i64 s6, .int .u64 s7, .int .u64 s8, .slice X ls.length dx]), (w.heap.size, [.int .u64 s0, .int .u64 s1, .int .u64 s2, .string s3, .string s4, .int .i64 s5, .int .i64 s6, .int .u64 s7, .int .u64 s8, .slice As ls.length cs])]))
  case atStart => exact ⟨0, _, rfl, Nat.zero_le _, by omega, hA, hT⟩
  case round =>
    clear hA hT
    obtain ⟨i, f, rfl, hi, hk, hA, hT⟩ := hrel
    obtain ⟨k1, rfl⟩ : ∃ m, gk = m + 1 := ⟨gk - 1, by omega⟩
    have ⟨b9, b9f⟩ := hT.out.t.row (g := w3.heap.size) (cs := [.int .u64 s0, .int .u64 s1, .int .u64 s2, .string (y3), .string (y4), .int .i64 s5, .int .i64 s6, .int .u64 s7, .int .u64 s8, .slice Y ls.length dy]) (by simp) 9 _ rfl
    by_cases hlt : i < ls.length
    · have hltI : (i : Int) < (ls.length : Int) := by omega
      have hl40 := hl.out
      have hi0 : (0 : Int) ≤ (i : Int) := by omega
      obtain ⟨rfl, hg1, hg2⟩ := hgw.out (by omega)
      obtain ⟨⟨a0, a0f⟩, _, _, _⟩ := hA.out.get i hlt
      go_wp2
      have hA2 := Aside0.mk (hA.out.key i ⟨#[111, 116, 104, 101, 114]⟩)
      have hT2 := Aside0.mk (show Ow w w2 (wr.setCell ⟨gy, i * 4, none⟩ (.string ⟨#[111, 116, 104, 101, 114]⟩)) [(w5.heap.size, [.int .u64 s0, .int .u64 s1, .int .u64 s2, .string (z3), .string (z4), .int .i64 s5, .int .i64 s6, .int .u64 s7, .int .u64 s8, .slice Z ls.length dz]), (w3.heap.size, [.int .u64 s0, .int .u64 s1, .int .u64 s2, .string (y3), .string (y4), .int .i64 s5, .int .i64 s6, .int .u64 s7, .int .u64 s8, .slice (some ⟨gy, 0, none⟩) ls.length dy]), (w1.heap.size, [.int .u64 s0, .int .u64 s1, .int .u64 s2, .string s3, .string s4, .int .i64 s5, .int .i64 s6, .int .u64 s7, .int .u64 s8, .slice X ls.length dx]), (w.heap.size, [.int .u64 s0, .int .u64 s1, .int .u64 s2, .string s3, .string s4, .int .i64 s5, .int .i64 s6, .int .u64 s7, .int .u64 s8, .slice As ls.length cs])] from ⟨hT.out.t.only ((Only.refl (fun q => q = gy) wr).setCell ⟨gy, i * 4, none⟩ _ rfl) (fun g hg => by have e : g = gy := hg; have := h12.out; omega) (fun pq hpq hg => by
        have h5 := hs5e.out
        have h6 := h12.out
        simp only [List.mem_cons, List.not_mem_nil, or_false] at hpq
        have hg : pq.1 = gy := hg
        rcases hpq with rfl | rfl | rfl | rfl
        · have hg : w5.heap.size = gy := hg; omega
        · have hg : w3.heap.size = gy := hg; omega
        · have hg : w1.heap.size = gy := hg; omega
        · have hg : w.heap.size = gy := hg; omega), hT.out.b.setCell hg1 _⟩)
      generalize wr.setCell ⟨gy, i * 4, none⟩ (.string ⟨#[111, 116, 104, 101, 114]⟩) = wn at hA2 hT2 ⊢
      clear b9 b9f a0 a0f
      go_wp2
      go_roundg k1
      case measure => omega
      case rel => exact ⟨i + 1, _, rfl, by omega, by omega, hA2, hT2⟩
    · obtain rfl : i = ls.length := by omega
      clear hk
      go_wp2
      clear b9 b9f
      obtain ⟨T, hTk⟩ : ∃ T, (if s8 < s7 then 0 else IntKind.u64.wrap (s8 - s7)) = T := ⟨_, rfl⟩
      obtain ⟨G, hFl⟩ : ∃ G, (s6 == 2) = G := ⟨_, rfl⟩
      replace hTk := Aside0.mk hTk
      replace hFl := Aside0.mk hFl
      have hTT : (T != T) = false := by simp
      have hGG : (G != G) = false := by simp
      have hS := hT.out.drew
      refine start_ (n := 19) (S := fun W => Ow w w2 W [(w5.heap.size, [.int .u64 s0, .int .u64 s1, .int .u64 s2, .string (z3), .string (z4), .int .i64 s5, .int .i64 s6, .int .u64 s7, .int .u64 s8, .slice Z ls.length dz]), (w3.heap.size, [.int .u64 s0, .int .u64 s1, .int .u64 s2, .string (y3), .string (y4), .int .i64 s5, .int .i64 s6, .int .u64 s7, .int .u64 s8, .slice Y ls.length dy]), (w1.heap.size, [.int .u64 s0, .int .u64 s1, .int .u64 s2, .string s3, .string s4, .int .i64 s5, .int .i64 s6, .int .u64 s7, .int .u64 s8, .slice X ls.length dx]), (w.heap.size, [.int .u64 s0, .int .u64 s1, .int .u64 s2, .string s3, .string s4, .int .i64 s5, .int .i64 s6, .int .u64 s7, .int .u64 s8, .slice As ls.length cs])]) (ds := []) #[false, false, false, false, false, false, false, false, false, false, false, false, false, false, false, false, false, false, false] (by kernel_rfl) rfl rfl hS (fun hHeld => ?_)
      clear hS
      refine take_ (i := 0) (N := some 44) (v := .agg #[.int .u64 s0, .int .u64 s1, .int .u64 s2, .string s3, .string s4, .int .i64 s5, .int .i64 s6, .int .u64 s7, .int .u64 s8, .slice X ls.length dx]) (a' := ?_) #[true, false, false, false, false, false, false, false, false, false, false, false, false, false, false, false, false, false, false] rfl rfl (by kernel_rfl) (fun _ _ _ h => h) (Or.inl ⟨by rfl, ?_⟩) hHeld ?_ ?_
      · rintro w' h
        exact exec_load_at 40 (.tmp 7) rfl (w1.heap.size) 0 rfl [.int .u64 s0, .int .u64 s1, .int .u64 s2, .string s3, .string s4, .int .i64 s5, .int .i64 s6, .int .u64 s7, .int .u64 s8, .slice X ls.length dx] _ (row_at0 (h.t.row (by simp))) Try.underlying40 rfl (by kernel_rfl)
      rotate_left
      · simp only [Act.put, List.setIfInBounds_toArray, List.set_cons_zero, List.set_cons_succ, i64_w, i32_w]
        rfl
      refine take_ (i := 2) (N := some 46) (v := .agg #[.int .u64 s0, .int .u64 s1, .int .u64 s2, .string s3, .string s4, .int .i64 s5, .int .i64 s6, .int .u64 s7, .int .u64 s8, .slice As ls.length cs]) (a' := ?_) #[true, false, true, false, false, false, false, false, false, false, false, false, false, false, false, false, false, false, false] rfl rfl (by kernel_rfl) (fun _ _ _ h => h) (Or.inl ⟨by rfl, ?_⟩) hHeld ?_ ?_
      · rintro w' h
        exact exec_load_at 37 (.tmp 3) rfl (w.heap.size) 0 rfl [.int .u64 s0, .int .u64 s1, .int .u64 s2, .string s3, .string s4, .int .i64 s5, .int .i64 s6, .int .u64 s7, .int .u64 s8, .slice As ls.length cs] _ (row_at0 (h.t.row (by simp))) Try.underlying37 rfl (by kernel_rfl)
      rotate_left
      · simp only [Act.put, List.setIfInBounds_toArray, List.set_cons_zero, List.set_cons_succ, i64_w, i32_w]
        rfl
      refine one_ (i := 1) (N := some 45) #[true, true, true, false, false, false, false, false, false, false, false, false, false, false, false, false, false, false, false] rfl rfl (by kernel_rfl) (by decide) (fun K hK => ?_)
      refine goes_ Try.func24 (by kernel_rfl) rfl #[.agg #[.int .u64 s0, .int .u64 s1, .int .u64 s2, .string s3, .string s4, .int .i64 s5, .int .i64 s6, .int .u64 s7, .int .u64 s8, .slice X ls.length dx]] (by rfl) rfl rfl (by (try simp only [List.map_toArray, List.map_cons, List.map_nil]); first | done | rfl) ?_
      refine (to_w3 _ s0 s1 s2 s3 s4 s5 s6 s7 s8 X dx ls _ rfl (Kd.C_below hX.out hHeld.b) hdx.out hl.out).mono ?_
      rintro e w' ⟨X2, d2, rfl, hd2, hO, hb⟩
      replace hO := Aside0.mk hO
      replace hd2 := Aside0.mk hd2
      have hH2 := Aside0.mk (hHeld.keep hb)
      clear hb
      refine ⟨_, rfl, ?_⟩
      refine hK.out _ _ (hH2.out) (fun hHeld => ?_)
      clear hK K
      refine norm_ (a' := ?_) ?_ ?_
      rotate_left
      · show Act.put _ (some 45) _ = _
        simp only [Act.put, List.setIfInBounds_toArray, List.set_cons_zero, List.set_cons_succ, i64_w, i32_w]
        rfl
      refine one_ (i := 3) (N := some 47) #[true, true, true, true, false, false, false, false, false, false, false, false, false, false, false, false, false, false, false] rfl rfl (by kernel_rfl) (by decide) (fun K hK => ?_)
      refine goes_ Try.func23 (by kernel_rfl) rfl #[.agg #[.int .u64 s0, .int .u64 s1, .int .u64 s2, .string s3, .string s4, .int .i64 s5, .int .i64 s6, .int .u64 s7, .int .u64 s8, .slice X2 ls.length d2], .agg #[.int .u64 s0, .int .u64 s1, .int .u64 s2, .string s3, .string s4, .int .i64 s5, .int .i64 s6, .int .u64 s7, .int .u64 s8, .slice As ls.length cs]] (by rfl) rfl rfl (by (try simp only [List.map_toArray, List.map_cons, List.map_nil]); first | done | rfl) ?_
      refine (same_self _ s0 s1 s2 s3 s4 s5 s6 s7 s8 X2 As d2 cs ls hO.out hd2.out (Kd.C_below hC.out hHeld.t.b) hc.out hl.out).mono ?_
      rintro e w' ⟨rfl, hb⟩
      have hH2 := Aside0.mk (hHeld.keep hb)
      clear hb
      refine ⟨_, rfl, ?_⟩
      refine hK.out _ _ (hH2.out) (fun hHeld => ?_)
      clear hK K
      refine norm_ (a' := ?_) ?_ ?_
      rotate_left
      · show Act.put _ (some 47) _ = _
        simp only [Act.put, List.setIfInBounds_toArray, List.set_cons_zero, List.set_cons_succ, i64_w, i32_w]
        rfl
      refine pure_ (i := 4) (N := some 48) (v := ?_) (a' := ?_) #[true, true, true, true, true, false, false, false, false, false, false, false, false, false, false, false, false, false, false] rfl rfl (by kernel_rfl) (fun _ _ _ h => h) (Or.inl ⟨by rfl, ?_⟩) ?_ ?_
      rotate_left
      · intro w'
        go_simp
        with_reducible rfl
      rotate_left
      · simp only [Act.put, List.setIfInBounds_toArray, List.set_cons_zero, List.set_cons_succ, i64_w, i32_w]
        rfl
      refine pure_ (i := 5) (N := some 49) (v := ?_) (a' := ?_) #[true, true, true, true, true, true, false, false, false, false, false, false, false, false, false, false, false, false, false] rfl rfl (by kernel_rfl) (fun _ _ _ h => h) (Or.inl ⟨by rfl, ?_⟩) ?_ ?_
      rotate_left
      · intro w'
        go_simp
        with_reducible rfl
      rotate_left
      · simp only [Act.put, List.setIfInBounds_toArray, List.set_cons_zero, List.set_cons_succ, i64_w, i32_w]
        rfl
      refine take_ (i := 6) (N := some 50) (v := .agg #[.int .u64 s0, .int .u64 s1, .int .u64 s2, .string (y3), .string (y4), .int .i64 s5, .int .i64 s6, .int .u64 s7, .int .u64 s8, .slice Y ls.length dy]) (a' := ?_) #[true, true, true, true, true, true, true, false, false, false, false, false, false, false, false, false, false, false, false] rfl rfl (by kernel_rfl) (fun _ _ _ h => h) (Or.inl ⟨by rfl, ?_⟩) hHeld ?_ ?_
      · rintro w' h
        exact exec_load_at 40 (.tmp 8) rfl (w3.heap.size) 0 rfl [.int .u64 s0, .int .u64 s1, .int .u64 s2, .string (y3), .string (y4), .int .i64 s5, .int .i64 s6, .int .u64 s7, .int .u64 s8, .slice Y ls.length dy] _ (row_at0 (h.t.row (by simp))) Try.underlying40 rfl (by kernel_rfl)
      rotate_left
      · simp only [Act.put, List.setIfInBounds_toArray, List.set_cons_zero, List.set_cons_succ, i64_w, i32_w]
        rfl
      refine take_ (i := 8) (N := some 52) (v := .agg #[.int .u64 s0, .int .u64 s1, .int .u64 s2, .string s3, .string s4, .int .i64 s5, .int .i64 s6, .int .u64 s7, .int .u64 s8, .slice X ls.length dx]) (a' := ?_) #[true, true, true, true, true, true, true, false, true, false, false, false, false, false, false, false, false, false, false] rfl rfl (by kernel_rfl) (fun _ _ _ h => h) (Or.inl ⟨by rfl, ?_⟩) hHeld ?_ ?_
      · rintro w' h
        exact exec_load_at 40 (.tmp 7) rfl (w1.heap.size) 0 rfl [.int .u64 s0, .int .u64 s1, .int .u64 s2, .string s3, .string s4, .int .i64 s5, .int .i64 s6, .int .u64 s7, .int .u64 s8, .slice X ls.length dx] _ (row_at0 (h.t.row (by simp))) Try.underlying40 rfl (by kernel_rfl)
      rotate_left
      · simp only [Act.put, List.setIfInBounds_toArray, List.set_cons_zero, List.set_cons_succ, i64_w, i32_w]
        rfl
      refine one_ (i := 7) (N := some 51) #[true, true, true, true, true, true, true, true, true, false, false, false, false, false, false, false, false, false, false] rfl rfl (by kernel_rfl) (by decide) (fun K hK => ?_)
      refine goes_ Try.func28 (by kernel_rfl) rfl #[.agg #[.int .u64 s0, .int .u64 s1, .int .u64 s2, .string (y3), .string (y4), .int .i64 s5, .int .i64 s6, .int .u64 s7, .int .u64 s8, .slice Y ls.length dy]] (by rfl) rfl rfl (by (try simp only [List.map_toArray, List.map_cons, List.map_nil]); first | done | rfl) ?_
      refine (took_n _ s0 s1 s2 y3 y4 s5 s6 s7 s8 (.slice Y ls.length dy) _ hTk.out).mono ?_
      rintro e w' ⟨rfl, hb⟩
      have hH2 := Aside0.mk (hHeld.keep hb)
      clear hb
      refine ⟨_, rfl, ?_⟩
      refine hK.out _ _ (hH2.out) (fun hHeld => ?_)
      clear hK K
      refine norm_ (a' := ?_) ?_ ?_
      rotate_left
      · show Act.put _ (some 51) _ = _
        simp only [Act.put, List.setIfInBounds_toArray, List.set_cons_zero, List.set_cons_succ, i64_w, i32_w]
        rfl
      refine one_ (i := 9) (N := some 53) #[true, true, true, true, true, true, true, true, true, true, false, false, false, false, false, false, false, false, false] rfl rfl (by kernel_rfl) (by decide) (fun K hK => ?_)
      refine goes_ Try.func28 (by kernel_rfl) rfl #[.agg #[.int .u64 s0, .int .u64 s1, .int .u64 s2, .string s3, .string s4, .int .i64 s5, .int .i64 s6, .int .u64 s7, .int .u64 s8, .slice X ls.length dx]] (by rfl) rfl rfl (by (try simp only [List.map_toArray, List.map_cons, List.map_nil]); first | done | rfl) ?_
      refine (took_n _ s0 s1 s2 s3 s4 s5 s6 s7 s8 (.slice X ls.length dx) _ hTk.out).mono ?_
      rintro e w' ⟨rfl, hb⟩
      have hH2 := Aside0.mk (hHeld.keep hb)
      clear hb
      refine ⟨_, rfl, ?_⟩
      refine hK.out _ _ (hH2.out) (fun hHeld => ?_)
      clear hK K
      refine norm_ (a' := ?_) ?_ ?_
      rotate_left
      · show Act.put _ (some 53) _ = _
        simp only [Act.put, List.setIfInBounds_toArray, List.set_cons_zero, List.set_cons_succ, i64_w, i32_w]
        rfl
      refine pure_ (i := 10) (N := some 54) (v := ?_) (a' := ?_) #[true, true, true, true, true, true, true, true, true, true, true, false, false, false, false, false, false, false, false] rfl rfl (by kernel_rfl) (fun _ _ _ h => h) (Or.inl ⟨by rfl, ?_⟩) ?_ ?_
      rotate_left
      · intro w'
        go_simp
        with_reducible rfl
      rotate_left
      · simp only [Act.put, List.setIfInBounds_toArray, List.set_cons_zero, List.set_cons_succ, i64_w, i32_w]
        rfl
      refine pure_ (i := 11) (N := some 55) (v := ?_) (a' := ?_) #[true, true, true, true, true, true, true, true, true, true, true, true, false, false, false, false, false, false, false] rfl rfl (by kernel_rfl) (fun _ _ _ h => h) (Or.inl ⟨by rfl, ?_⟩) ?_ ?_
      rotate_left
      · intro w'
        go_simp
        with_reducible rfl
      rotate_left
      · simp only [Act.put, List.setIfInBounds_toArray, List.set_cons_zero, List.set_cons_succ, i64_w, i32_w]
        rfl
      refine pure_ (i := 12) (N := some 56) (v := ?_) (a' := ?_) #[true, true, true, true, true, true, true, true, true, true, true, true, true, false, false, false, false, false, false] rfl rfl (by kernel_rfl) (fun _ _ _ h => h) (Or.inl ⟨by rfl, ?_⟩) ?_ ?_
      rotate_left
      · intro w'
        go_simp
        with_reducible rfl
      rotate_left
      · simp only [Act.put, List.setIfInBounds_toArray, List.set_cons_zero, List.set_cons_succ, i64_w, i32_w]
        rfl
      refine take_ (i := 13) (N := some 57) (v := .agg #[.int .u64 s0, .int .u64 s1, .int .u64 s2, .string (z3), .string (z4), .int .i64 s5, .int .i64 s6, .int .u64 s7, .int .u64 s8, .slice Z ls.length dz]) (a' := ?_) #[true, true, true, true, true, true, true, true, true, true, true, true, true, true, false, false, false, false, false] rfl rfl (by kernel_rfl) (fun _ _ _ h => h) (Or.inl ⟨by rfl, ?_⟩) hHeld ?_ ?_
      · rintro w' h
        exact exec_load_at 40 (.tmp 9) rfl (w5.heap.size) 0 rfl [.int .u64 s0, .int .u64 s1, .int .u64 s2, .string (z3), .string (z4), .int .i64 s5, .int .i64 s6, .int .u64 s7, .int .u64 s8, .slice Z ls.length dz] _ (row_at0 (h.t.row (by simp))) Try.underlying40 rfl (by kernel_rfl)
      rotate_left
      · simp only [Act.put, List.setIfInBounds_toArray, List.set_cons_zero, List.set_cons_succ, i64_w, i32_w]
        rfl
      refine take_ (i := 15) (N := some 59) (v := .agg #[.int .u64 s0, .int .u64 s1, .int .u64 s2, .string s3, .string s4, .int .i64 s5, .int .i64 s6, .int .u64 s7, .int .u64 s8, .slice X ls.length dx]) (a' := ?_) #[true, true, true, true, true, true, true, true, true, true, true, true, true, true, false, true, false, false, false] rfl rfl (by kernel_rfl) (fun _ _ _ h => h) (Or.inl ⟨by rfl, ?_⟩) hHeld ?_ ?_
      · rintro w' h
        exact exec_load_at 40 (.tmp 7) rfl (w1.heap.size) 0 rfl [.int .u64 s0, .int .u64 s1, .int .u64 s2, .string s3, .string s4, .int .i64 s5, .int .i64 s6, .int .u64 s7, .int .u64 s8, .slice X ls.length dx] _ (row_at0 (h.t.row (by simp))) Try.underlying40 rfl (by kernel_rfl)
      rotate_left
      · simp only [Act.put, List.setIfInBounds_toArray, List.set_cons_zero, List.set_cons_succ, i64_w, i32_w]
        rfl
      refine one_ (i := 14) (N := some 58) #[true, true, true, true, true, true, true, true, true, true, true, true, true, true, true, true, false, false, false] rfl rfl (by kernel_rfl) (by decide) (fun K hK => ?_)
      refine goes_ Try.func29 (by kernel_rfl) rfl #[.agg #[.int .u64 s0, .int .u64 s1, .int .u64 s2, .string (z3), .string (z4), .int .i64 s5, .int .i64 s6, .int .u64 s7, .int .u64 s8, .slice Z ls.length dz]] (by rfl) rfl rfl (by (try simp only [List.map_toArray, List.map_cons, List.map_nil]); first | done | rfl) ?_
      refine (failed_n _ s0 s1 s2 z3 z4 s5 s6 s7 s8 (.slice Z ls.length dz) _ hFl.out).mono ?_
      rintro e w' ⟨rfl, hb⟩
      have hH2 := Aside0.mk (hHeld.keep hb)
      clear hb
      refine ⟨_, rfl, ?_⟩
      refine hK.out _ _ (hH2.out) (fun hHeld => ?_)
      clear hK K
      refine norm_ (a' := ?_) ?_ ?_
      rotate_left
      · show Act.put _ (some 58) _ = _
        simp only [Act.put, List.setIfInBounds_toArray, List.set_cons_zero, List.set_cons_succ, i64_w, i32_w]
        rfl
      refine one_ (i := 16) (N := some 60) #[true, true, true, true, true, true, true, true, true, true, true, true, true, true, true, true, true, false, false] rfl rfl (by kernel_rfl) (by decide) (fun K hK => ?_)
      refine goes_ Try.func29 (by kernel_rfl) rfl #[.agg #[.int .u64 s0, .int .u64 s1, .int .u64 s2, .string s3, .string s4, .int .i64 s5, .int .i64 s6, .int .u64 s7, .int .u64 s8, .slice X ls.length dx]] (by rfl) rfl rfl (by (try simp only [List.map_toArray, List.map_cons, List.map_nil]); first | done | rfl) ?_
      refine (failed_n _ s0 s1 s2 s3 s4 s5 s6 s7 s8 (.slice X ls.length dx) _ hFl.out).mono ?_
      rintro e w' ⟨rfl, hb⟩
      have hH2 := Aside0.mk (hHeld.keep hb)
      clear hb
      refine ⟨_, rfl, ?_⟩
      refine hK.out _ _ (hH2.out) (fun hHeld => ?_)
      clear hK K
      refine norm_ (a' := ?_) ?_ ?_
      rotate_left
      · show Act.put _ (some 60) _ = _
        simp only [Act.put, List.setIfInBounds_toArray, List.set_cons_zero, List.set_cons_succ, i64_w, i32_w]
        rfl
      refine pure_ (i := 17) (N := some 61) (v := ?_) (a' := ?_) #[true, true, true, true, true, true, true, true, true, true, true, true, true, true, true, true, true, true, false] rfl rfl (by kernel_rfl) (fun _ _ _ h => h) (Or.inl ⟨by rfl, ?_⟩) ?_ ?_
      rotate_left
      · intro w'
        go_simp
        with_reducible rfl
      rotate_left
      · simp only [Act.put, List.setIfInBounds_toArray, List.set_cons_zero, List.set_cons_succ, i64_w, i32_w]
        rfl
      refine pure_ (i := 18) (N := some 62) (v := ?_) (a' := ?_) #[true, true, true, true, true, true, true, true, true, true, true, true, true, true, true, true, true, true, true] rfl rfl (by kernel_rfl) (fun _ _ _ h => h) (Or.inl ⟨by rfl, ?_⟩) ?_ ?_
      rotate_left
      · intro w'
        go_simp
        with_reducible rfl
      rotate_left
      · simp only [Act.put, List.setIfInBounds_toArray, List.set_cons_zero, List.set_cons_succ, i64_w, i32_w]
        rfl
      refine done_ (by kernel_rfl) ?_
      replace hT := Aside0.mk hHeld
      clear hHeld hO hd2
      have ⟨y3c, _⟩ := hT.out.t.row (g := w3.heap.size) (cs := [.int .u64 s0, .int .u64 s1, .int .u64 s2, .string (y3), .string (y4), .int .i64 s5, .int .i64 s6, .int .u64 s7, .int .u64 s8, .slice Y ls.length dy]) (by simp) 3 _ rfl
      have ⟨z0c, _⟩ := hT.out.t.row (g := w5.heap.size) (cs := [.int .u64 s0, .int .u64 s1, .int .u64 s2, .string (z3), .string (z4), .int .i64 s5, .int .i64 s6, .int .u64 s7, .int .u64 s8, .slice Z ls.length dz]) (by simp) 0 _ rfl
      have ⟨z1c, _⟩ := hT.out.t.row (g := w5.heap.size) (cs := [.int .u64 s0, .int .u64 s1, .int .u64 s2, .string (z3), .string (z4), .int .i64 s5, .int .i64 s6, .int .u64 s7, .int .u64 s8, .slice Z ls.length dz]) (by simp) 1 _ rfl
      have ⟨z2c, _⟩ := hT.out.t.row (g := w5.heap.size) (cs := [.int .u64 s0, .int .u64 s1, .int .u64 s2, .string (z3), .string (z4), .int .i64 s5, .int .i64 s6, .int .u64 s7, .int .u64 s8, .slice Z ls.length dz]) (by simp) 2 _ rfl
      have ⟨z3c, _⟩ := hT.out.t.row (g := w5.heap.size) (cs := [.int .u64 s0, .int .u64 s1, .int .u64 s2, .string (z3), .string (z4), .int .i64 s5, .int .i64 s6, .int .u64 s7, .int .u64 s8, .slice Z ls.length dz]) (by simp) 3 _ rfl
      have ⟨z9c, _⟩ := hT.out.t.row (g := w5.heap.size) (cs := [.int .u64 s0, .int .u64 s1, .int .u64 s2, .string (z3), .string (z4), .int .i64 s5, .int .i64 s6, .int .u64 s7, .int .u64 s8, .slice Z ls.length dz]) (by simp) 9 _ rfl
      have ⟨s0c, _⟩ := hT.out.t.row (g := w.heap.size) (cs := [.int .u64 s0, .int .u64 s1, .int .u64 s2, .string s3, .string s4, .int .i64 s5, .int .i64 s6, .int .u64 s7, .int .u64 s8, .slice As ls.length cs]) (by simp) 0 _ rfl
      have ⟨s1c, _⟩ := hT.out.t.row (g := w.heap.size) (cs := [.int .u64 s0, .int .u64 s1, .int .u64 s2, .string s3, .string s4, .int .i64 s5, .int .i64 s6, .int .u64 s7, .int .u64 s8, .slice As ls.length cs]) (by simp) 1 _ rfl
      have ⟨s2c, _⟩ := hT.out.t.row (g := w.heap.size) (cs := [.int .u64 s0, .int .u64 s1, .int .u64 s2, .string s3, .string s4, .int .i64 s5, .int .i64 s6, .int .u64 s7, .int .u64 s8, .slice As ls.length cs]) (by simp) 2 _ rfl
      have ⟨s9c, _⟩ := hT.out.t.row (g := w.heap.size) (cs := [.int .u64 s0, .int .u64 s1, .int .u64 s2, .string s3, .string s4, .int .i64 s5, .int .i64 s6, .int .u64 s7, .int .u64 s8, .slice As ls.length cs]) (by simp) 9 _ rfl
      go_wp2
      obtain ⟨hsz, hcase⟩ := hmono.out
      have hszI : (z3.size : Int) ≤ (y3.size : Int) := by omega
      have hz0 : (0 : Int) ≤ (z3.size : Int) := by omega
      by_cases he : y3.extract 0 z3.size = z3
      · have he2 : (y3.extract 0 z3.size).toList = z3.toList := by rw [he]
        clear hcase
        go_quiet (fail)
        go_wp2
        go_ret
        exact ⟨by first | rfl | simp, (hT.out.t.drewN _).b⟩
      · have he3 := hcase.resolve_left he
        have he2 : ¬ ((y3.extract 0 z3.size).toList = z3.toList) := by
          intro k
          rw [Lb.toList_D, Lb.toList_D] at k
          exact he (Lb.D_inj k)
        have he4 : z3.toList = (⟨#[95]⟩ : ByteArray).toList := by rw [he3]
        have he5 : ((y3.extract 0 z3.size).toList == z3.toList) = false := by simpa using he2
        have he6 : z3.toList = [95] := by rw [he3, Lb.toList_D]; rfl
        rw [he6] at he5 he2
        clear hcase he3 he4
        go_quiet (fail)
        go_wp2
        go_ret
        exact ⟨by first | rfl | simp, (hT.out.t.drewN _).b⟩
end Go.Proofs.Ytllepjhimkogjaa.Sw
