/- The law SamplerFree, walked. No conditions but bounds. -/
import Derived.Test.YtgpkihnihmbomaaPc
import Derived.Test.YtgpkihnihmbomaaSl
namespace Go.Proofs.Ytgpkihnihmbomaa.Sf
open Go.RowKit Go.Proofs.YtgpkihnihmbomaaW.PrintWords Go.Proofs.YtgpkihnihmbomaaW.PrintLast Go.Proofs.YtgpkihnihmbomaaW.PrintMore
open Go.Proofs.Ytgpkihnihmbomaa.Ob Go.Proofs.Ytgpkihnihmbomaa.Two Go.Proofs.Ytgpkihnihmbomaa.Bx Go.Proofs.Ytgpkihnihmbomaa.Ra Go.Proofs.Ytgpkihnihmbomaa.Sm Go.Proofs.Ytgpkihnihmbomaa.XSs Go.Proofs.Ytgpkihnihmbomaa.Sb Go.Proofs.Ytgpkihnihmbomaa.Sl Go.Proofs.Ytgpkihnihmbomaa.Pt
set_option linter.unusedSimpArgs false
set_option linter.unusedVariables false
theorem M_onlyB {d : Kd Pol} {w w1 : World} {B : Nat} {p : Pol} {cs : List Value} (h : d.M w 0 (fun k => k ≠ B) p cs) (k : Only (fun j => j = B) w w1) : d.M w1 0 (fun k => k ≠ B) p cs := Kd.M_step h (fun i hi hlt => k.block i hlt (fun e => hi e))
/-- The law's samplers: one without a gate, one with; and the policy's box. -/
structure Fr (w W : World) (d : Nat) (p : Pol) (pc : List Value) (S1 S2 N B most cb : Nat) (p1 p2 : Po) (f : Nat → Nat) (has : Nat → Bool) : Prop where
 b : Below w.heap.size w W
 bx : Row W w.heap.size pc
 b0 : w.heap.size ≤ B
 bn : w.heap.size ≠ B
 b1 : B < W.heap.size
 s1 : S1 ≠ B
 fr : IsFree W S1 p1 20
 sm : IsSm W S2 N B p2 20 most cb f has
 m1 : (kp 53 d).M W 0 (fun k => k ≠ B) p p1.cells
 m2 : (kp 53 d).M W 0 (fun k => k ≠ B) p p2.cells
section
variable {w W W' : World} {d : Nat} {p : Pol} {pc : List Value} {S1 S2 N B most cb cb' : Nat} {p1 p2 : Po} {f f' : Nat → Nat} {has has' : Nat → Bool}
theorem Fr.keep (h : Fr w W d p pc S1 S2 N B most cb p1 p2 f has) (k : Below W.heap.size W W') : Fr w W' d p pc S1 S2 N B most cb p1 p2 f has :=
 ⟨h.b.trans (k.mono h.b.size), h.bx.only (below_only0 k) id, h.b0, h.bn, Nat.lt_of_lt_of_le h.b1 k.size, h.s1, Row.only h.fr (below_only0 k) id, h.sm.below k, Kd.M_below h.m1 k, Kd.M_below h.m2 k⟩
theorem Fr.drew (h : Fr w W d p pc S1 S2 N B most cb p1 p2 f has) : Fr w W.drew d p pc S1 S2 N B most cb p1 p2 f has := h.keep ⟨rfl, rfl, rfl, Nat.le_refl _, fun _ _ => rfl⟩
theorem Fr.gate (h : Fr w W d p pc S1 S2 N B most cb p1 p2 f has) (hs : IsSm W' S2 N B p2 20 most cb' f' has') (k : Only (fun j => j = B) W W') : Fr w W' d p pc S1 S2 N B most cb' p1 p2 f' has' :=
 ⟨h.b.trans (k.below (fun j e => by have e : j = B := e; subst e; exact h.b0) h.b.size), h.bx.only k h.bn, h.b0, h.bn, Nat.lt_of_lt_of_le h.b1 k.size, h.s1, Row.only h.fr k h.s1, hs, M_onlyB h.m1 k, M_onlyB h.m2 k⟩
/-- Asked by the free one. -/
theorem fr_ask_a (h : Fr w W d p pc S1 S2 N B most cb p1 p2 f has) (base : Nat) (A : Option Addr) (n c : Nat) (ys : List S70) (x : Int) (wn : Nat) (hky : keys d p) (hc0 : chk d p = 0) (hY : Sp W base A n c ys) (hn : n ≤ 20) (h9 : ∀ s ∈ ys, s.f9.length ≤ 1000) (he : ∀ s ∈ ys, s.f8 < 18446744073709551616)
  (hx : (if 0 < n ∧ hd d p ys = true then (1 : Int) else 0) = x) (hw : win ys ((20 : Nat) : Int) = (wn : Int)) :
  Calls Try.prog 27 #[.pointer (some ⟨S1, 0, none⟩), .slice A n c] W fun e W' => e = .returned (.tuple #[.int .i64 x, .int .u64 (wn : Int), .int .i64 0]) ∧ Below W.heap.size W W' := by
 have hl : ys.length = n := hY.1.symm
 rcases Nat.eq_zero_or_pos n with h0 | hp
 ·subst h0
  obtain rfl : ys = [] := List.eq_nil_of_length_eq_zero hl
  rw [if_neg (by omega)] at hx
  have e : wn = 0 := by
   have h0 : win [] ((20 : Nat) : Int) = 0 := by decide
   rw [h0] at hw; omega
  subst hx e
  exact (ask_empty ⟨S1, 0, none⟩ A c W).mono fun e W' k => ⟨k.1, by rw [k.2]; exact Below.refl _ _⟩
 ·have hC := hY.C
  have hH : ∀ b, hd d p ys = b → Aside0 (∀ W', Below W.heap.size W W' → Calls Try.prog 32 #[p1.val, .slice A n c] W' fun e w' => e = .returned (.bool b) ∧ Below W'.heap.size W' w') := fun b hb => ⟨fun W' k => Holds_w d p p1.cells ys A n c W' b hky hc0 ((kp 53 d).K_of_M (Kd.M_below h.m1 k)) hl (Kd.C_below hC k) h9 hb⟩
  have hW : Aside0 (Calls Try.prog 31 #[.slice A n c, .int .u64 ((20 : Nat) : Int)] W fun e w' => e = .returned (.int .u64 (wn : Int)) ∧ Below W.heap.size W w') := ⟨win_w A n c ys 20 _ W hl (by omega) (by omega) he hC hY.2.1 hw⟩
  cases hh : hd d p ys with
  | false =>
   rw [if_neg (by rw [hh]; simp)] at hx
   subst hx
   exact ask_drop S1 p1 20 _ A n c _ W hp h.fr hW (hH false hh)
  | true =>
   rw [if_pos ⟨hp, hh⟩] at hx
   subst hx
   exact ask_free S1 p1 20 A n c _ W hp h.fr hW (hH true hh)
/-- Asked by the one with a gate, of what does not hold. -/
theorem fr_ask_b0 (h : Fr w W d p pc S1 S2 N B most cb p1 p2 f has) (base : Nat) (A : Option Addr) (n c : Nat) (ys : List S70) (wn : Nat) (hky : keys d p) (hc0 : chk d p = 0) (hY : Sp W base A n c ys) (hn : n ≤ 20) (h9 : ∀ s ∈ ys, s.f9.length ≤ 1000) (he : ∀ s ∈ ys, s.f8 < 18446744073709551616)
  (hx : (if 0 < n ∧ hd d p ys = true then (1 : Int) else 0) = 0) (hw : win ys ((20 : Nat) : Int) = (wn : Int)) :
  Calls Try.prog 27 #[.pointer (some ⟨S2, 0, none⟩), .slice A n c] W fun e W' => e = .returned (.tuple #[.int .i64 0, .int .u64 (wn : Int), .int .i64 0]) ∧ Below W.heap.size W W' := by
 have hl : ys.length = n := hY.1.symm
 rcases Nat.eq_zero_or_pos n with h0 | hp
 ·subst h0
  obtain rfl : ys = [] := List.eq_nil_of_length_eq_zero hl
  have e : wn = 0 := by
   have h0 : win [] ((20 : Nat) : Int) = 0 := by decide
   rw [h0] at hw; omega
  subst e
  exact (ask_empty ⟨S2, 0, none⟩ A c W).mono fun e W' k => ⟨k.1, by rw [k.2]; exact Below.refl _ _⟩
 ·have hC := hY.C
  have hh : hd d p ys = false := by
   cases hh : hd d p ys with
   | false => rfl
   | true => rw [if_pos ⟨hp, hh⟩] at hx; cases hx
  exact ask_drop S2 p2 20 _ A n c _ W hp h.sm.head ⟨win_w A n c ys 20 _ W hl (by omega) (by omega) he hC hY.2.1 hw⟩ ⟨fun W' k => Holds_w d p p2.cells ys A n c W' false hky hc0 ((kp 53 d).K_of_M (Kd.M_below h.m2 k)) hl (Kd.C_below hC k) h9 hh⟩
/-- Asked by the one with a gate, of what holds. -/
theorem fr_ask_b1 (h : Fr w W d p pc S1 S2 N B most cb p1 p2 f has) (base : Nat) (A : Option Addr) (n c : Nat) (ys : List S70) (wn : Nat) (y : Int) (hky : keys d p) (hc0 : chk d p = 0) (hY : Sp W base A n c ys) (hn : n ≤ 20) (hp : 0 < n) (h9 : ∀ s ∈ ys, s.f9.length ≤ 1000) (he : ∀ s ∈ ys, s.f8 < 18446744073709551616)
  (hh : hd d p ys = true) (hw : win ys ((20 : Nat) : Int) = (wn : Int)) (hm : most ≤ 65536) (hcb : cb < 1000000) (hy : (if f wn < most then (1 : Int) else 2) = y) :
  Calls Try.prog 27 #[.pointer (some ⟨S2, 0, none⟩), .slice A n c] W fun e W' => e = .returned (.tuple #[.int .i64 y, .int .u64 (wn : Int), .int .i64 0]) ∧ Fr w W' d p pc S1 S2 N B most (cb + 1) p1 p2 (at' f wn (if f wn < most then f wn + 1 else f wn)) (at' has wn true) ∧ Only (fun j => j = B) W W' := by
 have hl : ys.length = n := hY.1.symm
 have hC := hY.C
 have hr := win_range ys ((20 : Nat) : Int) (by omega) he
 rw [hw] at hr
 subst hy
 refine (ask_gate S2 N B p2 20 most cb f has A n c wn W hp h.sm (by omega) hm hcb ⟨win_w A n c ys 20 _ W hl (by omega) (by omega) he hC hY.2.1 hw⟩ ⟨fun W' k => Holds_w d p p2.cells ys A n c W' true hky hc0 ((kp 53 d).K_of_M (Kd.M_below h.m2 k)) hl (Kd.C_below hC k) h9 hh⟩).mono ?_
 rintro e W' ⟨rfl, h1, h2⟩
 exact ⟨rfl, h.gate h1 h2, h2⟩
theorem fr_forget_b (h : Fr w W d p pc S1 S2 N B most cb p1 p2 f has) (k : Nat) (b : Bool) (hk : k < 18446744073709551616) (hb : has k = b) :
  Calls Try.prog 33 #[.pointer (some ⟨S2, 0, none⟩), .int .u64 (k : Int)] W fun e W' => e = .returned (.bool b) ∧ Fr w W' d p pc S1 S2 N B most cb p1 p2 (at' f k 0) (at' has k false) ∧ Only (fun j => j = B) W W' := by
 refine (forget_gate S2 N B p2 20 most cb f has k b W h.sm hk hb).mono ?_
 rintro e W' ⟨rfl, h1, h2⟩
 exact ⟨rfl, h.gate h1 h2, h2⟩
end
theorem Sp.onlyB {w w1 : World} {base B n c : Nat} {A : Option Addr} {l : List S70} (h : Sp w base A n c l) (k : Only (fun j => j = B) w w1) (hB : B < base) : Sp w1 base A n c l := Sp.only h k (fun j e => by have e : j = B := e; subst e; exact hB)
/-- At the law's check: the bundle, and the span list looked at. -/
def At (w W : World) (d : Nat) (p : Pol) (pc : List Value) (S1 S2 N B most cb : Nat) (p1 p2 : Po) (f : Nat → Nat) (has : Nat → Bool) (a : Addr) (v : Value) : Prop := Fr w W d p pc S1 S2 N B most cb p1 p2 f has ∧ W.cell? a = some v
theorem At.keep {w W W' : World} {d : Nat} {p : Pol} {pc : List Value} {S1 S2 N B most cb : Nat} {p1 p2 : Po} {f : Nat → Nat} {has : Nat → Bool} {a : Addr} {v : Value} (h : At w W d p pc S1 S2 N B most cb p1 p2 f has a v) (k : Below W.heap.size W W') : At w W' d p pc S1 S2 N B most cb p1 p2 f has a v := ⟨h.1.keep k, cellB k h.2⟩
/-- One span list of the law's. -/
theorem elem_w (d : Nat) (p : Pol) (w W : World) (A0 : Option Addr) (n0 : Nat) (l : List (List S99)) (i : Nat) (hl : l.length = n0) (hi : i < n0) (hC : Kd.C (Kd.slice 99 k99) w A0 n0 l) (hb : Below w.heap.size w W) (hnear : ∀ x ∈ l, Near x) (he : ∀ x ∈ l, ∀ s ∈ x, 0 ≤ s.f8 ∧ s.f8 < 18446744073709551616) :
  ∃ ad A1 c1 n xs wn b, A0 = some ad ∧ w.cell? (ad.add i) = some (.slice A1 n c1) ∧ n ≤ c1 ∧ Kd.C k99 w A1 n xs ∧ xs.length = n ∧ n ≤ 20 ∧ Near xs ∧ (∀ s ∈ xs.map ofS, s.f9.length ≤ 1000) ∧ (∀ s ∈ xs.map ofS, s.f8 < 18446744073709551616) ∧ win (xs.map ofS) ((20 : Nat) : Int) = ((wn : Nat) : Int) ∧ wn < 18446744073709551616 ∧ hd (d + 1) p (xs.map ofS) = b := by
 have hil : i < l.length := by omega
 obtain ⟨ad, A1, c1, e, x0, hc1, hX⟩ := at_L11 hC (i : Int) (by omega) (by omega)
 rw [rdL11 l i hil, Int.toNat_natCast] at x0
 rw [rdL11 l i hil] at hc1 hX
 have hxn := hnear _ (List.getElem_mem hil)
 have hxe := he _ (List.getElem_mem hil)
 have h8 : ∀ s ∈ (l[i]).map ofS, s.f8 < 18446744073709551616 := fun s hs => by
  obtain ⟨x, hx, rfl⟩ := List.mem_map.1 hs
  exact (hxe x hx).2
 have hr := win_range ((l[i]).map ofS) ((20 : Nat) : Int) (by omega) h8
 exact ⟨ad, A1, c1, _, l[i], (win ((l[i]).map ofS) ((20 : Nat) : Int)).toNat, _, e, x0, hc1, hX, rfl, hxn.1, hxn, fun s hs => by
  obtain ⟨x, hx, rfl⟩ := List.mem_map.1 hs
  have := hxn.2 x hx
  show (x.f9.map oa).length ≤ 1000
  rw [List.length_map]; omega, h8, (Int.toNat_of_nonneg hr.1).symm, by omega, rfl⟩
set_option maxHeartbeats 32000000 in
set_option maxRecDepth 1000000 in
theorem free_law (w : World) (d : Nat) (p : Pol) (Ap : Option Addr) (cp kn : Nat) (A0 : Option Addr) (c0 : Nat) (l : List (List S99)) (most : Nat) (hmost : most ≤ 255) (he : ∀ x ∈ l, ∀ s ∈ x, 0 ≤ s.f8 ∧ s.f8 < 18446744073709551616) (hK : (kp 43 (d + 1)).K w p [.string p.op, .string p.key, .int .i64 p.vk, .int .i64 p.vn, .string p.vs, .int .u64 p.n, .slice Ap kn cp]) (hC : Kd.C (Kd.slice 99 k99) w A0 l.length l) (hc : l.length ≤ c0) :
  Calls Try.prog 8 #[.agg #[.string p.op, .string p.key, .int .i64 p.vk, .int .i64 p.vn, .string p.vs, .int .u64 p.n, .slice Ap kn cp], .slice A0 l.length c0, .int .u8 (most : Int)] w fun e w' => e = .returned (.bool true) ∧ Below w.heap.size w w' := by
 replace hC := Aside0.mk hC
 replace hc := Aside0.mk hc
 replace hK := Aside0.mk hK
 replace he := Aside0.mk he
 have hT := Aside0.mk ((Bx.start w).new [.string p.op, .string p.key, .int .i64 p.vk, .int .i64 p.vn, .string p.vs, .int .u64 p.n, .slice Ap kn cp] 43)
 cases hf1 : far (d + 1) p 1 with
 | true =>
  replace hf1 := Aside0.mk hf1
  go_enter Try.func8, Try.ntmps8
  go_wp2_with (first
  | (go_at_call 21; refine (alive_w _).mono ?_; rintro r wa ⟨rfl, hb1⟩; replace hT := Aside0.mk (hT.out.keep hb1); clear hb1)
  | (go_at_call 22; refine (far_w (d + 1) p 1 1 [.string p.op, .string p.key, .int .i64 p.vk, .int .i64 p.vn, .string p.vs, .int .u64 p.n, .slice Ap kn cp] _ true rfl (by omega) ((kp 43 (d + 1)).K_below hT.out.b hK.out) hf1.out).mono ?_; rintro r wb ⟨rfl, hb1⟩; replace hT := Aside0.mk (hT.out.keep hb1); clear hb1)
  | (refine wpList_load_at (by rfl) 43 _ rfl w.heap.size 0 rfl [.string p.op, .string p.key, .int .i64 p.vk, .int .i64 p.vn, .string p.vs, .int .u64 p.n, .slice Ap kn cp] _ (row_at0 (hT.out.row (List.mem_cons_self ..))) Try.underlying43 rfl (by kernel_rfl) ?_))
  go_ret
  exact ⟨by first | rfl | simp, hT.out.b⟩
 | false =>
 have hnr := far_near (d + 1) p 1 hf1 (by omega)
 have hdp := Aside0.mk hnr.1
 have hky := Aside0.mk hnr.2
 clear hnr
 replace hf1 := Aside0.mk hf1
 obtain ⟨r, hf2, hn⟩ := far_f l
 replace hf2 := Aside0.mk hf2
 cases r with
 | true =>
  clear hn
  go_enter Try.func8, Try.ntmps8
  go_wp2_with (first
  | (go_at_call 21; refine (alive_w _).mono ?_; rintro r wa ⟨rfl, hb1⟩; replace hT := Aside0.mk (hT.out.keep hb1); clear hb1)
  | (go_at_call 22; refine (far_w (d + 1) p 1 1 [.string p.op, .string p.key, .int .i64 p.vk, .int .i64 p.vn, .string p.vs, .int .u64 p.n, .slice Ap kn cp] _ false rfl (by omega) ((kp 43 (d + 1)).K_below hT.out.b hK.out) hf1.out).mono ?_; rintro r wb ⟨rfl, hb1⟩; replace hT := Aside0.mk (hT.out.keep hb1); clear hb1)
  | (go_at_call 23; refine (tallyroomlaw24_far.calls 1000 A0 c0 l _ _ (Kd.C_below hC.out hT.out.b) hc.out hf2.out).mono ?_; rintro r wc ⟨rfl, hb1⟩; replace hT := Aside0.mk (hT.out.keep hb1); clear hb1)
  | (refine wpList_load_at (by rfl) 43 _ rfl w.heap.size 0 rfl [.string p.op, .string p.key, .int .i64 p.vk, .int .i64 p.vn, .string p.vs, .int .u64 p.n, .slice Ap kn cp] _ (row_at0 (hT.out.row (List.mem_cons_self ..))) Try.underlying43 rfl (by kernel_rfl) ?_))
  go_ret
  exact ⟨by first | rfl | simp, hT.out.b⟩
 | false =>
 obtain ⟨hl20, hnear⟩ := hn rfl
 replace hnear := Aside0.mk hnear
 clear hn
 obtain ⟨ck, hck⟩ : ∃ ck, chk (d + 1) p = ck := ⟨_, rfl⟩
 by_cases hc0 : ck = 0
 case neg =>
  have hz : (ck == 0) = false := by rw [beq_eq_false_iff_ne]; exact hc0
  have hz2 : (ck != 0) = true := by rw [bne_iff_ne]; exact hc0
  replace hck := Aside0.mk hck
  clear hc0
  go_enter Try.func8, Try.ntmps8
  go_wp2_with (first
  | (go_at_call 21; refine (alive_w _).mono ?_; rintro r wa ⟨rfl, hb1⟩; replace hT := Aside0.mk (hT.out.keep hb1); clear hb1)
  | (go_at_call 22; refine (far_w (d + 1) p 1 1 [.string p.op, .string p.key, .int .i64 p.vk, .int .i64 p.vn, .string p.vs, .int .u64 p.n, .slice Ap kn cp] _ false rfl (by omega) ((kp 43 (d + 1)).K_below hT.out.b hK.out) hf1.out).mono ?_; rintro r wb ⟨rfl, hb1⟩; replace hT := Aside0.mk (hT.out.keep hb1); clear hb1)
  | (go_at_call 23; refine (tallyroomlaw24_far.calls 1000 A0 c0 l _ _ (Kd.C_below hC.out hT.out.b) hc.out hf2.out).mono ?_; rintro r wc ⟨rfl, hb1⟩; replace hT := Aside0.mk (hT.out.keep hb1); clear hb1)
  | (go_at_call 26; refine (rcheck_w (d + 1) p [.string p.op, .string p.key, .int .i64 p.vk, .int .i64 p.vn, .string p.vs, .int .u64 p.n, .slice Ap kn cp] _ ck hky.out (by have := hdp.out; omega) ((kp 43 (d + 1)).K_below hT.out.b hK.out) hck.out).mono ?_; rintro r wd ⟨rfl, hb1⟩; replace hT := Aside0.mk (hT.out.keep hb1); clear hb1)
  | (refine wpList_load_at (by rfl) 43 _ rfl w.heap.size 0 rfl [.string p.op, .string p.key, .int .i64 p.vk, .int .i64 p.vn, .string p.vs, .int .u64 p.n, .slice Ap kn cp] _ (row_at0 (hT.out.row (List.mem_cons_self ..))) Try.underlying43 rfl (by kernel_rfl) ?_))
  go_ret
  exact ⟨by first | rfl | simp, hT.out.b⟩
 subst hc0
 replace hck := Aside0.mk hck
 go_enter Try.func8, Try.ntmps8
 go_wp2_with (first
  | (go_at_call 21; refine (alive_w _).mono ?_; rintro r wa ⟨rfl, hb1⟩; replace hT := Aside0.mk (hT.out.keep hb1); clear hb1)
  | (go_at_call 22; refine (far_w (d + 1) p 1 1 [.string p.op, .string p.key, .int .i64 p.vk, .int .i64 p.vn, .string p.vs, .int .u64 p.n, .slice Ap kn cp] _ false rfl (by omega) ((kp 43 (d + 1)).K_below hT.out.b hK.out) hf1.out).mono ?_; rintro r wb ⟨rfl, hb1⟩; replace hT := Aside0.mk (hT.out.keep hb1); clear hb1)
  | (go_at_call 23; refine (tallyroomlaw24_far.calls 1000 A0 c0 l _ _ (Kd.C_below hC.out hT.out.b) hc.out hf2.out).mono ?_; rintro r wc ⟨rfl, hb1⟩; replace hT := Aside0.mk (hT.out.keep hb1); clear hb1)
  | (go_at_call 26; refine (rcheck_w (d + 1) p [.string p.op, .string p.key, .int .i64 p.vk, .int .i64 p.vn, .string p.vs, .int .u64 p.n, .slice Ap kn cp] _ 0 hky.out (by have := hdp.out; omega) ((kp 43 (d + 1)).K_below hT.out.b hK.out) hck.out).mono ?_; rintro r wd ⟨rfl, hb1⟩; replace hT := Aside0.mk (hT.out.keep hb1); clear hb1)
  | (refine wpList_load_at (by rfl) 43 _ rfl w.heap.size 0 rfl [.string p.op, .string p.key, .int .i64 p.vk, .int .i64 p.vn, .string p.vs, .int .u64 p.n, .slice Ap kn cp] _ (row_at0 (hT.out.row (List.mem_cons_self ..))) Try.underlying43 rfl (by kernel_rfl) ?_)
  | (go_at_call 25; refine (of_w (d + 1) p [.string p.op, .string p.key, .int .i64 p.vk, .int .i64 p.vn, .string p.vs, .int .u64 p.n, .slice Ap kn cp] _ hky.out ((kp 43 (d + 1)).K_below hT.out.b hK.out)).mono ?_))
 rintro e w1 ⟨cs1, rfl, hM1, hb1⟩
 obtain ⟨Aq1, cq1, rfl, _, _⟩ := kp_open ((kp 53 (d + 1)).K_of_M hM1)
 replace hT := Aside0.mk (hT.out.keep hb1)
 clear hb1
 have hN1 := Aside0.mk ((kp 53 (d + 1)).M_bound hM1)
 clear hM1
 go_wp2_with (go_at_call 24; refine (new_free ⟨p.op, p.key, p.vk, p.vn, p.vs, p.n, Aq1, p.kids.length, cq1⟩ 20 _ (by omega) (by omega) ⟨fun W hbW => check_w (d + 1) p _ W 0 hky.out ((kp 53 (d + 1)).K_below hbW ((kp 53 (d + 1)).K_of_M hN1.out)) hck.out⟩).mono ?_)
 rintro e w2 ⟨S1, rfl, hSa, hSb, hfr, hb2⟩
 replace hT := Aside0.mk (hT.out.keep hb2)
 have hM1 := Aside0.mk (Kd.M_below hN1.out hb2)
 replace hSa := Aside0.mk hSa
 replace hSb := Aside0.mk hSb
 replace hfr := Aside0.mk hfr
 have hsz := Aside0.mk hb2.size
 clear hb2 hN1
 go_wp2_with (first
   | (refine wpList_load_at (by rfl) 43 _ rfl w.heap.size 0 rfl [.string p.op, .string p.key, .int .i64 p.vk, .int .i64 p.vn, .string p.vs, .int .u64 p.n, .slice Ap kn cp] _ (row_at0 (hT.out.row (List.mem_cons_self ..))) Try.underlying43 rfl (by kernel_rfl) ?_)
   | (go_at_call 25; refine (of_w (d + 1) p [.string p.op, .string p.key, .int .i64 p.vk, .int .i64 p.vn, .string p.vs, .int .u64 p.n, .slice Ap kn cp] _ hky.out ((kp 43 (d + 1)).K_below hT.out.b hK.out)).mono ?_))
 rintro e w3 ⟨cs2, rfl, hM2, hb3⟩
 obtain ⟨Aq2, cq2, rfl, _, _⟩ := kp_open ((kp 53 (d + 1)).K_of_M hM2)
 replace hT := Aside0.mk (hT.out.keep hb3)
 replace hM1 := Aside0.mk (Kd.M_below hM1.out hb3)
 replace hfr := Aside0.mk (Row.only hfr.out (below_only0 hb3) id)
 have hsz3 := Aside0.mk hb3.size
 clear hb3
 have hN2 := Aside0.mk ((kp 53 (d + 1)).M_bound hM2)
 clear hM2
 go_wp2_with (go_at_call 24; refine (new_gate ⟨p.op, p.key, p.vk, p.vn, p.vs, p.n, Aq2, p.kids.length, cq2⟩ 20 most _ (by omega) (by omega) (by omega) ⟨fun W hbW => check_w (d + 1) p _ W 0 hky.out ((kp 53 (d + 1)).K_below hbW ((kp 53 (d + 1)).K_of_M hN2.out)) hck.out⟩).mono ?_)
 rintro e w4 ⟨S2, N, B, rfl, hS, hN, hB, hS1, hNN, hB1, hs, hb4⟩
 have HF := Aside0.mk (show Fr w w4 (d + 1) p [.string p.op, .string p.key, .int .i64 p.vk, .int .i64 p.vn, .string p.vs, .int .u64 p.n, .slice Ap kn cp] S1 S2 N B most 0 ⟨p.op, p.key, p.vk, p.vn, p.vs, p.n, Aq1, p.kids.length, cq1⟩ ⟨p.op, p.key, p.vk, p.vn, p.vs, p.n, Aq2, p.kids.length, cq2⟩ (fun _ => 0) (fun _ => false) from by
  have hrow := hT.out.row (List.mem_cons_self ..)
  have hlt := hrow.lt (by simp)
  have hlt1 := hSb.out
  have hz3 := hsz3.out
  have hz2 := hsz.out
  refine ⟨(hT.out.keep hb4).b, (hT.out.keep hb4).row (List.mem_cons_self ..), by omega, by omega, hB1, by omega, Row.only hfr.out (below_only0 hb4) id, hs, Kd.M_below ((kp 53 (d + 1)).M_lower (Nat.zero_le _) ((kp 53 (d + 1)).M_mono (fun k hk => ?_) hM1.out)) hb4, Kd.M_below ((kp 53 (d + 1)).M_lower (Nat.zero_le _) ((kp 53 (d + 1)).M_mono (fun k hk => ?_) hN2.out)) hb4⟩
  ·have := hk.2.2.1; omega
  ·have := hk.2.2.1; omega)
 clear hS hN hB hS1 hNN hB1 hs hb4 hT hM1 hN2 hfr hSa hSb hsz hsz3
 obtain ⟨n0, hn0⟩ : ∃ n0, l.length = n0 := ⟨_, rfl⟩
 rw [hn0] at hC hc hl20 ⊢
 go_wp2
 go_loopg [11] (n0 + 2) (fun kq v11 wr => ∃ (m : Nat) (z : Int), v11 = .int .i64 z ∧ z = (m : Int) - 1 ∧ m ≤ n0 ∧ m < kq ∧ Aside0 (Fr w wr (d + 1) p [.string p.op, .string p.key, .int .i64 p.vk, .int .i64 p.vn, .string p.vs, .int .u64 p.n, .slice Ap kn cp] S1 S2 N B most 0 ⟨p.op, p.key, p.vk, p.vn, p.vs, p.n, Aq1, p.kids.length, cq1⟩ ⟨p.op, p.key, p.vk, p.vn, p.vs, p.n, Aq2, p.kids.length, cq2⟩ (fun _ => 0) (fun _ => false)))
 case atStart => exact ⟨n0, _, rfl, rfl, Nat.le_refl _, by omega, HF⟩
 case round =>
  clear HF
  obtain ⟨m, z, rfl, hz, hm, hk, HF⟩ := hrel
  obtain ⟨k1, rfl⟩ : ∃ m, gk = m + 1 := ⟨gk - 1, by omega⟩
  rcases m with _ | i
  ·obtain rfl : z = -1 := by omega
   clear hz
   go_wp2
   go_loopg [12] (n0 + 1) (fun kq v12 wr => ∃ (i cb : Nat) (f : Nat → Nat) (has : Nat → Bool), v12 = .int .i64 (i : Int) ∧ i ≤ n0 ∧ n0 - i < kq ∧ cb ≤ 2 * i ∧ Aside0 (Fr w wr (d + 1) p [.string p.op, .string p.key, .int .i64 p.vk, .int .i64 p.vn, .string p.vs, .int .u64 p.n, .slice Ap kn cp] S1 S2 N B most cb ⟨p.op, p.key, p.vk, p.vn, p.vs, p.n, Aq1, p.kids.length, cq1⟩ ⟨p.op, p.key, p.vk, p.vn, p.vs, p.n, Aq2, p.kids.length, cq2⟩ f has))
   case atStart => exact ⟨0, 0, _, _, rfl, Nat.zero_le _, by omega, by omega, HF⟩
   case round =>
    clear HF
    obtain ⟨i, cb, f, has, rfl, hi, hk2, hcb, HF⟩ := hrel
    obtain ⟨k2, rfl⟩ : ∃ m, gk = m + 1 := ⟨gk - 1, by omega⟩
    have hi0 : (0 : Int) ≤ (i : Int) := by omega
    by_cases hin : i < n0
    ·have hinI : (i : Int) < (n0 : Int) := by omega
     obtain ⟨ad, A1, c1, n, xs, wn, hh, rfl, x0, hc1, hX, hn, hn20, hxn, h9, h8, hw, hwl, hhd⟩ := elem_w (d + 1 - 1) p w _ A0 n0 l i hn0 hin hC.out HF.out.b hnear.out he.out
     rw [Nat.add_sub_cancel] at hhd
     have hyl : (xs.map ofS).length = n := by rw [List.length_map]; exact hn
     replace hX := Aside0.mk hX
     replace hxn := Aside0.mk hxn
     replace h9 := Aside0.mk h9
     replace h8 := Aside0.mk h8
     replace hw := Aside0.mk hw
     replace hwl := Aside0.mk hwl
     have x1 := cellB HF.out.b x0
     go_wp2_with (go_at_call 28; refine (ofs_w A1 n c1 xs _ hn hxn.out (Kd.C_below hX.out HF.out.b) hc1).mono ?_)
     rintro e w5 ⟨A5, c5, rfl, hY5, hb1⟩
     replace HF := Aside0.mk (HF.out.keep hb1)
     replace hY5 := Aside0.mk hY5
     clear hb1 x1
     rcases Nat.eq_zero_or_pos n with hn00 | hnp
     ·subst hn00
      replace hhd := Aside0.mk hhd
      have hx0 : (if 0 < (0 : Nat) ∧ hd (d + 1) p (xs.map ofS) = true then (1 : Int) else 0) = 0 := if_neg (by omega)
      replace hx0 := Aside0.mk hx0
      go_wp2_with (go_at_call 27; refine (fr_ask_a HF.out _ A5 0 c5 _ 0 wn hky.out hck.out hY5.out hn20 h9.out h8.out hx0.out hw.out).mono ?_; rintro e w6 ⟨rfl, hb1⟩; replace HF := Aside0.mk (HF.out.keep hb1); clear hb1; have x1 := cellB HF.out.b x0)
      go_wp2_with (go_at_call 28; refine (ofs_w A1 0 c1 xs _ hn hxn.out (Kd.C_below hX.out HF.out.b) hc1).mono ?_)
      rintro e w7 ⟨A7, c7, rfl, hY7, hb1⟩
      replace HF := Aside0.mk (HF.out.keep hb1)
      replace hY7 := Aside0.mk hY7
      clear hb1 x1
      go_wp2_with (go_at_call 27; refine (fr_ask_b0 HF.out _ A7 0 c7 _ wn hky.out hck.out hY7.out hn20 h9.out h8.out hx0.out hw.out).mono ?_; rintro e w7b ⟨rfl, hb1⟩; replace HF := Aside0.mk (HF.out.keep hb1); clear hb1)
      have hS := (⟨HF.out.drew, cellB HF.out.drew.b x0⟩ : (fun W => At w W (d + 1) p [.string p.op, .string p.key, .int .i64 p.vk, .int .i64 p.vn, .string p.vs, .int .u64 p.n, .slice Ap kn cp] S1 S2 N B most cb ⟨p.op, p.key, p.vk, p.vn, p.vs, p.n, Aq1, p.kids.length, cq1⟩ ⟨p.op, p.key, p.vk, p.vn, p.vs, p.n, Aq2, p.kids.length, cq2⟩ f has (ad.add i) (.slice A1 0 c1)) _)
      refine start_ (n := 45) (S := fun W => At w W (d + 1) p [.string p.op, .string p.key, .int .i64 p.vk, .int .i64 p.vn, .string p.vs, .int .u64 p.n, .slice Ap kn cp] S1 S2 N B most cb ⟨p.op, p.key, p.vk, p.vn, p.vs, p.n, Aq1, p.kids.length, cq1⟩ ⟨p.op, p.key, p.vk, p.vn, p.vs, p.n, Aq2, p.kids.length, cq2⟩ f has (ad.add i) (.slice A1 0 c1)) (ds := []) #[false, false, false, false, false, false, false, false, false, false, false, false, false, false, false, false, false, false, false, false, false, false, false, false, false, false, false, false, false, false, false, false, false, false, false, false, false, false, false, false, false, false, false, false, false] (by kernel_rfl) rfl rfl hS (fun hHeld => ?_)
      clear hS
      refine pure_ (i := 0) (N := some 101) (v := ?_) (a' := ?_) #[true, false, false, false, false, false, false, false, false, false, false, false, false, false, false, false, false, false, false, false, false, false, false, false, false, false, false, false, false, false, false, false, false, false, false, false, false, false, false, false, false, false, false, false, false] rfl rfl (by kernel_rfl) (fun _ _ _ h => h) (Or.inl ⟨by rfl, ?_⟩) ?_ ?_
      rotate_left
      ·intro w'
       go_simp
       with_reducible rfl
      rotate_left
      ·simp only [Act.put, List.setIfInBounds_toArray, List.set_cons_zero, List.set_cons_succ, i64_w, i32_w]
       rfl
      refine pure_ (i := 1) (N := some 102) (v := ?_) (a' := ?_) #[true, true, false, false, false, false, false, false, false, false, false, false, false, false, false, false, false, false, false, false, false, false, false, false, false, false, false, false, false, false, false, false, false, false, false, false, false, false, false, false, false, false, false, false, false] rfl rfl (by kernel_rfl) (fun _ _ _ h => h) (Or.inl ⟨by rfl, ?_⟩) ?_ ?_
      rotate_left
      ·intro w'
       go_simp
       with_reducible rfl
      rotate_left
      ·simp only [Act.put, List.setIfInBounds_toArray, List.set_cons_zero, List.set_cons_succ, i64_w, i32_w]
       rfl
      refine pure_ (i := 2) (N := some 103) (v := ?_) (a' := ?_) #[true, true, true, false, false, false, false, false, false, false, false, false, false, false, false, false, false, false, false, false, false, false, false, false, false, false, false, false, false, false, false, false, false, false, false, false, false, false, false, false, false, false, false, false, false] rfl rfl (by kernel_rfl) (fun _ _ _ h => h) (Or.inl ⟨by rfl, ?_⟩) ?_ ?_
      rotate_left
      ·intro w'
       go_simp
       with_reducible rfl
      rotate_left
      ·simp only [Act.put, List.setIfInBounds_toArray, List.set_cons_zero, List.set_cons_succ, i64_w, i32_w]
       rfl
      refine pure_ (i := 3) (N := some 104) (v := ?_) (a' := ?_) #[true, true, true, true, false, false, false, false, false, false, false, false, false, false, false, false, false, false, false, false, false, false, false, false, false, false, false, false, false, false, false, false, false, false, false, false, false, false, false, false, false, false, false, false, false] rfl rfl (by kernel_rfl) (fun _ _ _ h => h) (Or.inl ⟨by rfl, ?_⟩) ?_ ?_
      rotate_left
      ·intro w'
       go_simp
       with_reducible rfl
      rotate_left
      ·simp only [Act.put, List.setIfInBounds_toArray, List.set_cons_zero, List.set_cons_succ, i64_w, i32_w]
       rfl
      refine pure_ (i := 4) (N := some 105) (v := ?_) (a' := ?_) #[true, true, true, true, true, false, false, false, false, false, false, false, false, false, false, false, false, false, false, false, false, false, false, false, false, false, false, false, false, false, false, false, false, false, false, false, false, false, false, false, false, false, false, false, false] rfl rfl (by kernel_rfl) (fun _ _ _ h => h) (Or.inl ⟨by rfl, ?_⟩) ?_ ?_
      rotate_left
      ·intro w'
       go_simp
       with_reducible rfl
      rotate_left
      ·simp only [Act.put, List.setIfInBounds_toArray, List.set_cons_zero, List.set_cons_succ, i64_w, i32_w]
       rfl
      refine take_ (i := 5) (N := some 106) (v := ?_) (a' := ?_) #[true, true, true, true, true, true, false, false, false, false, false, false, false, false, false, false, false, false, false, false, false, false, false, false, false, false, false, false, false, false, false, false, false, false, false, false, false, false, false, false, false, false, false, false, false] rfl rfl (by kernel_rfl) (fun _ _ _ h => h) (Or.inl ⟨by rfl, ?_⟩) hHeld ?_ ?_
      rotate_left
      ·rintro w' ⟨h, hx⟩
       go_simp
       with_reducible rfl
      rotate_left
      ·simp only [Act.put, List.setIfInBounds_toArray, List.set_cons_zero, List.set_cons_succ, i64_w, i32_w]
       rfl
      refine pure_ (i := 6) (N := some 107) (v := ?_) (a' := ?_) #[true, true, true, true, true, true, true, false, false, false, false, false, false, false, false, false, false, false, false, false, false, false, false, false, false, false, false, false, false, false, false, false, false, false, false, false, false, false, false, false, false, false, false, false, false] rfl rfl (by kernel_rfl) (fun _ _ _ h => h) (Or.inl ⟨by rfl, ?_⟩) ?_ ?_
      rotate_left
      ·intro w'
       go_simp
       with_reducible rfl
      rotate_left
      ·simp only [Act.put, List.setIfInBounds_toArray, List.set_cons_zero, List.set_cons_succ, i64_w, i32_w]
       rfl
      refine pure_ (i := 7) (N := some 108) (v := ?_) (a' := ?_) #[true, true, true, true, true, true, true, true, false, false, false, false, false, false, false, false, false, false, false, false, false, false, false, false, false, false, false, false, false, false, false, false, false, false, false, false, false, false, false, false, false, false, false, false, false] rfl rfl (by kernel_rfl) (fun _ _ _ h => h) (Or.inl ⟨by rfl, ?_⟩) ?_ ?_
      rotate_left
      ·intro w'
       go_simp
       with_reducible rfl
      rotate_left
      ·simp only [Act.put, List.setIfInBounds_toArray, List.set_cons_zero, List.set_cons_succ, i64_w, i32_w]
       rfl
      refine pure_ (i := 8) (N := some 109) (v := ?_) (a' := ?_) #[true, true, true, true, true, true, true, true, true, false, false, false, false, false, false, false, false, false, false, false, false, false, false, false, false, false, false, false, false, false, false, false, false, false, false, false, false, false, false, false, false, false, false, false, false] rfl rfl (by kernel_rfl) (fun _ _ _ h => h) (Or.inl ⟨by rfl, ?_⟩) ?_ ?_
      rotate_left
      ·intro w'
       go_simp
       with_reducible rfl
      rotate_left
      ·simp only [Act.put, List.setIfInBounds_toArray, List.set_cons_zero, List.set_cons_succ, i64_w, i32_w]
       rfl
      refine pure_ (i := 9) (N := some 110) (v := undef) (a' := ?_) #[true, true, true, true, true, true, true, true, true, true, false, false, false, false, false, false, false, false, false, false, false, false, false, false, false, false, false, false, false, false, false, false, false, false, false, false, false, false, false, false, false, false, false, false, false] rfl rfl (by kernel_rfl) (fun _ _ _ h => h) (Or.inr ⟨by rfl, rfl⟩) ?_ ?_
      rotate_left
      ·simp only [Act.put, List.setIfInBounds_toArray, List.set_cons_zero, List.set_cons_succ, i64_w, i32_w]
       rfl
      refine pure_ (i := 10) (N := some 111) (v := undef) (a' := ?_) #[true, true, true, true, true, true, true, true, true, true, true, false, false, false, false, false, false, false, false, false, false, false, false, false, false, false, false, false, false, false, false, false, false, false, false, false, false, false, false, false, false, false, false, false, false] rfl rfl (by kernel_rfl) (fun _ _ _ h => h) (Or.inr ⟨by rfl, rfl⟩) ?_ ?_
      rotate_left
      ·simp only [Act.put, List.setIfInBounds_toArray, List.set_cons_zero, List.set_cons_succ, i64_w, i32_w]
       rfl
      refine pure_ (i := 11) (N := some 112) (v := undef) (a' := ?_) #[true, true, true, true, true, true, true, true, true, true, true, true, false, false, false, false, false, false, false, false, false, false, false, false, false, false, false, false, false, false, false, false, false, false, false, false, false, false, false, false, false, false, false, false, false] rfl rfl (by kernel_rfl) (fun _ _ _ h => h) (Or.inr ⟨by rfl, rfl⟩) ?_ ?_
      rotate_left
      ·simp only [Act.put, List.setIfInBounds_toArray, List.set_cons_zero, List.set_cons_succ, i64_w, i32_w]
       rfl
      refine pure_ (i := 12) (N := some 113) (v := undef) (a' := ?_) #[true, true, true, true, true, true, true, true, true, true, true, true, true, false, false, false, false, false, false, false, false, false, false, false, false, false, false, false, false, false, false, false, false, false, false, false, false, false, false, false, false, false, false, false, false] rfl rfl (by kernel_rfl) (fun _ _ _ h => h) (Or.inr ⟨by rfl, rfl⟩) ?_ ?_
      rotate_left
      ·simp only [Act.put, List.setIfInBounds_toArray, List.set_cons_zero, List.set_cons_succ, i64_w, i32_w]
       rfl
      refine pure_ (i := 13) (N := some 114) (v := undef) (a' := ?_) #[true, true, true, true, true, true, true, true, true, true, true, true, true, true, false, false, false, false, false, false, false, false, false, false, false, false, false, false, false, false, false, false, false, false, false, false, false, false, false, false, false, false, false, false, false] rfl rfl (by kernel_rfl) (fun _ _ _ h => h) (Or.inr ⟨by rfl, rfl⟩) ?_ ?_
      rotate_left
      ·simp only [Act.put, List.setIfInBounds_toArray, List.set_cons_zero, List.set_cons_succ, i64_w, i32_w]
       rfl
      refine pure_ (i := 14) (N := some 115) (v := undef) (a' := ?_) #[true, true, true, true, true, true, true, true, true, true, true, true, true, true, true, false, false, false, false, false, false, false, false, false, false, false, false, false, false, false, false, false, false, false, false, false, false, false, false, false, false, false, false, false, false] rfl rfl (by kernel_rfl) (fun _ _ _ h => h) (Or.inr ⟨by rfl, rfl⟩) ?_ ?_
      rotate_left
      ·simp only [Act.put, List.setIfInBounds_toArray, List.set_cons_zero, List.set_cons_succ, i64_w, i32_w]
       rfl
      refine pure_ (i := 15) (N := some 116) (v := undef) (a' := ?_) #[true, true, true, true, true, true, true, true, true, true, true, true, true, true, true, true, false, false, false, false, false, false, false, false, false, false, false, false, false, false, false, false, false, false, false, false, false, false, false, false, false, false, false, false, false] rfl rfl (by kernel_rfl) (fun _ _ _ h => h) (Or.inr ⟨by rfl, rfl⟩) ?_ ?_
      rotate_left
      ·simp only [Act.put, List.setIfInBounds_toArray, List.set_cons_zero, List.set_cons_succ, i64_w, i32_w]
       rfl
      refine pure_ (i := 16) (N := some 117) (v := undef) (a' := ?_) #[true, true, true, true, true, true, true, true, true, true, true, true, true, true, true, true, true, false, false, false, false, false, false, false, false, false, false, false, false, false, false, false, false, false, false, false, false, false, false, false, false, false, false, false, false] rfl rfl (by kernel_rfl) (fun _ _ _ h => h) (Or.inr ⟨by rfl, rfl⟩) ?_ ?_
      rotate_left
      ·simp only [Act.put, List.setIfInBounds_toArray, List.set_cons_zero, List.set_cons_succ, i64_w, i32_w]
       rfl
      refine pure_ (i := 17) (N := some 118) (v := ?_) (a' := ?_) #[true, true, true, true, true, true, true, true, true, true, true, true, true, true, true, true, true, true, false, false, false, false, false, false, false, false, false, false, false, false, false, false, false, false, false, false, false, false, false, false, false, false, false, false, false] rfl rfl (by kernel_rfl) (fun _ _ _ h => h) (Or.inl ⟨by rfl, ?_⟩) ?_ ?_
      rotate_left
      ·intro w'
       go_simp
       with_reducible rfl
      rotate_left
      ·simp only [Act.put, List.setIfInBounds_toArray, List.set_cons_zero, List.set_cons_succ, i64_w, i32_w]
       rfl
      refine pure_ (i := 18) (N := some 119) (v := ?_) (a' := ?_) #[true, true, true, true, true, true, true, true, true, true, true, true, true, true, true, true, true, true, true, false, false, false, false, false, false, false, false, false, false, false, false, false, false, false, false, false, false, false, false, false, false, false, false, false, false] rfl rfl (by kernel_rfl) (fun _ _ _ h => h) (Or.inl ⟨by rfl, ?_⟩) ?_ ?_
      rotate_left
      ·intro w'
       go_simp
       with_reducible rfl
      rotate_left
      ·simp only [Act.put, List.setIfInBounds_toArray, List.set_cons_zero, List.set_cons_succ, i64_w, i32_w]
       rfl
      refine pure_ (i := 19) (N := some 120) (v := ?_) (a' := ?_) #[true, true, true, true, true, true, true, true, true, true, true, true, true, true, true, true, true, true, true, true, false, false, false, false, false, false, false, false, false, false, false, false, false, false, false, false, false, false, false, false, false, false, false, false, false] rfl rfl (by kernel_rfl) (fun _ _ _ h => h) (Or.inl ⟨by rfl, ?_⟩) ?_ ?_
      rotate_left
      ·intro w'
       go_simp
       with_reducible rfl
      rotate_left
      ·simp only [Act.put, List.setIfInBounds_toArray, List.set_cons_zero, List.set_cons_succ, i64_w, i32_w]
       rfl
      refine pure_ (i := 20) (N := some 121) (v := ?_) (a' := ?_) #[true, true, true, true, true, true, true, true, true, true, true, true, true, true, true, true, true, true, true, true, true, false, false, false, false, false, false, false, false, false, false, false, false, false, false, false, false, false, false, false, false, false, false, false, false] rfl rfl (by kernel_rfl) (fun _ _ _ h => h) (Or.inl ⟨by rfl, ?_⟩) ?_ ?_
      rotate_left
      ·intro w'
       go_simp
       with_reducible rfl
      rotate_left
      ·simp only [Act.put, List.setIfInBounds_toArray, List.set_cons_zero, List.set_cons_succ, i64_w, i32_w]
       rfl
      refine pure_ (i := 21) (N := some 122) (v := ?_) (a' := ?_) #[true, true, true, true, true, true, true, true, true, true, true, true, true, true, true, true, true, true, true, true, true, true, false, false, false, false, false, false, false, false, false, false, false, false, false, false, false, false, false, false, false, false, false, false, false] rfl rfl (by kernel_rfl) (fun _ _ _ h => h) (Or.inl ⟨by rfl, ?_⟩) ?_ ?_
      rotate_left
      ·intro w'
       go_simp
       with_reducible rfl
      rotate_left
      ·simp only [Act.put, List.setIfInBounds_toArray, List.set_cons_zero, List.set_cons_succ, i64_w, i32_w]
       rfl
      refine pure_ (i := 22) (N := some 123) (v := ?_) (a' := ?_) #[true, true, true, true, true, true, true, true, true, true, true, true, true, true, true, true, true, true, true, true, true, true, true, false, false, false, false, false, false, false, false, false, false, false, false, false, false, false, false, false, false, false, false, false, false] rfl rfl (by kernel_rfl) (fun _ _ _ h => h) (Or.inl ⟨by rfl, ?_⟩) ?_ ?_
      rotate_left
      ·intro w'
       go_simp
       with_reducible rfl
      rotate_left
      ·simp only [Act.put, List.setIfInBounds_toArray, List.set_cons_zero, List.set_cons_succ, i64_w, i32_w]
       rfl
      refine pure_ (i := 23) (N := some 124) (v := ?_) (a' := ?_) #[true, true, true, true, true, true, true, true, true, true, true, true, true, true, true, true, true, true, true, true, true, true, true, true, false, false, false, false, false, false, false, false, false, false, false, false, false, false, false, false, false, false, false, false, false] rfl rfl (by kernel_rfl) (fun _ _ _ h => h) (Or.inl ⟨by rfl, ?_⟩) ?_ ?_
      rotate_left
      ·intro w'
       go_simp
       with_reducible rfl
      rotate_left
      ·simp only [Act.put, List.setIfInBounds_toArray, List.set_cons_zero, List.set_cons_succ, i64_w, i32_w]
       rfl
      refine pure_ (i := 24) (N := some 125) (v := ?_) (a' := ?_) #[true, true, true, true, true, true, true, true, true, true, true, true, true, true, true, true, true, true, true, true, true, true, true, true, true, false, false, false, false, false, false, false, false, false, false, false, false, false, false, false, false, false, false, false, false] rfl rfl (by kernel_rfl) (fun _ _ _ h => h) (Or.inl ⟨by rfl, ?_⟩) ?_ ?_
      rotate_left
      ·intro w'
       go_simp
       with_reducible rfl
      rotate_left
      ·simp only [Act.put, List.setIfInBounds_toArray, List.set_cons_zero, List.set_cons_succ, i64_w, i32_w]
       rfl
      refine pure_ (i := 25) (N := some 126) (v := ?_) (a' := ?_) #[true, true, true, true, true, true, true, true, true, true, true, true, true, true, true, true, true, true, true, true, true, true, true, true, true, true, false, false, false, false, false, false, false, false, false, false, false, false, false, false, false, false, false, false, false] rfl rfl (by kernel_rfl) (fun _ _ _ h => h) (Or.inl ⟨by rfl, ?_⟩) ?_ ?_
      rotate_left
      ·intro w'
       go_simp
       with_reducible rfl
      rotate_left
      ·simp only [Act.put, List.setIfInBounds_toArray, List.set_cons_zero, List.set_cons_succ, i64_w, i32_w]
       rfl
      refine pure_ (i := 26) (N := some 127) (v := ?_) (a' := ?_) #[true, true, true, true, true, true, true, true, true, true, true, true, true, true, true, true, true, true, true, true, true, true, true, true, true, true, true, false, false, false, false, false, false, false, false, false, false, false, false, false, false, false, false, false, false] rfl rfl (by kernel_rfl) (fun _ _ _ h => h) (Or.inl ⟨by rfl, ?_⟩) ?_ ?_
      rotate_left
      ·intro w'
       go_simp
       with_reducible rfl
      rotate_left
      ·simp only [Act.put, List.setIfInBounds_toArray, List.set_cons_zero, List.set_cons_succ, i64_w, i32_w]
       rfl
      refine pure_ (i := 27) (N := some 128) (v := ?_) (a' := ?_) #[true, true, true, true, true, true, true, true, true, true, true, true, true, true, true, true, true, true, true, true, true, true, true, true, true, true, true, true, false, false, false, false, false, false, false, false, false, false, false, false, false, false, false, false, false] rfl rfl (by kernel_rfl) (fun _ _ _ h => h) (Or.inl ⟨by rfl, ?_⟩) ?_ ?_
      rotate_left
      ·intro w'
       go_simp
       with_reducible rfl
      rotate_left
      ·simp only [Act.put, List.setIfInBounds_toArray, List.set_cons_zero, List.set_cons_succ, i64_w, i32_w]
       rfl
      refine pure_ (i := 28) (N := some 129) (v := ?_) (a' := ?_) #[true, true, true, true, true, true, true, true, true, true, true, true, true, true, true, true, true, true, true, true, true, true, true, true, true, true, true, true, true, false, false, false, false, false, false, false, false, false, false, false, false, false, false, false, false] rfl rfl (by kernel_rfl) (fun _ _ _ h => h) (Or.inl ⟨by rfl, ?_⟩) ?_ ?_
      rotate_left
      ·intro w'
       go_simp
       with_reducible rfl
      rotate_left
      ·simp only [Act.put, List.setIfInBounds_toArray, List.set_cons_zero, List.set_cons_succ, i64_w, i32_w]
       rfl
      refine pure_ (i := 29) (N := some 130) (v := ?_) (a' := ?_) #[true, true, true, true, true, true, true, true, true, true, true, true, true, true, true, true, true, true, true, true, true, true, true, true, true, true, true, true, true, true, false, false, false, false, false, false, false, false, false, false, false, false, false, false, false] rfl rfl (by kernel_rfl) (fun _ _ _ h => h) (Or.inl ⟨by rfl, ?_⟩) ?_ ?_
      rotate_left
      ·intro w'
       go_simp
       with_reducible rfl
      rotate_left
      ·simp only [Act.put, List.setIfInBounds_toArray, List.set_cons_zero, List.set_cons_succ, i64_w, i32_w]
       rfl
      refine pure_ (i := 30) (N := some 131) (v := ?_) (a' := ?_) #[true, true, true, true, true, true, true, true, true, true, true, true, true, true, true, true, true, true, true, true, true, true, true, true, true, true, true, true, true, true, true, false, false, false, false, false, false, false, false, false, false, false, false, false, false] rfl rfl (by kernel_rfl) (fun _ _ _ h => h) (Or.inl ⟨by rfl, ?_⟩) ?_ ?_
      rotate_left
      ·intro w'
       go_simp
       with_reducible rfl
      rotate_left
      ·simp only [Act.put, List.setIfInBounds_toArray, List.set_cons_zero, List.set_cons_succ, i64_w, i32_w]
       rfl
      refine pure_ (i := 31) (N := some 132) (v := ?_) (a' := ?_) #[true, true, true, true, true, true, true, true, true, true, true, true, true, true, true, true, true, true, true, true, true, true, true, true, true, true, true, true, true, true, true, true, false, false, false, false, false, false, false, false, false, false, false, false, false] rfl rfl (by kernel_rfl) (fun _ _ _ h => h) (Or.inl ⟨by rfl, ?_⟩) ?_ ?_
      rotate_left
      ·intro w'
       go_simp
       with_reducible rfl
      rotate_left
      ·simp only [Act.put, List.setIfInBounds_toArray, List.set_cons_zero, List.set_cons_succ, i64_w, i32_w]
       rfl
      refine pure_ (i := 32) (N := some 133) (v := ?_) (a' := ?_) #[true, true, true, true, true, true, true, true, true, true, true, true, true, true, true, true, true, true, true, true, true, true, true, true, true, true, true, true, true, true, true, true, true, false, false, false, false, false, false, false, false, false, false, false, false] rfl rfl (by kernel_rfl) (fun _ _ _ h => h) (Or.inl ⟨by rfl, ?_⟩) ?_ ?_
      rotate_left
      ·intro w'
       go_simp
       with_reducible rfl
      rotate_left
      ·simp only [Act.put, List.setIfInBounds_toArray, List.set_cons_zero, List.set_cons_succ, i64_w, i32_w]
       rfl
      refine pure_ (i := 33) (N := some 134) (v := ?_) (a' := ?_) #[true, true, true, true, true, true, true, true, true, true, true, true, true, true, true, true, true, true, true, true, true, true, true, true, true, true, true, true, true, true, true, true, true, true, false, false, false, false, false, false, false, false, false, false, false] rfl rfl (by kernel_rfl) (fun _ _ _ h => h) (Or.inl ⟨by rfl, ?_⟩) ?_ ?_
      rotate_left
      ·intro w'
       go_simp
       with_reducible rfl
      rotate_left
      ·simp only [Act.put, List.setIfInBounds_toArray, List.set_cons_zero, List.set_cons_succ, i64_w, i32_w]
       rfl
      refine pure_ (i := 34) (N := some 135) (v := ?_) (a' := ?_) #[true, true, true, true, true, true, true, true, true, true, true, true, true, true, true, true, true, true, true, true, true, true, true, true, true, true, true, true, true, true, true, true, true, true, true, false, false, false, false, false, false, false, false, false, false] rfl rfl (by kernel_rfl) (fun _ _ _ h => h) (Or.inl ⟨by rfl, ?_⟩) ?_ ?_
      rotate_left
      ·intro w'
       go_simp
       with_reducible rfl
      rotate_left
      ·simp only [Act.put, List.setIfInBounds_toArray, List.set_cons_zero, List.set_cons_succ, i64_w, i32_w]
       rfl
      refine take_ (i := 35) (N := some 136) (v := ?_) (a' := ?_) #[true, true, true, true, true, true, true, true, true, true, true, true, true, true, true, true, true, true, true, true, true, true, true, true, true, true, true, true, true, true, true, true, true, true, true, true, false, false, false, false, false, false, false, false, false] rfl rfl (by kernel_rfl) (fun _ _ _ h => h) (Or.inl ⟨by rfl, ?_⟩) hHeld ?_ ?_
      rotate_left
      ·rintro w' ⟨h, hx⟩
       go_simp
       with_reducible rfl
      rotate_left
      ·simp only [Act.put, List.setIfInBounds_toArray, List.set_cons_zero, List.set_cons_succ, i64_w, i32_w]
       rfl
      refine one_ (i := 36) (N := some 137) #[true, true, true, true, true, true, true, true, true, true, true, true, true, true, true, true, true, true, true, true, true, true, true, true, true, true, true, true, true, true, true, true, true, true, true, true, true, false, false, false, false, false, false, false, false] rfl rfl (by kernel_rfl) (by decide) (fun K hK => ?_)
      refine goes_ Try.func28 (by kernel_rfl) rfl #[.slice A1 0 c1] (by rfl) rfl rfl (by (try simp only [List.map_toArray, List.map_cons, List.map_nil]); first | done | rfl) ?_
      refine (ofs_w A1 0 c1 xs _ hn hxn.out (Kd.C_below hX.out hHeld.1.b) hc1).mono ?_
      rintro e w11 ⟨A11, c11, rfl, hY11, hb1⟩
      have hH := Aside0.mk (hHeld.keep hb1)
      replace hY11 := Aside0.mk hY11
      clear hb1
      refine ⟨_, rfl, ?_⟩
      refine hK.out _ _ (hH.out) (fun hHeld => ?_)
      clear hK K
      refine norm_ (a' := ?_) ?_ ?_
      rotate_left
      ·show Act.put _ (some 137) _ = _
       simp only [Act.put, List.setIfInBounds_toArray, List.set_cons_zero, List.set_cons_succ, i64_w, i32_w]
       rfl
      refine one_ (i := 37) (N := some 138) #[true, true, true, true, true, true, true, true, true, true, true, true, true, true, true, true, true, true, true, true, true, true, true, true, true, true, true, true, true, true, true, true, true, true, true, true, true, true, false, false, false, false, false, false, false] rfl rfl (by kernel_rfl) (by decide) (fun K hK => ?_)
      refine goes_ Try.func31 (by kernel_rfl) rfl #[.slice A11 0 c11, .int .u64 20] (by rfl) rfl rfl (by (try simp only [List.map_toArray, List.map_cons, List.map_nil]); first | done | rfl) ?_
      refine (win_w A11 0 c11 (xs.map ofS) 20 (wn : Int) _ hyl (by omega) (by omega) h8.out hY11.out.C hY11.out.2.1 hw.out).mono ?_
      rintro e w12 ⟨rfl, hb1⟩
      have hH := Aside0.mk (hHeld.keep hb1)
      clear hb1 hY11
      refine ⟨_, rfl, ?_⟩
      refine hK.out _ _ (hH.out) (fun hHeld => ?_)
      clear hK K
      refine norm_ (a' := ?_) ?_ ?_
      rotate_left
      ·show Act.put _ (some 138) _ = _
       simp only [Act.put, List.setIfInBounds_toArray, List.set_cons_zero, List.set_cons_succ, i64_w, i32_w]
       rfl
      refine pure_ (i := 38) (N := some 139) (v := ?_) (a' := ?_) #[true, true, true, true, true, true, true, true, true, true, true, true, true, true, true, true, true, true, true, true, true, true, true, true, true, true, true, true, true, true, true, true, true, true, true, true, true, true, true, false, false, false, false, false, false] rfl rfl (by kernel_rfl) (fun _ _ _ h => h) (Or.inl ⟨by rfl, ?_⟩) ?_ ?_
      rotate_left
      ·intro w'
       go_simp
       with_reducible rfl
      rotate_left
      ·simp only [Act.put, List.setIfInBounds_toArray, List.set_cons_zero, List.set_cons_succ, i64_w, i32_w]
       rfl
      refine pure_ (i := 39) (N := some 140) (v := ?_) (a' := ?_) #[true, true, true, true, true, true, true, true, true, true, true, true, true, true, true, true, true, true, true, true, true, true, true, true, true, true, true, true, true, true, true, true, true, true, true, true, true, true, true, true, false, false, false, false, false] rfl rfl (by kernel_rfl) (fun _ _ _ h => h) (Or.inl ⟨by rfl, ?_⟩) ?_ ?_
      rotate_left
      ·intro w'
       go_simp
       with_reducible rfl
      rotate_left
      ·simp only [Act.put, List.setIfInBounds_toArray, List.set_cons_zero, List.set_cons_succ, i64_w, i32_w]
       rfl
      refine pure_ (i := 40) (N := some 141) (v := ?_) (a' := ?_) #[true, true, true, true, true, true, true, true, true, true, true, true, true, true, true, true, true, true, true, true, true, true, true, true, true, true, true, true, true, true, true, true, true, true, true, true, true, true, true, true, true, false, false, false, false] rfl rfl (by kernel_rfl) (fun _ _ _ h => h) (Or.inl ⟨by rfl, ?_⟩) ?_ ?_
      rotate_left
      ·intro w'
       go_simp
       with_reducible rfl
      rotate_left
      ·simp only [Act.put, List.setIfInBounds_toArray, List.set_cons_zero, List.set_cons_succ, i64_w, i32_w]
       rfl
      refine pure_ (i := 41) (N := some 142) (v := ?_) (a' := ?_) #[true, true, true, true, true, true, true, true, true, true, true, true, true, true, true, true, true, true, true, true, true, true, true, true, true, true, true, true, true, true, true, true, true, true, true, true, true, true, true, true, true, true, false, false, false] rfl rfl (by kernel_rfl) (fun _ _ _ h => h) (Or.inl ⟨by rfl, ?_⟩) ?_ ?_
      rotate_left
      ·intro w'
       go_simp
       with_reducible rfl
      rotate_left
      ·simp only [Act.put, List.setIfInBounds_toArray, List.set_cons_zero, List.set_cons_succ, i64_w, i32_w]
       rfl
      refine pure_ (i := 42) (N := some 143) (v := ?_) (a' := ?_) #[true, true, true, true, true, true, true, true, true, true, true, true, true, true, true, true, true, true, true, true, true, true, true, true, true, true, true, true, true, true, true, true, true, true, true, true, true, true, true, true, true, true, true, false, false] rfl rfl (by kernel_rfl) (fun _ _ _ h => h) (Or.inl ⟨by rfl, ?_⟩) ?_ ?_
      rotate_left
      ·intro w'
       go_simp
       with_reducible rfl
      rotate_left
      ·simp only [Act.put, List.setIfInBounds_toArray, List.set_cons_zero, List.set_cons_succ, i64_w, i32_w]
       rfl
      refine one_ (i := 43) (N := some 144) #[true, true, true, true, true, true, true, true, true, true, true, true, true, true, true, true, true, true, true, true, true, true, true, true, true, true, true, true, true, true, true, true, true, true, true, true, true, true, true, true, true, true, true, true, false] rfl rfl (by kernel_rfl) (by decide) (fun K hK => ?_)
      refine goes_ Try.func33 (by kernel_rfl) rfl #[.pointer (some ⟨S1, 0, none⟩), .int .u64 (wn : Int)] (by rfl) rfl rfl (by (try simp only [List.map_toArray, List.map_cons, List.map_nil]); first | done | rfl) ?_
      refine (forget_free S1 ⟨p.op, p.key, p.vk, p.vn, p.vs, p.n, Aq1, p.kids.length, cq1⟩ 20 (wn : Int) _ hHeld.1.fr).mono ?_
      rintro e w13 ⟨rfl, rfl⟩
      refine ⟨_, rfl, ?_⟩
      refine hK.out _ _ (hHeld) (fun hHeld => ?_)
      clear hK K
      refine norm_ (a' := ?_) ?_ ?_
      rotate_left
      ·show Act.put _ (some 144) _ = _
       simp only [Act.put, List.setIfInBounds_toArray, List.set_cons_zero, List.set_cons_succ, i64_w, i32_w]
       rfl
      refine pure_ (i := 44) (N := some 145) (v := ?_) (a' := ?_) #[true, true, true, true, true, true, true, true, true, true, true, true, true, true, true, true, true, true, true, true, true, true, true, true, true, true, true, true, true, true, true, true, true, true, true, true, true, true, true, true, true, true, true, true, true] rfl rfl (by kernel_rfl) (fun _ _ _ h => h) (Or.inl ⟨by rfl, ?_⟩) ?_ ?_
      rotate_left
      ·intro w'
       go_simp
       with_reducible rfl
      rotate_left
      ·simp only [Act.put, List.setIfInBounds_toArray, List.set_cons_zero, List.set_cons_succ, i64_w, i32_w]
       rfl
      refine done_ (by kernel_rfl) ?_
      replace HF := Aside0.mk hHeld.1
      clear hHeld
      clear hx0 hY5 hY7
      by_cases hm0 : most = 0
      ·subst hm0
       go_wp2
       go_roundg k2
       case measure => omega
       case rel => exact ⟨i + 1, _, _, _, rfl, by omega, by omega, by omega, HF⟩
      ·have hmI : (0 : Int) < (most : Int) := by omega
       go_wp2
       go_roundg k2
       case measure => omega
       case rel => exact ⟨i + 1, _, _, _, rfl, by omega, by omega, by omega, HF⟩
     ·cases hh with
      | false =>
       have hx0 : (if 0 < n ∧ hd (d + 1) p (xs.map ofS) = true then (1 : Int) else 0) = 0 := if_neg (by rw [hhd]; simp)
       replace hhd := Aside0.mk hhd
       replace hx0 := Aside0.mk hx0
       go_wp2_with (go_at_call 27; refine (fr_ask_a HF.out _ A5 n c5 _ 0 wn hky.out hck.out hY5.out hn20 h9.out h8.out hx0.out hw.out).mono ?_; rintro e w6 ⟨rfl, hb1⟩; replace HF := Aside0.mk (HF.out.keep hb1); clear hb1; have x1 := cellB HF.out.b x0)
       go_wp2_with (go_at_call 28; refine (ofs_w A1 n c1 xs _ hn hxn.out (Kd.C_below hX.out HF.out.b) hc1).mono ?_)
       rintro e w7 ⟨A7, c7, rfl, hY7, hb1⟩
       replace HF := Aside0.mk (HF.out.keep hb1)
       replace hY7 := Aside0.mk hY7
       clear hb1 x1
       go_wp2_with (go_at_call 27; refine (fr_ask_b0 HF.out _ A7 n c7 _ wn hky.out hck.out hY7.out hn20 h9.out h8.out hx0.out hw.out).mono ?_; rintro e w7b ⟨rfl, hb1⟩; replace HF := Aside0.mk (HF.out.keep hb1); clear hb1)
       have hnpI : (0 : Int) < (n : Int) := by omega
       have hPK := hK
       have hS := (⟨HF.out.drew, cellB HF.out.drew.b x0⟩ : (fun W => At w W (d + 1) p [.string p.op, .string p.key, .int .i64 p.vk, .int .i64 p.vn, .string p.vs, .int .u64 p.n, .slice Ap kn cp] S1 S2 N B most cb ⟨p.op, p.key, p.vk, p.vn, p.vs, p.n, Aq1, p.kids.length, cq1⟩ ⟨p.op, p.key, p.vk, p.vn, p.vs, p.n, Aq2, p.kids.length, cq2⟩ f has (ad.add i) (.slice A1 n c1)) _)
       refine start_ (n := 45) (S := fun W => At w W (d + 1) p [.string p.op, .string p.key, .int .i64 p.vk, .int .i64 p.vn, .string p.vs, .int .u64 p.n, .slice Ap kn cp] S1 S2 N B most cb ⟨p.op, p.key, p.vk, p.vn, p.vs, p.n, Aq1, p.kids.length, cq1⟩ ⟨p.op, p.key, p.vk, p.vn, p.vs, p.n, Aq2, p.kids.length, cq2⟩ f has (ad.add i) (.slice A1 n c1)) (ds := []) #[false, false, false, false, false, false, false, false, false, false, false, false, false, false, false, false, false, false, false, false, false, false, false, false, false, false, false, false, false, false, false, false, false, false, false, false, false, false, false, false, false, false, false, false, false] (by kernel_rfl) rfl rfl hS (fun hHeld => ?_)
       clear hS
       refine pure_ (i := 0) (N := some 101) (v := ?_) (a' := ?_) #[true, false, false, false, false, false, false, false, false, false, false, false, false, false, false, false, false, false, false, false, false, false, false, false, false, false, false, false, false, false, false, false, false, false, false, false, false, false, false, false, false, false, false, false, false] rfl rfl (by kernel_rfl) (fun _ _ _ h => h) (Or.inl ⟨by rfl, ?_⟩) ?_ ?_
       rotate_left
       ·intro w'
        go_simp
        with_reducible rfl
       rotate_left
       ·simp only [Act.put, List.setIfInBounds_toArray, List.set_cons_zero, List.set_cons_succ, i64_w, i32_w]
        rfl
       refine pure_ (i := 1) (N := some 102) (v := ?_) (a' := ?_) #[true, true, false, false, false, false, false, false, false, false, false, false, false, false, false, false, false, false, false, false, false, false, false, false, false, false, false, false, false, false, false, false, false, false, false, false, false, false, false, false, false, false, false, false, false] rfl rfl (by kernel_rfl) (fun _ _ _ h => h) (Or.inl ⟨by rfl, ?_⟩) ?_ ?_
       rotate_left
       ·intro w'
        go_simp
        with_reducible rfl
       rotate_left
       ·simp only [Act.put, List.setIfInBounds_toArray, List.set_cons_zero, List.set_cons_succ, i64_w, i32_w]
        rfl
       refine pure_ (i := 2) (N := some 103) (v := ?_) (a' := ?_) #[true, true, true, false, false, false, false, false, false, false, false, false, false, false, false, false, false, false, false, false, false, false, false, false, false, false, false, false, false, false, false, false, false, false, false, false, false, false, false, false, false, false, false, false, false] rfl rfl (by kernel_rfl) (fun _ _ _ h => h) (Or.inl ⟨by rfl, ?_⟩) ?_ ?_
       rotate_left
       ·intro w'
        go_simp
        with_reducible rfl
       rotate_left
       ·simp only [Act.put, List.setIfInBounds_toArray, List.set_cons_zero, List.set_cons_succ, i64_w, i32_w]
        rfl
       refine pure_ (i := 3) (N := some 104) (v := ?_) (a' := ?_) #[true, true, true, true, false, false, false, false, false, false, false, false, false, false, false, false, false, false, false, false, false, false, false, false, false, false, false, false, false, false, false, false, false, false, false, false, false, false, false, false, false, false, false, false, false] rfl rfl (by kernel_rfl) (fun _ _ _ h => h) (Or.inl ⟨by rfl, ?_⟩) ?_ ?_
       rotate_left
       ·intro w'
        go_simp
        with_reducible rfl
       rotate_left
       ·simp only [Act.put, List.setIfInBounds_toArray, List.set_cons_zero, List.set_cons_succ, i64_w, i32_w]
        rfl
       refine pure_ (i := 4) (N := some 105) (v := ?_) (a' := ?_) #[true, true, true, true, true, false, false, false, false, false, false, false, false, false, false, false, false, false, false, false, false, false, false, false, false, false, false, false, false, false, false, false, false, false, false, false, false, false, false, false, false, false, false, false, false] rfl rfl (by kernel_rfl) (fun _ _ _ h => h) (Or.inl ⟨by rfl, ?_⟩) ?_ ?_
       rotate_left
       ·intro w'
        go_simp
        with_reducible rfl
       rotate_left
       ·simp only [Act.put, List.setIfInBounds_toArray, List.set_cons_zero, List.set_cons_succ, i64_w, i32_w]
        rfl
       refine take_ (i := 5) (N := some 106) (v := ?_) (a' := ?_) #[true, true, true, true, true, true, false, false, false, false, false, false, false, false, false, false, false, false, false, false, false, false, false, false, false, false, false, false, false, false, false, false, false, false, false, false, false, false, false, false, false, false, false, false, false] rfl rfl (by kernel_rfl) (fun _ _ _ h => h) (Or.inl ⟨by rfl, ?_⟩) hHeld ?_ ?_
       rotate_left
       ·rintro w' ⟨h, hx⟩
        go_simp
        with_reducible rfl
       rotate_left
       ·simp only [Act.put, List.setIfInBounds_toArray, List.set_cons_zero, List.set_cons_succ, i64_w, i32_w]
        rfl
       refine pure_ (i := 6) (N := some 107) (v := ?_) (a' := ?_) #[true, true, true, true, true, true, true, false, false, false, false, false, false, false, false, false, false, false, false, false, false, false, false, false, false, false, false, false, false, false, false, false, false, false, false, false, false, false, false, false, false, false, false, false, false] rfl rfl (by kernel_rfl) (fun _ _ _ h => h) (Or.inl ⟨by rfl, ?_⟩) ?_ ?_
       rotate_left
       ·intro w'
        go_simp
        with_reducible rfl
       rotate_left
       ·simp only [Act.put, List.setIfInBounds_toArray, List.set_cons_zero, List.set_cons_succ, i64_w, i32_w]
        rfl
       refine pure_ (i := 7) (N := some 108) (v := ?_) (a' := ?_) #[true, true, true, true, true, true, true, true, false, false, false, false, false, false, false, false, false, false, false, false, false, false, false, false, false, false, false, false, false, false, false, false, false, false, false, false, false, false, false, false, false, false, false, false, false] rfl rfl (by kernel_rfl) (fun _ _ _ h => h) (Or.inl ⟨by rfl, ?_⟩) ?_ ?_
       rotate_left
       ·intro w'
        go_simp
        with_reducible rfl
       rotate_left
       ·simp only [Act.put, List.setIfInBounds_toArray, List.set_cons_zero, List.set_cons_succ, i64_w, i32_w]
        rfl
       refine pure_ (i := 8) (N := some 109) (v := ?_) (a' := ?_) #[true, true, true, true, true, true, true, true, true, false, false, false, false, false, false, false, false, false, false, false, false, false, false, false, false, false, false, false, false, false, false, false, false, false, false, false, false, false, false, false, false, false, false, false, false] rfl rfl (by kernel_rfl) (fun _ _ _ h => h) (Or.inl ⟨by rfl, ?_⟩) ?_ ?_
       rotate_left
       ·intro w'
        go_simp
        with_reducible rfl
       rotate_left
       ·simp only [Act.put, List.setIfInBounds_toArray, List.set_cons_zero, List.set_cons_succ, i64_w, i32_w]
        rfl
       refine pure_ (i := 11) (N := some 112) (v := ?_) (a' := ?_) #[true, true, true, true, true, true, true, true, true, false, false, true, false, false, false, false, false, false, false, false, false, false, false, false, false, false, false, false, false, false, false, false, false, false, false, false, false, false, false, false, false, false, false, false, false] rfl rfl (by kernel_rfl) (fun _ _ _ h => h) (Or.inl ⟨by rfl, ?_⟩) ?_ ?_
       rotate_left
       ·intro w'
        go_simp
        with_reducible rfl
       rotate_left
       ·simp only [Act.put, List.setIfInBounds_toArray, List.set_cons_zero, List.set_cons_succ, i64_w, i32_w]
        rfl
       refine pure_ (i := 12) (N := some 113) (v := ?_) (a' := ?_) #[true, true, true, true, true, true, true, true, true, false, false, true, true, false, false, false, false, false, false, false, false, false, false, false, false, false, false, false, false, false, false, false, false, false, false, false, false, false, false, false, false, false, false, false, false] rfl rfl (by kernel_rfl) (fun _ _ _ h => h) (Or.inl ⟨by rfl, ?_⟩) ?_ ?_
       rotate_left
       ·intro w'
        go_simp
        with_reducible rfl
       rotate_left
       ·simp only [Act.put, List.setIfInBounds_toArray, List.set_cons_zero, List.set_cons_succ, i64_w, i32_w]
        rfl
       refine pure_ (i := 13) (N := some 114) (v := ?_) (a' := ?_) #[true, true, true, true, true, true, true, true, true, false, false, true, true, true, false, false, false, false, false, false, false, false, false, false, false, false, false, false, false, false, false, false, false, false, false, false, false, false, false, false, false, false, false, false, false] rfl rfl (by kernel_rfl) (fun _ _ _ h => h) (Or.inl ⟨by rfl, ?_⟩) ?_ ?_
       rotate_left
       ·intro w'
        go_simp
        with_reducible rfl
       rotate_left
       ·simp only [Act.put, List.setIfInBounds_toArray, List.set_cons_zero, List.set_cons_succ, i64_w, i32_w]
        rfl
       refine take_ (i := 9) (N := some 110) (v := .agg #[.string p.op, .string p.key, .int .i64 p.vk, .int .i64 p.vn, .string p.vs, .int .u64 p.n, .slice Ap kn cp]) (a' := ?_) #[true, true, true, true, true, true, true, true, true, true, false, true, true, true, false, false, false, false, false, false, false, false, false, false, false, false, false, false, false, false, false, false, false, false, false, false, false, false, false, false, false, false, false, false, false] rfl rfl (by kernel_rfl) (fun _ _ _ h => h) (Or.inl ⟨by rfl, ?_⟩) hHeld ?_ ?_
       ·rintro w' ⟨h, _⟩
        exact exec_load_at 43 (.tmp 3) rfl w.heap.size 0 rfl [.string p.op, .string p.key, .int .i64 p.vk, .int .i64 p.vn, .string p.vs, .int .u64 p.n, .slice Ap kn cp] _ (row_at0 h.bx) Try.underlying43 rfl (by kernel_rfl)
       rotate_left
       ·simp only [Act.put, List.setIfInBounds_toArray, List.set_cons_zero, List.set_cons_succ, i64_w, i32_w]
        rfl
       refine take_ (i := 14) (N := some 115) (v := ?_) (a' := ?_) #[true, true, true, true, true, true, true, true, true, true, false, true, true, true, true, false, false, false, false, false, false, false, false, false, false, false, false, false, false, false, false, false, false, false, false, false, false, false, false, false, false, false, false, false, false] rfl rfl (by kernel_rfl) (fun _ _ _ h => h) (Or.inl ⟨by rfl, ?_⟩) hHeld ?_ ?_
       rotate_left
       ·rintro w' ⟨h, hx⟩
        go_simp
        with_reducible rfl
       rotate_left
       ·simp only [Act.put, List.setIfInBounds_toArray, List.set_cons_zero, List.set_cons_succ, i64_w, i32_w]
        rfl
       refine one_ (i := 10) (N := some 111) #[true, true, true, true, true, true, true, true, true, true, true, true, true, true, true, false, false, false, false, false, false, false, false, false, false, false, false, false, false, false, false, false, false, false, false, false, false, false, false, false, false, false, false, false, false] rfl rfl (by kernel_rfl) (by decide) (fun K hK => ?_)
       refine goes_ Try.func25 (by kernel_rfl) rfl #[.agg #[.string p.op, .string p.key, .int .i64 p.vk, .int .i64 p.vn, .string p.vs, .int .u64 p.n, .slice Ap kn cp]] (by rfl) rfl rfl (by (try simp only [List.map_toArray, List.map_cons, List.map_nil]); first | done | rfl) ?_
       refine (of_w (d + 1) p [.string p.op, .string p.key, .int .i64 p.vk, .int .i64 p.vn, .string p.vs, .int .u64 p.n, .slice Ap kn cp] _ hky.out ((kp 43 (d + 1)).K_below hHeld.1.b hPK.out)).mono ?_
       rintro e w8 ⟨cs3, rfl, hM, hb1⟩
       obtain ⟨Aq3, cq3, rfl, _, _⟩ := kp_open ((kp 53 (d + 1)).K_of_M hM)
       have hP := Aside0.mk ((kp 53 (d + 1)).K_of_M hM)
       clear hM
       have hH := Aside0.mk (hHeld.keep hb1)
       clear hb1
       refine ⟨_, rfl, ?_⟩
       refine hK.out _ _ (hH.out) (fun hHeld => ?_)
       clear hK K
       refine norm_ (a' := ?_) ?_ ?_
       rotate_left
       ·show Act.put _ (some 111) _ = _
        simp only [Act.put, List.setIfInBounds_toArray, List.set_cons_zero, List.set_cons_succ, i64_w, i32_w]
        rfl
       refine one_ (i := 15) (N := some 116) #[true, true, true, true, true, true, true, true, true, true, true, true, true, true, true, true, false, false, false, false, false, false, false, false, false, false, false, false, false, false, false, false, false, false, false, false, false, false, false, false, false, false, false, false, false] rfl rfl (by kernel_rfl) (by decide) (fun K hK => ?_)
       refine goes_ Try.func28 (by kernel_rfl) rfl #[.slice A1 n c1] (by rfl) rfl rfl (by (try simp only [List.map_toArray, List.map_cons, List.map_nil]); first | done | rfl) ?_
       refine (ofs_w A1 n c1 xs _ hn hxn.out (Kd.C_below hX.out hHeld.1.b) hc1).mono ?_
       rintro e w9 ⟨A9, c9, rfl, hY9, hb1⟩
       have hH := Aside0.mk (hHeld.keep hb1)
       replace hP := Aside0.mk ((kp 53 (d + 1)).K_below hb1 hP.out)
       replace hY9 := Aside0.mk hY9
       clear hb1
       refine ⟨_, rfl, ?_⟩
       refine hK.out _ _ (hH.out) (fun hHeld => ?_)
       clear hK K
       refine norm_ (a' := ?_) ?_ ?_
       rotate_left
       ·show Act.put _ (some 116) _ = _
        simp only [Act.put, List.setIfInBounds_toArray, List.set_cons_zero, List.set_cons_succ, i64_w, i32_w]
        rfl
       refine one_ (i := 16) (N := some 117) #[true, true, true, true, true, true, true, true, true, true, true, true, true, true, true, true, true, false, false, false, false, false, false, false, false, false, false, false, false, false, false, false, false, false, false, false, false, false, false, false, false, false, false, false, false] rfl rfl (by kernel_rfl) (by decide) (fun K hK => ?_)
       refine goes_ Try.func32 (by kernel_rfl) rfl #[.agg #[.string p.op, .string p.key, .int .i64 p.vk, .int .i64 p.vn, .string p.vs, .int .u64 p.n, .slice Aq3 p.kids.length cq3], .slice A9 n c9] (by rfl) rfl rfl (by (try simp only [List.map_toArray, List.map_cons, List.map_nil]); first | done | rfl) ?_
       refine (Holds_w (d + 1) p _ (xs.map ofS) A9 n c9 _ false hky.out hck.out hP.out hyl hY9.out.C h9.out hhd.out).mono ?_
       rintro e w10 ⟨rfl, hb1⟩
       have hH := Aside0.mk (hHeld.keep hb1)
       clear hb1 hP hY9
       refine ⟨_, rfl, ?_⟩
       refine hK.out _ _ (hH.out) (fun hHeld => ?_)
       clear hK K
       refine norm_ (a' := ?_) ?_ ?_
       rotate_left
       ·show Act.put _ (some 117) _ = _
        simp only [Act.put, List.setIfInBounds_toArray, List.set_cons_zero, List.set_cons_succ, i64_w, i32_w]
        rfl
       refine pure_ (i := 17) (N := some 118) (v := ?_) (a' := ?_) #[true, true, true, true, true, true, true, true, true, true, true, true, true, true, true, true, true, true, false, false, false, false, false, false, false, false, false, false, false, false, false, false, false, false, false, false, false, false, false, false, false, false, false, false, false] rfl rfl (by kernel_rfl) (fun _ _ _ h => h) (Or.inl ⟨by rfl, ?_⟩) ?_ ?_
       rotate_left
       ·intro w'
        go_simp
        with_reducible rfl
       rotate_left
       ·simp only [Act.put, List.setIfInBounds_toArray, List.set_cons_zero, List.set_cons_succ, i64_w, i32_w]
        rfl
       refine pure_ (i := 18) (N := some 119) (v := ?_) (a' := ?_) #[true, true, true, true, true, true, true, true, true, true, true, true, true, true, true, true, true, true, true, false, false, false, false, false, false, false, false, false, false, false, false, false, false, false, false, false, false, false, false, false, false, false, false, false, false] rfl rfl (by kernel_rfl) (fun _ _ _ h => h) (Or.inl ⟨by rfl, ?_⟩) ?_ ?_
       rotate_left
       ·intro w'
        go_simp
        with_reducible rfl
       rotate_left
       ·simp only [Act.put, List.setIfInBounds_toArray, List.set_cons_zero, List.set_cons_succ, i64_w, i32_w]
        rfl
       refine pure_ (i := 19) (N := some 120) (v := ?_) (a' := ?_) #[true, true, true, true, true, true, true, true, true, true, true, true, true, true, true, true, true, true, true, true, false, false, false, false, false, false, false, false, false, false, false, false, false, false, false, false, false, false, false, false, false, false, false, false, false] rfl rfl (by kernel_rfl) (fun _ _ _ h => h) (Or.inl ⟨by rfl, ?_⟩) ?_ ?_
       rotate_left
       ·intro w'
        go_simp
        with_reducible rfl
       rotate_left
       ·simp only [Act.put, List.setIfInBounds_toArray, List.set_cons_zero, List.set_cons_succ, i64_w, i32_w]
        rfl
       refine pure_ (i := 20) (N := some 121) (v := ?_) (a' := ?_) #[true, true, true, true, true, true, true, true, true, true, true, true, true, true, true, true, true, true, true, true, true, false, false, false, false, false, false, false, false, false, false, false, false, false, false, false, false, false, false, false, false, false, false, false, false] rfl rfl (by kernel_rfl) (fun _ _ _ h => h) (Or.inl ⟨by rfl, ?_⟩) ?_ ?_
       rotate_left
       ·intro w'
        go_simp
        with_reducible rfl
       rotate_left
       ·simp only [Act.put, List.setIfInBounds_toArray, List.set_cons_zero, List.set_cons_succ, i64_w, i32_w]
        rfl
       refine pure_ (i := 21) (N := some 122) (v := ?_) (a' := ?_) #[true, true, true, true, true, true, true, true, true, true, true, true, true, true, true, true, true, true, true, true, true, true, false, false, false, false, false, false, false, false, false, false, false, false, false, false, false, false, false, false, false, false, false, false, false] rfl rfl (by kernel_rfl) (fun _ _ _ h => h) (Or.inl ⟨by rfl, ?_⟩) ?_ ?_
       rotate_left
       ·intro w'
        go_simp
        with_reducible rfl
       rotate_left
       ·simp only [Act.put, List.setIfInBounds_toArray, List.set_cons_zero, List.set_cons_succ, i64_w, i32_w]
        rfl
       refine pure_ (i := 22) (N := some 123) (v := ?_) (a' := ?_) #[true, true, true, true, true, true, true, true, true, true, true, true, true, true, true, true, true, true, true, true, true, true, true, false, false, false, false, false, false, false, false, false, false, false, false, false, false, false, false, false, false, false, false, false, false] rfl rfl (by kernel_rfl) (fun _ _ _ h => h) (Or.inl ⟨by rfl, ?_⟩) ?_ ?_
       rotate_left
       ·intro w'
        go_simp
        with_reducible rfl
       rotate_left
       ·simp only [Act.put, List.setIfInBounds_toArray, List.set_cons_zero, List.set_cons_succ, i64_w, i32_w]
        rfl
       refine pure_ (i := 23) (N := some 124) (v := ?_) (a' := ?_) #[true, true, true, true, true, true, true, true, true, true, true, true, true, true, true, true, true, true, true, true, true, true, true, true, false, false, false, false, false, false, false, false, false, false, false, false, false, false, false, false, false, false, false, false, false] rfl rfl (by kernel_rfl) (fun _ _ _ h => h) (Or.inl ⟨by rfl, ?_⟩) ?_ ?_
       rotate_left
       ·intro w'
        go_simp
        with_reducible rfl
       rotate_left
       ·simp only [Act.put, List.setIfInBounds_toArray, List.set_cons_zero, List.set_cons_succ, i64_w, i32_w]
        rfl
       refine pure_ (i := 24) (N := some 125) (v := ?_) (a' := ?_) #[true, true, true, true, true, true, true, true, true, true, true, true, true, true, true, true, true, true, true, true, true, true, true, true, true, false, false, false, false, false, false, false, false, false, false, false, false, false, false, false, false, false, false, false, false] rfl rfl (by kernel_rfl) (fun _ _ _ h => h) (Or.inl ⟨by rfl, ?_⟩) ?_ ?_
       rotate_left
       ·intro w'
        go_simp
        with_reducible rfl
       rotate_left
       ·simp only [Act.put, List.setIfInBounds_toArray, List.set_cons_zero, List.set_cons_succ, i64_w, i32_w]
        rfl
       refine pure_ (i := 25) (N := some 126) (v := ?_) (a' := ?_) #[true, true, true, true, true, true, true, true, true, true, true, true, true, true, true, true, true, true, true, true, true, true, true, true, true, true, false, false, false, false, false, false, false, false, false, false, false, false, false, false, false, false, false, false, false] rfl rfl (by kernel_rfl) (fun _ _ _ h => h) (Or.inl ⟨by rfl, ?_⟩) ?_ ?_
       rotate_left
       ·intro w'
        go_simp
        with_reducible rfl
       rotate_left
       ·simp only [Act.put, List.setIfInBounds_toArray, List.set_cons_zero, List.set_cons_succ, i64_w, i32_w]
        rfl
       refine pure_ (i := 26) (N := some 127) (v := ?_) (a' := ?_) #[true, true, true, true, true, true, true, true, true, true, true, true, true, true, true, true, true, true, true, true, true, true, true, true, true, true, true, false, false, false, false, false, false, false, false, false, false, false, false, false, false, false, false, false, false] rfl rfl (by kernel_rfl) (fun _ _ _ h => h) (Or.inl ⟨by rfl, ?_⟩) ?_ ?_
       rotate_left
       ·intro w'
        go_simp
        with_reducible rfl
       rotate_left
       ·simp only [Act.put, List.setIfInBounds_toArray, List.set_cons_zero, List.set_cons_succ, i64_w, i32_w]
        rfl
       refine pure_ (i := 27) (N := some 128) (v := ?_) (a' := ?_) #[true, true, true, true, true, true, true, true, true, true, true, true, true, true, true, true, true, true, true, true, true, true, true, true, true, true, true, true, false, false, false, false, false, false, false, false, false, false, false, false, false, false, false, false, false] rfl rfl (by kernel_rfl) (fun _ _ _ h => h) (Or.inl ⟨by rfl, ?_⟩) ?_ ?_
       rotate_left
       ·intro w'
        go_simp
        with_reducible rfl
       rotate_left
       ·simp only [Act.put, List.setIfInBounds_toArray, List.set_cons_zero, List.set_cons_succ, i64_w, i32_w]
        rfl
       refine pure_ (i := 28) (N := some 129) (v := ?_) (a' := ?_) #[true, true, true, true, true, true, true, true, true, true, true, true, true, true, true, true, true, true, true, true, true, true, true, true, true, true, true, true, true, false, false, false, false, false, false, false, false, false, false, false, false, false, false, false, false] rfl rfl (by kernel_rfl) (fun _ _ _ h => h) (Or.inl ⟨by rfl, ?_⟩) ?_ ?_
       rotate_left
       ·intro w'
        go_simp
        with_reducible rfl
       rotate_left
       ·simp only [Act.put, List.setIfInBounds_toArray, List.set_cons_zero, List.set_cons_succ, i64_w, i32_w]
        rfl
       refine pure_ (i := 29) (N := some 130) (v := ?_) (a' := ?_) #[true, true, true, true, true, true, true, true, true, true, true, true, true, true, true, true, true, true, true, true, true, true, true, true, true, true, true, true, true, true, false, false, false, false, false, false, false, false, false, false, false, false, false, false, false] rfl rfl (by kernel_rfl) (fun _ _ _ h => h) (Or.inl ⟨by rfl, ?_⟩) ?_ ?_
       rotate_left
       ·intro w'
        go_simp
        with_reducible rfl
       rotate_left
       ·simp only [Act.put, List.setIfInBounds_toArray, List.set_cons_zero, List.set_cons_succ, i64_w, i32_w]
        rfl
       refine pure_ (i := 30) (N := some 131) (v := ?_) (a' := ?_) #[true, true, true, true, true, true, true, true, true, true, true, true, true, true, true, true, true, true, true, true, true, true, true, true, true, true, true, true, true, true, true, false, false, false, false, false, false, false, false, false, false, false, false, false, false] rfl rfl (by kernel_rfl) (fun _ _ _ h => h) (Or.inl ⟨by rfl, ?_⟩) ?_ ?_
       rotate_left
       ·intro w'
        go_simp
        with_reducible rfl
       rotate_left
       ·simp only [Act.put, List.setIfInBounds_toArray, List.set_cons_zero, List.set_cons_succ, i64_w, i32_w]
        rfl
       refine pure_ (i := 31) (N := some 132) (v := ?_) (a' := ?_) #[true, true, true, true, true, true, true, true, true, true, true, true, true, true, true, true, true, true, true, true, true, true, true, true, true, true, true, true, true, true, true, true, false, false, false, false, false, false, false, false, false, false, false, false, false] rfl rfl (by kernel_rfl) (fun _ _ _ h => h) (Or.inl ⟨by rfl, ?_⟩) ?_ ?_
       rotate_left
       ·intro w'
        go_simp
        with_reducible rfl
       rotate_left
       ·simp only [Act.put, List.setIfInBounds_toArray, List.set_cons_zero, List.set_cons_succ, i64_w, i32_w]
        rfl
       refine pure_ (i := 32) (N := some 133) (v := ?_) (a' := ?_) #[true, true, true, true, true, true, true, true, true, true, true, true, true, true, true, true, true, true, true, true, true, true, true, true, true, true, true, true, true, true, true, true, true, false, false, false, false, false, false, false, false, false, false, false, false] rfl rfl (by kernel_rfl) (fun _ _ _ h => h) (Or.inl ⟨by rfl, ?_⟩) ?_ ?_
       rotate_left
       ·intro w'
        go_simp
        with_reducible rfl
       rotate_left
       ·simp only [Act.put, List.setIfInBounds_toArray, List.set_cons_zero, List.set_cons_succ, i64_w, i32_w]
        rfl
       refine pure_ (i := 33) (N := some 134) (v := ?_) (a' := ?_) #[true, true, true, true, true, true, true, true, true, true, true, true, true, true, true, true, true, true, true, true, true, true, true, true, true, true, true, true, true, true, true, true, true, true, false, false, false, false, false, false, false, false, false, false, false] rfl rfl (by kernel_rfl) (fun _ _ _ h => h) (Or.inl ⟨by rfl, ?_⟩) ?_ ?_
       rotate_left
       ·intro w'
        go_simp
        with_reducible rfl
       rotate_left
       ·simp only [Act.put, List.setIfInBounds_toArray, List.set_cons_zero, List.set_cons_succ, i64_w, i32_w]
        rfl
       refine pure_ (i := 34) (N := some 135) (v := ?_) (a' := ?_) #[true, true, true, true, true, true, true, true, true, true, true, true, true, true, true, true, true, true, true, true, true, true, true, true, true, true, true, true, true, true, true, true, true, true, true, false, false, false, false, false, false, false, false, false, false] rfl rfl (by kernel_rfl) (fun _ _ _ h => h) (Or.inl ⟨by rfl, ?_⟩) ?_ ?_
       rotate_left
       ·intro w'
        go_simp
        with_reducible rfl
       rotate_left
       ·simp only [Act.put, List.setIfInBounds_toArray, List.set_cons_zero, List.set_cons_succ, i64_w, i32_w]
        rfl
       refine take_ (i := 35) (N := some 136) (v := ?_) (a' := ?_) #[true, true, true, true, true, true, true, true, true, true, true, true, true, true, true, true, true, true, true, true, true, true, true, true, true, true, true, true, true, true, true, true, true, true, true, true, false, false, false, false, false, false, false, false, false] rfl rfl (by kernel_rfl) (fun _ _ _ h => h) (Or.inl ⟨by rfl, ?_⟩) hHeld ?_ ?_
       rotate_left
       ·rintro w' ⟨h, hx⟩
        go_simp
        with_reducible rfl
       rotate_left
       ·simp only [Act.put, List.setIfInBounds_toArray, List.set_cons_zero, List.set_cons_succ, i64_w, i32_w]
        rfl
       refine one_ (i := 36) (N := some 137) #[true, true, true, true, true, true, true, true, true, true, true, true, true, true, true, true, true, true, true, true, true, true, true, true, true, true, true, true, true, true, true, true, true, true, true, true, true, false, false, false, false, false, false, false, false] rfl rfl (by kernel_rfl) (by decide) (fun K hK => ?_)
       refine goes_ Try.func28 (by kernel_rfl) rfl #[.slice A1 n c1] (by rfl) rfl rfl (by (try simp only [List.map_toArray, List.map_cons, List.map_nil]); first | done | rfl) ?_
       refine (ofs_w A1 n c1 xs _ hn hxn.out (Kd.C_below hX.out hHeld.1.b) hc1).mono ?_
       rintro e w11 ⟨A11, c11, rfl, hY11, hb1⟩
       have hH := Aside0.mk (hHeld.keep hb1)
       replace hY11 := Aside0.mk hY11
       clear hb1
       refine ⟨_, rfl, ?_⟩
       refine hK.out _ _ (hH.out) (fun hHeld => ?_)
       clear hK K
       refine norm_ (a' := ?_) ?_ ?_
       rotate_left
       ·show Act.put _ (some 137) _ = _
        simp only [Act.put, List.setIfInBounds_toArray, List.set_cons_zero, List.set_cons_succ, i64_w, i32_w]
        rfl
       refine one_ (i := 37) (N := some 138) #[true, true, true, true, true, true, true, true, true, true, true, true, true, true, true, true, true, true, true, true, true, true, true, true, true, true, true, true, true, true, true, true, true, true, true, true, true, true, false, false, false, false, false, false, false] rfl rfl (by kernel_rfl) (by decide) (fun K hK => ?_)
       refine goes_ Try.func31 (by kernel_rfl) rfl #[.slice A11 n c11, .int .u64 20] (by rfl) rfl rfl (by (try simp only [List.map_toArray, List.map_cons, List.map_nil]); first | done | rfl) ?_
       refine (win_w A11 n c11 (xs.map ofS) 20 (wn : Int) _ hyl (by omega) (by omega) h8.out hY11.out.C hY11.out.2.1 hw.out).mono ?_
       rintro e w12 ⟨rfl, hb1⟩
       have hH := Aside0.mk (hHeld.keep hb1)
       clear hb1 hY11
       refine ⟨_, rfl, ?_⟩
       refine hK.out _ _ (hH.out) (fun hHeld => ?_)
       clear hK K
       refine norm_ (a' := ?_) ?_ ?_
       rotate_left
       ·show Act.put _ (some 138) _ = _
        simp only [Act.put, List.setIfInBounds_toArray, List.set_cons_zero, List.set_cons_succ, i64_w, i32_w]
        rfl
       refine pure_ (i := 38) (N := some 139) (v := ?_) (a' := ?_) #[true, true, true, true, true, true, true, true, true, true, true, true, true, true, true, true, true, true, true, true, true, true, true, true, true, true, true, true, true, true, true, true, true, true, true, true, true, true, true, false, false, false, false, false, false] rfl rfl (by kernel_rfl) (fun _ _ _ h => h) (Or.inl ⟨by rfl, ?_⟩) ?_ ?_
       rotate_left
       ·intro w'
        go_simp
        with_reducible rfl
       rotate_left
       ·simp only [Act.put, List.setIfInBounds_toArray, List.set_cons_zero, List.set_cons_succ, i64_w, i32_w]
        rfl
       refine pure_ (i := 39) (N := some 140) (v := ?_) (a' := ?_) #[true, true, true, true, true, true, true, true, true, true, true, true, true, true, true, true, true, true, true, true, true, true, true, true, true, true, true, true, true, true, true, true, true, true, true, true, true, true, true, true, false, false, false, false, false] rfl rfl (by kernel_rfl) (fun _ _ _ h => h) (Or.inl ⟨by rfl, ?_⟩) ?_ ?_
       rotate_left
       ·intro w'
        go_simp
        with_reducible rfl
       rotate_left
       ·simp only [Act.put, List.setIfInBounds_toArray, List.set_cons_zero, List.set_cons_succ, i64_w, i32_w]
        rfl
       refine pure_ (i := 40) (N := some 141) (v := ?_) (a' := ?_) #[true, true, true, true, true, true, true, true, true, true, true, true, true, true, true, true, true, true, true, true, true, true, true, true, true, true, true, true, true, true, true, true, true, true, true, true, true, true, true, true, true, false, false, false, false] rfl rfl (by kernel_rfl) (fun _ _ _ h => h) (Or.inl ⟨by rfl, ?_⟩) ?_ ?_
       rotate_left
       ·intro w'
        go_simp
        with_reducible rfl
       rotate_left
       ·simp only [Act.put, List.setIfInBounds_toArray, List.set_cons_zero, List.set_cons_succ, i64_w, i32_w]
        rfl
       refine pure_ (i := 41) (N := some 142) (v := ?_) (a' := ?_) #[true, true, true, true, true, true, true, true, true, true, true, true, true, true, true, true, true, true, true, true, true, true, true, true, true, true, true, true, true, true, true, true, true, true, true, true, true, true, true, true, true, true, false, false, false] rfl rfl (by kernel_rfl) (fun _ _ _ h => h) (Or.inl ⟨by rfl, ?_⟩) ?_ ?_
       rotate_left
       ·intro w'
        go_simp
        with_reducible rfl
       rotate_left
       ·simp only [Act.put, List.setIfInBounds_toArray, List.set_cons_zero, List.set_cons_succ, i64_w, i32_w]
        rfl
       refine pure_ (i := 42) (N := some 143) (v := ?_) (a' := ?_) #[true, true, true, true, true, true, true, true, true, true, true, true, true, true, true, true, true, true, true, true, true, true, true, true, true, true, true, true, true, true, true, true, true, true, true, true, true, true, true, true, true, true, true, false, false] rfl rfl (by kernel_rfl) (fun _ _ _ h => h) (Or.inl ⟨by rfl, ?_⟩) ?_ ?_
       rotate_left
       ·intro w'
        go_simp
        with_reducible rfl
       rotate_left
       ·simp only [Act.put, List.setIfInBounds_toArray, List.set_cons_zero, List.set_cons_succ, i64_w, i32_w]
        rfl
       refine one_ (i := 43) (N := some 144) #[true, true, true, true, true, true, true, true, true, true, true, true, true, true, true, true, true, true, true, true, true, true, true, true, true, true, true, true, true, true, true, true, true, true, true, true, true, true, true, true, true, true, true, true, false] rfl rfl (by kernel_rfl) (by decide) (fun K hK => ?_)
       refine goes_ Try.func33 (by kernel_rfl) rfl #[.pointer (some ⟨S1, 0, none⟩), .int .u64 (wn : Int)] (by rfl) rfl rfl (by (try simp only [List.map_toArray, List.map_cons, List.map_nil]); first | done | rfl) ?_
       refine (forget_free S1 ⟨p.op, p.key, p.vk, p.vn, p.vs, p.n, Aq1, p.kids.length, cq1⟩ 20 (wn : Int) _ hHeld.1.fr).mono ?_
       rintro e w13 ⟨rfl, rfl⟩
       refine ⟨_, rfl, ?_⟩
       refine hK.out _ _ (hHeld) (fun hHeld => ?_)
       clear hK K
       refine norm_ (a' := ?_) ?_ ?_
       rotate_left
       ·show Act.put _ (some 144) _ = _
        simp only [Act.put, List.setIfInBounds_toArray, List.set_cons_zero, List.set_cons_succ, i64_w, i32_w]
        rfl
       refine pure_ (i := 44) (N := some 145) (v := ?_) (a' := ?_) #[true, true, true, true, true, true, true, true, true, true, true, true, true, true, true, true, true, true, true, true, true, true, true, true, true, true, true, true, true, true, true, true, true, true, true, true, true, true, true, true, true, true, true, true, true] rfl rfl (by kernel_rfl) (fun _ _ _ h => h) (Or.inl ⟨by rfl, ?_⟩) ?_ ?_
       rotate_left
       ·intro w'
        go_simp
        with_reducible rfl
       rotate_left
       ·simp only [Act.put, List.setIfInBounds_toArray, List.set_cons_zero, List.set_cons_succ, i64_w, i32_w]
        rfl
       refine done_ (by kernel_rfl) ?_
       replace HF := Aside0.mk hHeld.1
       clear hHeld
       clear hx0 hY5 hY7
       clear hPK
       by_cases hm0 : most = 0
       ·subst hm0
        go_wp2
        go_roundg k2
        case measure => omega
        case rel => exact ⟨i + 1, _, _, _, rfl, by omega, by omega, by omega, HF⟩
       ·have hmI : (0 : Int) < (most : Int) := by omega
        go_wp2
        go_roundg k2
        case measure => omega
        case rel => exact ⟨i + 1, _, _, _, rfl, by omega, by omega, by omega, HF⟩
      | true =>
       have hx0 : (if 0 < n ∧ hd (d + 1) p (xs.map ofS) = true then (1 : Int) else 0) = 1 := if_pos ⟨hnp, hhd⟩
       replace hhd := Aside0.mk hhd
       replace hx0 := Aside0.mk hx0
       go_wp2_with (go_at_call 27; refine (fr_ask_a HF.out _ A5 n c5 _ 1 wn hky.out hck.out hY5.out hn20 h9.out h8.out hx0.out hw.out).mono ?_; rintro e w6 ⟨rfl, hb1⟩; replace HF := Aside0.mk (HF.out.keep hb1); clear hb1; have x1 := cellB HF.out.b x0)
       go_wp2_with (go_at_call 28; refine (ofs_w A1 n c1 xs _ hn hxn.out (Kd.C_below hX.out HF.out.b) hc1).mono ?_)
       rintro e w7 ⟨A7, c7, rfl, hY7, hb1⟩
       replace HF := Aside0.mk (HF.out.keep hb1)
       replace hY7 := Aside0.mk hY7
       clear hb1 x1
       obtain ⟨y, hy⟩ : ∃ y, (if f wn < most then (1 : Int) else 2) = y := ⟨_, rfl⟩
       have hy0 : (y == 0) = false := by rw [← hy]; split <;> decide
       replace hy := Aside0.mk hy
       go_wp2_with (go_at_call 27; refine (fr_ask_b1 HF.out _ A7 n c7 _ wn y hky.out hck.out hY7.out hn20 hnp h9.out h8.out hhd.out hw.out (by omega) (by omega) hy.out).mono ?_; rintro e w7b ⟨rfl, HF2, hb1⟩; replace HF := Aside0.mk HF2; clear HF2 hb1)
       have hnpI : (0 : Int) < (n : Int) := by omega
       have hPK := hK
       have hS := (⟨HF.out.drew, cellB HF.out.drew.b x0⟩ : (fun W => At w W (d + 1) p [.string p.op, .string p.key, .int .i64 p.vk, .int .i64 p.vn, .string p.vs, .int .u64 p.n, .slice Ap kn cp] S1 S2 N B most (cb + 1) ⟨p.op, p.key, p.vk, p.vn, p.vs, p.n, Aq1, p.kids.length, cq1⟩ ⟨p.op, p.key, p.vk, p.vn, p.vs, p.n, Aq2, p.kids.length, cq2⟩ (at' f wn (if f wn < most then f wn + 1 else f wn)) (at' has wn true) (ad.add i) (.slice A1 n c1)) _)
       refine start_ (n := 45) (S := fun W => At w W (d + 1) p [.string p.op, .string p.key, .int .i64 p.vk, .int .i64 p.vn, .string p.vs, .int .u64 p.n, .slice Ap kn cp] S1 S2 N B most (cb + 1) ⟨p.op, p.key, p.vk, p.vn, p.vs, p.n, Aq1, p.kids.length, cq1⟩ ⟨p.op, p.key, p.vk, p.vn, p.vs, p.n, Aq2, p.kids.length, cq2⟩ (at' f wn (if f wn < most then f wn + 1 else f wn)) (at' has wn true) (ad.add i) (.slice A1 n c1)) (ds := []) #[false, false, false, false, false, false, false, false, false, false, false, false, false, false, false, false, false, false, false, false, false, false, false, false, false, false, false, false, false, false, false, false, false, false, false, false, false, false, false, false, false, false, false, false, false] (by kernel_rfl) rfl rfl hS (fun hHeld => ?_)
       clear hS
       refine pure_ (i := 0) (N := some 101) (v := ?_) (a' := ?_) #[true, false, false, false, false, false, false, false, false, false, false, false, false, false, false, false, false, false, false, false, false, false, false, false, false, false, false, false, false, false, false, false, false, false, false, false, false, false, false, false, false, false, false, false, false] rfl rfl (by kernel_rfl) (fun _ _ _ h => h) (Or.inl ⟨by rfl, ?_⟩) ?_ ?_
       rotate_left
       ·intro w'
        go_simp
        with_reducible rfl
       rotate_left
       ·simp only [Act.put, List.setIfInBounds_toArray, List.set_cons_zero, List.set_cons_succ, i64_w, i32_w]
        rfl
       refine pure_ (i := 1) (N := some 102) (v := ?_) (a' := ?_) #[true, true, false, false, false, false, false, false, false, false, false, false, false, false, false, false, false, false, false, false, false, false, false, false, false, false, false, false, false, false, false, false, false, false, false, false, false, false, false, false, false, false, false, false, false] rfl rfl (by kernel_rfl) (fun _ _ _ h => h) (Or.inl ⟨by rfl, ?_⟩) ?_ ?_
       rotate_left
       ·intro w'
        go_simp
        with_reducible rfl
       rotate_left
       ·simp only [Act.put, List.setIfInBounds_toArray, List.set_cons_zero, List.set_cons_succ, i64_w, i32_w]
        rfl
       refine pure_ (i := 2) (N := some 103) (v := ?_) (a' := ?_) #[true, true, true, false, false, false, false, false, false, false, false, false, false, false, false, false, false, false, false, false, false, false, false, false, false, false, false, false, false, false, false, false, false, false, false, false, false, false, false, false, false, false, false, false, false] rfl rfl (by kernel_rfl) (fun _ _ _ h => h) (Or.inl ⟨by rfl, ?_⟩) ?_ ?_
       rotate_left
       ·intro w'
        go_simp
        with_reducible rfl
       rotate_left
       ·simp only [Act.put, List.setIfInBounds_toArray, List.set_cons_zero, List.set_cons_succ, i64_w, i32_w]
        rfl
       refine pure_ (i := 3) (N := some 104) (v := ?_) (a' := ?_) #[true, true, true, true, false, false, false, false, false, false, false, false, false, false, false, false, false, false, false, false, false, false, false, false, false, false, false, false, false, false, false, false, false, false, false, false, false, false, false, false, false, false, false, false, false] rfl rfl (by kernel_rfl) (fun _ _ _ h => h) (Or.inl ⟨by rfl, ?_⟩) ?_ ?_
       rotate_left
       ·intro w'
        go_simp
        with_reducible rfl
       rotate_left
       ·simp only [Act.put, List.setIfInBounds_toArray, List.set_cons_zero, List.set_cons_succ, i64_w, i32_w]
        rfl
       refine pure_ (i := 4) (N := some 105) (v := ?_) (a' := ?_) #[true, true, true, true, true, false, false, false, false, false, false, false, false, false, false, false, false, false, false, false, false, false, false, false, false, false, false, false, false, false, false, false, false, false, false, false, false, false, false, false, false, false, false, false, false] rfl rfl (by kernel_rfl) (fun _ _ _ h => h) (Or.inl ⟨by rfl, ?_⟩) ?_ ?_
       rotate_left
       ·intro w'
        go_simp
        with_reducible rfl
       rotate_left
       ·simp only [Act.put, List.setIfInBounds_toArray, List.set_cons_zero, List.set_cons_succ, i64_w, i32_w]
        rfl
       refine take_ (i := 5) (N := some 106) (v := ?_) (a' := ?_) #[true, true, true, true, true, true, false, false, false, false, false, false, false, false, false, false, false, false, false, false, false, false, false, false, false, false, false, false, false, false, false, false, false, false, false, false, false, false, false, false, false, false, false, false, false] rfl rfl (by kernel_rfl) (fun _ _ _ h => h) (Or.inl ⟨by rfl, ?_⟩) hHeld ?_ ?_
       rotate_left
       ·rintro w' ⟨h, hx⟩
        go_simp
        with_reducible rfl
       rotate_left
       ·simp only [Act.put, List.setIfInBounds_toArray, List.set_cons_zero, List.set_cons_succ, i64_w, i32_w]
        rfl
       refine pure_ (i := 6) (N := some 107) (v := ?_) (a' := ?_) #[true, true, true, true, true, true, true, false, false, false, false, false, false, false, false, false, false, false, false, false, false, false, false, false, false, false, false, false, false, false, false, false, false, false, false, false, false, false, false, false, false, false, false, false, false] rfl rfl (by kernel_rfl) (fun _ _ _ h => h) (Or.inl ⟨by rfl, ?_⟩) ?_ ?_
       rotate_left
       ·intro w'
        go_simp
        with_reducible rfl
       rotate_left
       ·simp only [Act.put, List.setIfInBounds_toArray, List.set_cons_zero, List.set_cons_succ, i64_w, i32_w]
        rfl
       refine pure_ (i := 7) (N := some 108) (v := ?_) (a' := ?_) #[true, true, true, true, true, true, true, true, false, false, false, false, false, false, false, false, false, false, false, false, false, false, false, false, false, false, false, false, false, false, false, false, false, false, false, false, false, false, false, false, false, false, false, false, false] rfl rfl (by kernel_rfl) (fun _ _ _ h => h) (Or.inl ⟨by rfl, ?_⟩) ?_ ?_
       rotate_left
       ·intro w'
        go_simp
        with_reducible rfl
       rotate_left
       ·simp only [Act.put, List.setIfInBounds_toArray, List.set_cons_zero, List.set_cons_succ, i64_w, i32_w]
        rfl
       refine pure_ (i := 8) (N := some 109) (v := ?_) (a' := ?_) #[true, true, true, true, true, true, true, true, true, false, false, false, false, false, false, false, false, false, false, false, false, false, false, false, false, false, false, false, false, false, false, false, false, false, false, false, false, false, false, false, false, false, false, false, false] rfl rfl (by kernel_rfl) (fun _ _ _ h => h) (Or.inl ⟨by rfl, ?_⟩) ?_ ?_
       rotate_left
       ·intro w'
        go_simp
        with_reducible rfl
       rotate_left
       ·simp only [Act.put, List.setIfInBounds_toArray, List.set_cons_zero, List.set_cons_succ, i64_w, i32_w]
        rfl
       refine pure_ (i := 11) (N := some 112) (v := ?_) (a' := ?_) #[true, true, true, true, true, true, true, true, true, false, false, true, false, false, false, false, false, false, false, false, false, false, false, false, false, false, false, false, false, false, false, false, false, false, false, false, false, false, false, false, false, false, false, false, false] rfl rfl (by kernel_rfl) (fun _ _ _ h => h) (Or.inl ⟨by rfl, ?_⟩) ?_ ?_
       rotate_left
       ·intro w'
        go_simp
        with_reducible rfl
       rotate_left
       ·simp only [Act.put, List.setIfInBounds_toArray, List.set_cons_zero, List.set_cons_succ, i64_w, i32_w]
        rfl
       refine pure_ (i := 12) (N := some 113) (v := ?_) (a' := ?_) #[true, true, true, true, true, true, true, true, true, false, false, true, true, false, false, false, false, false, false, false, false, false, false, false, false, false, false, false, false, false, false, false, false, false, false, false, false, false, false, false, false, false, false, false, false] rfl rfl (by kernel_rfl) (fun _ _ _ h => h) (Or.inl ⟨by rfl, ?_⟩) ?_ ?_
       rotate_left
       ·intro w'
        go_simp
        with_reducible rfl
       rotate_left
       ·simp only [Act.put, List.setIfInBounds_toArray, List.set_cons_zero, List.set_cons_succ, i64_w, i32_w]
        rfl
       refine pure_ (i := 13) (N := some 114) (v := ?_) (a' := ?_) #[true, true, true, true, true, true, true, true, true, false, false, true, true, true, false, false, false, false, false, false, false, false, false, false, false, false, false, false, false, false, false, false, false, false, false, false, false, false, false, false, false, false, false, false, false] rfl rfl (by kernel_rfl) (fun _ _ _ h => h) (Or.inl ⟨by rfl, ?_⟩) ?_ ?_
       rotate_left
       ·intro w'
        go_simp
        with_reducible rfl
       rotate_left
       ·simp only [Act.put, List.setIfInBounds_toArray, List.set_cons_zero, List.set_cons_succ, i64_w, i32_w]
        rfl
       refine take_ (i := 9) (N := some 110) (v := .agg #[.string p.op, .string p.key, .int .i64 p.vk, .int .i64 p.vn, .string p.vs, .int .u64 p.n, .slice Ap kn cp]) (a' := ?_) #[true, true, true, true, true, true, true, true, true, true, false, true, true, true, false, false, false, false, false, false, false, false, false, false, false, false, false, false, false, false, false, false, false, false, false, false, false, false, false, false, false, false, false, false, false] rfl rfl (by kernel_rfl) (fun _ _ _ h => h) (Or.inl ⟨by rfl, ?_⟩) hHeld ?_ ?_
       ·rintro w' ⟨h, _⟩
        exact exec_load_at 43 (.tmp 3) rfl w.heap.size 0 rfl [.string p.op, .string p.key, .int .i64 p.vk, .int .i64 p.vn, .string p.vs, .int .u64 p.n, .slice Ap kn cp] _ (row_at0 h.bx) Try.underlying43 rfl (by kernel_rfl)
       rotate_left
       ·simp only [Act.put, List.setIfInBounds_toArray, List.set_cons_zero, List.set_cons_succ, i64_w, i32_w]
        rfl
       refine take_ (i := 14) (N := some 115) (v := ?_) (a' := ?_) #[true, true, true, true, true, true, true, true, true, true, false, true, true, true, true, false, false, false, false, false, false, false, false, false, false, false, false, false, false, false, false, false, false, false, false, false, false, false, false, false, false, false, false, false, false] rfl rfl (by kernel_rfl) (fun _ _ _ h => h) (Or.inl ⟨by rfl, ?_⟩) hHeld ?_ ?_
       rotate_left
       ·rintro w' ⟨h, hx⟩
        go_simp
        with_reducible rfl
       rotate_left
       ·simp only [Act.put, List.setIfInBounds_toArray, List.set_cons_zero, List.set_cons_succ, i64_w, i32_w]
        rfl
       refine one_ (i := 10) (N := some 111) #[true, true, true, true, true, true, true, true, true, true, true, true, true, true, true, false, false, false, false, false, false, false, false, false, false, false, false, false, false, false, false, false, false, false, false, false, false, false, false, false, false, false, false, false, false] rfl rfl (by kernel_rfl) (by decide) (fun K hK => ?_)
       refine goes_ Try.func25 (by kernel_rfl) rfl #[.agg #[.string p.op, .string p.key, .int .i64 p.vk, .int .i64 p.vn, .string p.vs, .int .u64 p.n, .slice Ap kn cp]] (by rfl) rfl rfl (by (try simp only [List.map_toArray, List.map_cons, List.map_nil]); first | done | rfl) ?_
       refine (of_w (d + 1) p [.string p.op, .string p.key, .int .i64 p.vk, .int .i64 p.vn, .string p.vs, .int .u64 p.n, .slice Ap kn cp] _ hky.out ((kp 43 (d + 1)).K_below hHeld.1.b hPK.out)).mono ?_
       rintro e w8 ⟨cs3, rfl, hM, hb1⟩
       obtain ⟨Aq3, cq3, rfl, _, _⟩ := kp_open ((kp 53 (d + 1)).K_of_M hM)
       have hP := Aside0.mk ((kp 53 (d + 1)).K_of_M hM)
       clear hM
       have hH := Aside0.mk (hHeld.keep hb1)
       clear hb1
       refine ⟨_, rfl, ?_⟩
       refine hK.out _ _ (hH.out) (fun hHeld => ?_)
       clear hK K
       refine norm_ (a' := ?_) ?_ ?_
       rotate_left
       ·show Act.put _ (some 111) _ = _
        simp only [Act.put, List.setIfInBounds_toArray, List.set_cons_zero, List.set_cons_succ, i64_w, i32_w]
        rfl
       refine one_ (i := 15) (N := some 116) #[true, true, true, true, true, true, true, true, true, true, true, true, true, true, true, true, false, false, false, false, false, false, false, false, false, false, false, false, false, false, false, false, false, false, false, false, false, false, false, false, false, false, false, false, false] rfl rfl (by kernel_rfl) (by decide) (fun K hK => ?_)
       refine goes_ Try.func28 (by kernel_rfl) rfl #[.slice A1 n c1] (by rfl) rfl rfl (by (try simp only [List.map_toArray, List.map_cons, List.map_nil]); first | done | rfl) ?_
       refine (ofs_w A1 n c1 xs _ hn hxn.out (Kd.C_below hX.out hHeld.1.b) hc1).mono ?_
       rintro e w9 ⟨A9, c9, rfl, hY9, hb1⟩
       have hH := Aside0.mk (hHeld.keep hb1)
       replace hP := Aside0.mk ((kp 53 (d + 1)).K_below hb1 hP.out)
       replace hY9 := Aside0.mk hY9
       clear hb1
       refine ⟨_, rfl, ?_⟩
       refine hK.out _ _ (hH.out) (fun hHeld => ?_)
       clear hK K
       refine norm_ (a' := ?_) ?_ ?_
       rotate_left
       ·show Act.put _ (some 116) _ = _
        simp only [Act.put, List.setIfInBounds_toArray, List.set_cons_zero, List.set_cons_succ, i64_w, i32_w]
        rfl
       refine one_ (i := 16) (N := some 117) #[true, true, true, true, true, true, true, true, true, true, true, true, true, true, true, true, true, false, false, false, false, false, false, false, false, false, false, false, false, false, false, false, false, false, false, false, false, false, false, false, false, false, false, false, false] rfl rfl (by kernel_rfl) (by decide) (fun K hK => ?_)
       refine goes_ Try.func32 (by kernel_rfl) rfl #[.agg #[.string p.op, .string p.key, .int .i64 p.vk, .int .i64 p.vn, .string p.vs, .int .u64 p.n, .slice Aq3 p.kids.length cq3], .slice A9 n c9] (by rfl) rfl rfl (by (try simp only [List.map_toArray, List.map_cons, List.map_nil]); first | done | rfl) ?_
       refine (Holds_w (d + 1) p _ (xs.map ofS) A9 n c9 _ true hky.out hck.out hP.out hyl hY9.out.C h9.out hhd.out).mono ?_
       rintro e w10 ⟨rfl, hb1⟩
       have hH := Aside0.mk (hHeld.keep hb1)
       clear hb1 hP hY9
       refine ⟨_, rfl, ?_⟩
       refine hK.out _ _ (hH.out) (fun hHeld => ?_)
       clear hK K
       refine norm_ (a' := ?_) ?_ ?_
       rotate_left
       ·show Act.put _ (some 117) _ = _
        simp only [Act.put, List.setIfInBounds_toArray, List.set_cons_zero, List.set_cons_succ, i64_w, i32_w]
        rfl
       refine pure_ (i := 17) (N := some 118) (v := ?_) (a' := ?_) #[true, true, true, true, true, true, true, true, true, true, true, true, true, true, true, true, true, true, false, false, false, false, false, false, false, false, false, false, false, false, false, false, false, false, false, false, false, false, false, false, false, false, false, false, false] rfl rfl (by kernel_rfl) (fun _ _ _ h => h) (Or.inl ⟨by rfl, ?_⟩) ?_ ?_
       rotate_left
       ·intro w'
        go_simp
        with_reducible rfl
       rotate_left
       ·simp only [Act.put, List.setIfInBounds_toArray, List.set_cons_zero, List.set_cons_succ, i64_w, i32_w]
        rfl
       refine pure_ (i := 18) (N := some 119) (v := ?_) (a' := ?_) #[true, true, true, true, true, true, true, true, true, true, true, true, true, true, true, true, true, true, true, false, false, false, false, false, false, false, false, false, false, false, false, false, false, false, false, false, false, false, false, false, false, false, false, false, false] rfl rfl (by kernel_rfl) (fun _ _ _ h => h) (Or.inl ⟨by rfl, ?_⟩) ?_ ?_
       rotate_left
       ·intro w'
        go_simp
        with_reducible rfl
       rotate_left
       ·simp only [Act.put, List.setIfInBounds_toArray, List.set_cons_zero, List.set_cons_succ, i64_w, i32_w]
        rfl
       refine pure_ (i := 19) (N := some 120) (v := ?_) (a' := ?_) #[true, true, true, true, true, true, true, true, true, true, true, true, true, true, true, true, true, true, true, true, false, false, false, false, false, false, false, false, false, false, false, false, false, false, false, false, false, false, false, false, false, false, false, false, false] rfl rfl (by kernel_rfl) (fun _ _ _ h => h) (Or.inl ⟨by rfl, ?_⟩) ?_ ?_
       rotate_left
       ·intro w'
        go_simp
        with_reducible rfl
       rotate_left
       ·simp only [Act.put, List.setIfInBounds_toArray, List.set_cons_zero, List.set_cons_succ, i64_w, i32_w]
        rfl
       refine pure_ (i := 20) (N := some 121) (v := ?_) (a' := ?_) #[true, true, true, true, true, true, true, true, true, true, true, true, true, true, true, true, true, true, true, true, true, false, false, false, false, false, false, false, false, false, false, false, false, false, false, false, false, false, false, false, false, false, false, false, false] rfl rfl (by kernel_rfl) (fun _ _ _ h => h) (Or.inl ⟨by rfl, ?_⟩) ?_ ?_
       rotate_left
       ·intro w'
        go_simp
        with_reducible rfl
       rotate_left
       ·simp only [Act.put, List.setIfInBounds_toArray, List.set_cons_zero, List.set_cons_succ, i64_w, i32_w]
        rfl
       refine pure_ (i := 21) (N := some 122) (v := ?_) (a' := ?_) #[true, true, true, true, true, true, true, true, true, true, true, true, true, true, true, true, true, true, true, true, true, true, false, false, false, false, false, false, false, false, false, false, false, false, false, false, false, false, false, false, false, false, false, false, false] rfl rfl (by kernel_rfl) (fun _ _ _ h => h) (Or.inl ⟨by rfl, ?_⟩) ?_ ?_
       rotate_left
       ·intro w'
        go_simp
        with_reducible rfl
       rotate_left
       ·simp only [Act.put, List.setIfInBounds_toArray, List.set_cons_zero, List.set_cons_succ, i64_w, i32_w]
        rfl
       refine pure_ (i := 22) (N := some 123) (v := ?_) (a' := ?_) #[true, true, true, true, true, true, true, true, true, true, true, true, true, true, true, true, true, true, true, true, true, true, true, false, false, false, false, false, false, false, false, false, false, false, false, false, false, false, false, false, false, false, false, false, false] rfl rfl (by kernel_rfl) (fun _ _ _ h => h) (Or.inl ⟨by rfl, ?_⟩) ?_ ?_
       rotate_left
       ·intro w'
        go_simp
        with_reducible rfl
       rotate_left
       ·simp only [Act.put, List.setIfInBounds_toArray, List.set_cons_zero, List.set_cons_succ, i64_w, i32_w]
        rfl
       refine pure_ (i := 23) (N := some 124) (v := ?_) (a' := ?_) #[true, true, true, true, true, true, true, true, true, true, true, true, true, true, true, true, true, true, true, true, true, true, true, true, false, false, false, false, false, false, false, false, false, false, false, false, false, false, false, false, false, false, false, false, false] rfl rfl (by kernel_rfl) (fun _ _ _ h => h) (Or.inl ⟨by rfl, ?_⟩) ?_ ?_
       rotate_left
       ·intro w'
        go_simp
        with_reducible rfl
       rotate_left
       ·simp only [Act.put, List.setIfInBounds_toArray, List.set_cons_zero, List.set_cons_succ, i64_w, i32_w]
        rfl
       refine pure_ (i := 24) (N := some 125) (v := ?_) (a' := ?_) #[true, true, true, true, true, true, true, true, true, true, true, true, true, true, true, true, true, true, true, true, true, true, true, true, true, false, false, false, false, false, false, false, false, false, false, false, false, false, false, false, false, false, false, false, false] rfl rfl (by kernel_rfl) (fun _ _ _ h => h) (Or.inl ⟨by rfl, ?_⟩) ?_ ?_
       rotate_left
       ·intro w'
        go_simp
        with_reducible rfl
       rotate_left
       ·simp only [Act.put, List.setIfInBounds_toArray, List.set_cons_zero, List.set_cons_succ, i64_w, i32_w]
        rfl
       refine pure_ (i := 25) (N := some 126) (v := ?_) (a' := ?_) #[true, true, true, true, true, true, true, true, true, true, true, true, true, true, true, true, true, true, true, true, true, true, true, true, true, true, false, false, false, false, false, false, false, false, false, false, false, false, false, false, false, false, false, false, false] rfl rfl (by kernel_rfl) (fun _ _ _ h => h) (Or.inl ⟨by rfl, ?_⟩) ?_ ?_
       rotate_left
       ·intro w'
        go_simp
        with_reducible rfl
       rotate_left
       ·simp only [Act.put, List.setIfInBounds_toArray, List.set_cons_zero, List.set_cons_succ, i64_w, i32_w]
        rfl
       refine pure_ (i := 26) (N := some 127) (v := ?_) (a' := ?_) #[true, true, true, true, true, true, true, true, true, true, true, true, true, true, true, true, true, true, true, true, true, true, true, true, true, true, true, false, false, false, false, false, false, false, false, false, false, false, false, false, false, false, false, false, false] rfl rfl (by kernel_rfl) (fun _ _ _ h => h) (Or.inl ⟨by rfl, ?_⟩) ?_ ?_
       rotate_left
       ·intro w'
        go_simp
        with_reducible rfl
       rotate_left
       ·simp only [Act.put, List.setIfInBounds_toArray, List.set_cons_zero, List.set_cons_succ, i64_w, i32_w]
        rfl
       refine pure_ (i := 27) (N := some 128) (v := ?_) (a' := ?_) #[true, true, true, true, true, true, true, true, true, true, true, true, true, true, true, true, true, true, true, true, true, true, true, true, true, true, true, true, false, false, false, false, false, false, false, false, false, false, false, false, false, false, false, false, false] rfl rfl (by kernel_rfl) (fun _ _ _ h => h) (Or.inl ⟨by rfl, ?_⟩) ?_ ?_
       rotate_left
       ·intro w'
        go_simp
        with_reducible rfl
       rotate_left
       ·simp only [Act.put, List.setIfInBounds_toArray, List.set_cons_zero, List.set_cons_succ, i64_w, i32_w]
        rfl
       refine pure_ (i := 28) (N := some 129) (v := ?_) (a' := ?_) #[true, true, true, true, true, true, true, true, true, true, true, true, true, true, true, true, true, true, true, true, true, true, true, true, true, true, true, true, true, false, false, false, false, false, false, false, false, false, false, false, false, false, false, false, false] rfl rfl (by kernel_rfl) (fun _ _ _ h => h) (Or.inl ⟨by rfl, ?_⟩) ?_ ?_
       rotate_left
       ·intro w'
        go_simp
        with_reducible rfl
       rotate_left
       ·simp only [Act.put, List.setIfInBounds_toArray, List.set_cons_zero, List.set_cons_succ, i64_w, i32_w]
        rfl
       refine pure_ (i := 29) (N := some 130) (v := ?_) (a' := ?_) #[true, true, true, true, true, true, true, true, true, true, true, true, true, true, true, true, true, true, true, true, true, true, true, true, true, true, true, true, true, true, false, false, false, false, false, false, false, false, false, false, false, false, false, false, false] rfl rfl (by kernel_rfl) (fun _ _ _ h => h) (Or.inl ⟨by rfl, ?_⟩) ?_ ?_
       rotate_left
       ·intro w'
        go_simp
        with_reducible rfl
       rotate_left
       ·simp only [Act.put, List.setIfInBounds_toArray, List.set_cons_zero, List.set_cons_succ, i64_w, i32_w]
        rfl
       refine pure_ (i := 30) (N := some 131) (v := ?_) (a' := ?_) #[true, true, true, true, true, true, true, true, true, true, true, true, true, true, true, true, true, true, true, true, true, true, true, true, true, true, true, true, true, true, true, false, false, false, false, false, false, false, false, false, false, false, false, false, false] rfl rfl (by kernel_rfl) (fun _ _ _ h => h) (Or.inl ⟨by rfl, ?_⟩) ?_ ?_
       rotate_left
       ·intro w'
        go_simp
        with_reducible rfl
       rotate_left
       ·simp only [Act.put, List.setIfInBounds_toArray, List.set_cons_zero, List.set_cons_succ, i64_w, i32_w]
        rfl
       refine pure_ (i := 31) (N := some 132) (v := ?_) (a' := ?_) #[true, true, true, true, true, true, true, true, true, true, true, true, true, true, true, true, true, true, true, true, true, true, true, true, true, true, true, true, true, true, true, true, false, false, false, false, false, false, false, false, false, false, false, false, false] rfl rfl (by kernel_rfl) (fun _ _ _ h => h) (Or.inl ⟨by rfl, ?_⟩) ?_ ?_
       rotate_left
       ·intro w'
        go_simp
        with_reducible rfl
       rotate_left
       ·simp only [Act.put, List.setIfInBounds_toArray, List.set_cons_zero, List.set_cons_succ, i64_w, i32_w]
        rfl
       refine pure_ (i := 32) (N := some 133) (v := ?_) (a' := ?_) #[true, true, true, true, true, true, true, true, true, true, true, true, true, true, true, true, true, true, true, true, true, true, true, true, true, true, true, true, true, true, true, true, true, false, false, false, false, false, false, false, false, false, false, false, false] rfl rfl (by kernel_rfl) (fun _ _ _ h => h) (Or.inl ⟨by rfl, ?_⟩) ?_ ?_
       rotate_left
       ·intro w'
        go_simp
        with_reducible rfl
       rotate_left
       ·simp only [Act.put, List.setIfInBounds_toArray, List.set_cons_zero, List.set_cons_succ, i64_w, i32_w]
        rfl
       refine pure_ (i := 33) (N := some 134) (v := ?_) (a' := ?_) #[true, true, true, true, true, true, true, true, true, true, true, true, true, true, true, true, true, true, true, true, true, true, true, true, true, true, true, true, true, true, true, true, true, true, false, false, false, false, false, false, false, false, false, false, false] rfl rfl (by kernel_rfl) (fun _ _ _ h => h) (Or.inl ⟨by rfl, ?_⟩) ?_ ?_
       rotate_left
       ·intro w'
        go_simp
        with_reducible rfl
       rotate_left
       ·simp only [Act.put, List.setIfInBounds_toArray, List.set_cons_zero, List.set_cons_succ, i64_w, i32_w]
        rfl
       refine pure_ (i := 34) (N := some 135) (v := ?_) (a' := ?_) #[true, true, true, true, true, true, true, true, true, true, true, true, true, true, true, true, true, true, true, true, true, true, true, true, true, true, true, true, true, true, true, true, true, true, true, false, false, false, false, false, false, false, false, false, false] rfl rfl (by kernel_rfl) (fun _ _ _ h => h) (Or.inl ⟨by rfl, ?_⟩) ?_ ?_
       rotate_left
       ·intro w'
        go_simp
        with_reducible rfl
       rotate_left
       ·simp only [Act.put, List.setIfInBounds_toArray, List.set_cons_zero, List.set_cons_succ, i64_w, i32_w]
        rfl
       refine take_ (i := 35) (N := some 136) (v := ?_) (a' := ?_) #[true, true, true, true, true, true, true, true, true, true, true, true, true, true, true, true, true, true, true, true, true, true, true, true, true, true, true, true, true, true, true, true, true, true, true, true, false, false, false, false, false, false, false, false, false] rfl rfl (by kernel_rfl) (fun _ _ _ h => h) (Or.inl ⟨by rfl, ?_⟩) hHeld ?_ ?_
       rotate_left
       ·rintro w' ⟨h, hx⟩
        go_simp
        with_reducible rfl
       rotate_left
       ·simp only [Act.put, List.setIfInBounds_toArray, List.set_cons_zero, List.set_cons_succ, i64_w, i32_w]
        rfl
       refine one_ (i := 36) (N := some 137) #[true, true, true, true, true, true, true, true, true, true, true, true, true, true, true, true, true, true, true, true, true, true, true, true, true, true, true, true, true, true, true, true, true, true, true, true, true, false, false, false, false, false, false, false, false] rfl rfl (by kernel_rfl) (by decide) (fun K hK => ?_)
       refine goes_ Try.func28 (by kernel_rfl) rfl #[.slice A1 n c1] (by rfl) rfl rfl (by (try simp only [List.map_toArray, List.map_cons, List.map_nil]); first | done | rfl) ?_
       refine (ofs_w A1 n c1 xs _ hn hxn.out (Kd.C_below hX.out hHeld.1.b) hc1).mono ?_
       rintro e w11 ⟨A11, c11, rfl, hY11, hb1⟩
       have hH := Aside0.mk (hHeld.keep hb1)
       replace hY11 := Aside0.mk hY11
       clear hb1
       refine ⟨_, rfl, ?_⟩
       refine hK.out _ _ (hH.out) (fun hHeld => ?_)
       clear hK K
       refine norm_ (a' := ?_) ?_ ?_
       rotate_left
       ·show Act.put _ (some 137) _ = _
        simp only [Act.put, List.setIfInBounds_toArray, List.set_cons_zero, List.set_cons_succ, i64_w, i32_w]
        rfl
       refine one_ (i := 37) (N := some 138) #[true, true, true, true, true, true, true, true, true, true, true, true, true, true, true, true, true, true, true, true, true, true, true, true, true, true, true, true, true, true, true, true, true, true, true, true, true, true, false, false, false, false, false, false, false] rfl rfl (by kernel_rfl) (by decide) (fun K hK => ?_)
       refine goes_ Try.func31 (by kernel_rfl) rfl #[.slice A11 n c11, .int .u64 20] (by rfl) rfl rfl (by (try simp only [List.map_toArray, List.map_cons, List.map_nil]); first | done | rfl) ?_
       refine (win_w A11 n c11 (xs.map ofS) 20 (wn : Int) _ hyl (by omega) (by omega) h8.out hY11.out.C hY11.out.2.1 hw.out).mono ?_
       rintro e w12 ⟨rfl, hb1⟩
       have hH := Aside0.mk (hHeld.keep hb1)
       clear hb1 hY11
       refine ⟨_, rfl, ?_⟩
       refine hK.out _ _ (hH.out) (fun hHeld => ?_)
       clear hK K
       refine norm_ (a' := ?_) ?_ ?_
       rotate_left
       ·show Act.put _ (some 138) _ = _
        simp only [Act.put, List.setIfInBounds_toArray, List.set_cons_zero, List.set_cons_succ, i64_w, i32_w]
        rfl
       refine pure_ (i := 38) (N := some 139) (v := ?_) (a' := ?_) #[true, true, true, true, true, true, true, true, true, true, true, true, true, true, true, true, true, true, true, true, true, true, true, true, true, true, true, true, true, true, true, true, true, true, true, true, true, true, true, false, false, false, false, false, false] rfl rfl (by kernel_rfl) (fun _ _ _ h => h) (Or.inl ⟨by rfl, ?_⟩) ?_ ?_
       rotate_left
       ·intro w'
        go_simp
        with_reducible rfl
       rotate_left
       ·simp only [Act.put, List.setIfInBounds_toArray, List.set_cons_zero, List.set_cons_succ, i64_w, i32_w]
        rfl
       refine pure_ (i := 39) (N := some 140) (v := ?_) (a' := ?_) #[true, true, true, true, true, true, true, true, true, true, true, true, true, true, true, true, true, true, true, true, true, true, true, true, true, true, true, true, true, true, true, true, true, true, true, true, true, true, true, true, false, false, false, false, false] rfl rfl (by kernel_rfl) (fun _ _ _ h => h) (Or.inl ⟨by rfl, ?_⟩) ?_ ?_
       rotate_left
       ·intro w'
        go_simp
        with_reducible rfl
       rotate_left
       ·simp only [Act.put, List.setIfInBounds_toArray, List.set_cons_zero, List.set_cons_succ, i64_w, i32_w]
        rfl
       refine pure_ (i := 40) (N := some 141) (v := ?_) (a' := ?_) #[true, true, true, true, true, true, true, true, true, true, true, true, true, true, true, true, true, true, true, true, true, true, true, true, true, true, true, true, true, true, true, true, true, true, true, true, true, true, true, true, true, false, false, false, false] rfl rfl (by kernel_rfl) (fun _ _ _ h => h) (Or.inl ⟨by rfl, ?_⟩) ?_ ?_
       rotate_left
       ·intro w'
        go_simp
        with_reducible rfl
       rotate_left
       ·simp only [Act.put, List.setIfInBounds_toArray, List.set_cons_zero, List.set_cons_succ, i64_w, i32_w]
        rfl
       refine pure_ (i := 41) (N := some 142) (v := ?_) (a' := ?_) #[true, true, true, true, true, true, true, true, true, true, true, true, true, true, true, true, true, true, true, true, true, true, true, true, true, true, true, true, true, true, true, true, true, true, true, true, true, true, true, true, true, true, false, false, false] rfl rfl (by kernel_rfl) (fun _ _ _ h => h) (Or.inl ⟨by rfl, ?_⟩) ?_ ?_
       rotate_left
       ·intro w'
        go_simp
        with_reducible rfl
       rotate_left
       ·simp only [Act.put, List.setIfInBounds_toArray, List.set_cons_zero, List.set_cons_succ, i64_w, i32_w]
        rfl
       refine pure_ (i := 42) (N := some 143) (v := ?_) (a' := ?_) #[true, true, true, true, true, true, true, true, true, true, true, true, true, true, true, true, true, true, true, true, true, true, true, true, true, true, true, true, true, true, true, true, true, true, true, true, true, true, true, true, true, true, true, false, false] rfl rfl (by kernel_rfl) (fun _ _ _ h => h) (Or.inl ⟨by rfl, ?_⟩) ?_ ?_
       rotate_left
       ·intro w'
        go_simp
        with_reducible rfl
       rotate_left
       ·simp only [Act.put, List.setIfInBounds_toArray, List.set_cons_zero, List.set_cons_succ, i64_w, i32_w]
        rfl
       refine one_ (i := 43) (N := some 144) #[true, true, true, true, true, true, true, true, true, true, true, true, true, true, true, true, true, true, true, true, true, true, true, true, true, true, true, true, true, true, true, true, true, true, true, true, true, true, true, true, true, true, true, true, false] rfl rfl (by kernel_rfl) (by decide) (fun K hK => ?_)
       refine goes_ Try.func33 (by kernel_rfl) rfl #[.pointer (some ⟨S1, 0, none⟩), .int .u64 (wn : Int)] (by rfl) rfl rfl (by (try simp only [List.map_toArray, List.map_cons, List.map_nil]); first | done | rfl) ?_
       refine (forget_free S1 ⟨p.op, p.key, p.vk, p.vn, p.vs, p.n, Aq1, p.kids.length, cq1⟩ 20 (wn : Int) _ hHeld.1.fr).mono ?_
       rintro e w13 ⟨rfl, rfl⟩
       refine ⟨_, rfl, ?_⟩
       refine hK.out _ _ (hHeld) (fun hHeld => ?_)
       clear hK K
       refine norm_ (a' := ?_) ?_ ?_
       rotate_left
       ·show Act.put _ (some 144) _ = _
        simp only [Act.put, List.setIfInBounds_toArray, List.set_cons_zero, List.set_cons_succ, i64_w, i32_w]
        rfl
       refine pure_ (i := 44) (N := some 145) (v := ?_) (a' := ?_) #[true, true, true, true, true, true, true, true, true, true, true, true, true, true, true, true, true, true, true, true, true, true, true, true, true, true, true, true, true, true, true, true, true, true, true, true, true, true, true, true, true, true, true, true, true] rfl rfl (by kernel_rfl) (fun _ _ _ h => h) (Or.inl ⟨by rfl, ?_⟩) ?_ ?_
       rotate_left
       ·intro w'
        go_simp
        with_reducible rfl
       rotate_left
       ·simp only [Act.put, List.setIfInBounds_toArray, List.set_cons_zero, List.set_cons_succ, i64_w, i32_w]
        rfl
       refine done_ (by kernel_rfl) ?_
       replace HF := Aside0.mk hHeld.1
       clear hHeld
       clear hx0 hY5 hY7
       clear hPK
       by_cases hm0 : most = 0
       ·subst hm0
        go_wp2
        go_roundg k2
        case measure => omega
        case rel => exact ⟨i + 1, _, _, _, rfl, by omega, by omega, by omega, HF⟩
       ·have hmI : (0 : Int) < (most : Int) := by omega
        go_wp2_with (go_at_call 33; refine (fr_forget_b HF.out wn true hwl.out (by simp [at'])).mono ?_; rintro e w14 ⟨rfl, HF2, hb1⟩; replace HF := Aside0.mk HF2; clear HF2 hb1; have x1 := cellB HF.out.b x0)
        go_wp2_with (go_at_call 28; refine (ofs_w A1 n c1 xs _ hn hxn.out (Kd.C_below hX.out HF.out.b) hc1).mono ?_)
        rintro e w15 ⟨A15, c15, rfl, hY15, hb1⟩
        replace HF := Aside0.mk (HF.out.keep hb1)
        replace hY15 := Aside0.mk hY15
        clear hb1 x1
        go_wp2_with (go_at_call 27; refine (fr_ask_b1 HF.out _ A15 n c15 _ wn 1 hky.out hck.out hY15.out hn20 hnp h9.out h8.out hhd.out hw.out (by omega) (by omega) (by rw [if_pos]; simp [at']; omega)).mono ?_; rintro e w16 ⟨rfl, HF2, hb1⟩; replace HF := Aside0.mk HF2; clear HF2 hb1)
        go_wp2_with (go_at_call 33; refine (fr_forget_b HF.out wn true hwl.out (by simp [at'])).mono ?_; rintro e w17 ⟨rfl, HF2, hb1⟩; replace HF := Aside0.mk HF2; clear HF2 hb1)
        go_roundg k2
        case measure => omega
        case rel => exact ⟨i + 1, _, _, _, rfl, by omega, by omega, by omega, HF⟩
    ·obtain rfl : i = n0 := by omega
     have hin' : ¬ (i : Int) < (i : Int) := by omega
     go_wp2_with (first
      | (go_at_call 27; refine (ask_nil none 0 0 _).mono ?_; rintro e w18 ⟨rfl, rfl⟩)
      | (go_at_call 33; refine (forget_nil 0 _).mono ?_; rintro e w19 ⟨rfl, rfl⟩))
     go_ret
     exact ⟨by first | rfl | simp, HF.out.b⟩
  ·obtain rfl : z = (i : Int) := by omega
   clear hz
   have hi0 : (0 : Int) ≤ (i : Int) := by omega
   have hin : i < n0 := by omega
   have hinI : (i : Int) < (n0 : Int) := by omega
   obtain ⟨ad, A1, c1, n, xs, wn, hh, rfl, x0, hc1, hX, hn, hn20, hxn, h9, h8, hw, hwl, hhd⟩ := elem_w (d + 1 - 1) p w _ A0 n0 l i hn0 hin hC.out HF.out.b hnear.out he.out
   rw [Nat.add_sub_cancel] at hhd
   have hyl : (xs.map ofS).length = n := by rw [List.length_map]; exact hn
   replace hX := Aside0.mk hX
   replace hxn := Aside0.mk hxn
   replace h9 := Aside0.mk h9
   replace h8 := Aside0.mk h8
   replace hw := Aside0.mk hw
   replace hwl := Aside0.mk hwl
   have x1 := cellB HF.out.b x0
   go_wp2_with (go_at_call 28; refine (ofs_w A1 n c1 xs _ hn hxn.out (Kd.C_below hX.out HF.out.b) hc1).mono ?_)
   rintro e w5 ⟨A5, c5, rfl, hY5, hb1⟩
   replace HF := Aside0.mk (HF.out.keep hb1)
   replace hY5 := Aside0.mk hY5
   clear hb1 x1
   obtain ⟨x, hx⟩ : ∃ x, (if 0 < n ∧ hd (d + 1) p (xs.map ofS) = true then (1 : Int) else 0) = x := ⟨_, rfl⟩
   replace hx := Aside0.mk hx
   go_wp2_with (go_at_call 27; refine (fr_ask_a HF.out _ A5 n c5 _ x wn hky.out hck.out hY5.out hn20 h9.out h8.out hx.out hw.out).mono ?_; rintro e w6 ⟨rfl, hb1⟩; replace HF := Aside0.mk (HF.out.keep hb1); clear hb1)
   go_roundg k1
   case measure => omega
   case rel => exact ⟨i, _, rfl, rfl, by omega, by omega, HF⟩
end Go.Proofs.Ytgpkihnihmbomaa.Sf
