/- May a policy be? policy.Check, policy.Holds, the document's Check; what a sampler forgets. No conditions but bounds. -/
import Derived.Test.YtgpkihnihmbomaaPh2
import Derived.Test.YtgpkihnihmbomaaPr
import Derived.Test.YtgpkihnihmbomaaSl
namespace Go.Proofs.Ytgpkihnihmbomaa.Pt
open Go.RowKit Go.Proofs.YtgpkihnihmbomaaW.PrintWords Go.Proofs.YtgpkihnihmbomaaW.PrintLast
open Go.Proofs.Ytgpkihnihmbomaa.Ob Go.Proofs.Ytgpkihnihmbomaa.Two Go.Proofs.Ytgpkihnihmbomaa.Bx Go.Proofs.Ytgpkihnihmbomaa.XSs
set_option linter.unusedSimpArgs false
set_option linter.unusedVariables false
/-- May it be: the error's number. -/
def chk (d : Nat) (p : Pol) : Int := if szok d p 1 then (if fm d p then 0 else 1) else 2
set_option maxHeartbeats 8000000 in
set_option maxRecDepth 1000000 in
theorem check_w (d : Nat) (p : Pol) (cs : List Value) (w : World) (r : Int) (hky : keys d p) (hK : (kp 53 d).K w p cs) (hr : chk d p = r) :
    Calls Try.prog 46 #[.agg cs.toArray] w fun e w' => e = .returned (.int .i64 r) ∧ Below w.heap.size w w' := by
  cases d with
  | zero => exact (kp_no hK).elim
  | succ d =>
    have hK0 := Aside0.mk hK
    obtain ⟨A, c, rfl, hc, hC⟩ := kp_open hK
    clear hK hC
    obtain ⟨n, hn⟩ : ∃ n, p.kids.length = n := ⟨_, rfl⟩
    rw [hn] at hK0 ⊢
    show Calls Try.prog 46 #[.agg #[.string p.op, .string p.key, .int .i64 p.vk, .int .i64 p.vn, .string p.vs, .int .u64 p.n, .slice A n c]] w _
    have hT := Aside0.mk ((Bx.start w).new [.string p.op, .string p.key, .int .i64 p.vk, .int .i64 p.vn, .string p.vs, .int .u64 p.n, .slice A n c] 53)
    replace hky := Aside0.mk hky
    cases hs : szok (d + 1) p 1 with
    | false =>
      have e : r = 2 := by rw [← hr]; unfold chk; rw [hs]; rfl
      subst e
      replace hs := Aside0.mk hs
      clear hr
      go_enter Try.func46, Try.ntmps46
      go_wp2_with (first
        | (go_at_call 57; refine (size_w (d + 1) p 1 1 [.string p.op, .string p.key, .int .i64 p.vk, .int .i64 p.vn, .string p.vs, .int .u64 p.n, .slice A n c] _ false 0 rfl (by omega) ((kp 53 (d + 1)).K_below hT.out.b hK0.out) hs.out rfl).mono ?_; rintro e w1 ⟨rfl, hb1⟩; replace hT := Aside0.mk (hT.out.keep hb1); clear hb1)
        | (refine wpList_load_at (by rfl) 53 _ rfl w.heap.size 0 rfl [.string p.op, .string p.key, .int .i64 p.vk, .int .i64 p.vn, .string p.vs, .int .u64 p.n, .slice A n c] _ (row_at0 (hT.out.row (by simp))) Try.underlying53 rfl (by kernel_rfl) ?_))
      go_ret
      exact ⟨rfl, hT.out.b⟩
    | true =>
      cases hf : fm (d + 1) p with
      | false =>
        have e : r = 1 := by rw [← hr]; unfold chk; rw [hs, hf]; rfl
        subst e
        replace hs := Aside0.mk hs
        replace hf := Aside0.mk hf
        clear hr
        go_enter Try.func46, Try.ntmps46
        go_wp2_with (first
          | (go_at_call 57; refine (size_w (d + 1) p 1 1 [.string p.op, .string p.key, .int .i64 p.vk, .int .i64 p.vn, .string p.vs, .int .u64 p.n, .slice A n c] _ true _ rfl (by omega) ((kp 53 (d + 1)).K_below hT.out.b hK0.out) hs.out rfl).mono ?_; rintro e w1 ⟨rfl, hb1⟩; replace hT := Aside0.mk (hT.out.keep hb1); clear hb1)
          | (go_at_call 58; refine (form_w (d + 1) p [.string p.op, .string p.key, .int .i64 p.vk, .int .i64 p.vn, .string p.vs, .int .u64 p.n, .slice A n c] _ false hky.out ((kp 53 (d + 1)).K_below hT.out.b hK0.out) hf.out).mono ?_; rintro e w2 ⟨rfl, hb1⟩; replace hT := Aside0.mk (hT.out.keep hb1); clear hb1)
          | (refine wpList_load_at (by rfl) 53 _ rfl w.heap.size 0 rfl [.string p.op, .string p.key, .int .i64 p.vk, .int .i64 p.vn, .string p.vs, .int .u64 p.n, .slice A n c] _ (row_at0 (hT.out.row (by simp))) Try.underlying53 rfl (by kernel_rfl) ?_))
        go_ret
        exact ⟨rfl, hT.out.b⟩
      | true =>
        have e : r = 0 := by rw [← hr]; unfold chk; rw [hs, hf]; rfl
        subst e
        replace hs := Aside0.mk hs
        replace hf := Aside0.mk hf
        clear hr
        go_enter Try.func46, Try.ntmps46
        go_wp2_with (first
          | (go_at_call 57; refine (size_w (d + 1) p 1 1 [.string p.op, .string p.key, .int .i64 p.vk, .int .i64 p.vn, .string p.vs, .int .u64 p.n, .slice A n c] _ true _ rfl (by omega) ((kp 53 (d + 1)).K_below hT.out.b hK0.out) hs.out rfl).mono ?_; rintro e w1 ⟨rfl, hb1⟩; replace hT := Aside0.mk (hT.out.keep hb1); clear hb1)
          | (go_at_call 58; refine (form_w (d + 1) p [.string p.op, .string p.key, .int .i64 p.vk, .int .i64 p.vn, .string p.vs, .int .u64 p.n, .slice A n c] _ true hky.out ((kp 53 (d + 1)).K_below hT.out.b hK0.out) hf.out).mono ?_; rintro e w2 ⟨rfl, hb1⟩; replace hT := Aside0.mk (hT.out.keep hb1); clear hb1)
          | (refine wpList_load_at (by rfl) 53 _ rfl w.heap.size 0 rfl [.string p.op, .string p.key, .int .i64 p.vk, .int .i64 p.vn, .string p.vs, .int .u64 p.n, .slice A n c] _ (row_at0 (hT.out.row (by simp))) Try.underlying53 rfl (by kernel_rfl) ?_))
        go_ret
        exact ⟨rfl, hT.out.b⟩
set_option maxHeartbeats 8000000 in
set_option maxRecDepth 1000000 in
theorem Holds_w (d : Nat) (p : Pol) (cs : List Value) (l : List S70) (B : Option Addr) (m e : Nat) (w : World) (b : Bool) (hky : keys d p) (hc0 : chk d p = 0) (hK : (kp 53 d).K w p cs) (hm : l.length = m) (hL : Kd.C k70 w B m l) (hl9 : ∀ s ∈ l, s.f9.length ≤ 1000) (hb : hd d p l = b) :
    Calls Try.prog 32 #[.agg cs.toArray, .slice B m e] w fun e w' => e = .returned (.bool b) ∧ Below w.heap.size w w' := by
  cases d with
  | zero => exact (kp_no hK).elim
  | succ d =>
    have hK0 := Aside0.mk hK
    obtain ⟨A, c, rfl, hc, hC⟩ := kp_open hK
    clear hK hC
    obtain ⟨n, hn⟩ : ∃ n, p.kids.length = n := ⟨_, rfl⟩
    rw [hn] at hK0 ⊢
    show Calls Try.prog 32 #[.agg #[.string p.op, .string p.key, .int .i64 p.vk, .int .i64 p.vn, .string p.vs, .int .u64 p.n, .slice A n c], .slice B m e] w _
    have hT := Aside0.mk ((Bx.start w).new [.string p.op, .string p.key, .int .i64 p.vk, .int .i64 p.vn, .string p.vs, .int .u64 p.n, .slice A n c] 53)
    replace hky := Aside0.mk hky
    replace hc0 := Aside0.mk hc0
    replace hL := Aside0.mk hL
    replace hl9 := Aside0.mk hl9
    replace hb := Aside0.mk hb
    go_enter Try.func32, Try.ntmps32
    go_wp2_with (first
      | (go_at_call 46; refine (check_w (d + 1) p [.string p.op, .string p.key, .int .i64 p.vk, .int .i64 p.vn, .string p.vs, .int .u64 p.n, .slice A n c] _ 0 hky.out ((kp 53 (d + 1)).K_below hT.out.b hK0.out) hc0.out).mono ?_; rintro e w1 ⟨rfl, hb1⟩; replace hT := Aside0.mk (hT.out.keep hb1); clear hb1)
      | (go_at_call 53; refine (holds_w (d + 1) p [.string p.op, .string p.key, .int .i64 p.vk, .int .i64 p.vn, .string p.vs, .int .u64 p.n, .slice A n c] l B m _ _ b ((kp 53 (d + 1)).K_below hT.out.b hK0.out) hm (Kd.C_below hL.out hT.out.b) hl9.out hb.out).mono ?_; rintro e w2 ⟨rfl, hb1⟩; replace hT := Aside0.mk (hT.out.keep hb1); clear hb1)
      | (refine wpList_load_at (by rfl) 53 _ rfl w.heap.size 0 rfl [.string p.op, .string p.key, .int .i64 p.vk, .int .i64 p.vn, .string p.vs, .int .u64 p.n, .slice A n c] _ (row_at0 (hT.out.row (by simp))) Try.underlying53 rfl (by kernel_rfl) ?_))
    go_ret
    exact ⟨rfl, hT.out.b⟩
set_option maxHeartbeats 8000000 in
set_option maxRecDepth 1000000 in
theorem rcheck_w (d : Nat) (p : Pol) (cs : List Value) (w : World) (r : Int) (hky : keys d p) (hdp : dp d p ≤ 100) (hK : (kp 43 d).K w p cs) (hr : chk d p = r) :
    Calls Try.prog 26 #[.agg cs.toArray] w fun e w' => e = .returned (.int .i64 r) ∧ Below w.heap.size w w' := by
  cases d with
  | zero => exact (kp_no hK).elim
  | succ d =>
    have hK0 := Aside0.mk hK
    obtain ⟨A, c, rfl, hc, hC⟩ := kp_open hK
    clear hK hC
    obtain ⟨n, hn⟩ : ∃ n, p.kids.length = n := ⟨_, rfl⟩
    rw [hn] at hK0 ⊢
    show Calls Try.prog 26 #[.agg #[.string p.op, .string p.key, .int .i64 p.vk, .int .i64 p.vn, .string p.vs, .int .u64 p.n, .slice A n c]] w _
    have hT := Aside0.mk ((Bx.start w).new [.string p.op, .string p.key, .int .i64 p.vk, .int .i64 p.vn, .string p.vs, .int .u64 p.n, .slice A n c] 43)
    replace hky := Aside0.mk hky
    obtain ⟨s, hs⟩ : ∃ s, min (sz (d + 1) p) 100 = s := ⟨_, rfl⟩
    obtain ⟨t, ht⟩ : ∃ t, dp (d + 1) p = t := ⟨_, rfl⟩
    rw [ht] at hdp
    by_cases h64 : s > 64
    · have h64I : decide ((64 : Int) < (s : Int)) = true := decide_eq_true (by omega)
      have e : r = 2 := by rw [← hr]; unfold chk; rw [szok_no.2 (by omega)]; rfl
      subst e
      replace hs := Aside0.mk hs
      replace ht := Aside0.mk ht
      clear hr
      go_enter Try.func26, Try.ntmps26
      go_wp2_with (first
        | (go_at_call 47; refine (Size_w (d + 1) p [.string p.op, .string p.key, .int .i64 p.vk, .int .i64 p.vn, .string p.vs, .int .u64 p.n, .slice A n c] _ (s : Int) ((kp 43 (d + 1)).K_below hT.out.b hK0.out) (by rw [hs.out])).mono ?_; rintro e w1 ⟨rfl, hb1⟩; replace hT := Aside0.mk (hT.out.keep hb1); clear hb1)
        | (refine wpList_load_at (by rfl) 43 _ rfl w.heap.size 0 rfl [.string p.op, .string p.key, .int .i64 p.vk, .int .i64 p.vn, .string p.vs, .int .u64 p.n, .slice A n c] _ (row_at0 (hT.out.row (by simp))) Try.underlying43 rfl (by kernel_rfl) ?_))
      go_ret
      exact ⟨rfl, hT.out.b⟩
    have h64I : decide ((64 : Int) < (s : Int)) = false := decide_eq_false (by omega)
    by_cases h8 : t > 8
    · have h8I : decide ((8 : Int) < (t : Int)) = true := decide_eq_true (by omega)
      have e : r = 2 := by rw [← hr]; unfold chk; rw [szok_no.2 (by omega)]; rfl
      subst e
      replace hs := Aside0.mk hs
      replace ht := Aside0.mk ht
      clear hr
      go_enter Try.func26, Try.ntmps26
      go_wp2_with (first
        | (go_at_call 47; refine (Size_w (d + 1) p [.string p.op, .string p.key, .int .i64 p.vk, .int .i64 p.vn, .string p.vs, .int .u64 p.n, .slice A n c] _ (s : Int) ((kp 43 (d + 1)).K_below hT.out.b hK0.out) (by rw [hs.out])).mono ?_; rintro e w1 ⟨rfl, hb1⟩; replace hT := Aside0.mk (hT.out.keep hb1); clear hb1)
        | (go_at_call 48; refine (Depth_w (d + 1) p [.string p.op, .string p.key, .int .i64 p.vk, .int .i64 p.vn, .string p.vs, .int .u64 p.n, .slice A n c] _ (t : Int) ((kp 43 (d + 1)).K_below hT.out.b hK0.out) (by rw [ht.out]; omega) (by rw [ht.out])).mono ?_; rintro e w1 ⟨rfl, hb1⟩; replace hT := Aside0.mk (hT.out.keep hb1); clear hb1)
        | (refine wpList_load_at (by rfl) 43 _ rfl w.heap.size 0 rfl [.string p.op, .string p.key, .int .i64 p.vk, .int .i64 p.vn, .string p.vs, .int .u64 p.n, .slice A n c] _ (row_at0 (hT.out.row (by simp))) Try.underlying43 rfl (by kernel_rfl) ?_))
      go_ret
      exact ⟨rfl, hT.out.b⟩
    have h8I : decide ((8 : Int) < (t : Int)) = false := decide_eq_false (by omega)
    have hok := szok_iff.2 (show dp (d + 1) p + 1 ≤ 9 ∧ sz (d + 1) p ≤ 64 by omega)
    cases hf : fm (d + 1) p with
    | false =>
      have e : r = 1 := by rw [← hr]; unfold chk; rw [hok, hf]; rfl
      subst e
      replace hs := Aside0.mk hs
      replace ht := Aside0.mk ht
      replace hf := Aside0.mk hf
      clear hr hok
      go_enter Try.func26, Try.ntmps26
      go_wp2_with (first
        | (go_at_call 47; refine (Size_w (d + 1) p [.string p.op, .string p.key, .int .i64 p.vk, .int .i64 p.vn, .string p.vs, .int .u64 p.n, .slice A n c] _ (s : Int) ((kp 43 (d + 1)).K_below hT.out.b hK0.out) (by rw [hs.out])).mono ?_; rintro e w1 ⟨rfl, hb1⟩; replace hT := Aside0.mk (hT.out.keep hb1); clear hb1)
        | (go_at_call 48; refine (Depth_w (d + 1) p [.string p.op, .string p.key, .int .i64 p.vk, .int .i64 p.vn, .string p.vs, .int .u64 p.n, .slice A n c] _ (t : Int) ((kp 43 (d + 1)).K_below hT.out.b hK0.out) (by rw [ht.out]; omega) (by rw [ht.out])).mono ?_; rintro e w1 ⟨rfl, hb1⟩; replace hT := Aside0.mk (hT.out.keep hb1); clear hb1)
        | (go_at_call 49; refine (right_w (d + 1) p [.string p.op, .string p.key, .int .i64 p.vk, .int .i64 p.vn, .string p.vs, .int .u64 p.n, .slice A n c] _ false hky.out ((kp 43 (d + 1)).K_below hT.out.b hK0.out) hf.out).mono ?_; rintro e w1 ⟨rfl, hb1⟩; replace hT := Aside0.mk (hT.out.keep hb1); clear hb1)
        | (refine wpList_load_at (by rfl) 43 _ rfl w.heap.size 0 rfl [.string p.op, .string p.key, .int .i64 p.vk, .int .i64 p.vn, .string p.vs, .int .u64 p.n, .slice A n c] _ (row_at0 (hT.out.row (by simp))) Try.underlying43 rfl (by kernel_rfl) ?_))
      go_ret
      exact ⟨rfl, hT.out.b⟩
    | true =>
      have e : r = 0 := by rw [← hr]; unfold chk; rw [hok, hf]; rfl
      subst e
      replace hs := Aside0.mk hs
      replace ht := Aside0.mk ht
      replace hf := Aside0.mk hf
      clear hr hok
      go_enter Try.func26, Try.ntmps26
      go_wp2_with (first
        | (go_at_call 47; refine (Size_w (d + 1) p [.string p.op, .string p.key, .int .i64 p.vk, .int .i64 p.vn, .string p.vs, .int .u64 p.n, .slice A n c] _ (s : Int) ((kp 43 (d + 1)).K_below hT.out.b hK0.out) (by rw [hs.out])).mono ?_; rintro e w1 ⟨rfl, hb1⟩; replace hT := Aside0.mk (hT.out.keep hb1); clear hb1)
        | (go_at_call 48; refine (Depth_w (d + 1) p [.string p.op, .string p.key, .int .i64 p.vk, .int .i64 p.vn, .string p.vs, .int .u64 p.n, .slice A n c] _ (t : Int) ((kp 43 (d + 1)).K_below hT.out.b hK0.out) (by rw [ht.out]; omega) (by rw [ht.out])).mono ?_; rintro e w1 ⟨rfl, hb1⟩; replace hT := Aside0.mk (hT.out.keep hb1); clear hb1)
        | (go_at_call 49; refine (right_w (d + 1) p [.string p.op, .string p.key, .int .i64 p.vk, .int .i64 p.vn, .string p.vs, .int .u64 p.n, .slice A n c] _ true hky.out ((kp 43 (d + 1)).K_below hT.out.b hK0.out) hf.out).mono ?_; rintro e w1 ⟨rfl, hb1⟩; replace hT := Aside0.mk (hT.out.keep hb1); clear hb1)
        | (refine wpList_load_at (by rfl) 43 _ rfl w.heap.size 0 rfl [.string p.op, .string p.key, .int .i64 p.vk, .int .i64 p.vn, .string p.vs, .int .u64 p.n, .slice A n c] _ (row_at0 (hT.out.row (by simp))) Try.underlying43 rfl (by kernel_rfl) ?_))
      go_ret
      exact ⟨rfl, hT.out.b⟩
set_option maxHeartbeats 4000000 in
set_option maxRecDepth 1000000 in
theorem gforget_nil (k : Int) (w : World) : Calls Try.prog 18 #[.pointer none, .int .u64 k] w fun e w' => e = .returned (.bool false) ∧ w' = w := by
  go_enter Try.func18, Try.ntmps18
  go_wp2
  go_ret
  exact ⟨rfl, rfl⟩
set_option maxHeartbeats 4000000 in
set_option maxRecDepth 1000000 in
theorem forget_nil (k : Int) (w : World) : Calls Try.prog 33 #[.pointer none, .int .u64 k] w fun e w' => e = .returned (.bool false) ∧ w' = w := by
  go_enter Try.func33, Try.ntmps33
  go_wp2
  go_ret
  exact ⟨rfl, rfl⟩
set_option maxHeartbeats 4000000 in
set_option maxRecDepth 1000000 in
theorem forget_free (S : Nat) (p : Sm.Po) (width : Nat) (k : Int) (w : World) (hr : Sm.IsFree w S p width) : Calls Try.prog 33 #[.pointer (some ⟨S, 0, none⟩), .int .u64 k] w fun e w' => e = .returned (.bool false) ∧ w' = w := by
  unfold Sm.IsFree at hr
  have c8 := (hr 8 _ rfl).1
  clear hr
  go_enter Try.func33, Try.ntmps33
  go_wp2_with (go_at_call 18; refine (gforget_nil k _).mono ?_; rintro e w1 ⟨rfl, rfl⟩)
  go_ret
  exact ⟨rfl, rfl⟩
set_option maxHeartbeats 4000000 in
set_option maxRecDepth 1000000 in
theorem forget_gate (S N B : Nat) (p : Sm.Po) (width most cb : Nat) (f : Nat → Nat) (has : Nat → Bool) (k : Nat) (b : Bool) (w : World) (hs : Sm.IsSm w S N B p width most cb f has) (hk : k < 18446744073709551616) (hb : has k = b) :
    Calls Try.prog 33 #[.pointer (some ⟨S, 0, none⟩), .int .u64 (k : Int)] w fun e w' => e = .returned (.bool b) ∧ Sm.IsSm w' S N B p width most cb (Ra.at' f k 0) (Ra.at' has k false) ∧ Only (fun j => j = B) w w' := by
  have c8 := (hs.head 8 _ rfl).1
  have R := Aside0.mk hs
  replace hb := Aside0.mk hb
  clear hs
  go_enter Try.func33, Try.ntmps33
  go_wp2_with (go_at_call 18; refine (Ra.forget_walk N B most cb f has k _ R.out.g hk).mono ?_; rintro e w1 ⟨rfl, hg1, ho1⟩; rw [hb.out]; replace hg1 := Aside0.mk hg1; replace ho1 := Aside0.mk ho1)
  go_ret
  exact ⟨rfl, ⟨R.out.head.only ho1.out R.out.sb, hg1.out, R.out.sn, R.out.sb⟩, ho1.out⟩
end Go.Proofs.Ytgpkihnihmbomaa.Pt
