/- Does a policy hold of spans? policy.holds, walked. No conditions but bounds. -/
import Derived.Test.YtgpkihnihmbomaaPh0
import Derived.Test.YtgpkihnihmbomaaPf
import Derived.Test.YtgpkihnihmbomaaCd
namespace Go.Proofs.Ytgpkihnihmbomaa.Pt
open Go.RowKit Go.Proofs.YtgpkihnihmbomaaW.PrintWords Go.Proofs.YtgpkihnihmbomaaW.PrintLast
open Go.Proofs.Ytgpkihnihmbomaa.Ob Go.Proofs.Ytgpkihnihmbomaa.Two Go.Proofs.Ytgpkihnihmbomaa.Bx Go.Proofs.Ytgpkihnihmbomaa.XSs
set_option linter.unusedSimpArgs false
set_option linter.unusedVariables false
section
open Go.Proofs.Ytgpkihnihmbomaa.XSq
def In (x : Int) : Prop := 0 ≤ x ∧ x ≤ 18446744073709551615
theorem wrap_in (x : Int) : In (IntKind.u64.wrap x) := by rw [IntKind.wrap_u64]; unfold In; omega
theorem more_some (l : List Int) (hl : l.length ≤ 100) (d : Nat) : ∀ (i k : Nat) (x : Int), In x → i + d = l.length → d < k → ∃ r, In r ∧ digest_more.l0 k x l (l.length : Int) (i : Int) = some r := by
  induction d with
  | zero =>
    intro i k x hx hi hk
    obtain ⟨k, rfl⟩ : ∃ m, k = m + 1 := ⟨k - 1, by omega⟩
    rw [digest_more.l0, if_neg (by omega)]
    exact ⟨x, hx, rfl⟩
  | succ d ih =>
    intro i k x hx hi hk
    obtain ⟨k, rfl⟩ : ∃ m, k = m + 1 := ⟨k - 1, by omega⟩
    rw [digest_more.l0, if_pos (by omega), if_pos (by omega), if_pos (by omega), IntWalk.wrap64_in ((i : Int) + 1) (by omega), show (i : Int) + 1 = ((i + 1 : Nat) : Int) by omega]
    exact ih (i + 1) k _ (wrap_in _) (by omega) (by omega)
theorem hash_some (l : List Int) (hl : l.length ≤ 100) (k : Nat) (hk : l.length < k) : ∃ r, In r ∧ digest_Hash.f k l = some r := by
  obtain ⟨r, hr, h⟩ := more_some l hl l.length 0 k 14695981039346656037 (by unfold In; omega) (by omega) hk
  refine ⟨r, hr, ?_⟩
  unfold digest_Hash.f digest_more.f
  rw [show (0 : Int) = ((0 : Nat) : Int) from rfl, h, Option.bind_some]
theorem trace_some (d : Nat) : ∀ (i k : Nat) (x : Int) (l : List Int), i + d = 8 → l.length = i → d + 100 < k → ∃ r, In r ∧ digest_trace.l0 k x l (i : Int) = some r := by
  induction d with
  | zero =>
    intro i k x l hi hl hk
    obtain ⟨k, rfl⟩ : ∃ m, k = m + 1 := ⟨k - 1, by omega⟩
    obtain ⟨r, hr, h⟩ := hash_some l (by omega) k (by omega)
    rw [digest_trace.l0, if_neg (by omega), h, Option.bind_some]
    exact ⟨r, hr, rfl⟩
  | succ d ih =>
    intro i k x l hi hl hk
    obtain ⟨k, rfl⟩ : ∃ m, k = m + 1 := ⟨k - 1, by omega⟩
    rw [digest_trace.l0, if_pos (by omega), if_pos (by omega), IntWalk.wrap64_in ((i : Int) + 1) (by omega), show (i : Int) + 1 = ((i + 1 : Nat) : Int) by omega]
    exact ih (i + 1) k _ _ (by omega) (by simp; omega) (by omega)
theorem share_eq (k : Nat) (id t n : Int) (ht : In t) (h : digest_trace.f k id = some t) : digest_Share.f k id n = some (decide (t % 1000 < n)) := by
  unfold digest_Share.f
  unfold In at ht
  rw [h, Option.bind_some, Int.tmod_eq_emod_of_nonneg (by omega), IntWalk.wrap64_in (t % 1000) (by omega)]
end
/-- Is a trace among so many of 1000? -/
def shareok (t n : Int) : Bool := (XSq.digest_Share.f 200 t n).getD false
theorem share_w (t n : Int) (w : World) (b : Bool) (hb : shareok t n = b) : Calls Try.prog 68 #[.int .u64 t, .int .i64 n] w fun e w' => e = .returned (.bool b) ∧ Below w.heap.size w w' := by
  subst hb
  obtain ⟨r, hr, h⟩ := trace_some 8 0 200 t [] (by omega) rfl (by omega)
  have h2 := share_eq 200 t r n hr h
  have e : shareok t n = decide (r % 1000 < n) := by unfold shareok; rw [h2]; rfl
  rw [e]
  exact XSq.digest_Share.calls 200 t n _ w h2
/-- How long a span took. -/
def tookS (s : S70) : Int := if s.f8 < s.f7 then 0 else IntKind.u64.wrap (s.f8 - s.f7)
/-- Has a span an attribute of a value? -/
def hitS (p : Pol) (s : S70) : Bool := match Cd.attrV s.f9 p.key with
  | some v => v.f0 == p.vk && (v.f1 == p.vn && (v.f2.toList == p.vs.toList))
  | none => false
set_option maxHeartbeats 8000000 in
set_option maxRecDepth 1000000 in
theorem failed_w (s : S70) (A9 : Option Addr) (c9 : Nat) (w : World) : Calls Try.prog 65 #[.agg #[.int .u64 s.f0, .int .u64 s.f1, .int .u64 s.f2, .string s.f3, .string s.f4, .int .i64 s.f5, .int .i64 s.f6, .int .u64 s.f7, .int .u64 s.f8, .slice A9 s.f9.length c9]] w fun e w' => e = .returned (.bool (s.f6 == 2)) ∧ Below w.heap.size w w' := by
  have hT := Aside0.mk ((Bx.start w).new [.int .u64 s.f0, .int .u64 s.f1, .int .u64 s.f2, .string s.f3, .string s.f4, .int .i64 s.f5, .int .i64 s.f6, .int .u64 s.f7, .int .u64 s.f8, .slice A9 s.f9.length c9] 70)
  obtain ⟨y6, z6⟩ := hT.out.row (List.mem_cons_self ..) 6 _ rfl
  go_enter Try.func65, Try.ntmps65
  go_wp2
  go_ret
  exact ⟨by first | rfl | simp, hT.out.b⟩
set_option maxHeartbeats 8000000 in
set_option maxRecDepth 1000000 in
theorem took_w (s : S70) (A9 : Option Addr) (c9 : Nat) (w : World) (T : Int) (hT0 : tookS s = T) : Calls Try.prog 67 #[.agg #[.int .u64 s.f0, .int .u64 s.f1, .int .u64 s.f2, .string s.f3, .string s.f4, .int .i64 s.f5, .int .i64 s.f6, .int .u64 s.f7, .int .u64 s.f8, .slice A9 s.f9.length c9]] w fun e w' => e = .returned (.int .u64 T) ∧ Below w.heap.size w w' := by
  have hT := Aside0.mk ((Bx.start w).new [.int .u64 s.f0, .int .u64 s.f1, .int .u64 s.f2, .string s.f3, .string s.f4, .int .i64 s.f5, .int .i64 s.f6, .int .u64 s.f7, .int .u64 s.f8, .slice A9 s.f9.length c9] 70)
  obtain ⟨y7, z7⟩ := hT.out.row (List.mem_cons_self ..) 7 _ rfl
  obtain ⟨y8, z8⟩ := hT.out.row (List.mem_cons_self ..) 8 _ rfl
  subst hT0
  by_cases h : s.f8 < s.f7
  · have e : tookS s = 0 := by unfold tookS; rw [if_pos h]
    rw [e]; clear e
    go_enter Try.func67, Try.ntmps67
    go_wp2
    go_ret
    exact ⟨rfl, hT.out.b⟩
  · have e : tookS s = IntKind.u64.wrap (s.f8 - s.f7) := by unfold tookS; rw [if_neg h]
    rw [e]; clear e
    go_enter Try.func67, Try.ntmps67
    go_wp2
    go_ret
    exact ⟨rfl, hT.out.b⟩
/-- A policy's box, and a box of spans. -/
theorem cellR {w w' : World} {b i : Nat} {v : Value} (hb : Below w.heap.size w w') (h : w.cell? ⟨b, i, none⟩ = some v) : w'.cell? ⟨b, i, none⟩ = some v := cellB hb h
set_option maxHeartbeats 8000000 in
set_option maxRecDepth 1000000 in
theorem lit66_w (s : S70) (A9 : Option Addr) (c9 g : Nat) (pn : Int) (w : World) (b : Bool) (hg : w.cell? ⟨g, 5, none⟩ = some (.int .u64 pn)) (hb : decide (pn ≤ tookS s) = b) :
    Calls Try.prog 66 #[.agg #[.int .u64 s.f0, .int .u64 s.f1, .int .u64 s.f2, .string s.f3, .string s.f4, .int .i64 s.f5, .int .i64 s.f6, .int .u64 s.f7, .int .u64 s.f8, .slice A9 s.f9.length c9], .pointer (some ⟨g, 0, none⟩)] w fun e w' => e = .returned (.bool b) ∧ Below w.heap.size w w' := by
  have hT := Aside0.mk ((Bx.start w).new [.int .u64 s.f0, .int .u64 s.f1, .int .u64 s.f2, .string s.f3, .string s.f4, .int .i64 s.f5, .int .i64 s.f6, .int .u64 s.f7, .int .u64 s.f8, .slice A9 s.f9.length c9] 70)
  obtain ⟨T, hT0⟩ : ∃ T, tookS s = T := ⟨_, rfl⟩
  rw [hT0] at hb
  replace hT0 := Aside0.mk hT0
  subst hb
  have hg' := cellB (below_alloc (Below.refl _ _) (.cells #[.int .u64 s.f0, .int .u64 s.f1, .int .u64 s.f2, .string s.f3, .string s.f4, .int .i64 s.f5, .int .i64 s.f6, .int .u64 s.f7, .int .u64 s.f8, .slice A9 s.f9.length c9] 70)) hg
  go_enter Try.func66, Try.ntmps66
  go_wp2
  have hS := (⟨hT.out.drew, hg'⟩ : (fun W => Bx w W [(w.heap.size, [.int .u64 s.f0, .int .u64 s.f1, .int .u64 s.f2, .string s.f3, .string s.f4, .int .i64 s.f5, .int .i64 s.f6, .int .u64 s.f7, .int .u64 s.f8, .slice A9 s.f9.length c9])] ∧ W.cell? ⟨g, 5, none⟩ = some (.int .u64 pn)) _)
  refine start_ (n := 6) (S := fun W => Bx w W [(w.heap.size, [.int .u64 s.f0, .int .u64 s.f1, .int .u64 s.f2, .string s.f3, .string s.f4, .int .i64 s.f5, .int .i64 s.f6, .int .u64 s.f7, .int .u64 s.f8, .slice A9 s.f9.length c9])] ∧ W.cell? ⟨g, 5, none⟩ = some (.int .u64 pn)) (ds := []) #[false, false, false, false, false, false] (by kernel_rfl) rfl rfl hS (fun hHeld => ?_)
  clear hS
  refine pure_ (i := 2) (N := some 6) (v := ?_) (a' := ?_) #[false, false, true, false, false, false] rfl rfl (by kernel_rfl) (fun _ _ _ h => h) (Or.inl ⟨by rfl, ?_⟩) ?_ ?_
  rotate_left
  · intro w'
    go_simp
    with_reducible rfl
  rotate_left
  · simp only [Act.put, List.setIfInBounds_toArray, List.set_cons_zero, List.set_cons_succ, i64_w, i32_w]
    rfl
  refine take_ (i := 0) (N := some 4) (v := .agg #[.int .u64 s.f0, .int .u64 s.f1, .int .u64 s.f2, .string s.f3, .string s.f4, .int .i64 s.f5, .int .i64 s.f6, .int .u64 s.f7, .int .u64 s.f8, .slice A9 s.f9.length c9]) (a' := ?_) #[true, false, true, false, false, false] rfl rfl (by kernel_rfl) (fun _ _ _ h => h) (Or.inl ⟨by rfl, ?_⟩) hHeld ?_ ?_
  · rintro w' ⟨h, _⟩
    exact exec_load_at 70 (.tmp 2) rfl w.heap.size 0 rfl [.int .u64 s.f0, .int .u64 s.f1, .int .u64 s.f2, .string s.f3, .string s.f4, .int .i64 s.f5, .int .i64 s.f6, .int .u64 s.f7, .int .u64 s.f8, .slice A9 s.f9.length c9] _ (row_at0 (h.row (by simp))) Try.underlying70 rfl (by kernel_rfl)
  rotate_left
  · simp only [Act.put, List.setIfInBounds_toArray, List.set_cons_zero, List.set_cons_succ, i64_w, i32_w]
    rfl
  refine take_ (i := 3) (N := some 7) (v := ?_) (a' := ?_) #[true, false, true, true, false, false] rfl rfl (by kernel_rfl) (fun _ _ _ h => h) (Or.inl ⟨by rfl, ?_⟩) hHeld ?_ ?_
  rotate_left
  · rintro w' ⟨_, h5⟩
    go_simp
    with_reducible rfl
  rotate_left
  · simp only [Act.put, List.setIfInBounds_toArray, List.set_cons_zero, List.set_cons_succ, i64_w, i32_w]
    rfl
  refine one_ (i := 1) (N := some 5) #[true, true, true, true, false, false] rfl rfl (by kernel_rfl) (by decide) (fun K hK => ?_)
  refine goes_ Try.func67 (by kernel_rfl) rfl #[.agg #[.int .u64 s.f0, .int .u64 s.f1, .int .u64 s.f2, .string s.f3, .string s.f4, .int .i64 s.f5, .int .i64 s.f6, .int .u64 s.f7, .int .u64 s.f8, .slice A9 s.f9.length c9]] (by rfl) rfl rfl (by (try simp only [List.map_toArray, List.map_cons, List.map_nil]); first | done | rfl) ?_
  refine (took_w s A9 c9 _ T hT0.out).mono ?_
  rintro e w7 ⟨rfl, hb7⟩
  have hH := Aside0.mk (show Bx w w7 [(w.heap.size, [.int .u64 s.f0, .int .u64 s.f1, .int .u64 s.f2, .string s.f3, .string s.f4, .int .i64 s.f5, .int .i64 s.f6, .int .u64 s.f7, .int .u64 s.f8, .slice A9 s.f9.length c9])] ∧ w7.cell? ⟨g, 5, none⟩ = some (.int .u64 pn) from ⟨hHeld.1.keep hb7, cellB hb7 hHeld.2⟩)
  clear hb7
  refine ⟨_, rfl, ?_⟩
  refine hK.out _ _ (hH.out) (fun hHeld => ?_)
  clear hK K
  refine norm_ (a' := ?_) ?_ ?_
  rotate_left
  · show Act.put _ (some 5) _ = _
    simp only [Act.put, List.setIfInBounds_toArray, List.set_cons_zero, List.set_cons_succ, i64_w, i32_w]
    rfl
  refine pure_ (i := 4) (N := some 8) (v := ?_) (a' := ?_) #[true, true, true, true, true, false] rfl rfl (by kernel_rfl) (fun _ _ _ h => h) (Or.inl ⟨by rfl, ?_⟩) ?_ ?_
  rotate_left
  · intro w'
    go_simp
    with_reducible rfl
  rotate_left
  · simp only [Act.put, List.setIfInBounds_toArray, List.set_cons_zero, List.set_cons_succ, i64_w, i32_w]
    rfl
  refine pure_ (i := 5) (N := some 3) (v := ?_) (a' := ?_) #[true, true, true, true, true, true] rfl rfl (by kernel_rfl) (fun _ _ _ h => h) (Or.inl ⟨by rfl, ?_⟩) ?_ ?_
  rotate_left
  · intro w'
    go_simp
    with_reducible rfl
  rotate_left
  · simp only [Act.put, List.setIfInBounds_toArray, List.set_cons_zero, List.set_cons_succ, i64_w, i32_w]
    rfl
  refine done_ (by kernel_rfl) ?_
  go_wp2
  go_ret
  exact ⟨by first | rfl | simp, hHeld.1.b⟩
attribute [local go_sem high] Pl.eqA50
set_option maxHeartbeats 8000000 in
set_option maxRecDepth 1000000 in
theorem lit69_w (s : S70) (A9 : Option Addr) (c9 g : Nat) (p : Pol) (A : Option Addr) (n c : Nat) (w : World) (b : Bool) (hg : Row w g [.string p.op, .string p.key, .int .i64 p.vk, .int .i64 p.vn, .string p.vs, .int .u64 p.n, .slice A n c]) (hC : Kd.C k126 w A9 s.f9.length s.f9) (hl : s.f9.length ≤ 1000) (hb : hitS p s = b) :
    Calls Try.prog 69 #[.agg #[.int .u64 s.f0, .int .u64 s.f1, .int .u64 s.f2, .string s.f3, .string s.f4, .int .i64 s.f5, .int .i64 s.f6, .int .u64 s.f7, .int .u64 s.f8, .slice A9 s.f9.length c9], .pointer (some ⟨g, 0, none⟩)] w fun e w' => e = .returned (.bool b) ∧ Below w.heap.size w w' := by
  have hT := Aside0.mk ((Bx.start w).new [.int .u64 s.f0, .int .u64 s.f1, .int .u64 s.f2, .string s.f3, .string s.f4, .int .i64 s.f5, .int .i64 s.f6, .int .u64 s.f7, .int .u64 s.f8, .slice A9 s.f9.length c9] 70)
  replace hC := Aside0.mk hC
  have hG := Aside0.mk (hg.alloc (.cells #[.int .u64 s.f0, .int .u64 s.f1, .int .u64 s.f2, .string s.f3, .string s.f4, .int .i64 s.f5, .int .i64 s.f6, .int .u64 s.f7, .int .u64 s.f8, .slice A9 s.f9.length c9] 70))
  have g1 := (hG.out 1 _ rfl).1
  cases hv : Cd.attrV s.f9 p.key with
  | none =>
    have e : hitS p s = false := by unfold hitS; rw [hv]
    rw [e] at hb
    subst hb
    replace hv := Aside0.mk hv
    clear e
    go_enter Try.func69, Try.ntmps69
    go_wp2_with (refine wpList_load_at (by rfl) 70 _ rfl w.heap.size 0 rfl [.int .u64 s.f0, .int .u64 s.f1, .int .u64 s.f2, .string s.f3, .string s.f4, .int .i64 s.f5, .int .i64 s.f6, .int .u64 s.f7, .int .u64 s.f8, .slice A9 s.f9.length c9] _ (row_at0 (hT.out.row (by simp))) Try.underlying70 rfl (by kernel_rfl) ?_)
    go_wp2_with (go_at_call 70; refine (Cd.attr_w0 _ s.f0 s.f1 s.f2 s.f3 s.f4 s.f5 s.f6 s.f7 s.f8 A9 s.f9.length c9 s.f9 p.key hv.out (Kd.C_below hC.out hT.out.b) hl).mono ?_)
    rintro e w2 ⟨rfl, hb2⟩
    replace hT := Aside0.mk (hT.out.keep hb2)
    clear hb2
    go_wp2
    go_ret
    exact ⟨rfl, hT.out.b.alloc hT.out.b.size _⟩
  | some v =>
    have e : hitS p s = (v.f0 == p.vk && (v.f1 == p.vn && (v.f2.toList == p.vs.toList))) := by unfold hitS; rw [hv]
    rw [e] at hb
    subst hb
    replace hv := Aside0.mk hv
    clear e
    go_enter Try.func69, Try.ntmps69
    go_wp2_with (refine wpList_load_at (by rfl) 70 _ rfl w.heap.size 0 rfl [.int .u64 s.f0, .int .u64 s.f1, .int .u64 s.f2, .string s.f3, .string s.f4, .int .i64 s.f5, .int .i64 s.f6, .int .u64 s.f7, .int .u64 s.f8, .slice A9 s.f9.length c9] _ (row_at0 (hT.out.row (by simp))) Try.underlying70 rfl (by kernel_rfl) ?_)
    go_wp2_with (go_at_call 70; refine (Cd.attr_w1 _ s.f0 s.f1 s.f2 s.f3 s.f4 s.f5 s.f6 s.f7 s.f8 A9 s.f9.length c9 s.f9 p.key v hv.out (Kd.C_below hC.out hT.out.b) hl).mono ?_)
    rintro e w2 ⟨rfl, hb2⟩
    replace hT := Aside0.mk (hT.out.keep hb2)
    replace hG := Aside0.mk ((hG.out.only (below_only0 hb2) id).alloc (.cells #[.int .i64 v.f0, .int .i64 v.f1, .string v.f2] 50))
    clear hb2
    have hE := Aside0.mk (hT.out.b.alloc hT.out.b.size (.cells #[.int .i64 v.f0, .int .i64 v.f1, .string v.f2] 50))
    go_wp2_with (refine wpList_load_at (by rfl) 50 _ rfl g 2 rfl [.int .i64 p.vk, .int .i64 p.vn, .string p.vs] _ (row_mid hG.out 2 3) Try.underlying50 rfl (by kernel_rfl) ?_)
    go_ret
    exact ⟨by first | rfl | simp, hE.out⟩
end Go.Proofs.Ytgpkihnihmbomaa.Pt
