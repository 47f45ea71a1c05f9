/- Has a policy just what its Op has? policy.form, walked. No conditions but bounds. -/
import Derived.Test.YtgpkihnihmbomaaPo
import Derived.Test.YtgpkihnihmbomaaPg
import Derived.Test.YtgpkihnihmbomaaPl
import Derived.Test.YtgpkihnihmbomaaTk
namespace Go.Proofs.Ytgpkihnihmbomaa.Pt
open Go.RowKit Go.Proofs.YtgpkihnihmbomaaW.PrintWords Go.Proofs.YtgpkihnihmbomaaW.PrintLast
open Go.Proofs.Ytgpkihnihmbomaa.Ob Go.Proofs.Ytgpkihnihmbomaa.Two Go.Proofs.Ytgpkihnihmbomaa.Bx
set_option linter.unusedSimpArgs false
set_option linter.unusedVariables false
/-- A value that may be. -/
def vok (vk vn : Int) (vs : ByteArray) : Bool := if vk = 1 then decide (vs.toList = []) else if vk = 2 then decide (vs.toList = [] ∧ (vn = 0 ∨ vn = 1)) else if vk = 3 then decide (vn = 0 ∧ vs.size ≤ 4096) else false
/-- A key. -/
def keyok (s : ByteArray) : Bool := Tw.key s.data.toList
/-- Which Op it is. -/
def opc (o : List UInt8) : Nat := if o = [97, 108, 108] ∨ o = [110, 111, 110, 101] ∨ o = [101, 114, 114, 111, 114] then 0 else if o = [115, 108, 111, 119] then 3 else if o = [115, 104, 97, 114, 101] then 4 else if o = [97, 116, 116, 114] then 5 else if o = [110, 111, 116] then 6 else if o = [97, 110, 100] ∨ o = [111, 114] then 7 else 8
/-- Has it just what its Op has? -/
def ownC (p : Pol) (n : Nat) : Nat → Bool
  | 0 => decide ((p.key.toList = []) ∧ (p.vk = 0 ∧ p.vn = 0 ∧ p.vs.toList = []) ∧ (p.n = 0) ∧ (n = 0))
  | 3 => decide ((p.key.toList = []) ∧ (p.vk = 0 ∧ p.vn = 0 ∧ p.vs.toList = []) ∧ (n = 0))
  | 4 => decide ((p.n ≤ 1000) ∧ (p.key.toList = []) ∧ (p.vk = 0 ∧ p.vn = 0 ∧ p.vs.toList = []) ∧ (n = 0))
  | 5 => decide ((keyok p.key = true) ∧ (vok p.vk p.vn p.vs = true) ∧ (p.n = 0) ∧ (n = 0))
  | 6 => decide ((p.key.toList = []) ∧ (p.vk = 0 ∧ p.vn = 0 ∧ p.vs.toList = []) ∧ (p.n = 0) ∧ (n = 1))
  | 7 => decide ((p.key.toList = []) ∧ (p.vk = 0 ∧ p.vn = 0 ∧ p.vs.toList = []) ∧ (p.n = 0))
  | _ => false
/-- Is it right, with all its kids? -/
def fm : Nat → Pol → Bool
  | 0, _ => true
  | d + 1, p => ownC p p.kids.length (opc p.op.toList) && !anyk p.kids (fun q => !fm d q)
theorem fm_no {d : Nat} {p : Pol} {k : Nat} (h1 : opc p.op.toList = k) (h2 : ownC p p.kids.length k = false) : fm (d + 1) p = false := by unfold fm; rw [h1, h2]; rfl
theorem fm_yes {d : Nat} {p : Pol} {k : Nat} (h1 : opc p.op.toList = k) (h2 : ownC p p.kids.length k = true) : fm (d + 1) p = !anyk p.kids (fun q => !fm d q) :=
  (show fm (d + 1) p = (ownC p p.kids.length (opc p.op.toList) && !anyk p.kids (fun q => !fm d q)) from rfl).trans (by rw [h1, h2, Bool.true_and])
theorem own_at {p : Pol} {n k : Nat} {b : Bool} (hn : p.kids.length = n) (h : ownC p n k = b) : ownC p p.kids.length k = b := by rw [hn]; exact h
theorem key_w (s : ByteArray) (w : World) (b : Bool) (hs : s.size ≤ 200) (hb : keyok s = b) : Calls Try.prog 73 #[.string s] w fun e w' => e = .returned (.bool b) ∧ Below w.heap.size w w' := by
  subst hb; exact Tw.key_walk s w (by omega)
theorem rkey_w (s : ByteArray) (w : World) (b : Bool) (hs : s.size ≤ 200) (hb : keyok s = b) : Calls Try.prog 59 #[.string s] w fun e w' => e = .returned (.bool b) ∧ Below w.heap.size w w' := by
  subst hb; exact (XSq.tallyroomref03_Key.calls 300 s _ w (Tp.rkey s (by omega) 300 (by omega))).mono fun e w' h => ⟨h.1, h.2.below⟩
theorem vok_p (vk vn : Int) (vs : ByteArray) : XSq.value_Right.f vk vn vs = some (vok vk vn vs) := by
  unfold XSq.value_Right.f vok
  by_cases h1 : vk = 1
  · rw [if_pos h1, if_pos h1]; congr 1; by_cases h : vs.toList = [] <;> simp [h]
  · rw [if_neg h1, if_neg h1]
    by_cases h2 : vk = 2
    · rw [if_pos h2, if_pos h2]
      by_cases h : vs.toList = []
      · rw [if_pos h]
        by_cases h3 : vn = 0
        · rw [if_pos h3]; congr 1; exact (decide_eq_true ⟨h, .inl h3⟩).symm
        · rw [if_neg h3]; congr 1
          by_cases h4 : vn = 1
          · subst h4; exact (decide_eq_true ⟨h, .inr rfl⟩).symm
          · rw [decide_eq_false (by rintro ⟨_, h5 | h5⟩; exact h3 h5; exact h4 h5)]; exact beq_eq_false_iff_ne.2 h4
      · rw [if_neg h]; congr 1; exact (decide_eq_false (fun h5 => h h5.1)).symm
    · rw [if_neg h2, if_neg h2]
      by_cases h3 : vk = 3
      · rw [if_pos h3, if_pos h3]
        by_cases h4 : vn = 0
        · rw [if_pos h4]; congr 1; exact decide_eq_decide.2 ⟨fun h => ⟨h4, by omega⟩, fun h => by omega⟩
        · rw [if_neg h4]; congr 1; exact (decide_eq_false (fun h5 => h4 h5.1)).symm
      · rw [if_neg h3, if_neg h3]
theorem vok_r (vk vn : Int) (vs : ByteArray) : XSq.tallyroomref04_Right.f vk vn vs = some (vok vk vn vs) := by
  unfold XSq.tallyroomref04_Right.f vok
  by_cases h1 : vk = 1
  · subst h1
    by_cases h : vs.toList = []
    · simp [h]
    · simp [h]
  · by_cases h2 : vk = 2
    · subst h2
      by_cases h : vs.toList = []
      · by_cases h3 : vn = 0
        · simp [h, h3]
        · by_cases h4 : vn = 1
          · simp [h, h4]
          · simp [h, h3, h4]
      · simp [h]
    · by_cases h3 : vk = 3
      · subst h3
        by_cases h4 : vn = 0
        · simp [h4]; omega
        · simp [h4]
      · simp [h1, h2, h3]
theorem vok_w (vk vn : Int) (vs : ByteArray) (w : World) (b : Bool) (hb : vok vk vn vs = b) : Calls Try.prog 74 #[.agg #[.int .i64 vk, .int .i64 vn, .string vs]] w fun e w' => e = .returned (.bool b) ∧ Below w.heap.size w w' := by
  subst hb; exact XSq.value_Right.calls vk vn vs _ w (vok_p vk vn vs)
theorem rvok_w (vk vn : Int) (vs : ByteArray) (w : World) (b : Bool) (hb : vok vk vn vs = b) : Calls Try.prog 60 #[.agg #[.int .i64 vk, .int .i64 vn, .string vs]] w fun e w' => e = .returned (.bool b) ∧ Below w.heap.size w w' := by
  subst hb; exact XSq.tallyroomref04_Right.calls vk vn vs _ w (vok_r vk vn vs)
theorem row_mid {w : World} {b : Nat} {cs : List Value} (h : Row w b cs) (o m : Nat) : ∀ j v, ((cs.drop o).take m)[j]? = some v → w.cell? ⟨b, o + j, none⟩ = some v := by
  intro j v hv
  rw [List.getElem?_take] at hv
  split at hv
  · rw [List.getElem?_drop] at hv
    exact (h (o + j) v hv).1
  · cases hv
set_option maxHeartbeats 8000000 in
set_option maxRecDepth 1000000 in
theorem lit75_w (d : Nat) (q : Pol) (cs : List Value) (w : World) (b : Bool) (hK : (kp 53 d).K w q cs) (h58 : Aside0 (∀ W, (kp 53 d).K W q cs → Calls Try.prog 58 #[.agg cs.toArray] W fun e w' => e = .returned (.bool b) ∧ Below W.heap.size W w')) :
    Calls Try.prog 75 #[.agg cs.toArray] w fun e w' => e = .returned (.bool (!b)) ∧ Below w.heap.size w w' := by
  cases d with
  | zero => exact (kp_no hK).elim
  | succ d =>
    have hK0 := Aside0.mk hK
    obtain ⟨A6, c6, rfl, hc, hC⟩ := kp_open hK
    clear hK hC
    show Calls Try.prog 75 #[.agg #[.string q.op, .string q.key, .int .i64 q.vk, .int .i64 q.vn, .string q.vs, .int .u64 q.n, .slice A6 q.kids.length c6]] w _
    have hT := Aside0.mk ((Bx.start w).new [.string q.op, .string q.key, .int .i64 q.vk, .int .i64 q.vn, .string q.vs, .int .u64 q.n, .slice A6 q.kids.length c6] 53)
    have hKw := Aside0.mk ((kp 53 (d + 1)).K_below (below_alloc (Below.refl _ _) (.cells #[.string q.op, .string q.key, .int .i64 q.vk, .int .i64 q.vn, .string q.vs, .int .u64 q.n, .slice A6 q.kids.length c6] 53)) hK0.out)
    go_enter Try.func75, Try.ntmps75
    go_wp2_with (first
      | (refine wpList_load_at (by rfl) 53 _ rfl w.heap.size 0 rfl [.string q.op, .string q.key, .int .i64 q.vk, .int .i64 q.vn, .string q.vs, .int .u64 q.n, .slice A6 q.kids.length c6] _ (row_at0 (hT.out.row (by simp))) Try.underlying53 rfl (by kernel_rfl) ?_)
      | (go_at_call 58; refine (h58.out _ hKw.out).mono ?_; rintro e w1 ⟨rfl, hb1⟩; replace hT := Aside0.mk (hT.out.keep hb1); clear hb1))
    go_ret
    exact ⟨rfl, hT.out.b⟩
attribute [local go_sem high] Pl.eqA50
set_option maxHeartbeats 16000000 in
set_option maxRecDepth 1000000 in
theorem form_0 (d n c : Nat) (op key vs : ByteArray) (vk vn pn : Int) (kids : List Pol) (A : Option Addr) (w : World) (b : Bool) (hn : kids.length = n) (hkl : key.size ≤ 200) (hC : (kp 53 d).C w A n kids) (hF : Aside0 (∀ q cs W, q ∈ kids → (kp 53 d).K W q cs → Calls Try.prog 75 #[.agg cs.toArray] W fun e w' => e = .returned (.bool (!fm d q)) ∧ Below W.heap.size W w')) (hb : fm (d + 1) (⟨op, key, vk, vn, vs, pn, kids⟩ : Pol) = b) (hop0 : op.toList = [97, 108, 108]) :
    Calls Try.prog 58 #[.agg #[.string op, .string key, .int .i64 vk, .int .i64 vn, .string vs, .int .u64 pn, .slice A n c]] w fun e w' => e = .returned (.bool b) ∧ Below w.heap.size w w' := by
  replace hkl := Aside0.mk hkl
  have hT1 := (Bx.start w).new [.string op, .string key, .int .i64 vk, .int .i64 vn, .string vs, .int .u64 pn, .slice A n c] 53
  have e1 := size_alloc w (.cells #[.string op, .string key, .int .i64 vk, .int .i64 vn, .string vs, .int .u64 pn, .slice A n c] 53)
  have hT2 := hT1.new [.string ⟨#[]⟩, .string key, .int .i64 vk, .int .i64 vn, .string vs, .int .u64 pn, .slice none 0 0] 53
  rw [e1] at hT2
  have hT := Aside0.mk hT1
  replace hT2 := Aside0.mk hT2
  clear hT1 e1
  replace hC := Aside0.mk hC
  have hNo := Aside0.mk (fun k (h1 : opc op.toList = k) (h2 : ownC (⟨op, key, vk, vn, vs, pn, kids⟩ : Pol) n k = false) => fm_no (d := d) (p := (⟨op, key, vk, vn, vs, pn, kids⟩ : Pol)) h1 (own_at hn h2))
  have hYes := Aside0.mk (fun k (h1 : opc op.toList = k) (h2 : ownC (⟨op, key, vk, vn, vs, pn, kids⟩ : Pol) n k = true) => fm_yes (d := d) (p := (⟨op, key, vk, vn, vs, pn, kids⟩ : Pol)) h1 (own_at hn h2))
  replace hn := Aside0.mk hn
  replace hb := Aside0.mk hb
  obtain ⟨a, ha⟩ : ∃ a, anyk kids (fun q => !fm d q) = a := ⟨_, rfl⟩
  replace ha := Aside0.mk ha
  have hcode := Aside0.mk (show opc op.toList = 0 by rw [hop0]; decide)
  by_cases g0 : key.toList = []
  · by_cases g1 : vk = 0 ∧ vn = 0 ∧ vs.toList = []
    · obtain ⟨rfl, rfl, gv1⟩ := g1
      by_cases g2 : pn = 0
      · subst g2
        by_cases g3 : n = 0
        · subst g3
          have hown := hYes.out 0 hcode.out (decide_eq_true ⟨g0, ⟨rfl, rfl, gv1⟩, rfl, rfl⟩)
          have hb' := hb.out
          rw [hown, ha.out] at hb'
          subst hb'
          clear hown hcode hNo hYes
          go_enter Try.func58, Try.ntmps58
          go_wp2_with (go_at_call 71; refine (any75_w _ A 0 c d kids (fun q => !fm d q) a ha.out hn.out (Kd.C_below hC.out (hT.out.b.alloc hT.out.b.size _)) ⟨fun q cs W' hq _ hK => hF.out q cs W' hq hK⟩).mono ?_; rintro e w3 ⟨rfl, hb3⟩; replace hb3 := Aside0.mk ((hT.out.b.alloc hT.out.b.size _).trans (hb3.mono (hT.out.b.alloc hT.out.b.size _).size)))
          go_ret
          exact ⟨by first | rfl | simp, hb3.out⟩
        · have hown := hNo.out 0 hcode.out (decide_eq_false (by rintro ⟨g0_, g1_, g2_, g3_⟩; exact absurd g3_ g3))
          have hb' := hb.out
          rw [hown] at hb'
          subst hb'
          clear hown hF ha hcode hNo hYes
          go_enter Try.func58, Try.ntmps58
          go_wp2
          go_ret
          exact ⟨by first | rfl | simp, hT.out.b.alloc hT.out.b.size _⟩
      · have hown := hNo.out 0 hcode.out (decide_eq_false (by rintro ⟨g0_, g1_, g2_, g3_⟩; exact absurd g2_ g2))
        have hb' := hb.out
        rw [hown] at hb'
        subst hb'
        clear hown hF ha hcode hNo hYes
        go_enter Try.func58, Try.ntmps58
        go_wp2
        go_ret
        exact ⟨by first | rfl | simp, hT.out.b.alloc hT.out.b.size _⟩
    · have hown := hNo.out 0 hcode.out (decide_eq_false (by rintro ⟨g0_, g1_, g2_, g3_⟩; exact absurd g1_ g1))
      have hb' := hb.out
      rw [hown] at hb'
      subst hb'
      clear hown hF ha hcode hNo hYes
      go_enter Try.func58, Try.ntmps58
      go_wp2
      go_ret
      exact ⟨by first | rfl | simp, hT.out.b.alloc hT.out.b.size _⟩
  · have hown := hNo.out 0 hcode.out (decide_eq_false (by rintro ⟨g0_, g1_, g2_, g3_⟩; exact absurd g0_ g0))
    have hb' := hb.out
    rw [hown] at hb'
    subst hb'
    clear hown hF ha hcode hNo hYes
    go_enter Try.func58, Try.ntmps58
    go_wp2
    go_ret
    exact ⟨by first | rfl | simp, hT.out.b.alloc hT.out.b.size _⟩
set_option maxHeartbeats 16000000 in
set_option maxRecDepth 1000000 in
theorem form_1 (d n c : Nat) (op key vs : ByteArray) (vk vn pn : Int) (kids : List Pol) (A : Option Addr) (w : World) (b : Bool) (hn : kids.length = n) (hkl : key.size ≤ 200) (hC : (kp 53 d).C w A n kids) (hF : Aside0 (∀ q cs W, q ∈ kids → (kp 53 d).K W q cs → Calls Try.prog 75 #[.agg cs.toArray] W fun e w' => e = .returned (.bool (!fm d q)) ∧ Below W.heap.size W w')) (hb : fm (d + 1) (⟨op, key, vk, vn, vs, pn, kids⟩ : Pol) = b) (hop1 : op.toList = [110, 111, 110, 101]) :
    Calls Try.prog 58 #[.agg #[.string op, .string key, .int .i64 vk, .int .i64 vn, .string vs, .int .u64 pn, .slice A n c]] w fun e w' => e = .returned (.bool b) ∧ Below w.heap.size w w' := by
  replace hkl := Aside0.mk hkl
  have hT1 := (Bx.start w).new [.string op, .string key, .int .i64 vk, .int .i64 vn, .string vs, .int .u64 pn, .slice A n c] 53
  have e1 := size_alloc w (.cells #[.string op, .string key, .int .i64 vk, .int .i64 vn, .string vs, .int .u64 pn, .slice A n c] 53)
  have hT2 := hT1.new [.string ⟨#[]⟩, .string key, .int .i64 vk, .int .i64 vn, .string vs, .int .u64 pn, .slice none 0 0] 53
  rw [e1] at hT2
  have hT := Aside0.mk hT1
  replace hT2 := Aside0.mk hT2
  clear hT1 e1
  replace hC := Aside0.mk hC
  have hNo := Aside0.mk (fun k (h1 : opc op.toList = k) (h2 : ownC (⟨op, key, vk, vn, vs, pn, kids⟩ : Pol) n k = false) => fm_no (d := d) (p := (⟨op, key, vk, vn, vs, pn, kids⟩ : Pol)) h1 (own_at hn h2))
  have hYes := Aside0.mk (fun k (h1 : opc op.toList = k) (h2 : ownC (⟨op, key, vk, vn, vs, pn, kids⟩ : Pol) n k = true) => fm_yes (d := d) (p := (⟨op, key, vk, vn, vs, pn, kids⟩ : Pol)) h1 (own_at hn h2))
  replace hn := Aside0.mk hn
  replace hb := Aside0.mk hb
  obtain ⟨a, ha⟩ : ∃ a, anyk kids (fun q => !fm d q) = a := ⟨_, rfl⟩
  replace ha := Aside0.mk ha
  have hcode := Aside0.mk (show opc op.toList = 0 by rw [hop1]; decide)
  by_cases g0 : key.toList = []
  · by_cases g1 : vk = 0 ∧ vn = 0 ∧ vs.toList = []
    · obtain ⟨rfl, rfl, gv1⟩ := g1
      by_cases g2 : pn = 0
      · subst g2
        by_cases g3 : n = 0
        · subst g3
          have hown := hYes.out 0 hcode.out (decide_eq_true ⟨g0, ⟨rfl, rfl, gv1⟩, rfl, rfl⟩)
          have hb' := hb.out
          rw [hown, ha.out] at hb'
          subst hb'
          clear hown hcode hNo hYes
          go_enter Try.func58, Try.ntmps58
          go_wp2_with (go_at_call 71; refine (any75_w _ A 0 c d kids (fun q => !fm d q) a ha.out hn.out (Kd.C_below hC.out (hT.out.b.alloc hT.out.b.size _)) ⟨fun q cs W' hq _ hK => hF.out q cs W' hq hK⟩).mono ?_; rintro e w3 ⟨rfl, hb3⟩; replace hb3 := Aside0.mk ((hT.out.b.alloc hT.out.b.size _).trans (hb3.mono (hT.out.b.alloc hT.out.b.size _).size)))
          go_ret
          exact ⟨by first | rfl | simp, hb3.out⟩
        · have hown := hNo.out 0 hcode.out (decide_eq_false (by rintro ⟨g0_, g1_, g2_, g3_⟩; exact absurd g3_ g3))
          have hb' := hb.out
          rw [hown] at hb'
          subst hb'
          clear hown hF ha hcode hNo hYes
          go_enter Try.func58, Try.ntmps58
          go_wp2
          go_ret
          exact ⟨by first | rfl | simp, hT.out.b.alloc hT.out.b.size _⟩
      · have hown := hNo.out 0 hcode.out (decide_eq_false (by rintro ⟨g0_, g1_, g2_, g3_⟩; exact absurd g2_ g2))
        have hb' := hb.out
        rw [hown] at hb'
        subst hb'
        clear hown hF ha hcode hNo hYes
        go_enter Try.func58, Try.ntmps58
        go_wp2
        go_ret
        exact ⟨by first | rfl | simp, hT.out.b.alloc hT.out.b.size _⟩
    · have hown := hNo.out 0 hcode.out (decide_eq_false (by rintro ⟨g0_, g1_, g2_, g3_⟩; exact absurd g1_ g1))
      have hb' := hb.out
      rw [hown] at hb'
      subst hb'
      clear hown hF ha hcode hNo hYes
      go_enter Try.func58, Try.ntmps58
      go_wp2
      go_ret
      exact ⟨by first | rfl | simp, hT.out.b.alloc hT.out.b.size _⟩
  · have hown := hNo.out 0 hcode.out (decide_eq_false (by rintro ⟨g0_, g1_, g2_, g3_⟩; exact absurd g0_ g0))
    have hb' := hb.out
    rw [hown] at hb'
    subst hb'
    clear hown hF ha hcode hNo hYes
    go_enter Try.func58, Try.ntmps58
    go_wp2
    go_ret
    exact ⟨by first | rfl | simp, hT.out.b.alloc hT.out.b.size _⟩
set_option maxHeartbeats 16000000 in
set_option maxRecDepth 1000000 in
theorem form_2 (d n c : Nat) (op key vs : ByteArray) (vk vn pn : Int) (kids : List Pol) (A : Option Addr) (w : World) (b : Bool) (hn : kids.length = n) (hkl : key.size ≤ 200) (hC : (kp 53 d).C w A n kids) (hF : Aside0 (∀ q cs W, q ∈ kids → (kp 53 d).K W q cs → Calls Try.prog 75 #[.agg cs.toArray] W fun e w' => e = .returned (.bool (!fm d q)) ∧ Below W.heap.size W w')) (hb : fm (d + 1) (⟨op, key, vk, vn, vs, pn, kids⟩ : Pol) = b) (hop2 : op.toList = [101, 114, 114, 111, 114]) :
    Calls Try.prog 58 #[.agg #[.string op, .string key, .int .i64 vk, .int .i64 vn, .string vs, .int .u64 pn, .slice A n c]] w fun e w' => e = .returned (.bool b) ∧ Below w.heap.size w w' := by
  replace hkl := Aside0.mk hkl
  have hT1 := (Bx.start w).new [.string op, .string key, .int .i64 vk, .int .i64 vn, .string vs, .int .u64 pn, .slice A n c] 53
  have e1 := size_alloc w (.cells #[.string op, .string key, .int .i64 vk, .int .i64 vn, .string vs, .int .u64 pn, .slice A n c] 53)
  have hT2 := hT1.new [.string ⟨#[]⟩, .string key, .int .i64 vk, .int .i64 vn, .string vs, .int .u64 pn, .slice none 0 0] 53
  rw [e1] at hT2
  have hT := Aside0.mk hT1
  replace hT2 := Aside0.mk hT2
  clear hT1 e1
  replace hC := Aside0.mk hC
  have hNo := Aside0.mk (fun k (h1 : opc op.toList = k) (h2 : ownC (⟨op, key, vk, vn, vs, pn, kids⟩ : Pol) n k = false) => fm_no (d := d) (p := (⟨op, key, vk, vn, vs, pn, kids⟩ : Pol)) h1 (own_at hn h2))
  have hYes := Aside0.mk (fun k (h1 : opc op.toList = k) (h2 : ownC (⟨op, key, vk, vn, vs, pn, kids⟩ : Pol) n k = true) => fm_yes (d := d) (p := (⟨op, key, vk, vn, vs, pn, kids⟩ : Pol)) h1 (own_at hn h2))
  replace hn := Aside0.mk hn
  replace hb := Aside0.mk hb
  obtain ⟨a, ha⟩ : ∃ a, anyk kids (fun q => !fm d q) = a := ⟨_, rfl⟩
  replace ha := Aside0.mk ha
  have hcode := Aside0.mk (show opc op.toList = 0 by rw [hop2]; decide)
  by_cases g0 : key.toList = []
  · by_cases g1 : vk = 0 ∧ vn = 0 ∧ vs.toList = []
    · obtain ⟨rfl, rfl, gv1⟩ := g1
      by_cases g2 : pn = 0
      · subst g2
        by_cases g3 : n = 0
        · subst g3
          have hown := hYes.out 0 hcode.out (decide_eq_true ⟨g0, ⟨rfl, rfl, gv1⟩, rfl, rfl⟩)
          have hb' := hb.out
          rw [hown, ha.out] at hb'
          subst hb'
          clear hown hcode hNo hYes
          go_enter Try.func58, Try.ntmps58
          go_wp2_with (go_at_call 71; refine (any75_w _ A 0 c d kids (fun q => !fm d q) a ha.out hn.out (Kd.C_below hC.out (hT.out.b.alloc hT.out.b.size _)) ⟨fun q cs W' hq _ hK => hF.out q cs W' hq hK⟩).mono ?_; rintro e w3 ⟨rfl, hb3⟩; replace hb3 := Aside0.mk ((hT.out.b.alloc hT.out.b.size _).trans (hb3.mono (hT.out.b.alloc hT.out.b.size _).size)))
          go_ret
          exact ⟨by first | rfl | simp, hb3.out⟩
        · have hown := hNo.out 0 hcode.out (decide_eq_false (by rintro ⟨g0_, g1_, g2_, g3_⟩; exact absurd g3_ g3))
          have hb' := hb.out
          rw [hown] at hb'
          subst hb'
          clear hown hF ha hcode hNo hYes
          go_enter Try.func58, Try.ntmps58
          go_wp2
          go_ret
          exact ⟨by first | rfl | simp, hT.out.b.alloc hT.out.b.size _⟩
      · have hown := hNo.out 0 hcode.out (decide_eq_false (by rintro ⟨g0_, g1_, g2_, g3_⟩; exact absurd g2_ g2))
        have hb' := hb.out
        rw [hown] at hb'
        subst hb'
        clear hown hF ha hcode hNo hYes
        go_enter Try.func58, Try.ntmps58
        go_wp2
        go_ret
        exact ⟨by first | rfl | simp, hT.out.b.alloc hT.out.b.size _⟩
    · have hown := hNo.out 0 hcode.out (decide_eq_false (by rintro ⟨g0_, g1_, g2_, g3_⟩; exact absurd g1_ g1))
      have hb' := hb.out
      rw [hown] at hb'
      subst hb'
      clear hown hF ha hcode hNo hYes
      go_enter Try.func58, Try.ntmps58
      go_wp2
      go_ret
      exact ⟨by first | rfl | simp, hT.out.b.alloc hT.out.b.size _⟩
  · have hown := hNo.out 0 hcode.out (decide_eq_false (by rintro ⟨g0_, g1_, g2_, g3_⟩; exact absurd g0_ g0))
    have hb' := hb.out
    rw [hown] at hb'
    subst hb'
    clear hown hF ha hcode hNo hYes
    go_enter Try.func58, Try.ntmps58
    go_wp2
    go_ret
    exact ⟨by first | rfl | simp, hT.out.b.alloc hT.out.b.size _⟩
set_option maxHeartbeats 16000000 in
set_option maxRecDepth 1000000 in
theorem form_3 (d n c : Nat) (op key vs : ByteArray) (vk vn pn : Int) (kids : List Pol) (A : Option Addr) (w : World) (b : Bool) (hn : kids.length = n) (hkl : key.size ≤ 200) (hC : (kp 53 d).C w A n kids) (hF : Aside0 (∀ q cs W, q ∈ kids → (kp 53 d).K W q cs → Calls Try.prog 75 #[.agg cs.toArray] W fun e w' => e = .returned (.bool (!fm d q)) ∧ Below W.heap.size W w')) (hb : fm (d + 1) (⟨op, key, vk, vn, vs, pn, kids⟩ : Pol) = b) (hop3 : op.toList = [115, 108, 111, 119]) :
    Calls Try.prog 58 #[.agg #[.string op, .string key, .int .i64 vk, .int .i64 vn, .string vs, .int .u64 pn, .slice A n c]] w fun e w' => e = .returned (.bool b) ∧ Below w.heap.size w w' := by
  replace hkl := Aside0.mk hkl
  have hT1 := (Bx.start w).new [.string op, .string key, .int .i64 vk, .int .i64 vn, .string vs, .int .u64 pn, .slice A n c] 53
  have e1 := size_alloc w (.cells #[.string op, .string key, .int .i64 vk, .int .i64 vn, .string vs, .int .u64 pn, .slice A n c] 53)
  have hT2 := hT1.new [.string ⟨#[]⟩, .string key, .int .i64 vk, .int .i64 vn, .string vs, .int .u64 pn, .slice none 0 0] 53
  rw [e1] at hT2
  have hT := Aside0.mk hT1
  replace hT2 := Aside0.mk hT2
  clear hT1 e1
  replace hC := Aside0.mk hC
  have hNo := Aside0.mk (fun k (h1 : opc op.toList = k) (h2 : ownC (⟨op, key, vk, vn, vs, pn, kids⟩ : Pol) n k = false) => fm_no (d := d) (p := (⟨op, key, vk, vn, vs, pn, kids⟩ : Pol)) h1 (own_at hn h2))
  have hYes := Aside0.mk (fun k (h1 : opc op.toList = k) (h2 : ownC (⟨op, key, vk, vn, vs, pn, kids⟩ : Pol) n k = true) => fm_yes (d := d) (p := (⟨op, key, vk, vn, vs, pn, kids⟩ : Pol)) h1 (own_at hn h2))
  replace hn := Aside0.mk hn
  replace hb := Aside0.mk hb
  obtain ⟨a, ha⟩ : ∃ a, anyk kids (fun q => !fm d q) = a := ⟨_, rfl⟩
  replace ha := Aside0.mk ha
  have hcode := Aside0.mk (show opc op.toList = 3 by rw [hop3]; decide)
  by_cases g0 : key.toList = []
  · by_cases g1 : vk = 0 ∧ vn = 0 ∧ vs.toList = []
    · obtain ⟨rfl, rfl, gv1⟩ := g1
      by_cases g2 : n = 0
      · subst g2
        have hown := hYes.out 3 hcode.out (decide_eq_true ⟨g0, ⟨rfl, rfl, gv1⟩, rfl⟩)
        have hb' := hb.out
        rw [hown, ha.out] at hb'
        subst hb'
        clear hown hcode hNo hYes
        go_enter Try.func58, Try.ntmps58
        go_wp2_with (go_at_call 71; refine (any75_w _ A 0 c d kids (fun q => !fm d q) a ha.out hn.out (Kd.C_below hC.out (hT.out.b.alloc hT.out.b.size _)) ⟨fun q cs W' hq _ hK => hF.out q cs W' hq hK⟩).mono ?_; rintro e w3 ⟨rfl, hb3⟩; replace hb3 := Aside0.mk ((hT.out.b.alloc hT.out.b.size _).trans (hb3.mono (hT.out.b.alloc hT.out.b.size _).size)))
        go_ret
        exact ⟨by first | rfl | simp, hb3.out⟩
      · have hown := hNo.out 3 hcode.out (decide_eq_false (by rintro ⟨g0_, g1_, g2_⟩; exact absurd g2_ g2))
        have hb' := hb.out
        rw [hown] at hb'
        subst hb'
        clear hown hF ha hcode hNo hYes
        go_enter Try.func58, Try.ntmps58
        go_wp2
        go_ret
        exact ⟨by first | rfl | simp, hT.out.b.alloc hT.out.b.size _⟩
    · have hown := hNo.out 3 hcode.out (decide_eq_false (by rintro ⟨g0_, g1_, g2_⟩; exact absurd g1_ g1))
      have hb' := hb.out
      rw [hown] at hb'
      subst hb'
      clear hown hF ha hcode hNo hYes
      go_enter Try.func58, Try.ntmps58
      go_wp2
      go_ret
      exact ⟨by first | rfl | simp, hT.out.b.alloc hT.out.b.size _⟩
  · have hown := hNo.out 3 hcode.out (decide_eq_false (by rintro ⟨g0_, g1_, g2_⟩; exact absurd g0_ g0))
    have hb' := hb.out
    rw [hown] at hb'
    subst hb'
    clear hown hF ha hcode hNo hYes
    go_enter Try.func58, Try.ntmps58
    go_wp2
    go_ret
    exact ⟨by first | rfl | simp, hT.out.b.alloc hT.out.b.size _⟩
set_option maxHeartbeats 16000000 in
set_option maxRecDepth 1000000 in
theorem form_4 (d n c : Nat) (op key vs : ByteArray) (vk vn pn : Int) (kids : List Pol) (A : Option Addr) (w : World) (b : Bool) (hn : kids.length = n) (hkl : key.size ≤ 200) (hC : (kp 53 d).C w A n kids) (hF : Aside0 (∀ q cs W, q ∈ kids → (kp 53 d).K W q cs → Calls Try.prog 75 #[.agg cs.toArray] W fun e w' => e = .returned (.bool (!fm d q)) ∧ Below W.heap.size W w')) (hb : fm (d + 1) (⟨op, key, vk, vn, vs, pn, kids⟩ : Pol) = b) (hop4 : op.toList = [115, 104, 97, 114, 101]) :
    Calls Try.prog 58 #[.agg #[.string op, .string key, .int .i64 vk, .int .i64 vn, .string vs, .int .u64 pn, .slice A n c]] w fun e w' => e = .returned (.bool b) ∧ Below w.heap.size w w' := by
  replace hkl := Aside0.mk hkl
  have hT1 := (Bx.start w).new [.string op, .string key, .int .i64 vk, .int .i64 vn, .string vs, .int .u64 pn, .slice A n c] 53
  have e1 := size_alloc w (.cells #[.string op, .string key, .int .i64 vk, .int .i64 vn, .string vs, .int .u64 pn, .slice A n c] 53)
  have hT2 := hT1.new [.string ⟨#[]⟩, .string key, .int .i64 vk, .int .i64 vn, .string vs, .int .u64 pn, .slice none 0 0] 53
  rw [e1] at hT2
  have hT := Aside0.mk hT1
  replace hT2 := Aside0.mk hT2
  clear hT1 e1
  replace hC := Aside0.mk hC
  have hNo := Aside0.mk (fun k (h1 : opc op.toList = k) (h2 : ownC (⟨op, key, vk, vn, vs, pn, kids⟩ : Pol) n k = false) => fm_no (d := d) (p := (⟨op, key, vk, vn, vs, pn, kids⟩ : Pol)) h1 (own_at hn h2))
  have hYes := Aside0.mk (fun k (h1 : opc op.toList = k) (h2 : ownC (⟨op, key, vk, vn, vs, pn, kids⟩ : Pol) n k = true) => fm_yes (d := d) (p := (⟨op, key, vk, vn, vs, pn, kids⟩ : Pol)) h1 (own_at hn h2))
  replace hn := Aside0.mk hn
  replace hb := Aside0.mk hb
  obtain ⟨a, ha⟩ : ∃ a, anyk kids (fun q => !fm d q) = a := ⟨_, rfl⟩
  replace ha := Aside0.mk ha
  have hcode := Aside0.mk (show opc op.toList = 4 by rw [hop4]; decide)
  by_cases g0 : pn ≤ 1000
  · by_cases g1 : key.toList = []
    · by_cases g2 : vk = 0 ∧ vn = 0 ∧ vs.toList = []
      · obtain ⟨rfl, rfl, gv2⟩ := g2
        by_cases g3 : n = 0
        · subst g3
          have hown := hYes.out 4 hcode.out (decide_eq_true ⟨g0, g1, ⟨rfl, rfl, gv2⟩, rfl⟩)
          have hb' := hb.out
          rw [hown, ha.out] at hb'
          subst hb'
          clear hown hcode hNo hYes
          go_enter Try.func58, Try.ntmps58
          go_wp2_with (go_at_call 71; refine (any75_w _ A 0 c d kids (fun q => !fm d q) a ha.out hn.out (Kd.C_below hC.out (hT.out.b.alloc hT.out.b.size _)) ⟨fun q cs W' hq _ hK => hF.out q cs W' hq hK⟩).mono ?_; rintro e w3 ⟨rfl, hb3⟩; replace hb3 := Aside0.mk ((hT.out.b.alloc hT.out.b.size _).trans (hb3.mono (hT.out.b.alloc hT.out.b.size _).size)))
          go_ret
          exact ⟨by first | rfl | simp, hb3.out⟩
        · have hown := hNo.out 4 hcode.out (decide_eq_false (by rintro ⟨g0_, g1_, g2_, g3_⟩; exact absurd g3_ g3))
          have hb' := hb.out
          rw [hown] at hb'
          subst hb'
          clear hown hF ha hcode hNo hYes
          go_enter Try.func58, Try.ntmps58
          go_wp2
          go_ret
          exact ⟨by first | rfl | simp, hT.out.b.alloc hT.out.b.size _⟩
      · have hown := hNo.out 4 hcode.out (decide_eq_false (by rintro ⟨g0_, g1_, g2_, g3_⟩; exact absurd g2_ g2))
        have hb' := hb.out
        rw [hown] at hb'
        subst hb'
        clear hown hF ha hcode hNo hYes
        go_enter Try.func58, Try.ntmps58
        go_wp2
        go_ret
        exact ⟨by first | rfl | simp, hT.out.b.alloc hT.out.b.size _⟩
    · have hown := hNo.out 4 hcode.out (decide_eq_false (by rintro ⟨g0_, g1_, g2_, g3_⟩; exact absurd g1_ g1))
      have hb' := hb.out
      rw [hown] at hb'
      subst hb'
      clear hown hF ha hcode hNo hYes
      go_enter Try.func58, Try.ntmps58
      go_wp2
      go_ret
      exact ⟨by first | rfl | simp, hT.out.b.alloc hT.out.b.size _⟩
  · have hown := hNo.out 4 hcode.out (decide_eq_false (by rintro ⟨g0_, g1_, g2_, g3_⟩; exact absurd g0_ g0))
    have hb' := hb.out
    rw [hown] at hb'
    subst hb'
    clear hown hF ha hcode hNo hYes
    go_enter Try.func58, Try.ntmps58
    go_wp2
    go_ret
    exact ⟨by first | rfl | simp, hT.out.b.alloc hT.out.b.size _⟩
set_option maxHeartbeats 16000000 in
set_option maxRecDepth 1000000 in
theorem form_5 (d n c : Nat) (op key vs : ByteArray) (vk vn pn : Int) (kids : List Pol) (A : Option Addr) (w : World) (b : Bool) (hn : kids.length = n) (hkl : key.size ≤ 200) (hC : (kp 53 d).C w A n kids) (hF : Aside0 (∀ q cs W, q ∈ kids → (kp 53 d).K W q cs → Calls Try.prog 75 #[.agg cs.toArray] W fun e w' => e = .returned (.bool (!fm d q)) ∧ Below W.heap.size W w')) (hb : fm (d + 1) (⟨op, key, vk, vn, vs, pn, kids⟩ : Pol) = b) (hop5 : op.toList = [97, 116, 116, 114]) :
    Calls Try.prog 58 #[.agg #[.string op, .string key, .int .i64 vk, .int .i64 vn, .string vs, .int .u64 pn, .slice A n c]] w fun e w' => e = .returned (.bool b) ∧ Below w.heap.size w w' := by
  replace hkl := Aside0.mk hkl
  have hT1 := (Bx.start w).new [.string op, .string key, .int .i64 vk, .int .i64 vn, .string vs, .int .u64 pn, .slice A n c] 53
  have e1 := size_alloc w (.cells #[.string op, .string key, .int .i64 vk, .int .i64 vn, .string vs, .int .u64 pn, .slice A n c] 53)
  have hT2 := hT1.new [.string ⟨#[]⟩, .string key, .int .i64 vk, .int .i64 vn, .string vs, .int .u64 pn, .slice none 0 0] 53
  rw [e1] at hT2
  have hT := Aside0.mk hT1
  replace hT2 := Aside0.mk hT2
  clear hT1 e1
  replace hC := Aside0.mk hC
  have hNo := Aside0.mk (fun k (h1 : opc op.toList = k) (h2 : ownC (⟨op, key, vk, vn, vs, pn, kids⟩ : Pol) n k = false) => fm_no (d := d) (p := (⟨op, key, vk, vn, vs, pn, kids⟩ : Pol)) h1 (own_at hn h2))
  have hYes := Aside0.mk (fun k (h1 : opc op.toList = k) (h2 : ownC (⟨op, key, vk, vn, vs, pn, kids⟩ : Pol) n k = true) => fm_yes (d := d) (p := (⟨op, key, vk, vn, vs, pn, kids⟩ : Pol)) h1 (own_at hn h2))
  replace hn := Aside0.mk hn
  replace hb := Aside0.mk hb
  obtain ⟨a, ha⟩ : ∃ a, anyk kids (fun q => !fm d q) = a := ⟨_, rfl⟩
  replace ha := Aside0.mk ha
  have hcode := Aside0.mk (show opc op.toList = 5 by rw [hop5]; decide)
  cases g0 : keyok key with
  | false =>
    have hown := hNo.out 5 hcode.out (decide_eq_false (by rintro ⟨g0_, g1_, g2_, g3_⟩; rw [g0] at g0_; cases g0_))
    have hb' := hb.out
    rw [hown] at hb'
    subst hb'
    replace g0 := Aside0.mk g0
    clear hown hF ha hcode hNo hYes
    clear hT
    have hT := hT2
    go_enter Try.func58, Try.ntmps58
    go_wp2_with (go_at_call 73; refine (key_w key _ false hkl.out g0.out).mono ?_)
    rintro e w1 ⟨rfl, hb1⟩
    replace hT := Aside0.mk (hT.out.keep hb1)
    clear hb1
    go_wp2
    go_ret
    exact ⟨by first | rfl | simp, hT.out.b⟩
  | true =>
  replace g0 := Aside0.mk g0
  cases g1 : vok vk vn vs with
  | false =>
    have hown := hNo.out 5 hcode.out (decide_eq_false (by rintro ⟨g0_, g1_, g2_, g3_⟩; rw [g1] at g1_; cases g1_))
    have hb' := hb.out
    rw [hown] at hb'
    subst hb'
    replace g1 := Aside0.mk g1
    clear hown hF ha hcode hNo hYes
    clear hT
    have hT := hT2
    go_enter Try.func58, Try.ntmps58
    go_wp2_with (go_at_call 73; refine (key_w key _ true hkl.out g0.out).mono ?_)
    rintro e w1 ⟨rfl, hb1⟩
    replace hT := Aside0.mk (hT.out.keep hb1)
    clear hb1
    go_wp2_with (refine wpList_load_at (by rfl) 50 _ rfl w.heap.size 2 rfl [.int .i64 vk, .int .i64 vn, .string vs] _ (row_mid (hT.out.row (List.mem_cons_of_mem _ (List.mem_cons_self ..))) 2 3) Try.underlying50 rfl (by kernel_rfl) ?_)
    go_wp2_with (go_at_call 74; refine (vok_w vk vn vs _ false g1.out).mono ?_)
    rintro e w2 ⟨rfl, hb2⟩
    replace hT := Aside0.mk (hT.out.keep hb2)
    clear hb2
    go_wp2
    go_ret
    exact ⟨by first | rfl | simp, hT.out.b⟩
  | true =>
  replace g1 := Aside0.mk g1
  by_cases g2 : pn = 0
  · subst g2
    by_cases g3 : n = 0
    · subst g3
      have hown := hYes.out 5 hcode.out (decide_eq_true ⟨g0.out, g1.out, rfl, rfl⟩)
      have hb' := hb.out
      rw [hown, ha.out] at hb'
      subst hb'
      clear hown hcode hNo hYes
      clear hT
      have hT := hT2
      go_enter Try.func58, Try.ntmps58
      go_wp2_with (go_at_call 73; refine (key_w key _ true hkl.out g0.out).mono ?_)
      rintro e w1 ⟨rfl, hb1⟩
      replace hT := Aside0.mk (hT.out.keep hb1)
      clear hb1
      go_wp2_with (refine wpList_load_at (by rfl) 50 _ rfl w.heap.size 2 rfl [.int .i64 vk, .int .i64 vn, .string vs] _ (row_mid (hT.out.row (List.mem_cons_of_mem _ (List.mem_cons_self ..))) 2 3) Try.underlying50 rfl (by kernel_rfl) ?_)
      go_wp2_with (go_at_call 74; refine (vok_w vk vn vs _ true g1.out).mono ?_)
      rintro e w2 ⟨rfl, hb2⟩
      replace hT := Aside0.mk (hT.out.keep hb2)
      clear hb2
      obtain ⟨t0, u0⟩ := hT.out.row (List.mem_cons_self ..) 0 _ rfl
      obtain ⟨t1, u1⟩ := hT.out.row (List.mem_cons_self ..) 1 _ rfl
      obtain ⟨t2, u2⟩ := hT.out.row (List.mem_cons_self ..) 2 _ rfl
      obtain ⟨t3, u3⟩ := hT.out.row (List.mem_cons_self ..) 3 _ rfl
      obtain ⟨t4, u4⟩ := hT.out.row (List.mem_cons_self ..) 4 _ rfl
      obtain ⟨t5, u5⟩ := hT.out.row (List.mem_cons_self ..) 5 _ rfl
      obtain ⟨t6, u6⟩ := hT.out.row (List.mem_cons_self ..) 6 _ rfl
      obtain ⟨s6, _⟩ := hT.out.row (List.mem_cons_of_mem _ (List.mem_cons_self ..)) 6 _ rfl
      go_wp2_with (go_at_call 71; refine (any75_w _ A 0 c d kids (fun q => !fm d q) a ha.out hn.out (Kd.C_below hC.out ((((hT.out.b.setCell (p := ⟨w.heap.size + 1, 1, none⟩) (Nat.le_succ _) _).setCell (p := ⟨w.heap.size + 1, 2, none⟩) (Nat.le_succ _) _).setCell (p := ⟨w.heap.size + 1, 3, none⟩) (Nat.le_succ _) _).setCell (p := ⟨w.heap.size + 1, 4, none⟩) (Nat.le_succ _) _)) ⟨fun q cs W' hq _ hK => hF.out q cs W' hq hK⟩).mono ?_; rintro e w3 ⟨rfl, hb3⟩; replace hb3 := Aside0.mk (((((hT.out.b.setCell (p := ⟨w.heap.size + 1, 1, none⟩) (Nat.le_succ _) _).setCell (p := ⟨w.heap.size + 1, 2, none⟩) (Nat.le_succ _) _).setCell (p := ⟨w.heap.size + 1, 3, none⟩) (Nat.le_succ _) _).setCell (p := ⟨w.heap.size + 1, 4, none⟩) (Nat.le_succ _) _).trans (hb3.mono ((((hT.out.b.setCell (p := ⟨w.heap.size + 1, 1, none⟩) (Nat.le_succ _) _).setCell (p := ⟨w.heap.size + 1, 2, none⟩) (Nat.le_succ _) _).setCell (p := ⟨w.heap.size + 1, 3, none⟩) (Nat.le_succ _) _).setCell (p := ⟨w.heap.size + 1, 4, none⟩) (Nat.le_succ _) _).size)))
      go_ret
      exact ⟨by first | rfl | simp, hb3.out⟩
    · have hown := hNo.out 5 hcode.out (decide_eq_false (by rintro ⟨g0_, g1_, g2_, g3_⟩; exact absurd g3_ g3))
      have hb' := hb.out
      rw [hown] at hb'
      subst hb'
      clear hown hF ha hcode hNo hYes
      clear hT
      have hT := hT2
      go_enter Try.func58, Try.ntmps58
      go_wp2_with (go_at_call 73; refine (key_w key _ true hkl.out g0.out).mono ?_)
      rintro e w1 ⟨rfl, hb1⟩
      replace hT := Aside0.mk (hT.out.keep hb1)
      clear hb1
      go_wp2_with (refine wpList_load_at (by rfl) 50 _ rfl w.heap.size 2 rfl [.int .i64 vk, .int .i64 vn, .string vs] _ (row_mid (hT.out.row (List.mem_cons_of_mem _ (List.mem_cons_self ..))) 2 3) Try.underlying50 rfl (by kernel_rfl) ?_)
      go_wp2_with (go_at_call 74; refine (vok_w vk vn vs _ true g1.out).mono ?_)
      rintro e w2 ⟨rfl, hb2⟩
      replace hT := Aside0.mk (hT.out.keep hb2)
      clear hb2
      obtain ⟨t0, u0⟩ := hT.out.row (List.mem_cons_self ..) 0 _ rfl
      obtain ⟨t1, u1⟩ := hT.out.row (List.mem_cons_self ..) 1 _ rfl
      obtain ⟨t2, u2⟩ := hT.out.row (List.mem_cons_self ..) 2 _ rfl
      obtain ⟨t3, u3⟩ := hT.out.row (List.mem_cons_self ..) 3 _ rfl
      obtain ⟨t4, u4⟩ := hT.out.row (List.mem_cons_self ..) 4 _ rfl
      obtain ⟨t5, u5⟩ := hT.out.row (List.mem_cons_self ..) 5 _ rfl
      obtain ⟨t6, u6⟩ := hT.out.row (List.mem_cons_self ..) 6 _ rfl
      obtain ⟨s6, _⟩ := hT.out.row (List.mem_cons_of_mem _ (List.mem_cons_self ..)) 6 _ rfl
      go_wp2
      go_ret
      exact ⟨by first | rfl | simp, ((((hT.out.b.setCell (p := ⟨w.heap.size + 1, 1, none⟩) (Nat.le_succ _) _).setCell (p := ⟨w.heap.size + 1, 2, none⟩) (Nat.le_succ _) _).setCell (p := ⟨w.heap.size + 1, 3, none⟩) (Nat.le_succ _) _).setCell (p := ⟨w.heap.size + 1, 4, none⟩) (Nat.le_succ _) _)⟩
  · have hown := hNo.out 5 hcode.out (decide_eq_false (by rintro ⟨g0_, g1_, g2_, g3_⟩; exact absurd g2_ g2))
    have hb' := hb.out
    rw [hown] at hb'
    subst hb'
    clear hown hF ha hcode hNo hYes
    clear hT
    have hT := hT2
    go_enter Try.func58, Try.ntmps58
    go_wp2_with (go_at_call 73; refine (key_w key _ true hkl.out g0.out).mono ?_)
    rintro e w1 ⟨rfl, hb1⟩
    replace hT := Aside0.mk (hT.out.keep hb1)
    clear hb1
    go_wp2_with (refine wpList_load_at (by rfl) 50 _ rfl w.heap.size 2 rfl [.int .i64 vk, .int .i64 vn, .string vs] _ (row_mid (hT.out.row (List.mem_cons_of_mem _ (List.mem_cons_self ..))) 2 3) Try.underlying50 rfl (by kernel_rfl) ?_)
    go_wp2_with (go_at_call 74; refine (vok_w vk vn vs _ true g1.out).mono ?_)
    rintro e w2 ⟨rfl, hb2⟩
    replace hT := Aside0.mk (hT.out.keep hb2)
    clear hb2
    obtain ⟨t0, u0⟩ := hT.out.row (List.mem_cons_self ..) 0 _ rfl
    obtain ⟨t1, u1⟩ := hT.out.row (List.mem_cons_self ..) 1 _ rfl
    obtain ⟨t2, u2⟩ := hT.out.row (List.mem_cons_self ..) 2 _ rfl
    obtain ⟨t3, u3⟩ := hT.out.row (List.mem_cons_self ..) 3 _ rfl
    obtain ⟨t4, u4⟩ := hT.out.row (List.mem_cons_self ..) 4 _ rfl
    obtain ⟨t5, u5⟩ := hT.out.row (List.mem_cons_self ..) 5 _ rfl
    obtain ⟨t6, u6⟩ := hT.out.row (List.mem_cons_self ..) 6 _ rfl
    obtain ⟨s6, _⟩ := hT.out.row (List.mem_cons_of_mem _ (List.mem_cons_self ..)) 6 _ rfl
    go_wp2
    go_ret
    exact ⟨by first | rfl | simp, ((((hT.out.b.setCell (p := ⟨w.heap.size + 1, 1, none⟩) (Nat.le_succ _) _).setCell (p := ⟨w.heap.size + 1, 2, none⟩) (Nat.le_succ _) _).setCell (p := ⟨w.heap.size + 1, 3, none⟩) (Nat.le_succ _) _).setCell (p := ⟨w.heap.size + 1, 4, none⟩) (Nat.le_succ _) _)⟩
set_option maxHeartbeats 16000000 in
set_option maxRecDepth 1000000 in
theorem form_6 (d n c : Nat) (op key vs : ByteArray) (vk vn pn : Int) (kids : List Pol) (A : Option Addr) (w : World) (b : Bool) (hn : kids.length = n) (hkl : key.size ≤ 200) (hC : (kp 53 d).C w A n kids) (hF : Aside0 (∀ q cs W, q ∈ kids → (kp 53 d).K W q cs → Calls Try.prog 75 #[.agg cs.toArray] W fun e w' => e = .returned (.bool (!fm d q)) ∧ Below W.heap.size W w')) (hb : fm (d + 1) (⟨op, key, vk, vn, vs, pn, kids⟩ : Pol) = b) (hop6 : op.toList = [110, 111, 116]) :
    Calls Try.prog 58 #[.agg #[.string op, .string key, .int .i64 vk, .int .i64 vn, .string vs, .int .u64 pn, .slice A n c]] w fun e w' => e = .returned (.bool b) ∧ Below w.heap.size w w' := by
  replace hkl := Aside0.mk hkl
  have hT1 := (Bx.start w).new [.string op, .string key, .int .i64 vk, .int .i64 vn, .string vs, .int .u64 pn, .slice A n c] 53
  have e1 := size_alloc w (.cells #[.string op, .string key, .int .i64 vk, .int .i64 vn, .string vs, .int .u64 pn, .slice A n c] 53)
  have hT2 := hT1.new [.string ⟨#[]⟩, .string key, .int .i64 vk, .int .i64 vn, .string vs, .int .u64 pn, .slice none 0 0] 53
  rw [e1] at hT2
  have hT := Aside0.mk hT1
  replace hT2 := Aside0.mk hT2
  clear hT1 e1
  replace hC := Aside0.mk hC
  have hNo := Aside0.mk (fun k (h1 : opc op.toList = k) (h2 : ownC (⟨op, key, vk, vn, vs, pn, kids⟩ : Pol) n k = false) => fm_no (d := d) (p := (⟨op, key, vk, vn, vs, pn, kids⟩ : Pol)) h1 (own_at hn h2))
  have hYes := Aside0.mk (fun k (h1 : opc op.toList = k) (h2 : ownC (⟨op, key, vk, vn, vs, pn, kids⟩ : Pol) n k = true) => fm_yes (d := d) (p := (⟨op, key, vk, vn, vs, pn, kids⟩ : Pol)) h1 (own_at hn h2))
  replace hn := Aside0.mk hn
  replace hb := Aside0.mk hb
  obtain ⟨a, ha⟩ : ∃ a, anyk kids (fun q => !fm d q) = a := ⟨_, rfl⟩
  replace ha := Aside0.mk ha
  have hcode := Aside0.mk (show opc op.toList = 6 by rw [hop6]; decide)
  by_cases g0 : key.toList = []
  · by_cases g1 : vk = 0 ∧ vn = 0 ∧ vs.toList = []
    · obtain ⟨rfl, rfl, gv1⟩ := g1
      by_cases g2 : pn = 0
      · subst g2
        by_cases g3 : n = 1
        · subst g3
          have hown := hYes.out 6 hcode.out (decide_eq_true ⟨g0, ⟨rfl, rfl, gv1⟩, rfl, rfl⟩)
          have hb' := hb.out
          rw [hown, ha.out] at hb'
          subst hb'
          clear hown hcode hNo hYes
          go_enter Try.func58, Try.ntmps58
          go_wp2_with (go_at_call 71; refine (any75_w _ A 1 c d kids (fun q => !fm d q) a ha.out hn.out (Kd.C_below hC.out (hT.out.b.alloc hT.out.b.size _)) ⟨fun q cs W' hq _ hK => hF.out q cs W' hq hK⟩).mono ?_; rintro e w3 ⟨rfl, hb3⟩; replace hb3 := Aside0.mk ((hT.out.b.alloc hT.out.b.size _).trans (hb3.mono (hT.out.b.alloc hT.out.b.size _).size)))
          go_ret
          exact ⟨by first | rfl | simp, hb3.out⟩
        · have hown := hNo.out 6 hcode.out (decide_eq_false (by rintro ⟨g0_, g1_, g2_, g3_⟩; exact absurd g3_ g3))
          have hb' := hb.out
          rw [hown] at hb'
          subst hb'
          clear hown hF ha hcode hNo hYes
          go_enter Try.func58, Try.ntmps58
          go_wp2
          go_ret
          exact ⟨by first | rfl | simp, hT.out.b.alloc hT.out.b.size _⟩
      · have hown := hNo.out 6 hcode.out (decide_eq_false (by rintro ⟨g0_, g1_, g2_, g3_⟩; exact absurd g2_ g2))
        have hb' := hb.out
        rw [hown] at hb'
        subst hb'
        clear hown hF ha hcode hNo hYes
        go_enter Try.func58, Try.ntmps58
        go_wp2
        go_ret
        exact ⟨by first | rfl | simp, hT.out.b.alloc hT.out.b.size _⟩
    · have hown := hNo.out 6 hcode.out (decide_eq_false (by rintro ⟨g0_, g1_, g2_, g3_⟩; exact absurd g1_ g1))
      have hb' := hb.out
      rw [hown] at hb'
      subst hb'
      clear hown hF ha hcode hNo hYes
      go_enter Try.func58, Try.ntmps58
      go_wp2
      go_ret
      exact ⟨by first | rfl | simp, hT.out.b.alloc hT.out.b.size _⟩
  · have hown := hNo.out 6 hcode.out (decide_eq_false (by rintro ⟨g0_, g1_, g2_, g3_⟩; exact absurd g0_ g0))
    have hb' := hb.out
    rw [hown] at hb'
    subst hb'
    clear hown hF ha hcode hNo hYes
    go_enter Try.func58, Try.ntmps58
    go_wp2
    go_ret
    exact ⟨by first | rfl | simp, hT.out.b.alloc hT.out.b.size _⟩
set_option maxHeartbeats 16000000 in
set_option maxRecDepth 1000000 in
theorem form_7 (d n c : Nat) (op key vs : ByteArray) (vk vn pn : Int) (kids : List Pol) (A : Option Addr) (w : World) (b : Bool) (hn : kids.length = n) (hkl : key.size ≤ 200) (hC : (kp 53 d).C w A n kids) (hF : Aside0 (∀ q cs W, q ∈ kids → (kp 53 d).K W q cs → Calls Try.prog 75 #[.agg cs.toArray] W fun e w' => e = .returned (.bool (!fm d q)) ∧ Below W.heap.size W w')) (hb : fm (d + 1) (⟨op, key, vk, vn, vs, pn, kids⟩ : Pol) = b) (hop7 : op.toList = [97, 110, 100]) :
    Calls Try.prog 58 #[.agg #[.string op, .string key, .int .i64 vk, .int .i64 vn, .string vs, .int .u64 pn, .slice A n c]] w fun e w' => e = .returned (.bool b) ∧ Below w.heap.size w w' := by
  replace hkl := Aside0.mk hkl
  have hT1 := (Bx.start w).new [.string op, .string key, .int .i64 vk, .int .i64 vn, .string vs, .int .u64 pn, .slice A n c] 53
  have e1 := size_alloc w (.cells #[.string op, .string key, .int .i64 vk, .int .i64 vn, .string vs, .int .u64 pn, .slice A n c] 53)
  have hT2 := hT1.new [.string ⟨#[]⟩, .string key, .int .i64 vk, .int .i64 vn, .string vs, .int .u64 pn, .slice none 0 0] 53
  rw [e1] at hT2
  have hT := Aside0.mk hT1
  replace hT2 := Aside0.mk hT2
  clear hT1 e1
  replace hC := Aside0.mk hC
  have hNo := Aside0.mk (fun k (h1 : opc op.toList = k) (h2 : ownC (⟨op, key, vk, vn, vs, pn, kids⟩ : Pol) n k = false) => fm_no (d := d) (p := (⟨op, key, vk, vn, vs, pn, kids⟩ : Pol)) h1 (own_at hn h2))
  have hYes := Aside0.mk (fun k (h1 : opc op.toList = k) (h2 : ownC (⟨op, key, vk, vn, vs, pn, kids⟩ : Pol) n k = true) => fm_yes (d := d) (p := (⟨op, key, vk, vn, vs, pn, kids⟩ : Pol)) h1 (own_at hn h2))
  replace hn := Aside0.mk hn
  replace hb := Aside0.mk hb
  obtain ⟨a, ha⟩ : ∃ a, anyk kids (fun q => !fm d q) = a := ⟨_, rfl⟩
  replace ha := Aside0.mk ha
  have hcode := Aside0.mk (show opc op.toList = 7 by rw [hop7]; decide)
  have hnn : ((n : Int) == (n : Int)) = true := by simp
  by_cases g0 : key.toList = []
  · by_cases g1 : vk = 0 ∧ vn = 0 ∧ vs.toList = []
    · obtain ⟨rfl, rfl, gv1⟩ := g1
      by_cases g2 : pn = 0
      · subst g2
        have hown := hYes.out 7 hcode.out (decide_eq_true ⟨g0, ⟨rfl, rfl, gv1⟩, rfl⟩)
        have hb' := hb.out
        rw [hown, ha.out] at hb'
        subst hb'
        clear hown hcode hNo hYes
        go_enter Try.func58, Try.ntmps58
        go_wp2_with (go_at_call 71; refine (any75_w _ A n c d kids (fun q => !fm d q) a ha.out hn.out (Kd.C_below hC.out (hT.out.b.alloc hT.out.b.size _)) ⟨fun q cs W' hq _ hK => hF.out q cs W' hq hK⟩).mono ?_; rintro e w3 ⟨rfl, hb3⟩; replace hb3 := Aside0.mk ((hT.out.b.alloc hT.out.b.size _).trans (hb3.mono (hT.out.b.alloc hT.out.b.size _).size)))
        go_ret
        exact ⟨by first | rfl | simp, hb3.out⟩
      · have hown := hNo.out 7 hcode.out (decide_eq_false (by rintro ⟨g0_, g1_, g2_⟩; exact absurd g2_ g2))
        have hb' := hb.out
        rw [hown] at hb'
        subst hb'
        clear hown hF ha hcode hNo hYes
        go_enter Try.func58, Try.ntmps58
        go_wp2
        go_ret
        exact ⟨by first | rfl | simp, hT.out.b.alloc hT.out.b.size _⟩
    · have hown := hNo.out 7 hcode.out (decide_eq_false (by rintro ⟨g0_, g1_, g2_⟩; exact absurd g1_ g1))
      have hb' := hb.out
      rw [hown] at hb'
      subst hb'
      clear hown hF ha hcode hNo hYes
      go_enter Try.func58, Try.ntmps58
      go_wp2
      go_ret
      exact ⟨by first | rfl | simp, hT.out.b.alloc hT.out.b.size _⟩
  · have hown := hNo.out 7 hcode.out (decide_eq_false (by rintro ⟨g0_, g1_, g2_⟩; exact absurd g0_ g0))
    have hb' := hb.out
    rw [hown] at hb'
    subst hb'
    clear hown hF ha hcode hNo hYes
    go_enter Try.func58, Try.ntmps58
    go_wp2
    go_ret
    exact ⟨by first | rfl | simp, hT.out.b.alloc hT.out.b.size _⟩
set_option maxHeartbeats 16000000 in
set_option maxRecDepth 1000000 in
theorem form_8 (d n c : Nat) (op key vs : ByteArray) (vk vn pn : Int) (kids : List Pol) (A : Option Addr) (w : World) (b : Bool) (hn : kids.length = n) (hkl : key.size ≤ 200) (hC : (kp 53 d).C w A n kids) (hF : Aside0 (∀ q cs W, q ∈ kids → (kp 53 d).K W q cs → Calls Try.prog 75 #[.agg cs.toArray] W fun e w' => e = .returned (.bool (!fm d q)) ∧ Below W.heap.size W w')) (hb : fm (d + 1) (⟨op, key, vk, vn, vs, pn, kids⟩ : Pol) = b) (hop8 : op.toList = [111, 114]) :
    Calls Try.prog 58 #[.agg #[.string op, .string key, .int .i64 vk, .int .i64 vn, .string vs, .int .u64 pn, .slice A n c]] w fun e w' => e = .returned (.bool b) ∧ Below w.heap.size w w' := by
  replace hkl := Aside0.mk hkl
  have hT1 := (Bx.start w).new [.string op, .string key, .int .i64 vk, .int .i64 vn, .string vs, .int .u64 pn, .slice A n c] 53
  have e1 := size_alloc w (.cells #[.string op, .string key, .int .i64 vk, .int .i64 vn, .string vs, .int .u64 pn, .slice A n c] 53)
  have hT2 := hT1.new [.string ⟨#[]⟩, .string key, .int .i64 vk, .int .i64 vn, .string vs, .int .u64 pn, .slice none 0 0] 53
  rw [e1] at hT2
  have hT := Aside0.mk hT1
  replace hT2 := Aside0.mk hT2
  clear hT1 e1
  replace hC := Aside0.mk hC
  have hNo := Aside0.mk (fun k (h1 : opc op.toList = k) (h2 : ownC (⟨op, key, vk, vn, vs, pn, kids⟩ : Pol) n k = false) => fm_no (d := d) (p := (⟨op, key, vk, vn, vs, pn, kids⟩ : Pol)) h1 (own_at hn h2))
  have hYes := Aside0.mk (fun k (h1 : opc op.toList = k) (h2 : ownC (⟨op, key, vk, vn, vs, pn, kids⟩ : Pol) n k = true) => fm_yes (d := d) (p := (⟨op, key, vk, vn, vs, pn, kids⟩ : Pol)) h1 (own_at hn h2))
  replace hn := Aside0.mk hn
  replace hb := Aside0.mk hb
  obtain ⟨a, ha⟩ : ∃ a, anyk kids (fun q => !fm d q) = a := ⟨_, rfl⟩
  replace ha := Aside0.mk ha
  have hcode := Aside0.mk (show opc op.toList = 7 by rw [hop8]; decide)
  have hnn : ((n : Int) == (n : Int)) = true := by simp
  by_cases g0 : key.toList = []
  · by_cases g1 : vk = 0 ∧ vn = 0 ∧ vs.toList = []
    · obtain ⟨rfl, rfl, gv1⟩ := g1
      by_cases g2 : pn = 0
      · subst g2
        have hown := hYes.out 7 hcode.out (decide_eq_true ⟨g0, ⟨rfl, rfl, gv1⟩, rfl⟩)
        have hb' := hb.out
        rw [hown, ha.out] at hb'
        subst hb'
        clear hown hcode hNo hYes
        go_enter Try.func58, Try.ntmps58
        go_wp2_with (go_at_call 71; refine (any75_w _ A n c d kids (fun q => !fm d q) a ha.out hn.out (Kd.C_below hC.out (hT.out.b.alloc hT.out.b.size _)) ⟨fun q cs W' hq _ hK => hF.out q cs W' hq hK⟩).mono ?_; rintro e w3 ⟨rfl, hb3⟩; replace hb3 := Aside0.mk ((hT.out.b.alloc hT.out.b.size _).trans (hb3.mono (hT.out.b.alloc hT.out.b.size _).size)))
        go_ret
        exact ⟨by first | rfl | simp, hb3.out⟩
      · have hown := hNo.out 7 hcode.out (decide_eq_false (by rintro ⟨g0_, g1_, g2_⟩; exact absurd g2_ g2))
        have hb' := hb.out
        rw [hown] at hb'
        subst hb'
        clear hown hF ha hcode hNo hYes
        go_enter Try.func58, Try.ntmps58
        go_wp2
        go_ret
        exact ⟨by first | rfl | simp, hT.out.b.alloc hT.out.b.size _⟩
    · have hown := hNo.out 7 hcode.out (decide_eq_false (by rintro ⟨g0_, g1_, g2_⟩; exact absurd g1_ g1))
      have hb' := hb.out
      rw [hown] at hb'
      subst hb'
      clear hown hF ha hcode hNo hYes
      go_enter Try.func58, Try.ntmps58
      go_wp2
      go_ret
      exact ⟨by first | rfl | simp, hT.out.b.alloc hT.out.b.size _⟩
  · have hown := hNo.out 7 hcode.out (decide_eq_false (by rintro ⟨g0_, g1_, g2_⟩; exact absurd g0_ g0))
    have hb' := hb.out
    rw [hown] at hb'
    subst hb'
    clear hown hF ha hcode hNo hYes
    go_enter Try.func58, Try.ntmps58
    go_wp2
    go_ret
    exact ⟨by first | rfl | simp, hT.out.b.alloc hT.out.b.size _⟩
set_option maxHeartbeats 16000000 in
set_option maxRecDepth 1000000 in
theorem form_9 (d n c : Nat) (op key vs : ByteArray) (vk vn pn : Int) (kids : List Pol) (A : Option Addr) (w : World) (b : Bool) (hn : kids.length = n) (hkl : key.size ≤ 200) (hC : (kp 53 d).C w A n kids) (hF : Aside0 (∀ q cs W, q ∈ kids → (kp 53 d).K W q cs → Calls Try.prog 75 #[.agg cs.toArray] W fun e w' => e = .returned (.bool (!fm d q)) ∧ Below W.heap.size W w')) (hb : fm (d + 1) (⟨op, key, vk, vn, vs, pn, kids⟩ : Pol) = b) (hop0 : ¬ op.toList = [97, 108, 108]) (hop1 : ¬ op.toList = [110, 111, 110, 101]) (hop2 : ¬ op.toList = [101, 114, 114, 111, 114]) (hop3 : ¬ op.toList = [115, 108, 111, 119]) (hop4 : ¬ op.toList = [115, 104, 97, 114, 101]) (hop5 : ¬ op.toList = [97, 116, 116, 114]) (hop6 : ¬ op.toList = [110, 111, 116]) (hop7 : ¬ op.toList = [97, 110, 100]) (hop8 : ¬ op.toList = [111, 114]) :
    Calls Try.prog 58 #[.agg #[.string op, .string key, .int .i64 vk, .int .i64 vn, .string vs, .int .u64 pn, .slice A n c]] w fun e w' => e = .returned (.bool b) ∧ Below w.heap.size w w' := by
  replace hkl := Aside0.mk hkl
  have hT1 := (Bx.start w).new [.string op, .string key, .int .i64 vk, .int .i64 vn, .string vs, .int .u64 pn, .slice A n c] 53
  have e1 := size_alloc w (.cells #[.string op, .string key, .int .i64 vk, .int .i64 vn, .string vs, .int .u64 pn, .slice A n c] 53)
  have hT2 := hT1.new [.string ⟨#[]⟩, .string key, .int .i64 vk, .int .i64 vn, .string vs, .int .u64 pn, .slice none 0 0] 53
  rw [e1] at hT2
  have hT := Aside0.mk hT1
  replace hT2 := Aside0.mk hT2
  clear hT1 e1
  replace hC := Aside0.mk hC
  have hNo := Aside0.mk (fun k (h1 : opc op.toList = k) (h2 : ownC (⟨op, key, vk, vn, vs, pn, kids⟩ : Pol) n k = false) => fm_no (d := d) (p := (⟨op, key, vk, vn, vs, pn, kids⟩ : Pol)) h1 (own_at hn h2))
  have hYes := Aside0.mk (fun k (h1 : opc op.toList = k) (h2 : ownC (⟨op, key, vk, vn, vs, pn, kids⟩ : Pol) n k = true) => fm_yes (d := d) (p := (⟨op, key, vk, vn, vs, pn, kids⟩ : Pol)) h1 (own_at hn h2))
  replace hn := Aside0.mk hn
  replace hb := Aside0.mk hb
  obtain ⟨a, ha⟩ : ∃ a, anyk kids (fun q => !fm d q) = a := ⟨_, rfl⟩
  replace ha := Aside0.mk ha
  have hq0 : (op.toList == [97, 108, 108]) = false := by simpa using hop0
  have hq1 : (op.toList == [110, 111, 110, 101]) = false := by simpa using hop1
  have hq2 : (op.toList == [101, 114, 114, 111, 114]) = false := by simpa using hop2
  have hq3 : (op.toList == [115, 108, 111, 119]) = false := by simpa using hop3
  have hq4 : (op.toList == [115, 104, 97, 114, 101]) = false := by simpa using hop4
  have hq5 : (op.toList == [97, 116, 116, 114]) = false := by simpa using hop5
  have hq6 : (op.toList == [110, 111, 116]) = false := by simpa using hop6
  have hq7 : (op.toList == [97, 110, 100]) = false := by simpa using hop7
  have hq8 : (op.toList == [111, 114]) = false := by simpa using hop8
  have hcode := Aside0.mk (show opc op.toList = 8 by unfold opc; simp [hop0, hop1, hop2, hop3, hop4, hop5, hop6, hop7, hop8])
  have hown := hNo.out 8 hcode.out rfl
  have hb' := hb.out
  rw [hown] at hb'
  subst hb'
  clear hown hF ha hcode hNo hYes hop0 hop1 hop2 hop3 hop4 hop5 hop6 hop7 hop8
  go_enter Try.func58, Try.ntmps58
  go_wp2
  go_ret
  exact ⟨by first | rfl | simp, hT.out.b.alloc hT.out.b.size _⟩
theorem form_w : ∀ (d : Nat) (p : Pol) (cs : List Value) (w : World) (b : Bool), keys d p → (kp 53 d).K w p cs → fm d p = b →
    Calls Try.prog 58 #[.agg cs.toArray] w fun e w' => e = .returned (.bool b) ∧ Below w.heap.size w w' := by
  intro d
  induction d with
  | zero => intro p cs w b _ hK; exact (kp_no hK).elim
  | succ d ih =>
    intro p cs w b hky hK hb
    obtain ⟨A, c, rfl, hc, hC⟩ := kp_open hK
    have hF := Aside0.mk (fun q cs W (hq : q ∈ p.kids) (hK : (kp 53 d).K W q cs) => lit75_w d q cs W (fm d q) hK ⟨fun W' hK' => ih q cs W' _ (hky.2.2 q hq) hK' rfl⟩)
    by_cases h0 : p.op.toList = [97, 108, 108]
    · exact form_0 d _ c p.op p.key p.vs p.vk p.vn p.n p.kids A w b rfl hky.1 hC hF hb h0
    by_cases h1 : p.op.toList = [110, 111, 110, 101]
    · exact form_1 d _ c p.op p.key p.vs p.vk p.vn p.n p.kids A w b rfl hky.1 hC hF hb h1
    by_cases h2 : p.op.toList = [101, 114, 114, 111, 114]
    · exact form_2 d _ c p.op p.key p.vs p.vk p.vn p.n p.kids A w b rfl hky.1 hC hF hb h2
    by_cases h3 : p.op.toList = [115, 108, 111, 119]
    · exact form_3 d _ c p.op p.key p.vs p.vk p.vn p.n p.kids A w b rfl hky.1 hC hF hb h3
    by_cases h4 : p.op.toList = [115, 104, 97, 114, 101]
    · exact form_4 d _ c p.op p.key p.vs p.vk p.vn p.n p.kids A w b rfl hky.1 hC hF hb h4
    by_cases h5 : p.op.toList = [97, 116, 116, 114]
    · exact form_5 d _ c p.op p.key p.vs p.vk p.vn p.n p.kids A w b rfl hky.1 hC hF hb h5
    by_cases h6 : p.op.toList = [110, 111, 116]
    · exact form_6 d _ c p.op p.key p.vs p.vk p.vn p.n p.kids A w b rfl hky.1 hC hF hb h6
    by_cases h7 : p.op.toList = [97, 110, 100]
    · exact form_7 d _ c p.op p.key p.vs p.vk p.vn p.n p.kids A w b rfl hky.1 hC hF hb h7
    by_cases h8 : p.op.toList = [111, 114]
    · exact form_8 d _ c p.op p.key p.vs p.vk p.vn p.n p.kids A w b rfl hky.1 hC hF hb h8
    exact form_9 d _ c p.op p.key p.vs p.vk p.vn p.n p.kids A w b rfl hky.1 hC hF hb h0 h1 h2 h3 h4 h5 h6 h7 h8
end Go.Proofs.Ytgpkihnihmbomaa.Pt
