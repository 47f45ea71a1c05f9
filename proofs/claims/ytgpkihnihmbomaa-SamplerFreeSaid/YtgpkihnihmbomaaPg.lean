/- Is one of a policy's kids so? slices.ContainsFunc, walked for each closure. No conditions but bounds. -/
import Derived.Test.YtgpkihnihmbomaaPo
namespace Go.Proofs.Ytgpkihnihmbomaa.Pt
open Go.RowKit Go.Proofs.YtgpkihnihmbomaaW.PrintWords Go.Proofs.YtgpkihnihmbomaaW.PrintLast
open Go.Proofs.Ytgpkihnihmbomaa.Ob Go.Proofs.Ytgpkihnihmbomaa.Two Go.Proofs.Ytgpkihnihmbomaa.Bx
set_option linter.unusedSimpArgs false
set_option linter.unusedVariables false
/-- Is one of these so? -/
def anyk (l : List Pol) (P : Pol → Bool) : Bool := l.any P
theorem any_no75 {P : Pol → Bool} {l : List Pol} {n : Nat} (hn : l.length = n) (h : ∀ i, i < n → ∀ hi : i < l.length, P l[i] = false) : anyk l P = false := by
  unfold anyk
  rw [List.any_eq_false]
  intro q hq
  obtain ⟨i, hi, rfl⟩ := List.getElem_of_mem hq
  rw [h i (by omega) hi]; simp
set_option maxHeartbeats 8000000 in
set_option maxRecDepth 1000000 in
theorem idx75_w (w : World) (A : Option Addr) (n c d : Nat) (l : List Pol) (P : Pol → Bool) (hn : l.length = n) (hC : (kp 53 d).C w A n l)
    (hF : Aside0 (∀ q cs W, q ∈ l → Below w.heap.size w W → (kp 53 d).K W q cs → Calls Try.prog 75 #[.agg cs.toArray] W fun e w' => e = .returned (.bool (P q)) ∧ Below W.heap.size W w')) :
    Calls Try.prog 81 #[.slice A n c, .func (.func 75) #[] #[]] w fun e w' => (∃ r : Int, e = .returned (.int .i64 r) ∧ (anyk l P = true ∧ 0 ≤ r ∨ anyk l P = false ∧ r = -1)) ∧ Below w.heap.size w w' := by
  have hnm := Kd.C_max hC
  have HB := Aside0.mk (Below.refl w.heap.size w)
  replace hC := Aside0.mk hC
  go_enter Try.func81, Try.ntmps81
  go_wp2
  go_loopg [8] (n + 1) (fun kq v8 wr => ∃ i : Nat, v8 = .int .i64 (i : Int) ∧ i ≤ n ∧ n - i < kq ∧ Aside0 (∀ j, j < i → ∀ hj : j < l.length, P l[j] = false) ∧ Aside0 (Below w.heap.size w wr))
  case atStart => exact ⟨0, rfl, Nat.zero_le _, by omega, ⟨fun j h => absurd h (by omega)⟩, HB⟩
  case round =>
    clear HB
    obtain ⟨i, rfl, hi, hk, HR, HB⟩ := hrel
    obtain ⟨k1, rfl⟩ : ∃ m, gk = m + 1 := ⟨gk - 1, by omega⟩
    have hi0 : (0 : Int) ≤ (i : Int) := by omega
    by_cases hin : i < n
    · have hinI : (i : Int) < (n : Int) := by omega
      have hil : i < l.length := by omega
      cases d with
      | zero => exact absurd hil (by rw [kp_none hC.out]; simp)
      | succ d' =>
        obtain ⟨ad, A6, c6, rfl, x0, x1, x2, x3, x4, x5, x6, l6, g6⟩ := kp_at (Kd.C_below hC.out HB.out) i hil hin
        have hqm := Aside0.mk (List.getElem_mem hil)
        have hyes := Aside0.mk (show P l[i] = true → anyk l P = true from fun h => List.any_eq_true.2 ⟨_, List.getElem_mem hil, h⟩)
        have hnext := Aside0.mk (show P l[i] = false → ∀ j, j < i + 1 → ∀ hj : j < l.length, P l[j] = false from fun h0 j hj h => by
            by_cases e : j = i
            · subst e; exact h0
            · exact HR.out j (by omega) h)
        generalize hq : l[i] = q at x0 x1 x2 x3 x4 x5 x6 l6 g6 hqm hyes hnext
        have hKq := Aside0.mk (kp_mk (e := 53) wr q l6 g6)
        clear hq g6 l6
        have hcall := hF.out q [.string q.op, .string q.key, .int .i64 q.vk, .int .i64 q.vn, .string q.vs, .int .u64 q.n, .slice A6 q.kids.length c6] wr hqm.out HB.out hKq.out
        cases hP : P q with
        | true =>
          have hfin := Aside0.mk (hyes.out hP)
          rw [hP] at hcall
          replace hcall := Aside0.mk hcall
          clear hP hnext hyes HR
          go_wp2_with (go_at_call 75; refine hcall.out.mono ?_; rintro e w2 ⟨rfl, hb2⟩)
          go_ret
          exact ⟨⟨(i : Int), rfl, .inl ⟨hfin.out, by omega⟩⟩, HB.out.trans (hb2.mono HB.out.size)⟩
        | false =>
          have hfin := Aside0.mk (hnext.out hP)
          rw [hP] at hcall
          replace hcall := Aside0.mk hcall
          clear hP hnext hyes HR
          go_wp2_with (go_at_call 75; refine hcall.out.mono ?_; rintro e w2 ⟨rfl, hb2⟩)
          go_roundg k1
          case measure => omega
          case rel => exact ⟨i + 1, by first | rfl | simp, by omega, by omega, hfin, ⟨HB.out.trans (hb2.mono HB.out.size)⟩⟩
    · have e1 : i = n := by omega
      have hinI : ¬ (i : Int) < (n : Int) := by omega
      have hfin := Aside0.mk (any_no75 hn (e1 ▸ HR.out))
      clear hk e1 HR
      go_wp2
      go_ret
      exact ⟨⟨-1, rfl, .inr ⟨hfin.out, rfl⟩⟩, HB.out⟩
set_option maxHeartbeats 8000000 in
set_option maxRecDepth 1000000 in
theorem any75_w (w : World) (A : Option Addr) (n c d : Nat) (l : List Pol) (P : Pol → Bool) (b : Bool) (hb : anyk l P = b) (hn : l.length = n) (hC : (kp 53 d).C w A n l)
    (hF : Aside0 (∀ q cs W, q ∈ l → Below w.heap.size w W → (kp 53 d).K W q cs → Calls Try.prog 75 #[.agg cs.toArray] W fun e w' => e = .returned (.bool (P q)) ∧ Below W.heap.size W w')) :
    Calls Try.prog 71 #[.slice A n c, .func (.func 75) #[] #[]] w fun e w' => e = .returned (.bool b) ∧ Below w.heap.size w w' := by
  have hi := Aside0.mk (idx75_w w A n c d l P hn hC hF)
  cases b with
  | true =>
    replace hb := Aside0.mk hb
    clear hC
    go_enter Try.func71, Try.ntmps71
    go_wp2_with (go_at_call 81; refine hi.out.mono ?_; rintro e w1 ⟨⟨r, rfl, hr⟩, hb1⟩; have hr0 : 0 ≤ r := (by rcases hr with ⟨_, h⟩ | ⟨h, _⟩; exact h; rw [hb.out] at h; cases h); clear hr; replace hb1 := Aside0.mk hb1)
    go_ret
    exact ⟨by first | rfl | simp [hr0], hb1.out⟩
  | false =>
    replace hb := Aside0.mk hb
    clear hC
    go_enter Try.func71, Try.ntmps71
    go_wp2_with (go_at_call 81; refine hi.out.mono ?_; rintro e w1 ⟨⟨r, rfl, hr⟩, hb1⟩; obtain rfl : r = -1 := (by rcases hr with ⟨h, _⟩ | ⟨_, h⟩; rw [hb.out] at h; cases h; exact h); clear hr; replace hb1 := Aside0.mk hb1)
    go_ret
    exact ⟨by first | rfl | simp, hb1.out⟩
theorem any_no62 {P : Pol → Bool} {l : List Pol} {n : Nat} (hn : l.length = n) (h : ∀ i, i < n → ∀ hi : i < l.length, P l[i] = false) : anyk l P = false := by
  unfold anyk
  rw [List.any_eq_false]
  intro q hq
  obtain ⟨i, hi, rfl⟩ := List.getElem_of_mem hq
  rw [h i (by omega) hi]; simp
set_option maxHeartbeats 8000000 in
set_option maxRecDepth 1000000 in
theorem idx62_w (w : World) (A : Option Addr) (n c d : Nat) (l : List Pol) (P : Pol → Bool) (g : Nat) (hn : l.length = n) (hC : (kp 53 d).C w A n l)
    (hF : Aside0 (∀ q cs W, q ∈ l → Below w.heap.size w W → (kp 53 d).K W q cs → Calls Try.prog 62 #[.agg cs.toArray, .pointer (some ⟨g, 0, none⟩)] W fun e w' => e = .returned (.bool (P q)) ∧ Below W.heap.size W w')) :
    Calls Try.prog 81 #[.slice A n c, .func (.func 62) #[] #[.pointer (some ⟨g, 0, none⟩)]] w fun e w' => (∃ r : Int, e = .returned (.int .i64 r) ∧ (anyk l P = true ∧ 0 ≤ r ∨ anyk l P = false ∧ r = -1)) ∧ Below w.heap.size w w' := by
  have hnm := Kd.C_max hC
  have HB := Aside0.mk (Below.refl w.heap.size w)
  replace hC := Aside0.mk hC
  go_enter Try.func81, Try.ntmps81
  go_wp2
  go_loopg [8] (n + 1) (fun kq v8 wr => ∃ i : Nat, v8 = .int .i64 (i : Int) ∧ i ≤ n ∧ n - i < kq ∧ Aside0 (∀ j, j < i → ∀ hj : j < l.length, P l[j] = false) ∧ Aside0 (Below w.heap.size w wr))
  case atStart => exact ⟨0, rfl, Nat.zero_le _, by omega, ⟨fun j h => absurd h (by omega)⟩, HB⟩
  case round =>
    clear HB
    obtain ⟨i, rfl, hi, hk, HR, HB⟩ := hrel
    obtain ⟨k1, rfl⟩ : ∃ m, gk = m + 1 := ⟨gk - 1, by omega⟩
    have hi0 : (0 : Int) ≤ (i : Int) := by omega
    by_cases hin : i < n
    · have hinI : (i : Int) < (n : Int) := by omega
      have hil : i < l.length := by omega
      cases d with
      | zero => exact absurd hil (by rw [kp_none hC.out]; simp)
      | succ d' =>
        obtain ⟨ad, A6, c6, rfl, x0, x1, x2, x3, x4, x5, x6, l6, g6⟩ := kp_at (Kd.C_below hC.out HB.out) i hil hin
        have hqm := Aside0.mk (List.getElem_mem hil)
        have hyes := Aside0.mk (show P l[i] = true → anyk l P = true from fun h => List.any_eq_true.2 ⟨_, List.getElem_mem hil, h⟩)
        have hnext := Aside0.mk (show P l[i] = false → ∀ j, j < i + 1 → ∀ hj : j < l.length, P l[j] = false from fun h0 j hj h => by
            by_cases e : j = i
            · subst e; exact h0
            · exact HR.out j (by omega) h)
        generalize hq : l[i] = q at x0 x1 x2 x3 x4 x5 x6 l6 g6 hqm hyes hnext
        have hKq := Aside0.mk (kp_mk (e := 53) wr q l6 g6)
        clear hq g6 l6
        have hcall := hF.out q [.string q.op, .string q.key, .int .i64 q.vk, .int .i64 q.vn, .string q.vs, .int .u64 q.n, .slice A6 q.kids.length c6] wr hqm.out HB.out hKq.out
        cases hP : P q with
        | true =>
          have hfin := Aside0.mk (hyes.out hP)
          rw [hP] at hcall
          replace hcall := Aside0.mk hcall
          clear hP hnext hyes HR
          go_wp2_with (go_at_call 62; refine hcall.out.mono ?_; rintro e w2 ⟨rfl, hb2⟩)
          go_ret
          exact ⟨⟨(i : Int), rfl, .inl ⟨hfin.out, by omega⟩⟩, HB.out.trans (hb2.mono HB.out.size)⟩
        | false =>
          have hfin := Aside0.mk (hnext.out hP)
          rw [hP] at hcall
          replace hcall := Aside0.mk hcall
          clear hP hnext hyes HR
          go_wp2_with (go_at_call 62; refine hcall.out.mono ?_; rintro e w2 ⟨rfl, hb2⟩)
          go_roundg k1
          case measure => omega
          case rel => exact ⟨i + 1, by first | rfl | simp, by omega, by omega, hfin, ⟨HB.out.trans (hb2.mono HB.out.size)⟩⟩
    · have e1 : i = n := by omega
      have hinI : ¬ (i : Int) < (n : Int) := by omega
      have hfin := Aside0.mk (any_no62 hn (e1 ▸ HR.out))
      clear hk e1 HR
      go_wp2
      go_ret
      exact ⟨⟨-1, rfl, .inr ⟨hfin.out, rfl⟩⟩, HB.out⟩
set_option maxHeartbeats 8000000 in
set_option maxRecDepth 1000000 in
theorem any62_w (w : World) (A : Option Addr) (n c d : Nat) (l : List Pol) (P : Pol → Bool) (g : Nat) (b : Bool) (hb : anyk l P = b) (hn : l.length = n) (hC : (kp 53 d).C w A n l)
    (hF : Aside0 (∀ q cs W, q ∈ l → Below w.heap.size w W → (kp 53 d).K W q cs → Calls Try.prog 62 #[.agg cs.toArray, .pointer (some ⟨g, 0, none⟩)] W fun e w' => e = .returned (.bool (P q)) ∧ Below W.heap.size W w')) :
    Calls Try.prog 71 #[.slice A n c, .func (.func 62) #[] #[.pointer (some ⟨g, 0, none⟩)]] w fun e w' => e = .returned (.bool b) ∧ Below w.heap.size w w' := by
  have hi := Aside0.mk (idx62_w w A n c d l P g hn hC hF)
  cases b with
  | true =>
    replace hb := Aside0.mk hb
    clear hC
    go_enter Try.func71, Try.ntmps71
    go_wp2_with (go_at_call 81; refine hi.out.mono ?_; rintro e w1 ⟨⟨r, rfl, hr⟩, hb1⟩; have hr0 : 0 ≤ r := (by rcases hr with ⟨_, h⟩ | ⟨h, _⟩; exact h; rw [hb.out] at h; cases h); clear hr; replace hb1 := Aside0.mk hb1)
    go_ret
    exact ⟨by first | rfl | simp [hr0], hb1.out⟩
  | false =>
    replace hb := Aside0.mk hb
    clear hC
    go_enter Try.func71, Try.ntmps71
    go_wp2_with (go_at_call 81; refine hi.out.mono ?_; rintro e w1 ⟨⟨r, rfl, hr⟩, hb1⟩; obtain rfl : r = -1 := (by rcases hr with ⟨h, _⟩ | ⟨_, h⟩; rw [hb.out] at h; cases h; exact h); clear hr; replace hb1 := Aside0.mk hb1)
    go_ret
    exact ⟨by first | rfl | simp, hb1.out⟩
theorem any_no63 {P : Pol → Bool} {l : List Pol} {n : Nat} (hn : l.length = n) (h : ∀ i, i < n → ∀ hi : i < l.length, P l[i] = false) : anyk l P = false := by
  unfold anyk
  rw [List.any_eq_false]
  intro q hq
  obtain ⟨i, hi, rfl⟩ := List.getElem_of_mem hq
  rw [h i (by omega) hi]; simp
set_option maxHeartbeats 8000000 in
set_option maxRecDepth 1000000 in
theorem idx63_w (w : World) (A : Option Addr) (n c d : Nat) (l : List Pol) (P : Pol → Bool) (g : Nat) (hn : l.length = n) (hC : (kp 53 d).C w A n l)
    (hF : Aside0 (∀ q cs W, q ∈ l → Below w.heap.size w W → (kp 53 d).K W q cs → Calls Try.prog 63 #[.agg cs.toArray, .pointer (some ⟨g, 0, none⟩)] W fun e w' => e = .returned (.bool (P q)) ∧ Below W.heap.size W w')) :
    Calls Try.prog 81 #[.slice A n c, .func (.func 63) #[] #[.pointer (some ⟨g, 0, none⟩)]] w fun e w' => (∃ r : Int, e = .returned (.int .i64 r) ∧ (anyk l P = true ∧ 0 ≤ r ∨ anyk l P = false ∧ r = -1)) ∧ Below w.heap.size w w' := by
  have hnm := Kd.C_max hC
  have HB := Aside0.mk (Below.refl w.heap.size w)
  replace hC := Aside0.mk hC
  go_enter Try.func81, Try.ntmps81
  go_wp2
  go_loopg [8] (n + 1) (fun kq v8 wr => ∃ i : Nat, v8 = .int .i64 (i : Int) ∧ i ≤ n ∧ n - i < kq ∧ Aside0 (∀ j, j < i → ∀ hj : j < l.length, P l[j] = false) ∧ Aside0 (Below w.heap.size w wr))
  case atStart => exact ⟨0, rfl, Nat.zero_le _, by omega, ⟨fun j h => absurd h (by omega)⟩, HB⟩
  case round =>
    clear HB
    obtain ⟨i, rfl, hi, hk, HR, HB⟩ := hrel
    obtain ⟨k1, rfl⟩ : ∃ m, gk = m + 1 := ⟨gk - 1, by omega⟩
    have hi0 : (0 : Int) ≤ (i : Int) := by omega
    by_cases hin : i < n
    · have hinI : (i : Int) < (n : Int) := by omega
      have hil : i < l.length := by omega
      cases d with
      | zero => exact absurd hil (by rw [kp_none hC.out]; simp)
      | succ d' =>
        obtain ⟨ad, A6, c6, rfl, x0, x1, x2, x3, x4, x5, x6, l6, g6⟩ := kp_at (Kd.C_below hC.out HB.out) i hil hin
        have hqm := Aside0.mk (List.getElem_mem hil)
        have hyes := Aside0.mk (show P l[i] = true → anyk l P = true from fun h => List.any_eq_true.2 ⟨_, List.getElem_mem hil, h⟩)
        have hnext := Aside0.mk (show P l[i] = false → ∀ j, j < i + 1 → ∀ hj : j < l.length, P l[j] = false from fun h0 j hj h => by
            by_cases e : j = i
            · subst e; exact h0
            · exact HR.out j (by omega) h)
        generalize hq : l[i] = q at x0 x1 x2 x3 x4 x5 x6 l6 g6 hqm hyes hnext
        have hKq := Aside0.mk (kp_mk (e := 53) wr q l6 g6)
        clear hq g6 l6
        have hcall := hF.out q [.string q.op, .string q.key, .int .i64 q.vk, .int .i64 q.vn, .string q.vs, .int .u64 q.n, .slice A6 q.kids.length c6] wr hqm.out HB.out hKq.out
        cases hP : P q with
        | true =>
          have hfin := Aside0.mk (hyes.out hP)
          rw [hP] at hcall
          replace hcall := Aside0.mk hcall
          clear hP hnext hyes HR
          go_wp2_with (go_at_call 63; refine hcall.out.mono ?_; rintro e w2 ⟨rfl, hb2⟩)
          go_ret
          exact ⟨⟨(i : Int), rfl, .inl ⟨hfin.out, by omega⟩⟩, HB.out.trans (hb2.mono HB.out.size)⟩
        | false =>
          have hfin := Aside0.mk (hnext.out hP)
          rw [hP] at hcall
          replace hcall := Aside0.mk hcall
          clear hP hnext hyes HR
          go_wp2_with (go_at_call 63; refine hcall.out.mono ?_; rintro e w2 ⟨rfl, hb2⟩)
          go_roundg k1
          case measure => omega
          case rel => exact ⟨i + 1, by first | rfl | simp, by omega, by omega, hfin, ⟨HB.out.trans (hb2.mono HB.out.size)⟩⟩
    · have e1 : i = n := by omega
      have hinI : ¬ (i : Int) < (n : Int) := by omega
      have hfin := Aside0.mk (any_no63 hn (e1 ▸ HR.out))
      clear hk e1 HR
      go_wp2
      go_ret
      exact ⟨⟨-1, rfl, .inr ⟨hfin.out, rfl⟩⟩, HB.out⟩
set_option maxHeartbeats 8000000 in
set_option maxRecDepth 1000000 in
theorem any63_w (w : World) (A : Option Addr) (n c d : Nat) (l : List Pol) (P : Pol → Bool) (g : Nat) (b : Bool) (hb : anyk l P = b) (hn : l.length = n) (hC : (kp 53 d).C w A n l)
    (hF : Aside0 (∀ q cs W, q ∈ l → Below w.heap.size w W → (kp 53 d).K W q cs → Calls Try.prog 63 #[.agg cs.toArray, .pointer (some ⟨g, 0, none⟩)] W fun e w' => e = .returned (.bool (P q)) ∧ Below W.heap.size W w')) :
    Calls Try.prog 71 #[.slice A n c, .func (.func 63) #[] #[.pointer (some ⟨g, 0, none⟩)]] w fun e w' => e = .returned (.bool b) ∧ Below w.heap.size w w' := by
  have hi := Aside0.mk (idx63_w w A n c d l P g hn hC hF)
  cases b with
  | true =>
    replace hb := Aside0.mk hb
    clear hC
    go_enter Try.func71, Try.ntmps71
    go_wp2_with (go_at_call 81; refine hi.out.mono ?_; rintro e w1 ⟨⟨r, rfl, hr⟩, hb1⟩; have hr0 : 0 ≤ r := (by rcases hr with ⟨_, h⟩ | ⟨h, _⟩; exact h; rw [hb.out] at h; cases h); clear hr; replace hb1 := Aside0.mk hb1)
    go_ret
    exact ⟨by first | rfl | simp [hr0], hb1.out⟩
  | false =>
    replace hb := Aside0.mk hb
    clear hC
    go_enter Try.func71, Try.ntmps71
    go_wp2_with (go_at_call 81; refine hi.out.mono ?_; rintro e w1 ⟨⟨r, rfl, hr⟩, hb1⟩; obtain rfl : r = -1 := (by rcases hr with ⟨h, _⟩ | ⟨_, h⟩; rw [hb.out] at h; cases h; exact h); clear hr; replace hb1 := Aside0.mk hb1)
    go_ret
    exact ⟨by first | rfl | simp, hb1.out⟩
end Go.Proofs.Ytgpkihnihmbomaa.Pt
