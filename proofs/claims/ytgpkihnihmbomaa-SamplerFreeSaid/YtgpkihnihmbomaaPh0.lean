/- Is one of some spans so? slices.ContainsFunc over spans, walked for each closure. No conditions but bounds. -/
import Derived.Test.YtgpkihnihmbomaaPo
import Derived.Test.YtgpkihnihmbomaaPg
import Derived.Test.YtgpkihnihmbomaaSb
namespace Go.Proofs.Ytgpkihnihmbomaa.Pt
open Go.RowKit Go.Proofs.YtgpkihnihmbomaaW.PrintWords Go.Proofs.YtgpkihnihmbomaaW.PrintLast
open Go.Proofs.Ytgpkihnihmbomaa.Ob Go.Proofs.Ytgpkihnihmbomaa.Two Go.Proofs.Ytgpkihnihmbomaa.Bx Go.Proofs.Ytgpkihnihmbomaa.XSs
set_option linter.unusedSimpArgs false
set_option linter.unusedVariables false
/-- Is one of these spans so? -/
def anys (l : List S70) (P : S70 → Bool) : Bool := l.any P
theorem anys_no {P : S70 → Bool} {l : List S70} {n : Nat} (hn : l.length = n) (h : ∀ i, i < n → ∀ hi : i < l.length, P l[i] = false) : anys l P = false := by
  unfold anys
  rw [List.any_eq_false]
  intro q hq
  obtain ⟨i, hi, rfl⟩ := List.getElem_of_mem hq
  rw [h i (by omega) hi]; simp
set_option maxHeartbeats 8000000 in
set_option maxRecDepth 1000000 in
theorem sidx65_w (w : World) (A : Option Addr) (n c : Nat) (l : List S70) (P : S70 → Bool) (hn : l.length = n) (hC : Kd.C k70 w A n l)
    (hF : Aside0 (∀ s A9 c9 W, s ∈ l → Below w.heap.size w W → Kd.C k126 W A9 s.f9.length s.f9 → s.f9.length ≤ c9 → Calls Try.prog 65 #[.agg #[.int .u64 s.f0, .int .u64 s.f1, .int .u64 s.f2, .string s.f3, .string s.f4, .int .i64 s.f5, .int .i64 s.f6, .int .u64 s.f7, .int .u64 s.f8, .slice A9 s.f9.length c9]] W fun e w' => e = .returned (.bool (P s)) ∧ Below W.heap.size W w')) :
    Calls Try.prog 83 #[.slice A n c, .func (.func 65) #[] #[]] w fun e w' => (∃ r : Int, e = .returned (.int .i64 r) ∧ (anys l P = true ∧ 0 ≤ r ∨ anys l P = false ∧ r = -1)) ∧ Below w.heap.size w w' := by
  have hnm := Kd.C_max hC
  have HB := Aside0.mk (Below.refl w.heap.size w)
  replace hC := Aside0.mk hC
  go_enter Try.func83, Try.ntmps83
  go_wp2
  go_loopg [8] (n + 1) (fun kq v8 wr => ∃ i : Nat, v8 = .int .i64 (i : Int) ∧ i ≤ n ∧ n - i < kq ∧ Aside0 (∀ j, j < i → ∀ hj : j < l.length, P l[j] = false) ∧ Aside0 (Below w.heap.size w wr))
  case atStart => exact ⟨0, rfl, Nat.zero_le _, by omega, ⟨fun j h => absurd h (by omega)⟩, HB⟩
  case round =>
    clear HB
    obtain ⟨i, rfl, hi, hk, HR, HB⟩ := hrel
    obtain ⟨k1, rfl⟩ : ∃ m, gk = m + 1 := ⟨gk - 1, by omega⟩
    have hi0 : (0 : Int) ≤ (i : Int) := by omega
    by_cases hin : i < n
    · have hinI : (i : Int) < (n : Int) := by omega
      have hil : i < l.length := by omega
      obtain ⟨ad, A9, c9, rfl, x0, x1, x2, x3, x4, x5, x6, x7, x8, x9, l9, g9⟩ := at_T70 (Kd.C_below hC.out HB.out) (i : Int) hi0 (by exact hinI)
      rw [Sb.rd70 l i hil, Int.toNat_natCast] at x0 x1 x2 x3 x4 x5 x6 x7 x8 x9
      rw [Sb.rd70 l i hil] at l9 g9
      have hqm := Aside0.mk (List.getElem_mem hil)
      have hyes := Aside0.mk (show P l[i] = true → anys l P = true from fun h => List.any_eq_true.2 ⟨_, List.getElem_mem hil, h⟩)
      have hnext := Aside0.mk (show P l[i] = false → ∀ j, j < i + 1 → ∀ hj : j < l.length, P l[j] = false from fun h0 j hj h => by
          by_cases e : j = i
          · subst e; exact h0
          · exact HR.out j (by omega) h)
      generalize hq : l[i] = s at x0 x1 x2 x3 x4 x5 x6 x7 x8 x9 l9 g9 hqm hyes hnext
      have hcall := hF.out s A9 c9 wr hqm.out HB.out g9 l9
      clear hq g9 l9
      cases hP : P s with
      | true =>
        have hfin := Aside0.mk (hyes.out hP)
        rw [hP] at hcall
        replace hcall := Aside0.mk hcall
        clear hP hnext hyes HR
        go_wp2_with (go_at_call 65; refine hcall.out.mono ?_; rintro e w2 ⟨rfl, hb2⟩)
        go_ret
        exact ⟨⟨(i : Int), rfl, .inl ⟨hfin.out, by omega⟩⟩, HB.out.trans (hb2.mono HB.out.size)⟩
      | false =>
        have hfin := Aside0.mk (hnext.out hP)
        rw [hP] at hcall
        replace hcall := Aside0.mk hcall
        clear hP hnext hyes HR
        go_wp2_with (go_at_call 65; refine hcall.out.mono ?_; rintro e w2 ⟨rfl, hb2⟩)
        go_roundg k1
        case measure => omega
        case rel => exact ⟨i + 1, by first | rfl | simp, by omega, by omega, hfin, ⟨HB.out.trans (hb2.mono HB.out.size)⟩⟩
    · have e1 : i = n := by omega
      have hinI : ¬ (i : Int) < (n : Int) := by omega
      have hfin := Aside0.mk (anys_no hn (e1 ▸ HR.out))
      clear hk e1 HR
      go_wp2
      go_ret
      exact ⟨⟨-1, rfl, .inr ⟨hfin.out, rfl⟩⟩, HB.out⟩
set_option maxHeartbeats 8000000 in
set_option maxRecDepth 1000000 in
theorem sany65_w (w : World) (A : Option Addr) (n c : Nat) (l : List S70) (P : S70 → Bool) (b : Bool) (hb : anys l P = b) (hn : l.length = n) (hC : Kd.C k70 w A n l)
    (hF : Aside0 (∀ s A9 c9 W, s ∈ l → Below w.heap.size w W → Kd.C k126 W A9 s.f9.length s.f9 → s.f9.length ≤ c9 → Calls Try.prog 65 #[.agg #[.int .u64 s.f0, .int .u64 s.f1, .int .u64 s.f2, .string s.f3, .string s.f4, .int .i64 s.f5, .int .i64 s.f6, .int .u64 s.f7, .int .u64 s.f8, .slice A9 s.f9.length c9]] W fun e w' => e = .returned (.bool (P s)) ∧ Below W.heap.size W w')) :
    Calls Try.prog 77 #[.slice A n c, .func (.func 65) #[] #[]] w fun e w' => e = .returned (.bool b) ∧ Below w.heap.size w w' := by
  have hi := Aside0.mk (sidx65_w w A n c l P hn hC hF)
  cases b with
  | true =>
    replace hb := Aside0.mk hb
    clear hC
    go_enter Try.func77, Try.ntmps77
    go_wp2_with (go_at_call 83; refine hi.out.mono ?_; rintro e w1 ⟨⟨r, rfl, hr⟩, hb1⟩; have hr0 : 0 ≤ r := (by rcases hr with ⟨_, h⟩ | ⟨h, _⟩; exact h; rw [hb.out] at h; cases h); clear hr; replace hb1 := Aside0.mk hb1)
    go_ret
    exact ⟨by first | rfl | simp [hr0], hb1.out⟩
  | false =>
    replace hb := Aside0.mk hb
    clear hC
    go_enter Try.func77, Try.ntmps77
    go_wp2_with (go_at_call 83; refine hi.out.mono ?_; rintro e w1 ⟨⟨r, rfl, hr⟩, hb1⟩; obtain rfl : r = -1 := (by rcases hr with ⟨h, _⟩ | ⟨_, h⟩; rw [hb.out] at h; cases h; exact h); clear hr; replace hb1 := Aside0.mk hb1)
    go_ret
    exact ⟨by first | rfl | simp, hb1.out⟩
set_option maxHeartbeats 8000000 in
set_option maxRecDepth 1000000 in
theorem some65_w (w : World) (A : Option Addr) (n c : Nat) (l : List S70) (P : S70 → Bool) (b : Bool) (hb : anys l P = b) (hn : l.length = n) (hC : Kd.C k70 w A n l)
    (hF : Aside0 (∀ s A9 c9 W, s ∈ l → Below w.heap.size w W → Kd.C k126 W A9 s.f9.length s.f9 → s.f9.length ≤ c9 → Calls Try.prog 65 #[.agg #[.int .u64 s.f0, .int .u64 s.f1, .int .u64 s.f2, .string s.f3, .string s.f4, .int .i64 s.f5, .int .i64 s.f6, .int .u64 s.f7, .int .u64 s.f8, .slice A9 s.f9.length c9]] W fun e w' => e = .returned (.bool (P s)) ∧ Below W.heap.size W w')) :
    Calls Try.prog 64 #[.slice A n c, .func (.func 65) #[] #[]] w fun e w' => e = .returned (.bool b) ∧ Below w.heap.size w w' := by
  have hi := Aside0.mk (sany65_w w A n c l P b hb hn hC hF)
  clear hC
  go_enter Try.func64, Try.ntmps64
  go_wp2_with (go_at_call 77; refine hi.out.mono ?_; rintro e w1 ⟨rfl, hb1⟩; replace hb1 := Aside0.mk hb1)
  go_ret
  exact ⟨rfl, hb1.out⟩
set_option maxHeartbeats 8000000 in
set_option maxRecDepth 1000000 in
theorem sidx66_w (w : World) (A : Option Addr) (n c : Nat) (l : List S70) (P : S70 → Bool) (g : Nat) (hn : l.length = n) (hC : Kd.C k70 w A n l)
    (hF : Aside0 (∀ s A9 c9 W, s ∈ l → Below w.heap.size w W → Kd.C k126 W A9 s.f9.length s.f9 → s.f9.length ≤ c9 → Calls Try.prog 66 #[.agg #[.int .u64 s.f0, .int .u64 s.f1, .int .u64 s.f2, .string s.f3, .string s.f4, .int .i64 s.f5, .int .i64 s.f6, .int .u64 s.f7, .int .u64 s.f8, .slice A9 s.f9.length c9], .pointer (some ⟨g, 0, none⟩)] W fun e w' => e = .returned (.bool (P s)) ∧ Below W.heap.size W w')) :
    Calls Try.prog 83 #[.slice A n c, .func (.func 66) #[] #[.pointer (some ⟨g, 0, none⟩)]] w fun e w' => (∃ r : Int, e = .returned (.int .i64 r) ∧ (anys l P = true ∧ 0 ≤ r ∨ anys l P = false ∧ r = -1)) ∧ Below w.heap.size w w' := by
  have hnm := Kd.C_max hC
  have HB := Aside0.mk (Below.refl w.heap.size w)
  replace hC := Aside0.mk hC
  go_enter Try.func83, Try.ntmps83
  go_wp2
  go_loopg [8] (n + 1) (fun kq v8 wr => ∃ i : Nat, v8 = .int .i64 (i : Int) ∧ i ≤ n ∧ n - i < kq ∧ Aside0 (∀ j, j < i → ∀ hj : j < l.length, P l[j] = false) ∧ Aside0 (Below w.heap.size w wr))
  case atStart => exact ⟨0, rfl, Nat.zero_le _, by omega, ⟨fun j h => absurd h (by omega)⟩, HB⟩
  case round =>
    clear HB
    obtain ⟨i, rfl, hi, hk, HR, HB⟩ := hrel
    obtain ⟨k1, rfl⟩ : ∃ m, gk = m + 1 := ⟨gk - 1, by omega⟩
    have hi0 : (0 : Int) ≤ (i : Int) := by omega
    by_cases hin : i < n
    · have hinI : (i : Int) < (n : Int) := by omega
      have hil : i < l.length := by omega
      obtain ⟨ad, A9, c9, rfl, x0, x1, x2, x3, x4, x5, x6, x7, x8, x9, l9, g9⟩ := at_T70 (Kd.C_below hC.out HB.out) (i : Int) hi0 (by exact hinI)
      rw [Sb.rd70 l i hil, Int.toNat_natCast] at x0 x1 x2 x3 x4 x5 x6 x7 x8 x9
      rw [Sb.rd70 l i hil] at l9 g9
      have hqm := Aside0.mk (List.getElem_mem hil)
      have hyes := Aside0.mk (show P l[i] = true → anys l P = true from fun h => List.any_eq_true.2 ⟨_, List.getElem_mem hil, h⟩)
      have hnext := Aside0.mk (show P l[i] = false → ∀ j, j < i + 1 → ∀ hj : j < l.length, P l[j] = false from fun h0 j hj h => by
          by_cases e : j = i
          · subst e; exact h0
          · exact HR.out j (by omega) h)
      generalize hq : l[i] = s at x0 x1 x2 x3 x4 x5 x6 x7 x8 x9 l9 g9 hqm hyes hnext
      have hcall := hF.out s A9 c9 wr hqm.out HB.out g9 l9
      clear hq g9 l9
      cases hP : P s with
      | true =>
        have hfin := Aside0.mk (hyes.out hP)
        rw [hP] at hcall
        replace hcall := Aside0.mk hcall
        clear hP hnext hyes HR
        go_wp2_with (go_at_call 66; refine hcall.out.mono ?_; rintro e w2 ⟨rfl, hb2⟩)
        go_ret
        exact ⟨⟨(i : Int), rfl, .inl ⟨hfin.out, by omega⟩⟩, HB.out.trans (hb2.mono HB.out.size)⟩
      | false =>
        have hfin := Aside0.mk (hnext.out hP)
        rw [hP] at hcall
        replace hcall := Aside0.mk hcall
        clear hP hnext hyes HR
        go_wp2_with (go_at_call 66; refine hcall.out.mono ?_; rintro e w2 ⟨rfl, hb2⟩)
        go_roundg k1
        case measure => omega
        case rel => exact ⟨i + 1, by first | rfl | simp, by omega, by omega, hfin, ⟨HB.out.trans (hb2.mono HB.out.size)⟩⟩
    · have e1 : i = n := by omega
      have hinI : ¬ (i : Int) < (n : Int) := by omega
      have hfin := Aside0.mk (anys_no hn (e1 ▸ HR.out))
      clear hk e1 HR
      go_wp2
      go_ret
      exact ⟨⟨-1, rfl, .inr ⟨hfin.out, rfl⟩⟩, HB.out⟩
set_option maxHeartbeats 8000000 in
set_option maxRecDepth 1000000 in
theorem sany66_w (w : World) (A : Option Addr) (n c : Nat) (l : List S70) (P : S70 → Bool) (g : Nat) (b : Bool) (hb : anys l P = b) (hn : l.length = n) (hC : Kd.C k70 w A n l)
    (hF : Aside0 (∀ s A9 c9 W, s ∈ l → Below w.heap.size w W → Kd.C k126 W A9 s.f9.length s.f9 → s.f9.length ≤ c9 → Calls Try.prog 66 #[.agg #[.int .u64 s.f0, .int .u64 s.f1, .int .u64 s.f2, .string s.f3, .string s.f4, .int .i64 s.f5, .int .i64 s.f6, .int .u64 s.f7, .int .u64 s.f8, .slice A9 s.f9.length c9], .pointer (some ⟨g, 0, none⟩)] W fun e w' => e = .returned (.bool (P s)) ∧ Below W.heap.size W w')) :
    Calls Try.prog 77 #[.slice A n c, .func (.func 66) #[] #[.pointer (some ⟨g, 0, none⟩)]] w fun e w' => e = .returned (.bool b) ∧ Below w.heap.size w w' := by
  have hi := Aside0.mk (sidx66_w w A n c l P g hn hC hF)
  cases b with
  | true =>
    replace hb := Aside0.mk hb
    clear hC
    go_enter Try.func77, Try.ntmps77
    go_wp2_with (go_at_call 83; refine hi.out.mono ?_; rintro e w1 ⟨⟨r, rfl, hr⟩, hb1⟩; have hr0 : 0 ≤ r := (by rcases hr with ⟨_, h⟩ | ⟨h, _⟩; exact h; rw [hb.out] at h; cases h); clear hr; replace hb1 := Aside0.mk hb1)
    go_ret
    exact ⟨by first | rfl | simp [hr0], hb1.out⟩
  | false =>
    replace hb := Aside0.mk hb
    clear hC
    go_enter Try.func77, Try.ntmps77
    go_wp2_with (go_at_call 83; refine hi.out.mono ?_; rintro e w1 ⟨⟨r, rfl, hr⟩, hb1⟩; obtain rfl : r = -1 := (by rcases hr with ⟨h, _⟩ | ⟨_, h⟩; rw [hb.out] at h; cases h; exact h); clear hr; replace hb1 := Aside0.mk hb1)
    go_ret
    exact ⟨by first | rfl | simp, hb1.out⟩
set_option maxHeartbeats 8000000 in
set_option maxRecDepth 1000000 in
theorem some66_w (w : World) (A : Option Addr) (n c : Nat) (l : List S70) (P : S70 → Bool) (g : Nat) (b : Bool) (hb : anys l P = b) (hn : l.length = n) (hC : Kd.C k70 w A n l)
    (hF : Aside0 (∀ s A9 c9 W, s ∈ l → Below w.heap.size w W → Kd.C k126 W A9 s.f9.length s.f9 → s.f9.length ≤ c9 → Calls Try.prog 66 #[.agg #[.int .u64 s.f0, .int .u64 s.f1, .int .u64 s.f2, .string s.f3, .string s.f4, .int .i64 s.f5, .int .i64 s.f6, .int .u64 s.f7, .int .u64 s.f8, .slice A9 s.f9.length c9], .pointer (some ⟨g, 0, none⟩)] W fun e w' => e = .returned (.bool (P s)) ∧ Below W.heap.size W w')) :
    Calls Try.prog 64 #[.slice A n c, .func (.func 66) #[] #[.pointer (some ⟨g, 0, none⟩)]] w fun e w' => e = .returned (.bool b) ∧ Below w.heap.size w w' := by
  have hi := Aside0.mk (sany66_w w A n c l P g b hb hn hC hF)
  clear hC
  go_enter Try.func64, Try.ntmps64
  go_wp2_with (go_at_call 77; refine hi.out.mono ?_; rintro e w1 ⟨rfl, hb1⟩; replace hb1 := Aside0.mk hb1)
  go_ret
  exact ⟨rfl, hb1.out⟩
set_option maxHeartbeats 8000000 in
set_option maxRecDepth 1000000 in
theorem sidx69_w (w : World) (A : Option Addr) (n c : Nat) (l : List S70) (P : S70 → Bool) (g : Nat) (hn : l.length = n) (hC : Kd.C k70 w A n l)
    (hF : Aside0 (∀ s A9 c9 W, s ∈ l → Below w.heap.size w W → Kd.C k126 W A9 s.f9.length s.f9 → s.f9.length ≤ c9 → Calls Try.prog 69 #[.agg #[.int .u64 s.f0, .int .u64 s.f1, .int .u64 s.f2, .string s.f3, .string s.f4, .int .i64 s.f5, .int .i64 s.f6, .int .u64 s.f7, .int .u64 s.f8, .slice A9 s.f9.length c9], .pointer (some ⟨g, 0, none⟩)] W fun e w' => e = .returned (.bool (P s)) ∧ Below W.heap.size W w')) :
    Calls Try.prog 83 #[.slice A n c, .func (.func 69) #[] #[.pointer (some ⟨g, 0, none⟩)]] w fun e w' => (∃ r : Int, e = .returned (.int .i64 r) ∧ (anys l P = true ∧ 0 ≤ r ∨ anys l P = false ∧ r = -1)) ∧ Below w.heap.size w w' := by
  have hnm := Kd.C_max hC
  have HB := Aside0.mk (Below.refl w.heap.size w)
  replace hC := Aside0.mk hC
  go_enter Try.func83, Try.ntmps83
  go_wp2
  go_loopg [8] (n + 1) (fun kq v8 wr => ∃ i : Nat, v8 = .int .i64 (i : Int) ∧ i ≤ n ∧ n - i < kq ∧ Aside0 (∀ j, j < i → ∀ hj : j < l.length, P l[j] = false) ∧ Aside0 (Below w.heap.size w wr))
  case atStart => exact ⟨0, rfl, Nat.zero_le _, by omega, ⟨fun j h => absurd h (by omega)⟩, HB⟩
  case round =>
    clear HB
    obtain ⟨i, rfl, hi, hk, HR, HB⟩ := hrel
    obtain ⟨k1, rfl⟩ : ∃ m, gk = m + 1 := ⟨gk - 1, by omega⟩
    have hi0 : (0 : Int) ≤ (i : Int) := by omega
    by_cases hin : i < n
    · have hinI : (i : Int) < (n : Int) := by omega
      have hil : i < l.length := by omega
      obtain ⟨ad, A9, c9, rfl, x0, x1, x2, x3, x4, x5, x6, x7, x8, x9, l9, g9⟩ := at_T70 (Kd.C_below hC.out HB.out) (i : Int) hi0 (by exact hinI)
      rw [Sb.rd70 l i hil, Int.toNat_natCast] at x0 x1 x2 x3 x4 x5 x6 x7 x8 x9
      rw [Sb.rd70 l i hil] at l9 g9
      have hqm := Aside0.mk (List.getElem_mem hil)
      have hyes := Aside0.mk (show P l[i] = true → anys l P = true from fun h => List.any_eq_true.2 ⟨_, List.getElem_mem hil, h⟩)
      have hnext := Aside0.mk (show P l[i] = false → ∀ j, j < i + 1 → ∀ hj : j < l.length, P l[j] = false from fun h0 j hj h => by
          by_cases e : j = i
          · subst e; exact h0
          · exact HR.out j (by omega) h)
      generalize hq : l[i] = s at x0 x1 x2 x3 x4 x5 x6 x7 x8 x9 l9 g9 hqm hyes hnext
      have hcall := hF.out s A9 c9 wr hqm.out HB.out g9 l9
      clear hq g9 l9
      cases hP : P s with
      | true =>
        have hfin := Aside0.mk (hyes.out hP)
        rw [hP] at hcall
        replace hcall := Aside0.mk hcall
        clear hP hnext hyes HR
        go_wp2_with (go_at_call 69; refine hcall.out.mono ?_; rintro e w2 ⟨rfl, hb2⟩)
        go_ret
        exact ⟨⟨(i : Int), rfl, .inl ⟨hfin.out, by omega⟩⟩, HB.out.trans (hb2.mono HB.out.size)⟩
      | false =>
        have hfin := Aside0.mk (hnext.out hP)
        rw [hP] at hcall
        replace hcall := Aside0.mk hcall
        clear hP hnext hyes HR
        go_wp2_with (go_at_call 69; refine hcall.out.mono ?_; rintro e w2 ⟨rfl, hb2⟩)
        go_roundg k1
        case measure => omega
        case rel => exact ⟨i + 1, by first | rfl | simp, by omega, by omega, hfin, ⟨HB.out.trans (hb2.mono HB.out.size)⟩⟩
    · have e1 : i = n := by omega
      have hinI : ¬ (i : Int) < (n : Int) := by omega
      have hfin := Aside0.mk (anys_no hn (e1 ▸ HR.out))
      clear hk e1 HR
      go_wp2
      go_ret
      exact ⟨⟨-1, rfl, .inr ⟨hfin.out, rfl⟩⟩, HB.out⟩
set_option maxHeartbeats 8000000 in
set_option maxRecDepth 1000000 in
theorem sany69_w (w : World) (A : Option Addr) (n c : Nat) (l : List S70) (P : S70 → Bool) (g : Nat) (b : Bool) (hb : anys l P = b) (hn : l.length = n) (hC : Kd.C k70 w A n l)
    (hF : Aside0 (∀ s A9 c9 W, s ∈ l → Below w.heap.size w W → Kd.C k126 W A9 s.f9.length s.f9 → s.f9.length ≤ c9 → Calls Try.prog 69 #[.agg #[.int .u64 s.f0, .int .u64 s.f1, .int .u64 s.f2, .string s.f3, .string s.f4, .int .i64 s.f5, .int .i64 s.f6, .int .u64 s.f7, .int .u64 s.f8, .slice A9 s.f9.length c9], .pointer (some ⟨g, 0, none⟩)] W fun e w' => e = .returned (.bool (P s)) ∧ Below W.heap.size W w')) :
    Calls Try.prog 77 #[.slice A n c, .func (.func 69) #[] #[.pointer (some ⟨g, 0, none⟩)]] w fun e w' => e = .returned (.bool b) ∧ Below w.heap.size w w' := by
  have hi := Aside0.mk (sidx69_w w A n c l P g hn hC hF)
  cases b with
  | true =>
    replace hb := Aside0.mk hb
    clear hC
    go_enter Try.func77, Try.ntmps77
    go_wp2_with (go_at_call 83; refine hi.out.mono ?_; rintro e w1 ⟨⟨r, rfl, hr⟩, hb1⟩; have hr0 : 0 ≤ r := (by rcases hr with ⟨_, h⟩ | ⟨h, _⟩; exact h; rw [hb.out] at h; cases h); clear hr; replace hb1 := Aside0.mk hb1)
    go_ret
    exact ⟨by first | rfl | simp [hr0], hb1.out⟩
  | false =>
    replace hb := Aside0.mk hb
    clear hC
    go_enter Try.func77, Try.ntmps77
    go_wp2_with (go_at_call 83; refine hi.out.mono ?_; rintro e w1 ⟨⟨r, rfl, hr⟩, hb1⟩; obtain rfl : r = -1 := (by rcases hr with ⟨h, _⟩ | ⟨_, h⟩; rw [hb.out] at h; cases h; exact h); clear hr; replace hb1 := Aside0.mk hb1)
    go_ret
    exact ⟨by first | rfl | simp, hb1.out⟩
set_option maxHeartbeats 8000000 in
set_option maxRecDepth 1000000 in
theorem some69_w (w : World) (A : Option Addr) (n c : Nat) (l : List S70) (P : S70 → Bool) (g : Nat) (b : Bool) (hb : anys l P = b) (hn : l.length = n) (hC : Kd.C k70 w A n l)
    (hF : Aside0 (∀ s A9 c9 W, s ∈ l → Below w.heap.size w W → Kd.C k126 W A9 s.f9.length s.f9 → s.f9.length ≤ c9 → Calls Try.prog 69 #[.agg #[.int .u64 s.f0, .int .u64 s.f1, .int .u64 s.f2, .string s.f3, .string s.f4, .int .i64 s.f5, .int .i64 s.f6, .int .u64 s.f7, .int .u64 s.f8, .slice A9 s.f9.length c9], .pointer (some ⟨g, 0, none⟩)] W fun e w' => e = .returned (.bool (P s)) ∧ Below W.heap.size W w')) :
    Calls Try.prog 64 #[.slice A n c, .func (.func 69) #[] #[.pointer (some ⟨g, 0, none⟩)]] w fun e w' => e = .returned (.bool b) ∧ Below w.heap.size w w' := by
  have hi := Aside0.mk (sany69_w w A n c l P g b hb hn hC hF)
  clear hC
  go_enter Try.func64, Try.ntmps64
  go_wp2_with (go_at_call 77; refine hi.out.mono ?_; rintro e w1 ⟨rfl, hb1⟩; replace hb1 := Aside0.mk hb1)
  go_ret
  exact ⟨rfl, hb1.out⟩
end Go.Proofs.Ytgpkihnihmbomaa.Pt
