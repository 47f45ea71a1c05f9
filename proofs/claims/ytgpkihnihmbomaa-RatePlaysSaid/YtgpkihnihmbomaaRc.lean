/- RateApart, walked: windows don't hang on each other. No conditions but bounds. -/
import Derived.Test.YtgpkihnihmbomaaRb
namespace Go.Proofs.Ytgpkihnihmbomaa.Ra
open Go.RowKit Go.Proofs.YtgpkihnihmbomaaW.PrintWords Go.Proofs.YtgpkihnihmbomaaW.PrintLast
open Go.Proofs.Ytgpkihnihmbomaa.Ob

theorem IsGate.keep {w w' : World} {N B most c : Nat} {f : Nat → Nat} {has : Nat → Bool} (h : IsGate w N B most c f has) {S : Nat → Prop} (k : Only S w w') (h1 : ¬ S N) (h2 : ¬ S B) : IsGate w' N B most c f has := by
  obtain ⟨n, D, hn, hown, hD⟩ := h.own
  have hlt := hown.lt
  obtain ⟨es, clock, hb, r⟩ := hown
  exact ⟨h.ne, h.head.only k h1, n, D, hn, ⟨es, clock, (k.block B hlt h2).trans hb, r⟩, hD⟩
/-- A gate of which one window is looked at. -/
structure Ga (wr : World) (N B most c kw p : Nat) : Prop where
  g : ∃ f has, IsGate wr N B most c f has ∧ f kw = p
theorem Ga.keep {w w' : World} {N B most c kw p : Nat} (h : Ga w N B most c kw p) {S : Nat → Prop} (k : Only S w w') (h1 : ¬ S N) (h2 : ¬ S B) : Ga w' N B most c kw p := by
  obtain ⟨f, has, hg, e⟩ := h.g
  exact ⟨f, has, hg.keep k h1 h2, e⟩
theorem ga_pass {wr : World} {N B most c kw p : Nat} (G : Ga wr N B most c kw p) (hk : kw < 18446744073709551616) (hm : most ≤ 65536) (hc : c < 1000000) (b : Bool) (hb : decide (p < most) = b) :
    Calls Try.prog 16 #[.pointer (some ⟨N, 0, none⟩), .int .u64 (kw : Int)] wr fun r w' => r = .returned (.bool b) ∧ Ga w' N B most (c + 1) kw (if p < most then p + 1 else p) ∧ Only (fun j => j = B) wr w' := by
  obtain ⟨f, has, hg, rfl⟩ := G.g
  subst hb
  refine (pass_walk N B most c f has kw wr hg hk hm hc).mono ?_
  rintro r w' ⟨rfl, hg', ho'⟩
  exact ⟨rfl, ⟨_, _, hg', by simp [at']⟩, ho'⟩
theorem ga_other {wr : World} {N B most c kw p : Nat} (G : Ga wr N B most c kw p) (k : Nat) (hne : k ≠ kw) (hk : k < 18446744073709551616) (hm : most ≤ 65536) (hc : c < 1000000) :
    Calls Try.prog 16 #[.pointer (some ⟨N, 0, none⟩), .int .u64 (k : Int)] wr fun r w' => ∃ b : Bool, r = .returned (.bool b) ∧ Ga w' N B most (c + 1) kw p ∧ Only (fun j => j = B) wr w' := by
  obtain ⟨f, has, hg, rfl⟩ := G.g
  refine (pass_walk N B most c f has k wr hg hk hm hc).mono ?_
  rintro r w' ⟨rfl, hg', ho'⟩
  exact ⟨_, rfl, ⟨_, _, hg', by simp [at', hne.symm]⟩, ho'⟩
theorem ga_passed {wr : World} {N B most c kw p : Nat} (G : Ga wr N B most c kw p) (hk : kw < 18446744073709551616) :
    Calls Try.prog 17 #[.pointer (some ⟨N, 0, none⟩), .int .u64 (kw : Int)] wr fun r w' => r = .returned (.int .i64 (p : Int)) ∧ w' = wr := by
  obtain ⟨f, has, hg, rfl⟩ := G.g
  exact passed_walk N B most c f has kw wr hg hk
theorem pass_nil (k : Int) (w : World) : Calls Try.prog 16 #[.pointer none, .int .u64 k] w fun r w' => r = .returned (.bool false) ∧ w' = w := by
  go_enter Try.func16, Try.ntmps16
  go_wp2
  go_ret
  exact ⟨rfl, rfl⟩
theorem passed_nil (k : Int) (w : World) : Calls Try.prog 17 #[.pointer none, .int .u64 k] w fun r w' => r = .returned (.int .i64 0) ∧ w' = w := by
  go_enter Try.func17, Try.ntmps17
  go_wp2
  go_ret
  exact ⟨rfl, rfl⟩
theorem forget_nil (k : Int) (w : World) : Calls Try.prog 18 #[.pointer none, .int .u64 k] w fun r w' => r = .returned (.bool false) ∧ w' = w := by
  go_enter Try.func18, Try.ntmps18
  go_wp2
  go_ret
  exact ⟨rfl, rfl⟩
theorem len_nil (w : World) : Calls Try.prog 20 #[.pointer none] w fun r w' => r = .returned (.int .i64 0) ∧ w' = w := by
  go_enter Try.func20, Try.ntmps20
  go_wp2
  go_ret
  exact ⟨rfl, rfl⟩
/-- The bytes, as they stand in memory, whatever was made since. -/
def Bytes (w : World) (A0 : Option Addr) (n0 : Nat) (Q : Nat → Int) : Prop := ∀ W, Below w.heap.size w W → ∀ i, i < n0 → ∃ ad, A0 = some ad ∧ W.cell? (ad.add i) = some (.int .u8 (Q i))

set_option maxHeartbeats 8000000 in
set_option maxRecDepth 1000000 in
theorem apart_law (most kw : Nat) (A0 : Option Addr) (c0 n0 : Nat) (Q : Nat → Int) (w : World) (hm : most ≤ 255) (hkw : kw ≤ 255) (hr0 : Bytes w A0 n0 Q) (hq : ∀ i, i < n0 → 0 ≤ Q i ∧ Q i ≤ 255) :
    Calls Try.prog 5 #[.int .u8 (most : Int), .slice A0 n0 c0, .int .u8 (kw : Int)] w fun r w' => r = .returned (.bool true) ∧ Below w.heap.size w w' := by
  have HR0 := Aside0.mk hr0
  have HQ0 := Aside0.mk hq
  clear hr0 hq
  by_cases h200 : (n0 : Int) > 200
  · go_enter Try.func5, Try.ntmps5
    go_wp2_with (go_at_call 14; refine (alive_walk _).mono ?_; rintro r w1 ⟨rfl, ho⟩)
    go_ret
    exact ⟨rfl, ho.below (fun _ h => h.elim) (Nat.le_refl _)⟩
  · go_enter Try.func5, Try.ntmps5
    go_wp2_with (first
      | (go_at_call 14; refine (alive_walk _).mono ?_; rintro r w1 ⟨rfl, ho⟩; replace ho := Aside0.mk ho)
      | (go_at_call 15; refine (new_walk most _ (by omega)).mono ?_))
    rintro r w2 ⟨N1, B1, rfl, hN1, hB1, hN1', hB1', hg1, ho1⟩
    have hsz1 := ho.out.size
    have G1 := Aside0.mk (And.intro hg1 (ho.out.trans ho1))
    clear hg1 ho ho1
    go_wp2_with (go_at_call 15; refine (new_walk most _ (by omega)).mono ?_)
    rintro r w3 ⟨N2, B2, rfl, hN2, hB2, hN2', hB2', hg2, ho2⟩
    have hord : w.heap.size ≤ B1 ∧ w.heap.size ≤ B2 ∧ N1 ≠ B2 ∧ B1 ≠ B2 ∧ N2 ≠ B1 := by omega
    have G2 := Aside0.mk (show Ga w3 N1 B1 most 0 kw 0 ∧ Ga w3 N2 B2 most 0 kw 0 ∧ Only (fun _ => False) w w3 from ⟨⟨_, _, G1.out.1.keep ho2 id id, rfl⟩, ⟨_, _, hg2, rfl⟩, G1.out.2.trans ho2⟩)
    clear hg2 ho2 G1 hN1 hB1 hN1' hB1' hN2 hB2 hN2' hB2' hsz1
    replace hord := Aside0.mk hord
    go_wp2
    go_loopg [11, 12] (n0 + 1) (fun kq v11 v12 wr => ∃ (n i c : Nat), v11 = .int .i64 (n : Int) ∧ v12 = .int .i64 (i : Int) ∧ i ≤ n0 ∧ n0 - i < kq ∧ n ≤ most ∧ c ≤ i ∧ Aside0 (Ga wr N1 B1 most i kw n ∧ Ga wr N2 B2 most c kw n ∧ Only (fun _ => False) w wr))
    case atStart => exact ⟨0, 0, 0, rfl, rfl, by omega, by omega, by omega, by omega, G2⟩
    case round =>
      clear G2
      obtain ⟨n, i, c, rfl, rfl, hi, hk, hn, hc, HG⟩ := hrel
      obtain ⟨k1, rfl⟩ : ∃ m, gk = m + 1 := ⟨gk - 1, by omega⟩
      have hbw := Aside0.mk (HG.out.2.2.below (fun _ h => h.elim) (Nat.le_refl _))
      by_cases hil : i < n0
      · have hil' : (i : Int) < (n0 : Int) := by omega
        obtain ⟨ad, eA, hx0⟩ := HR0.out _ hbw.out i hil
        cases eA
        have hq := HQ0.out i hil
        obtain ⟨k, hkk⟩ : ∃ k : Nat, Q i = (k : Int) := ⟨(Q i).toNat, by omega⟩
        have hxw := Aside0.mk (show ∀ W, Below w.heap.size w W → W.cell? (ad.add i) = some (.int .u8 (k : Int)) from fun W h => by
          obtain ⟨ad', e, hx⟩ := HR0.out W h i hil
          cases e
          rw [hkk] at hx
          exact hx)
        rw [hkk] at hx0 hq
        clear hkk
        by_cases hkw2 : k = kw
        · subst hkw2
          by_cases hlt : n < most
          · have hbb := Aside0.mk (show decide (n < most) = true from decide_eq_true hlt)
            go_wp2_with (first
              | (go_at_call 16; (with_reducible refine (ga_pass HG.out.1 (by omega) (by omega) (by omega) true hbb.out).mono ?_); rintro r w4 ⟨rfl, g4, o4⟩; rw [if_pos hlt] at g4; have hx1 := hxw.out _ (below_only hbw.out o4 (by rintro j rfl; exact hord.out.1) (Nat.le_refl _)); have H4 := Aside0.mk (And.intro g4 (And.intro (HG.out.2.1.keep o4 (fun e => hord.out.2.2.2.2 e) (fun e => hord.out.2.2.2.1 e.symm)) (fresh HG.out.2.2 o4 (by rintro j rfl; exact hord.out.1)))); clear g4 o4 HG)
              | (go_at_call 16; (with_reducible refine (ga_pass H4.out.2.1 (by omega) (by omega) (by omega) true hbb.out).mono ?_); rintro r w5 ⟨rfl, g5, o5⟩; rw [if_pos hlt] at g5; have H5 := Aside0.mk (And.intro (H4.out.1.keep o5 (fun e => hord.out.2.2.1 e) (fun e => hord.out.2.2.2.1 e)) (And.intro g5 (fresh H4.out.2.2 o5 (by rintro j rfl; exact hord.out.2.1)))); clear g5 o5 H4))
            go_roundg k1
            case measure => omega
            case rel => exact ⟨n + 1, i + 1, c + 1, rfl, rfl, by omega, by omega, by omega, by omega, H5⟩
          · have hbb := Aside0.mk (show decide (n < most) = false from decide_eq_false hlt)
            go_wp2_with (first
              | (go_at_call 16; (with_reducible refine (ga_pass HG.out.1 (by omega) (by omega) (by omega) false hbb.out).mono ?_); rintro r w4 ⟨rfl, g4, o4⟩; rw [if_neg hlt] at g4; have hx1 := hxw.out _ (below_only hbw.out o4 (by rintro j rfl; exact hord.out.1) (Nat.le_refl _)); have H4 := Aside0.mk (And.intro g4 (And.intro (HG.out.2.1.keep o4 (fun e => hord.out.2.2.2.2 e) (fun e => hord.out.2.2.2.1 e.symm)) (fresh HG.out.2.2 o4 (by rintro j rfl; exact hord.out.1)))); clear g4 o4 HG)
              | (go_at_call 16; (with_reducible refine (ga_pass H4.out.2.1 (by omega) (by omega) (by omega) false hbb.out).mono ?_); rintro r w5 ⟨rfl, g5, o5⟩; rw [if_neg hlt] at g5; have H5 := Aside0.mk (And.intro (H4.out.1.keep o5 (fun e => hord.out.2.2.1 e) (fun e => hord.out.2.2.2.1 e)) (And.intro g5 (fresh H4.out.2.2 o5 (by rintro j rfl; exact hord.out.2.1)))); clear g5 o5 H4))
            go_roundg k1
            case measure => omega
            case rel => exact ⟨n, i + 1, c + 1, rfl, rfl, by omega, by omega, by omega, by omega, H5⟩
        · have hkI : ¬ (k : Int) = (kw : Int) := by omega
          go_wp2_with (go_at_call 16; (with_reducible refine (ga_other HG.out.1 k hkw2 (by omega) (by omega) (by omega)).mono ?_); rintro r w4 ⟨b, rfl, g4, o4⟩; have hx1 := hxw.out _ (below_only hbw.out o4 (by rintro j rfl; exact hord.out.1) (Nat.le_refl _)); have H4 := Aside0.mk (And.intro g4 (And.intro (HG.out.2.1.keep o4 (fun e => hord.out.2.2.2.2 e) (fun e => hord.out.2.2.2.1 e.symm)) (fresh HG.out.2.2 o4 (by rintro j rfl; exact hord.out.1)))); clear g4 o4 HG)
          go_roundg k1
          case measure => omega
          case rel => exact ⟨n, i + 1, c, rfl, rfl, by omega, by omega, by omega, by omega, H4⟩
      · go_wp2_with (go_at_call 17; (with_reducible refine (ga_passed HG.out.1 (by omega)).mono ?_); rintro r w8 ⟨rfl, rfl⟩)
        go_wp2_with (go_at_call 17; (with_reducible refine (ga_passed HG.out.2.1 (by omega)).mono ?_); rintro r w8 ⟨rfl, rfl⟩)
        go_wp2_with (go_at_call 16; (with_reducible refine (pass_nil 1 _).mono ?_); rintro r w8 ⟨rfl, rfl⟩)
        go_wp2_with (go_at_call 17; (with_reducible refine (passed_nil 1 _).mono ?_); rintro r w8 ⟨rfl, rfl⟩)
        go_wp2_with (go_at_call 20; (with_reducible refine (len_nil _).mono ?_); rintro r w8 ⟨rfl, rfl⟩)
        go_wp2_with (go_at_call 18; (with_reducible refine (forget_nil 1 _).mono ?_); rintro r w8 ⟨rfl, rfl⟩)
        go_ret
        exact ⟨by first | rfl | simp, hbw.out⟩
end Go.Proofs.Ytgpkihnihmbomaa.Ra
