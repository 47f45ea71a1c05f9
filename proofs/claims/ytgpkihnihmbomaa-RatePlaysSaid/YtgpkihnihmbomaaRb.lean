/- RateAnew, walked: a forgotten window begins anew. No conditions but bounds. -/
import Derived.Test.YtgpkihnihmbomaaRa
namespace Go.Proofs.Ytgpkihnihmbomaa.Ra
open Go.RowKit Go.Proofs.YtgpkihnihmbomaaW.PrintWords Go.Proofs.YtgpkihnihmbomaaW.PrintLast
open Go.Proofs.Ytgpkihnihmbomaa.Ob

/-- What was done to new blocks alone. -/
theorem fresh {F S : Nat → Prop} {w a b : World} (h : Only F w a) (k : Only S a b) (hS : ∀ i, S i → w.heap.size ≤ i) : Only F w b :=
  ⟨k.os.trans h.os, k.tape.trans h.tape, k.output.trans h.output, Nat.le_trans h.size k.size, fun i hi hf => (k.block i (Nat.lt_of_lt_of_le hi h.size) fun e => by have := hS i e; omega).trans (h.block i hi hf)⟩
/-- A gate of which two windows are looked at: how many passed in each, and whether it knows the first. -/
structure Gi (w wr : World) (N B most c : Nat) (kw ko p o : Nat) (h : Bool) : Prop where
  g : ∃ f has, IsGate wr N B most c f has ∧ f kw = p ∧ f ko = o ∧ has kw = h
  only : Only (fun _ => False) w wr
  wb : w.heap.size ≤ B
theorem gi_pass {w wr : World} {N B most c kw ko p o : Nat} {h : Bool} (G : Gi w wr N B most c kw ko p o h) (hne : ko ≠ kw) (hk : kw < 18446744073709551616) (hm : most ≤ 65536) (hc : c < 1000000) (b : Bool) (hb : decide (p < most) = b) :
    Calls Try.prog 16 #[.pointer (some ⟨N, 0, none⟩), .int .u64 (kw : Int)] wr fun r w' => r = .returned (.bool b) ∧ Gi w w' N B most (c + 1) kw ko (if p < most then p + 1 else p) o true := by
  obtain ⟨⟨f, has, hg, rfl, rfl, rfl⟩, ho, hB⟩ := G
  subst hb
  refine (pass_walk N B most c f has kw wr hg hk hm hc).mono ?_
  rintro r w' ⟨rfl, hg', ho'⟩
  exact ⟨rfl, ⟨_, _, hg', by simp [at'], by simp [at', hne], by simp [at']⟩, fresh ho ho' (by rintro i rfl; exact hB), hB⟩
theorem gi_pass_o {w wr : World} {N B most c kw ko p o : Nat} {h : Bool} (G : Gi w wr N B most c kw ko p o h) (hne : ko ≠ kw) (hk : ko < 18446744073709551616) (hm : most ≤ 65536) (hc : c < 1000000) (b : Bool) (hb : decide (o < most) = b) :
    Calls Try.prog 16 #[.pointer (some ⟨N, 0, none⟩), .int .u64 (ko : Int)] wr fun r w' => r = .returned (.bool b) ∧ Gi w w' N B most (c + 1) kw ko p (if o < most then o + 1 else o) h := by
  obtain ⟨⟨f, has, hg, rfl, rfl, rfl⟩, ho, hB⟩ := G
  subst hb
  refine (pass_walk N B most c f has ko wr hg hk hm hc).mono ?_
  rintro r w' ⟨rfl, hg', ho'⟩
  exact ⟨rfl, ⟨_, _, hg', by simp [at', hne.symm], by simp [at'], by simp [at', hne.symm]⟩, fresh ho ho' (by rintro i rfl; exact hB), hB⟩
theorem gi_passed {w wr : World} {N B most c kw ko p o : Nat} {h : Bool} (G : Gi w wr N B most c kw ko p o h) (hk : kw < 18446744073709551616) :
    Calls Try.prog 17 #[.pointer (some ⟨N, 0, none⟩), .int .u64 (kw : Int)] wr fun r w' => r = .returned (.int .i64 (p : Int)) ∧ w' = wr := by
  obtain ⟨⟨f, has, hg, rfl, rfl, rfl⟩, ho, hB⟩ := G
  exact passed_walk N B most c f has kw wr hg hk
theorem gi_passed_o {w wr : World} {N B most c kw ko p o : Nat} {h : Bool} (G : Gi w wr N B most c kw ko p o h) (hk : ko < 18446744073709551616) :
    Calls Try.prog 17 #[.pointer (some ⟨N, 0, none⟩), .int .u64 (ko : Int)] wr fun r w' => r = .returned (.int .i64 (o : Int)) ∧ w' = wr := by
  obtain ⟨⟨f, has, hg, rfl, rfl, rfl⟩, ho, hB⟩ := G
  exact passed_walk N B most c f has ko wr hg hk
theorem gi_forget {w wr : World} {N B most c kw ko p o : Nat} {h : Bool} (G : Gi w wr N B most c kw ko p o h) (hne : ko ≠ kw) (hk : kw < 18446744073709551616) :
    Calls Try.prog 18 #[.pointer (some ⟨N, 0, none⟩), .int .u64 (kw : Int)] wr fun r w' => r = .returned (.bool h) ∧ Gi w w' N B most c kw ko 0 o false := by
  obtain ⟨⟨f, has, hg, rfl, rfl, rfl⟩, ho, hB⟩ := G
  refine (forget_walk N B most c f has kw wr hg hk).mono ?_
  rintro r w' ⟨rfl, hg', ho'⟩
  exact ⟨rfl, ⟨_, _, hg', by simp [at'], by simp [at', hne], by simp [at']⟩, fresh ho ho' (by rintro i rfl; exact hB), hB⟩
/-- A gate was made: two windows of it, nobody passed. -/
theorem gi_new {w wr : World} (ho : Only (fun _ => False) w wr) (m kw ko : Nat) (hm : m ≤ 65536) : Calls Try.prog 15 #[.int .i64 (m : Int)] wr fun r w' => ∃ N B, r = .returned (.tuple #[.pointer (some ⟨N, 0, none⟩), .int .i64 0]) ∧ Gi w w' N B m 0 kw ko 0 0 false := by
  refine (new_walk m wr hm).mono ?_
  rintro r w' ⟨N, B, rfl, hN, hB, _, _, hg, ho'⟩
  exact ⟨N, B, rfl, ⟨_, _, hg, rfl, rfl, rfl⟩, ho.trans ho', Nat.le_trans ho.size hB⟩

set_option maxHeartbeats 4000000 in
set_option maxRecDepth 1000000 in
theorem alive_walk (w : World) : Calls Try.prog 14 #[] w fun r w' => r = .returned (.bool true) ∧ Only (fun _ => False) w w' := by
  go_enter Try.func14, Try.ntmps14
  go_wp2_with (go_at_call 15; refine (gi_new (Only.refl _ w) 1 5 6 (by decide)).mono ?_; rintro r w1 ⟨N, B, rfl, G1⟩; replace G1 := Aside0.mk G1)
  go_wp2_with (go_at_call 16; refine (gi_pass G1.out (by decide) (by decide) (by decide) (by decide) true rfl).mono ?_; rintro r w2 ⟨rfl, G2⟩; replace G2 := Aside0.mk G2; clear G1)
  go_wp2_with (go_at_call 16; refine (gi_pass G2.out (by decide) (by decide) (by decide) (by decide) false rfl).mono ?_; rintro r w3 ⟨rfl, G3⟩; replace G3 := Aside0.mk G3; clear G2)
  go_wp2_with (go_at_call 16; refine (gi_pass_o G3.out (by decide) (by decide) (by decide) (by decide) true rfl).mono ?_; rintro r w4 ⟨rfl, G4⟩; replace G4 := Aside0.mk G4; clear G3)
  go_wp2_with (go_at_call 15; refine (new_bad (-1) _ (.inl (by decide))).mono ?_; rintro r w5 ⟨rfl, rfl⟩)
  go_ret
  exact ⟨rfl, G4.out.only⟩

/-- How many of so many pass. -/
theorem min_step (n m : Nat) : (if min m n < m then min m n + 1 else min m n) = min m (n + 1) := by split <;> omega

set_option maxHeartbeats 8000000 in
set_option maxRecDepth 1000000 in
theorem anew_law (most asks kw ko : Nat) (w : World) (hm : most ≤ 255) (ha : asks ≤ 255) (hkw : kw < 18446744073709551616) (hko : ko < 18446744073709551616) :
    Calls Try.prog 3 #[.int .u8 (most : Int), .int .u8 (asks : Int), .int .u64 (kw : Int), .int .u64 (ko : Int)] w fun r w' => r = .returned (.bool true) ∧ Below w.heap.size w w' := by
  by_cases hne : kw = ko
  · subst hne
    go_enter Try.func3, Try.ntmps3
    go_wp2_with (go_at_call 14; refine (alive_walk _).mono ?_; rintro r w1 ⟨rfl, ho⟩)
    go_ret
    exact ⟨rfl, ho.below (fun _ h => h.elim) (Nat.le_refl _)⟩
  · have hne' : ko ≠ kw := fun e => hne e.symm
    have hneI : ¬ (kw : Int) = (ko : Int) := by omega
    go_enter Try.func3, Try.ntmps3
    go_wp2_with (first
      | (go_at_call 14; refine (alive_walk _).mono ?_; rintro r w1 ⟨rfl, ho⟩; replace ho := Aside0.mk ho)
      | (go_at_call 15; refine (gi_new ho.out most kw ko (by omega)).mono ?_; rintro r w2 ⟨N, B, rfl, G0⟩; replace G0 := Aside0.mk G0; clear ho))
    go_loopg [11] 3 (fun kq v11 wr => ∃ (t c : Nat) (h : Bool), v11 = .int .i64 (t : Int) ∧ t ≤ 2 ∧ 2 - t < kq ∧ c ≤ 600 * t ∧ Aside0 (Gi w wr N B most c kw ko 0 (if t = 0 then 0 else min most (min asks 3)) h) ∧ h = false)
    case atStart => exact ⟨0, 0, false, rfl, by omega, by omega, by omega, G0, rfl⟩
    case round =>
      clear G0
      obtain ⟨t, c, h, rfl, ht, hk, hc, HG, rfl⟩ := hrel
      obtain ⟨k1, rfl⟩ : ∃ m, gk = m + 1 := ⟨gk - 1, by omega⟩
      by_cases ht2 : t < 2
      · have ht3 : (t : Int) < 2 := by omega
        -- the asks
        go_wp2
        have hh : Aside0 (false = decide (0 < 0)) := ⟨rfl⟩
        go_loopg [12, 13] (asks + 1) (fun kq v12 v13 wq => ∃ (i c2 p o : Nat) (h : Bool), v12 = .int .i64 (p : Int) ∧ v13 = .int .i64 (i : Int) ∧ i ≤ asks ∧ asks - i < kq ∧ c2 ≤ 600 * t + 2 * i ∧ Aside0 (p = min most i) ∧ Aside0 (o = if t = 0 then min most (min i 3) else min most (min asks 3)) ∧ Aside0 (h = decide (0 < i)) ∧ Aside0 (Gi w wq N B most c2 kw ko p o h))
        case atStart => exact ⟨0, c, 0, (if t = 0 then 0 else min most (min asks 3)), false, rfl, rfl, by omega, by omega, by omega, ⟨by omega⟩, ⟨by split <;> omega⟩, ⟨by simp⟩, HG⟩
        case round =>
          obtain ⟨i, c2, p, o, h, rfl, rfl, hi, hk2, hc2, hpm, hom, hhm, HQ⟩ := hrel
          obtain ⟨k2, rfl⟩ : ∃ m, gk = m + 1 := ⟨gk - 1, by omega⟩
          clear HG hh
          by_cases hil : i < asks
          · have hil' : (i : Int) < (asks : Int) := by omega
            have ht01 : t = 0 ∨ t = 1 := by omega
            rcases ht01 with rfl | rfl
            · by_cases hi3 : i < 3
              · have hi3' : (i : Int) < 3 := by omega
                by_cases hp : p < most
                · have hb : decide (p < most) = true := decide_eq_true hp
                  replace hb := Aside0.mk hb
                  go_wp2_with (go_at_call 16; refine (gi_pass HQ.out hne' hkw (by omega) (by omega) true hb.out).mono ?_; rintro r w3 ⟨rfl, G3⟩; rw [if_pos hp] at G3; replace G3 := Aside0.mk G3; clear HQ)
                  go_wp2_with (go_at_call 16; refine (gi_pass_o G3.out hne' hko (by omega) (by omega) _ rfl).mono ?_; rintro r w4 ⟨rfl, G4⟩; replace G4 := Aside0.mk G4; clear G3)
                  go_roundg k2
                  case measure => omega
                  case rel => exact ⟨i + 1, c2 + 1 + 1, p + 1, (if o < most then o + 1 else o), true, rfl, rfl, by omega, by omega, by omega, ⟨by have := hpm.out; omega⟩, ⟨by have := hom.out; simp only [if_true] at this ⊢; subst this; split <;> omega⟩, ⟨by simp⟩, G4⟩
                · have hb : decide (p < most) = false := decide_eq_false hp
                  replace hb := Aside0.mk hb
                  go_wp2_with (go_at_call 16; refine (gi_pass HQ.out hne' hkw (by omega) (by omega) false hb.out).mono ?_; rintro r w3 ⟨rfl, G3⟩; rw [if_neg hp] at G3; replace G3 := Aside0.mk G3; clear HQ)
                  go_wp2_with (go_at_call 16; refine (gi_pass_o G3.out hne' hko (by omega) (by omega) _ rfl).mono ?_; rintro r w4 ⟨rfl, G4⟩; replace G4 := Aside0.mk G4; clear G3)
                  go_roundg k2
                  case measure => omega
                  case rel => exact ⟨i + 1, c2 + 1 + 1, p, (if o < most then o + 1 else o), true, rfl, rfl, by omega, by omega, by omega, ⟨by have := hpm.out; omega⟩, ⟨by have := hom.out; simp only [if_true] at this ⊢; subst this; split <;> omega⟩, ⟨by simp⟩, G4⟩
              · have hi3' : ¬ (i : Int) < 3 := by omega
                by_cases hp : p < most
                · have hb : decide (p < most) = true := decide_eq_true hp
                  replace hb := Aside0.mk hb
                  go_wp2_with (go_at_call 16; refine (gi_pass HQ.out hne' hkw (by omega) (by omega) true hb.out).mono ?_; rintro r w3 ⟨rfl, G3⟩; rw [if_pos hp] at G3; replace G3 := Aside0.mk G3; clear HQ)
                  go_roundg k2
                  case measure => omega
                  case rel => exact ⟨i + 1, c2 + 1, p + 1, o, true, rfl, rfl, by omega, by omega, by omega, ⟨by have := hpm.out; omega⟩, ⟨by have := hom.out; simp only [if_true] at this ⊢; omega⟩, ⟨by simp⟩, G3⟩
                · have hb : decide (p < most) = false := decide_eq_false hp
                  replace hb := Aside0.mk hb
                  go_wp2_with (go_at_call 16; refine (gi_pass HQ.out hne' hkw (by omega) (by omega) false hb.out).mono ?_; rintro r w3 ⟨rfl, G3⟩; rw [if_neg hp] at G3; replace G3 := Aside0.mk G3; clear HQ)
                  go_roundg k2
                  case measure => omega
                  case rel => exact ⟨i + 1, c2 + 1, p, o, true, rfl, rfl, by omega, by omega, by omega, ⟨by have := hpm.out; omega⟩, ⟨by have := hom.out; simp only [if_true] at this ⊢; omega⟩, ⟨by simp⟩, G3⟩
            · by_cases hi3 : (i : Int) < 3
              · by_cases hp : p < most
                · have hb : decide (p < most) = true := decide_eq_true hp
                  replace hb := Aside0.mk hb
                  go_wp2_with (go_at_call 16; refine (gi_pass HQ.out hne' hkw (by omega) (by omega) true hb.out).mono ?_; rintro r w3 ⟨rfl, G3⟩; rw [if_pos hp] at G3; replace G3 := Aside0.mk G3; clear HQ)
                  go_roundg k2
                  case measure => omega
                  case rel => exact ⟨i + 1, c2 + 1, p + 1, o, true, rfl, rfl, by omega, by omega, by omega, ⟨by have := hpm.out; omega⟩, ⟨by have := hom.out; simpa using this⟩, ⟨by simp⟩, G3⟩
                · have hb : decide (p < most) = false := decide_eq_false hp
                  replace hb := Aside0.mk hb
                  go_wp2_with (go_at_call 16; refine (gi_pass HQ.out hne' hkw (by omega) (by omega) false hb.out).mono ?_; rintro r w3 ⟨rfl, G3⟩; rw [if_neg hp] at G3; replace G3 := Aside0.mk G3; clear HQ)
                  go_roundg k2
                  case measure => omega
                  case rel => exact ⟨i + 1, c2 + 1, p, o, true, rfl, rfl, by omega, by omega, by omega, ⟨by have := hpm.out; omega⟩, ⟨by have := hom.out; simpa using this⟩, ⟨by simp⟩, G3⟩
              · by_cases hp : p < most
                · have hb : decide (p < most) = true := decide_eq_true hp
                  replace hb := Aside0.mk hb
                  go_wp2_with (go_at_call 16; refine (gi_pass HQ.out hne' hkw (by omega) (by omega) true hb.out).mono ?_; rintro r w3 ⟨rfl, G3⟩; rw [if_pos hp] at G3; replace G3 := Aside0.mk G3; clear HQ)
                  go_roundg k2
                  case measure => omega
                  case rel => exact ⟨i + 1, c2 + 1, p + 1, o, true, rfl, rfl, by omega, by omega, by omega, ⟨by have := hpm.out; omega⟩, ⟨by have := hom.out; simpa using this⟩, ⟨by simp⟩, G3⟩
                · have hb : decide (p < most) = false := decide_eq_false hp
                  replace hb := Aside0.mk hb
                  go_wp2_with (go_at_call 16; refine (gi_pass HQ.out hne' hkw (by omega) (by omega) false hb.out).mono ?_; rintro r w3 ⟨rfl, G3⟩; rw [if_neg hp] at G3; replace G3 := Aside0.mk G3; clear HQ)
                  go_roundg k2
                  case measure => omega
                  case rel => exact ⟨i + 1, c2 + 1, p, o, true, rfl, rfl, by omega, by omega, by omega, ⟨by have := hpm.out; omega⟩, ⟨by have := hom.out; simpa using this⟩, ⟨by simp⟩, G3⟩
          · obtain rfl : i = asks := by omega
            have hout := Aside0.mk (show o = min most (min i 3) by have := hom.out; split at this <;> exact this)
            have hpm' := hpm.out
            have hgo : ∀ (q : Nat), q = min most i → Aside0 (Gi w _ N B most c2 kw ko q o h) := fun q hq => by rw [hq, ← hpm']; exact HQ
            clear HQ hpm hom
            by_cases h0 : i = 0
            · subst h0
              obtain rfl : p = 0 := by omega
              obtain rfl : h = false := by rw [hhm.out]; rfl
              have HQ := hgo 0 (by omega)
              clear hgo hhm hpm'
              rcases Nat.eq_zero_or_pos most with hm0 | hm0
              · subst hm0
                go_wp2_with (go_at_call 17; refine (gi_passed HQ.out hkw).mono ?_; rintro r w5 ⟨rfl, rfl⟩)
                go_wp2_with (go_at_call 18; refine (gi_forget HQ.out hne' hkw).mono ?_; rintro r w6 ⟨rfl, G6⟩; replace G6 := Aside0.mk G6; clear HQ)
                go_wp2_with (go_at_call 17; refine (gi_passed G6.out hkw).mono ?_; rintro r w7 ⟨rfl, rfl⟩)
                go_roundg k1
                case measure => omega
                case rel => exact ⟨t + 1, c2, false, rfl, by omega, by omega, by omega, ⟨by rw [if_neg (by omega), ← hout.out]; exact G6.out⟩, rfl⟩
              · have hm1 : ¬ most < 0 := by omega
                go_wp2_with (go_at_call 17; refine (gi_passed HQ.out hkw).mono ?_; rintro r w5 ⟨rfl, rfl⟩)
                go_wp2_with (go_at_call 18; refine (gi_forget HQ.out hne' hkw).mono ?_; rintro r w6 ⟨rfl, G6⟩; replace G6 := Aside0.mk G6; clear HQ)
                go_wp2_with (go_at_call 17; refine (gi_passed G6.out hkw).mono ?_; rintro r w7 ⟨rfl, rfl⟩)
                go_roundg k1
                case measure => omega
                case rel => exact ⟨t + 1, c2, false, rfl, by omega, by omega, by omega, ⟨by rw [if_neg (by omega), ← hout.out]; exact G6.out⟩, rfl⟩
            · have h0' : 0 < i := by omega
              have h0'' : (0 : Int) < (i : Int) := by omega
              obtain rfl : h = true := by rw [hhm.out]; exact decide_eq_true h0'
              clear hhm
              rcases Nat.lt_trichotomy most i with hx | hx | hx
              · have hx1 : ¬ i < most := by omega
                obtain rfl : p = most := by omega
                have HQ := hgo p (by omega)
                clear hgo hpm'
                go_wp2_with (go_at_call 17; refine (gi_passed HQ.out hkw).mono ?_; rintro r w5 ⟨rfl, rfl⟩)
                go_wp2_with (go_at_call 18; refine (gi_forget HQ.out hne' hkw).mono ?_; rintro r w6 ⟨rfl, G6⟩; replace G6 := Aside0.mk G6; clear HQ)
                go_wp2_with (go_at_call 17; refine (gi_passed G6.out hkw).mono ?_; rintro r w7 ⟨rfl, rfl⟩)
                go_roundg k1
                case measure => omega
                case rel => exact ⟨t + 1, c2, false, rfl, by omega, by omega, by omega, ⟨by rw [if_neg (by omega), ← hout.out]; exact G6.out⟩, rfl⟩
              · subst hx
                obtain rfl : p = most := by omega
                have HQ := hgo p (by omega)
                clear hgo hpm'
                go_wp2_with (go_at_call 17; refine (gi_passed HQ.out hkw).mono ?_; rintro r w5 ⟨rfl, rfl⟩)
                go_wp2_with (go_at_call 18; refine (gi_forget HQ.out hne' hkw).mono ?_; rintro r w6 ⟨rfl, G6⟩; replace G6 := Aside0.mk G6; clear HQ)
                go_wp2_with (go_at_call 17; refine (gi_passed G6.out hkw).mono ?_; rintro r w7 ⟨rfl, rfl⟩)
                go_roundg k1
                case measure => omega
                case rel => exact ⟨t + 1, c2, false, rfl, by omega, by omega, by omega, ⟨by rw [if_neg (by omega), ← hout.out]; exact G6.out⟩, rfl⟩
              · have hx1 : ¬ most < i := by omega
                obtain rfl : p = i := by omega
                have HQ := hgo p (by omega)
                clear hgo hpm'
                go_wp2_with (go_at_call 17; refine (gi_passed HQ.out hkw).mono ?_; rintro r w5 ⟨rfl, rfl⟩)
                go_wp2_with (go_at_call 18; refine (gi_forget HQ.out hne' hkw).mono ?_; rintro r w6 ⟨rfl, G6⟩; replace G6 := Aside0.mk G6; clear HQ)
                go_wp2_with (go_at_call 17; refine (gi_passed G6.out hkw).mono ?_; rintro r w7 ⟨rfl, rfl⟩)
                go_roundg k1
                case measure => omega
                case rel => exact ⟨t + 1, c2, false, rfl, by omega, by omega, by omega, ⟨by rw [if_neg (by omega), ← hout.out]; exact G6.out⟩, rfl⟩
      · obtain rfl : t = 2 := by omega
        have HG2 : Aside0 (Gi w wr N B most c kw ko 0 (min most (min asks 3)) false) := HG
        clear HG
        generalize hz : min most (min asks 3) = z at HG2
        have hz2 := Aside0.mk hz
        clear hz
        rcases Nat.lt_trichotomy asks 3 with hx | hx | hx
        · have hx1 : ¬ 3 < asks := by omega
          rcases Nat.lt_trichotomy most asks with hy | hy | hy
          · obtain rfl : z = most := by have := hz2.out; omega
            have hy1 : ¬ asks < z := by omega
            go_wp2_with (go_at_call 17; refine (gi_passed_o HG2.out hko).mono ?_; rintro r w7 ⟨rfl, rfl⟩)
            go_ret
            exact ⟨by first | rfl | simp, HG2.out.only.below (fun _ h => h.elim) (Nat.le_refl _)⟩
          · obtain rfl : z = most := by have := hz2.out; omega
            subst hy
            go_wp2_with (go_at_call 17; refine (gi_passed_o HG2.out hko).mono ?_; rintro r w7 ⟨rfl, rfl⟩)
            go_ret
            exact ⟨by first | rfl | simp, HG2.out.only.below (fun _ h => h.elim) (Nat.le_refl _)⟩
          · obtain rfl : z = asks := by have := hz2.out; omega
            have hy1 : ¬ most < z := by omega
            go_wp2_with (go_at_call 17; refine (gi_passed_o HG2.out hko).mono ?_; rintro r w7 ⟨rfl, rfl⟩)
            go_ret
            exact ⟨by first | rfl | simp, HG2.out.only.below (fun _ h => h.elim) (Nat.le_refl _)⟩
        · subst hx
          rcases Nat.lt_trichotomy most 3 with hy | hy | hy
          · obtain rfl : z = most := by have := hz2.out; omega
            have hy1 : ¬ 3 < z := by omega
            go_wp2_with (go_at_call 17; refine (gi_passed_o HG2.out hko).mono ?_; rintro r w7 ⟨rfl, rfl⟩)
            go_ret
            exact ⟨by first | rfl | simp, HG2.out.only.below (fun _ h => h.elim) (Nat.le_refl _)⟩
          · subst hy
            obtain rfl : z = 3 := by have := hz2.out; omega
            go_wp2_with (go_at_call 17; refine (gi_passed_o HG2.out hko).mono ?_; rintro r w7 ⟨rfl, rfl⟩)
            go_ret
            exact ⟨by first | rfl | simp, HG2.out.only.below (fun _ h => h.elim) (Nat.le_refl _)⟩
          · obtain rfl : z = 3 := by have := hz2.out; omega
            have hy1 : ¬ most < 3 := by omega
            go_wp2_with (go_at_call 17; refine (gi_passed_o HG2.out hko).mono ?_; rintro r w7 ⟨rfl, rfl⟩)
            go_ret
            exact ⟨by first | rfl | simp, HG2.out.only.below (fun _ h => h.elim) (Nat.le_refl _)⟩
        · have hx1 : ¬ asks < 3 := by omega
          rcases Nat.lt_trichotomy most 3 with hy | hy | hy
          · obtain rfl : z = most := by have := hz2.out; omega
            have hy1 : ¬ 3 < z := by omega
            go_wp2_with (go_at_call 17; refine (gi_passed_o HG2.out hko).mono ?_; rintro r w7 ⟨rfl, rfl⟩)
            go_ret
            exact ⟨by first | rfl | simp, HG2.out.only.below (fun _ h => h.elim) (Nat.le_refl _)⟩
          · subst hy
            obtain rfl : z = 3 := by have := hz2.out; omega
            go_wp2_with (go_at_call 17; refine (gi_passed_o HG2.out hko).mono ?_; rintro r w7 ⟨rfl, rfl⟩)
            go_ret
            exact ⟨by first | rfl | simp, HG2.out.only.below (fun _ h => h.elim) (Nat.le_refl _)⟩
          · obtain rfl : z = 3 := by have := hz2.out; omega
            have hy1 : ¬ most < 3 := by omega
            go_wp2_with (go_at_call 17; refine (gi_passed_o HG2.out hko).mono ?_; rintro r w7 ⟨rfl, rfl⟩)
            go_ret
            exact ⟨by first | rfl | simp, HG2.out.only.below (fun _ h => h.elim) (Nat.le_refl _)⟩
end Go.Proofs.Ytgpkihnihmbomaa.Ra
