/- The walk of the law StrtabReads. No conditions but bounds. -/
import Derived.Test.YtfgpcoocbblkiaaSp
namespace Go.Proofs.Ytfgpcoocbblkiaa.St
open Go.RowKit Go.Maps Go.ChangeMaps Go.MapKept Go.Proofs.YtfgpcoocbblkiaaW.PrintWords Go.Proofs.YtfgpcoocbblkiaaW.PrintLast
open Go.Proofs.Ytfgpcoocbblkiaa.Ob Go.Proofs.Ytfgpcoocbblkiaa.XSv Go.Proofs.Ytfgpcoocbblkiaa.Var
set_option linter.unusedSimpArgs false
set_option linter.unusedVariables false

theorem red_ok {w w' : World} {r : Ending} {x : List ByteArray × Nat × Nat} {L : List ByteArray} {j : Nat} (h : Red w w' r x) (e : x = (L, j, 0)) :
    ∃ N B b, r = .returned (.tuple #[.pointer (some ⟨N, 0, none⟩), .int .i64 (j : Int), .int .i64 0]) ∧ Ts w w' N B b L := by
  subst e
  rcases h with ⟨_, h⟩ | ⟨h, _⟩
  · exact h
  · exact absurd rfl h
theorem red_bad {w w' : World} {r : Ending} {x : List ByteArray × Nat × Nat} {L : List ByteArray} {j f : Nat} (h : Red w w' r x) (e : x = (L, j, f)) (hf : f ≠ 0) :
    r = .returned (.tuple #[.pointer none, .int .i64 0, .int .i64 (f : Int)]) ∧ Only (fun _ => False) w w' := by
  subst e
  rcases h with ⟨h, _⟩ | ⟨_, h⟩
  · exact absurd h hf
  · exact h
theorem rread_walk (w : World) (A : Option Addr) (c : Nat) (l : List Nat) (hC : Kd.C (Kd.int .u8) w A (ofN l).length (ofN l)) (hc : (ofN l).length ≤ c) (hw : ∀ n ∈ l, n ≤ 255) (hl : l.length ≤ 20000) (L : List ByteArray) (j f : Nat) (h : readN l = (L, j, f)) :
    Calls Try.prog 23 #[.slice A (ofN l).length c] w fun r w' => ∃ A1 m1 c1, r = .returned (.tuple #[.slice A1 m1 c1, .int .i64 (j : Int), .int .i64 (f : Int)]) ∧ Only (fun _ => False) w w' ∧ Kd.C Kd.string w' A1 m1 L ∧ m1 = L.length := by
  have e1 : tallyroomref05_Read.f (2 * l.length + 40000) (ofN l) = some (L, (j : Int), (f : Int)) := by rw [ref_f l hw hl, h]; rfl
  refine (tallyroomref05_Read.calls (2 * l.length + 40000) A c (ofN l) L _ _ w hC hc e1).mono ?_
  rintro r w' ⟨v0, rfl, hR, hB⟩
  obtain ⟨A1, m1, c1, rfl, hm⟩ := R_sl hR
  obtain ⟨h1, h2, h3⟩ := Kd.R_reads' hR
  exact ⟨A1, m1, c1, rfl, Only.of_below hB (fun k hk _ => hk), by rw [h1]; exact h3, hm⟩
set_option maxHeartbeats 8000000 in
set_option maxRecDepth 1000000 in
theorem reads_law (A : Option Addr) (c : Nat) (l : List Nat) (w : World) (hC : Kd.C (Kd.int .u8) w A (ofN l).length (ofN l)) (hc : (ofN l).length ≤ c) (hw : ∀ n ∈ l, n ≤ 255) :
    Calls Try.prog 5 #[.slice A (ofN l).length c] w fun r w' => r = .returned (.bool true) ∧ Below w.heap.size w w' := by
  replace hC := Aside0.mk hC
  replace hw := Aside0.mk hw
  replace hc := Aside0.mk hc
  have hlen := Aside0.mk (ofN_length l)
  generalize hq : (ofN l).length = q at hlen hC hc ⊢
  replace hq := Aside0.mk hq
  by_cases h5 : (q : Int) > 5000
  · go_enter Try.func5, Try.ntmps5
    go_wp2_with (go_at_call 12; refine (alive_walk _).mono ?_; rintro r w1 ⟨rfl, ho⟩)
    go_ret
    exact ⟨rfl, below_of ho⟩
  · have hl : Aside0 (l.length ≤ 20000) := ⟨by have := hlen.out; omega⟩
    obtain ⟨L, j, f, hr⟩ : ∃ L j f, readN l = (L, j, f) := ⟨_, _, _, rfl⟩
    replace hr := Aside0.mk hr
    have hR22 : Aside0 (∀ W, Only (fun _ => False) w W → Calls Try.prog 22 #[.slice A q c] W fun r w' => Red W w' r (readN l)) := ⟨fun W ho => by
      have := hq.out; subst this
      exact read_walk W A c l (Kd.C_below hC.out (below_of ho)) hc.out hw.out hl.out⟩
    have hR23 : Aside0 (∀ W, Only (fun _ => False) w W → Calls Try.prog 23 #[.slice A q c] W fun r w' => ∃ A1 m1 c1, r = .returned (.tuple #[.slice A1 m1 c1, .int .i64 (j : Int), .int .i64 (f : Int)]) ∧ Only (fun _ => False) W w' ∧ Kd.C Kd.string w' A1 m1 L ∧ m1 = L.length) := ⟨fun W ho => by
      have := hq.out; subst this
      exact rread_walk W A c l (Kd.C_below hC.out (below_of ho)) hc.out hw.out hl.out L j f hr.out⟩
    by_cases hf : f = 0
    · subst hf
      go_enter Try.func5, Try.ntmps5
      go_wp2_with (first
        | (go_at_call 12; refine (alive_walk _).mono ?_; rintro r w1 ⟨rfl, ho⟩; replace ho := Aside0.mk ho)
        | (go_at_call 22; with_reducible refine (hR22.out _ ho.out).mono ?_; rintro r w2 hred; obtain ⟨N, B, b, rfl, H⟩ := red_ok hred hr.out; clear hred; replace H := Aside0.mk H)
        | (go_at_call 23; with_reducible refine (hR23.out _ (ho.out.trans H.out.o)).mono ?_; rintro r w3 ⟨A1, m1, c1, rfl, ho3, hL, hm⟩; replace H := Aside0.mk (H.out.keep ho3); replace hL := Aside0.mk hL; replace hm := Aside0.mk hm; clear ho3)
        | (go_at_call 16; refine (shows_walk _ N B _ b L A1 m1 c1 H.out.t hL.out hm.out).mono ?_; rintro r w4 ⟨rfl, hw4⟩; subst hw4))
      go_ret
      exact ⟨by first | rfl | simp, below_of (ho.out.trans H.out.o)⟩
    · have hfI : ¬ (f : Int) = 0 := by omega
      go_enter Try.func5, Try.ntmps5
      go_wp2_with (first
        | (go_at_call 12; refine (alive_walk _).mono ?_; rintro r w1 ⟨rfl, ho⟩; replace ho := Aside0.mk ho)
        | (go_at_call 22; with_reducible refine (hR22.out _ ho.out).mono ?_; rintro r w2 hred; obtain ⟨rfl, ho2⟩ := red_bad hred hr.out hf; clear hred; replace ho2 := Aside0.mk (ho.out.trans ho2))
        | (go_at_call 23; with_reducible refine (hR23.out _ ho2.out).mono ?_; rintro r w3 ⟨A1, m1, c1, rfl, ho3, hL, hm⟩; replace ho3 := Aside0.mk (ho2.out.trans ho3); clear hL hm))
      go_ret
      exact ⟨by first | rfl | simp, below_of ho3.out⟩
end Go.Proofs.Ytfgpcoocbblkiaa.St
