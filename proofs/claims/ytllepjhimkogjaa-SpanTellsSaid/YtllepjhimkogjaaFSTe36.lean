/- The law's proof, part 36: the text Rf of this session, or words printed for this seat; what the theorem doesn't use is left out. No conditions. -/
import Derived.Test.YtllepjhimkogjaaFSTe32
import Derived.Test.YtllepjhimkogjaaFSTe35
namespace Go.Proofs.Ytllepjhimkogjaa.Ix
end Go.Proofs.Ytllepjhimkogjaa.Ix
namespace Go.Proofs.Ytllepjhimkogjaa.Ob
end Go.Proofs.Ytllepjhimkogjaa.Ob
namespace Go.Proofs.Ytllepjhimkogjaa.Sk
end Go.Proofs.Ytllepjhimkogjaa.Sk
namespace Go.Proofs.Ytllepjhimkogjaa.Sw
end Go.Proofs.Ytllepjhimkogjaa.Sw
namespace Go.Proofs.Ytllepjhimkogjaa.Two
end Go.Proofs.Ytllepjhimkogjaa.Two
namespace Go.Proofs.YtllepjhimkogjaaW.PrintLast
end Go.Proofs.YtllepjhimkogjaaW.PrintLast
namespace Go.Proofs.YtllepjhimkogjaaW.PrintWords
end Go.Proofs.YtllepjhimkogjaaW.PrintWords
namespace Go.Proofs.Ytllepjhimkogjaa.Ck
open Go.RowKit Go.Proofs.YtllepjhimkogjaaW.PrintWords Go.Proofs.YtllepjhimkogjaaW.PrintLast
open Go.Proofs.Ytllepjhimkogjaa.Ob Go.Proofs.Ytllepjhimkogjaa.Two Go.Proofs.Ytllepjhimkogjaa.Sk
set_option linter.unusedSimpArgs false
set_option linter.unusedVariables false
open Go.Proofs.Ytllepjhimkogjaa.Sw Go.Proofs.Ytllepjhimkogjaa.Ix
theorem drawn_below {w w' : World} (h : Drawn0 w w') : Below w.heap.size w w' := by
  first | exact h.below | exact Drawn0.below h | (obtain ⟨n, rfl⟩ := h; exact ⟨rfl, rfl, rfl, Nat.le_refl _, fun _ _ => rfl⟩)
set_option maxHeartbeats 4000000 in
set_option maxRecDepth 1000000 in
theorem rlabel_w (s : ByteArray) (m : Int) (w : World) (r : ByteArray) (hr : Lb.lab s m = r) (hs : s.size ≤ 5000) : Calls Try.prog 66 #[.string s, .int .i64 m] w fun e w' => e = .returned (.string r) ∧ Below w.heap.size w w' := by
  have hl := Lb.clean_len (Lb.D s)
  rw [Lb.D_len] at hl
  have h1 := XX.tallyroomref03_Clean.calls 6000 s _ w (Tp.rclean s (by omega) 6000 (by omega))
  obtain ⟨c, hc⟩ : ∃ c, Lb.B (Txt.clean (Lb.D s)) = c := ⟨_, rfl⟩
  have hcs : c.size ≤ 5000 := by rw [← hc, Lb.B_size]; omega
  have h2 := fun W => XX.tallyroomref03_Cut.calls 6000 c m _ W (Tp.rcut c m (by omega) 6000 (by omega))
  obtain ⟨t, ht⟩ : ∃ t, Lb.B (Txt.cut m.toNat (Lb.D c)) = t := ⟨_, rfl⟩
  have hc' : Tp.B (Txt.clean (Tp.D s)) = c := hc
  have ht' : Tp.B (Txt.cut m.toNat (Tp.D c)) = t := ht
  rw [hc'] at h1
  rw [ht'] at h2
  have hD : Lb.D c = Txt.clean (Lb.D s) := by rw [← hc, Lb.D_B]
  have hrt : r = if t.size = 0 then ⟨#[95]⟩ else t := by
    rw [← hr, ← ht, hD, Lb.B_size]
    unfold Lb.lab Lb.labL
    by_cases e : Txt.cut m.toNat (Txt.clean (Lb.D s)) = []
    · rw [if_pos e, e]; rfl
    · rw [if_neg e, if_neg (by intro k; exact e (List.length_eq_zero_iff.1 k))]
  replace h1 := Aside0.mk h1
  replace h2 := Aside0.mk h2
  clear hc ht hc' ht' hD hr hl
  by_cases h0 : t.size = 0
  · rw [if_pos h0] at hrt
    subst hrt
    have e2 := (empty_iff t).2 h0
    clear h0
    go_enter Try.func66, Try.ntmps66
    go_wp2_with (first | (go_at_call 40; refine h1.out.mono ?_; rintro e w1 ⟨rfl, hb1⟩; replace hb1 := Aside0.mk (drawn_below hb1)) | (go_at_call 38; refine (h2.out _).mono ?_; rintro e w2 ⟨rfl, hb2⟩; replace hb2 := Aside0.mk (drawn_below hb2)))
    go_ret
    exact ⟨by first | rfl | simp, hb1.out.trans (hb2.out.mono hb1.out.size)⟩
  · rw [if_neg h0] at hrt
    subst hrt
    have e2 := isEmpty_f h0
    have e3 : ¬ r.toList = [] := fun k => h0 ((empty_iff r).1 k)
    clear h0
    go_enter Try.func66, Try.ntmps66
    go_wp2_with (first | (go_at_call 40; refine h1.out.mono ?_; rintro e w1 ⟨rfl, hb1⟩; replace hb1 := Aside0.mk (drawn_below hb1)) | (go_at_call 38; refine (h2.out _).mono ?_; rintro e w2 ⟨rfl, hb2⟩; replace hb2 := Aside0.mk (drawn_below hb2)))
    go_ret
    exact ⟨by first | rfl | simp, hb1.out.trans (hb2.out.mono hb1.out.size)⟩
set_option maxHeartbeats 4000000 in
set_option maxRecDepth 1000000 in
theorem rright_w (k n : Int) (s : ByteArray) (w : World) (r : Bool) (hr : right k n s = r) : Calls Try.prog 65 #[.agg #[.int .i64 k, .int .i64 n, .string s]] w fun e w' => e = .returned (.bool r) ∧ Below w.heap.size w w' := by
  subst hr
  have hT := Aside0.mk ((Bx.start w).new [.int .i64 k, .int .i64 n, .string s] 61)
  obtain ⟨y0, z0⟩ := hT.out.row (List.mem_cons_self ..) 0 _ rfl
  obtain ⟨y1, z1⟩ := hT.out.row (List.mem_cons_self ..) 1 _ rfl
  obtain ⟨y2, z2⟩ := hT.out.row (List.mem_cons_self ..) 2 _ rfl
  by_cases h1 : k = 1
  · subst h1
    by_cases hs : s.size = 0
    · have e1 : right 1 n s = true := by unfold right; rw [if_pos rfl, decide_eq_true hs]
      have e2 := (empty_iff s).2 hs
      rw [e1]; clear e1 hs
      go_enter Try.func65, Try.ntmps65
      go_wp2
      go_ret
      exact ⟨by first | rfl | simp [e2], hT.out.b⟩
    · have e1 : right 1 n s = false := by unfold right; rw [if_pos rfl, decide_eq_false hs]
      have e2 := isEmpty_f hs
      have e3 : ¬ s.toList = [] := fun k => hs ((empty_iff s).1 k)
      rw [e1]; clear e1 hs
      go_enter Try.func65, Try.ntmps65
      go_wp2
      go_ret
      exact ⟨by first | rfl | simp [e2, e3], hT.out.b⟩
  · by_cases h2 : k = 2
    · subst h2
      by_cases hs : s.size = 0
      · have e2 := (empty_iff s).2 hs
        by_cases hn0 : n = 0
        · subst hn0
          have e1 : right 2 0 s = true := by unfold right; rw [if_neg (by decide), if_pos rfl, decide_eq_true ⟨hs, Or.inl rfl⟩]
          rw [e1]; clear e1 hs h1
          go_enter Try.func65, Try.ntmps65
          go_wp2
          go_ret
          exact ⟨by first | rfl | simp [e2], hT.out.b⟩
        · have hz : (n == 0) = false := by simpa using hn0
          by_cases hn1 : n = 1
          · subst hn1
            have e1 : right 2 1 s = true := by unfold right; rw [if_neg (by decide), if_pos rfl, decide_eq_true ⟨hs, Or.inr rfl⟩]
            rw [e1]; clear e1 hs h1
            go_enter Try.func65, Try.ntmps65
            go_wp2
            go_ret
            exact ⟨by first | rfl | simp [e2], hT.out.b⟩
          · have hy : (n == 1) = false := by simpa using hn1
            have e1 : right 2 n s = false := by unfold right; rw [if_neg (by decide), if_pos rfl, decide_eq_false (by omega)]
            rw [e1]; clear e1 hs h1
            go_enter Try.func65, Try.ntmps65
            go_wp2
            go_ret
            exact ⟨by first | rfl | simp [e2, hy, hz, hn0, hn1], hT.out.b⟩
      · have e2 := isEmpty_f hs
        have e3 : ¬ s.toList = [] := fun k => hs ((empty_iff s).1 k)
        have e1 : right 2 n s = false := by unfold right; rw [if_neg (by decide), if_pos rfl, decide_eq_false (by omega)]
        rw [e1]; clear e1 hs h1
        go_enter Try.func65, Try.ntmps65
        go_wp2
        go_ret
        exact ⟨by first | rfl | simp [e2, e3], hT.out.b⟩
    · by_cases h3 : k = 3
      · subst h3
        by_cases hn0 : n = 0
        · subst hn0
          by_cases hs : s.size ≤ 4096
          · have hI : (s.size : Int) ≤ 4096 := by omega
            have e1 : right 3 0 s = true := by unfold right; rw [if_neg (by decide), if_neg (by decide), if_pos rfl, decide_eq_true ⟨rfl, hs⟩]
            rw [e1]; clear e1 h1 h2
            go_enter Try.func65, Try.ntmps65
            go_wp2
            go_ret
            exact ⟨by first | rfl | simp [hI], hT.out.b⟩
          · have hI : ¬ (s.size : Int) ≤ 4096 := by omega
            have e1 : right 3 0 s = false := by unfold right; rw [if_neg (by decide), if_neg (by decide), if_pos rfl, decide_eq_false (by omega)]
            rw [e1]; clear e1 h1 h2
            go_enter Try.func65, Try.ntmps65
            go_wp2
            go_ret
            exact ⟨by first | rfl | simp [hI], hT.out.b⟩
        · have hz : (n == 0) = false := by simpa using hn0
          have e1 : right 3 n s = false := by unfold right; rw [if_neg (by decide), if_neg (by decide), if_pos rfl, decide_eq_false (by omega)]
          rw [e1]; clear e1 h1 h2
          go_enter Try.func65, Try.ntmps65
          go_wp2
          go_ret
          exact ⟨by first | rfl | simp [hz, hn0], hT.out.b⟩
      · have g1 : (k == 1) = false := by simpa using h1
        have g2 : (k == 2) = false := by simpa using h2
        have g3 : (k == 3) = false := by simpa using h3
        have e1 : right k n s = false := by unfold right; rw [if_neg h1, if_neg h2, if_neg h3]
        rw [e1]; clear e1 h1 h2 h3
        go_enter Try.func65, Try.ntmps65
        go_wp2
        go_ret
        exact ⟨by first | rfl | simp, hT.out.b⟩
theorem key_w (s : ByteArray) (w : World) (r : Bool) (hr : Tw.key s.data.toList = r) (hs : s.size ≤ 1000) : Calls Try.prog 47 #[.string s] w fun e w' => e = .returned (.bool r) ∧ Below w.heap.size w w' := by
  refine (XX.tallyroomref03_Key.calls 2000 s _ w (Tp.rkey s (by omega) 2000 (by omega))).mono ?_
  rintro e w' ⟨rfl, hb⟩
  exact ⟨by rw [← hr]; rfl, drawn_below hb⟩
end Go.Proofs.Ytllepjhimkogjaa.Ck
