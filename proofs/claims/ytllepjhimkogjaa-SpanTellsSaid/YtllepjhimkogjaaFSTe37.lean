/- The law's proof, part 37: the text Ra of this session, or words printed for this seat; what the theorem doesn't use is left out. No conditions. -/
import Derived.Test.YtllepjhimkogjaaFSTe36
import Derived.RegionTactic
import Derived.Deep.LoopGhost
namespace Go.Proofs.Ytllepjhimkogjaa.Ix
end Go.Proofs.Ytllepjhimkogjaa.Ix
namespace Go.Proofs.Ytllepjhimkogjaa.Ob
end Go.Proofs.Ytllepjhimkogjaa.Ob
namespace Go.Proofs.Ytllepjhimkogjaa.Rw
end Go.Proofs.Ytllepjhimkogjaa.Rw
namespace Go.Proofs.Ytllepjhimkogjaa.Sk
end Go.Proofs.Ytllepjhimkogjaa.Sk
namespace Go.Proofs.Ytllepjhimkogjaa.Sw
end Go.Proofs.Ytllepjhimkogjaa.Sw
namespace Go.Proofs.Ytllepjhimkogjaa.Two
end Go.Proofs.Ytllepjhimkogjaa.Two
namespace Go.Proofs.YtllepjhimkogjaaW.PrintLast
end Go.Proofs.YtllepjhimkogjaaW.PrintLast
namespace Go.Proofs.YtllepjhimkogjaaW.PrintMore
end Go.Proofs.YtllepjhimkogjaaW.PrintMore
namespace Go.Proofs.YtllepjhimkogjaaW.PrintWords
end Go.Proofs.YtllepjhimkogjaaW.PrintWords
namespace Go.Proofs.Ytllepjhimkogjaa.Ck
open Go.RowKit Go.Proofs.YtllepjhimkogjaaW.PrintWords Go.Proofs.YtllepjhimkogjaaW.PrintLast
open Go.Proofs.Ytllepjhimkogjaa.Ob Go.Proofs.Ytllepjhimkogjaa.Two Go.Proofs.Ytllepjhimkogjaa.Sk
set_option linter.unusedSimpArgs false
set_option linter.unusedVariables false
open Go.Proofs.Ytllepjhimkogjaa.Sw Go.Proofs.Ytllepjhimkogjaa.Ix
theorem named_iff (s : ByteArray) : named s = true ↔ 1 ≤ s.size ∧ s.size ≤ 4096 := decide_eq_true_iff
theorem named_false {s : ByteArray} (h : ¬ (1 ≤ s.size ∧ s.size ≤ 4096)) : named s = false := decide_eq_false h
theorem map_at (l : List XSf.S63) (i : Nat) (hi : i < l.length) : Rw.fn (l.map av) i = av l[i] := by
  rw [fn_at _ i (by rw [List.length_map]; exact hi), List.getElem_map]
set_option maxHeartbeats 16000000 in
set_option maxRecDepth 1000000 in
theorem rcheck_w (w : World) (a0 a1 a2 : Int) (a3 a4 : ByteArray) (a5 a6 a7 a8 : Int) (A : Option Addr) (c : Nat) (l : List XSf.S63) (r : Int) (hr : check a0 a1 a3 a4 a5 a6 a7 a8 (l.map av) = r) (hC : Kd.C XSf.k63 w A l.length l) (hn : l.length ≤ 40) (hk : ∀ x ∈ l, x.f0.size ≤ 1000) :
    Calls Try.prog 31 #[.agg #[.int .u64 a0, .int .u64 a1, .int .u64 a2, .string a3, .string a4, .int .i64 a5, .int .i64 a6, .int .u64 a7, .int .u64 a8, .slice A l.length c]] w fun e w' => e = .returned (.int .i64 r) ∧ Below w.heap.size w w' := by
  have hT := Aside0.mk (show Bx w _ [(w.heap.size, [.int .u64 a0, .int .u64 a1, .int .u64 a2, .string a3, .string a4, .int .i64 a5, .int .i64 a6, .int .u64 a7, .int .u64 a8, .slice A l.length c])] from (Bx.start w).new [.int .u64 a0, .int .u64 a1, .int .u64 a2, .string a3, .string a4, .int .i64 a5, .int .i64 a6, .int .u64 a7, .int .u64 a8, .slice A l.length c] 37)
  replace hC := Aside0.mk hC
  replace hk := Aside0.mk hk
  obtain ⟨y0, _⟩ := hT.out.row (List.mem_cons_self ..) 0 _ rfl
  obtain ⟨y1, _⟩ := hT.out.row (List.mem_cons_self ..) 1 _ rfl
  obtain ⟨y3, _⟩ := hT.out.row (List.mem_cons_self ..) 3 _ rfl
  obtain ⟨y4, _⟩ := hT.out.row (List.mem_cons_self ..) 4 _ rfl
  obtain ⟨y5, _⟩ := hT.out.row (List.mem_cons_self ..) 5 _ rfl
  obtain ⟨y6, _⟩ := hT.out.row (List.mem_cons_self ..) 6 _ rfl
  obtain ⟨y7, _⟩ := hT.out.row (List.mem_cons_self ..) 7 _ rfl
  obtain ⟨y8, _⟩ := hT.out.row (List.mem_cons_self ..) 8 _ rfl
  obtain ⟨y9, _⟩ := hT.out.row (List.mem_cons_self ..) 9 _ rfl
  by_cases p0 : a0 = 0
  · have g0 : (a0 == 0) = true := by simpa using p0
    have hv : 50 = r := by rw [← hr]; unfold check; rw [if_pos (Or.inl p0)]; try rfl
    subst hv; clear hr p0
    go_enter Try.func31, Try.ntmps31
    go_wp2
    go_ret
    exact ⟨by first | rfl | simp, hT.out.b⟩
  have g0 : (a0 == 0) = false := by simpa using p0
  by_cases p1 : a1 = 0
  · have g1 : (a1 == 0) = true := by simpa using p1
    have hv : 50 = r := by rw [← hr]; unfold check; rw [if_pos (Or.inr p1)]; try rfl
    subst hv; clear hr p1
    go_enter Try.func31, Try.ntmps31
    go_wp2
    go_ret
    exact ⟨by first | rfl | simp, hT.out.b⟩
  have g1 : (a1 == 0) = false := by simpa using p1
  have c1 : ¬ (a0 = 0 ∨ a1 = 0) := by omega
  by_cases p2 : a8 < a7
  · skip
    have hv : 51 = r := by rw [← hr]; unfold check; rw [if_neg c1, if_pos (Or.inl p2)]; try rfl
    subst hv; clear hr 
    go_enter Try.func31, Try.ntmps31
    go_wp2
    go_ret
    exact ⟨by first | rfl | simp, hT.out.b⟩
  by_cases p3 : 4611686018427387904 < a8
  · skip
    have hv : 51 = r := by rw [← hr]; unfold check; rw [if_neg c1, if_pos (Or.inr p3)]; try rfl
    subst hv; clear hr 
    go_enter Try.func31, Try.ntmps31
    go_wp2
    go_ret
    exact ⟨by first | rfl | simp, hT.out.b⟩
  have c2 : ¬ (a8 < a7 ∨ 4611686018427387904 < a8) := by omega
  by_cases p4 : a5 < 0
  · skip
    have hv : 52 = r := by rw [← hr]; unfold check; rw [if_neg c1, if_neg c2, if_pos (Or.inl p4)]; try rfl
    subst hv; clear hr 
    go_enter Try.func31, Try.ntmps31
    go_wp2
    go_ret
    exact ⟨by first | rfl | simp, hT.out.b⟩
  by_cases p5 : 4 < a5
  · skip
    have hv : 52 = r := by rw [← hr]; unfold check; rw [if_neg c1, if_neg c2, if_pos (Or.inr p5)]; try rfl
    subst hv; clear hr 
    go_enter Try.func31, Try.ntmps31
    go_wp2
    go_ret
    exact ⟨by first | rfl | simp, hT.out.b⟩
  have c3 : ¬ (a5 < 0 ∨ 4 < a5) := by omega
  by_cases p6 : a6 < 0
  · skip
    have hv : 53 = r := by rw [← hr]; unfold check; rw [if_neg c1, if_neg c2, if_neg c3, if_pos (Or.inl p6)]; try rfl
    subst hv; clear hr 
    go_enter Try.func31, Try.ntmps31
    go_wp2
    go_ret
    exact ⟨by first | rfl | simp, hT.out.b⟩
  by_cases p7 : 2 < a6
  · skip
    have hv : 53 = r := by rw [← hr]; unfold check; rw [if_neg c1, if_neg c2, if_neg c3, if_pos (Or.inr p7)]; try rfl
    subst hv; clear hr 
    go_enter Try.func31, Try.ntmps31
    go_wp2
    go_ret
    exact ⟨by first | rfl | simp, hT.out.b⟩
  have c4 : ¬ (a6 < 0 ∨ 2 < a6) := by omega
  by_cases z3 : a3.size = 0
  · have g3 : ((a3.size : Int) == 0) = true := by simp [z3]
    have hv : 54 = r := by rw [← hr]; unfold check; rw [if_neg c1, if_neg c2, if_neg c3, if_neg c4, if_pos (Or.inl (named_false (by omega)))]; try rfl
    subst hv; clear hr z3
    go_enter Try.func31, Try.ntmps31
    go_wp2
    go_ret
    exact ⟨by first | rfl | simp, hT.out.b⟩
  have g3 : ((a3.size : Int) == 0) = false := by rw [beq_eq_false_iff_ne]; omega
  by_cases z4 : a4.size = 0
  · have g4 : ((a4.size : Int) == 0) = true := by simp [z4]
    have hv : 54 = r := by rw [← hr]; unfold check; rw [if_neg c1, if_neg c2, if_neg c3, if_neg c4, if_pos (Or.inr (named_false (by omega)))]; try rfl
    subst hv; clear hr z4
    go_enter Try.func31, Try.ntmps31
    go_wp2
    go_ret
    exact ⟨by first | rfl | simp, hT.out.b⟩
  have g4 : ((a4.size : Int) == 0) = false := by rw [beq_eq_false_iff_ne]; omega
  by_cases v3 : a3.size ≤ 4096
  rotate_left
  · have h3 : (4096 : Int) < (a3.size : Int) := by omega
    have hv : 54 = r := by rw [← hr]; unfold check; rw [if_neg c1, if_neg c2, if_neg c3, if_neg c4, if_pos (Or.inl (named_false (by omega)))]; try rfl
    subst hv; clear hr 
    go_enter Try.func31, Try.ntmps31
    go_wp2
    go_ret
    exact ⟨by first | rfl | simp, hT.out.b⟩
  have h3 : ¬ (4096 : Int) < (a3.size : Int) := by omega
  by_cases v4 : a4.size ≤ 4096
  rotate_left
  · have h4 : (4096 : Int) < (a4.size : Int) := by omega
    have hv : 54 = r := by rw [← hr]; unfold check; rw [if_neg c1, if_neg c2, if_neg c3, if_neg c4, if_pos (Or.inr (named_false (by omega)))]; try rfl
    subst hv; clear hr 
    go_enter Try.func31, Try.ntmps31
    go_wp2
    go_ret
    exact ⟨by first | rfl | simp, hT.out.b⟩
  have h4 : ¬ (4096 : Int) < (a4.size : Int) := by omega
  have c5 : ¬ (named a3 = false ∨ named a4 = false) := by rw [(named_iff a3).2 ⟨by omega, v3⟩, (named_iff a4).2 ⟨by omega, v4⟩]; simp
  have hlen : (l.map av).length = l.length := List.length_map _
  by_cases h16 : l.length ≤ 16
  rotate_left
  · have h16I : (16 : Int) < (l.length : Int) := by omega
    have hv : 55 = r := by rw [← hr]; unfold check; rw [if_neg c1, if_neg c2, if_neg c3, if_neg c4, if_neg c5, if_pos (by unfold attrsOk; rw [hlen, decide_eq_false h16, Bool.and_false])]; try rfl
    subst hv; clear hr 
    go_enter Try.func31, Try.ntmps31
    go_wp2
    go_ret
    exact ⟨by first | rfl | simp, hT.out.b⟩
  have h16I : ¬ (16 : Int) < (l.length : Int) := by omega
  have hbad := Aside0.mk (show ∀ i, i < l.length → okAt (l.map av) i = false → 55 = r from fun i hi h => by
    have : attrsOk (l.map av) = false := by
      unfold attrsOk
      have : (List.range (l.map av).length).all (okAt (l.map av)) = false := by
        rw [List.all_eq_false]
        exact ⟨i, List.mem_range.2 (by rw [hlen]; exact hi), by rw [h]; decide⟩
      rw [this]; rfl
    rw [← hr]; unfold check; rw [if_neg c1, if_neg c2, if_neg c3, if_neg c4, if_neg c5, if_pos this])
  have hgood := Aside0.mk (show (∀ i, i < l.length → okAt (l.map av) i = true) → 0 = r from fun h => by
    have : attrsOk (l.map av) = true := by
      unfold attrsOk
      rw [hlen, decide_eq_true h16, Bool.and_true, List.all_eq_true]
      exact fun i hi => h i (List.mem_range.1 hi)
    rw [← hr]; unfold check; rw [if_neg c1, if_neg c2, if_neg c3, if_neg c4, if_neg c5, if_neg (by rw [this]; decide)])
  replace hlen := Aside0.mk hlen
  clear hr c1 c2 c3 c4 c5 p0 p1 z3 z4 v3 v4
  go_enter Try.func31, Try.ntmps31
  go_wp2
  clear y0 y1 y3 y4 y5 y6 y7 y8 y9 g0 g1 p2 p3 p4 p5 p6 p7 g3 g4 h3 h4 h16I
  generalize w.alloc (.cells #[.int .u64 a0, .int .u64 a1, .int .u64 a2, .string a3, .string a4, .int .i64 a5, .int .i64 a6, .int .u64 a7, .int .u64 a8, .slice A l.length c] 37) = W0 at hT ⊢
  go_loopg [3] (l.length + 1) (fun kq v3 wr => ∃ i : Nat, v3 = .int .i64 (i : Int) ∧ i ≤ l.length ∧ l.length - i < kq ∧ Aside0 (∀ j, j < i → okAt (l.map av) j = true) ∧ Aside0 (Bx w wr [(w.heap.size, [.int .u64 a0, .int .u64 a1, .int .u64 a2, .string a3, .string a4, .int .i64 a5, .int .i64 a6, .int .u64 a7, .int .u64 a8, .slice A l.length c])]))
  case atStart => exact ⟨0, rfl, Nat.zero_le _, by omega, ⟨fun j h => absurd h (by omega)⟩, hT⟩
  case round =>
    clear hT
    obtain ⟨i, rfl, hi, hkq, HR, hT⟩ := hrel
    obtain ⟨k1, rfl⟩ : ∃ m, gk = m + 1 := ⟨gk - 1, by omega⟩
    have hi0 : (0 : Int) ≤ (i : Int) := by omega
    have ⟨y9, _⟩ := hT.out.row (List.mem_cons_self ..) 9 _ rfl
    by_cases hin : i < l.length
    · have hinI : (i : Int) < (l.length : Int) := by omega
      have hks := Aside0.mk (hk.out l[i] (List.getElem_mem hin))
      obtain ⟨ad, rfl, x0, x1, x2, x3⟩ := XSf.at_T63 (Kd.C_below hC.out hT.out.b) (i : Int) hi0 hinI
      have hcells := Aside0.mk (show ∀ W, Below w.heap.size w W → W.cell? (ad.add (i * 4)) = some (.string l[i].f0) ∧ W.cell? ⟨(ad.add (i * 4)).block, (ad.add (i * 4)).off + 1, none⟩ = some (.int .i64 l[i].f1.f0) ∧ W.cell? ⟨(ad.add (i * 4)).block, (ad.add (i * 4)).off + 2, none⟩ = some (.int .i64 l[i].f1.f1) ∧ W.cell? ⟨(ad.add (i * 4)).block, (ad.add (i * 4)).off + 3, none⟩ = some (.string l[i].f1.f2) from fun W hb => by
        obtain ⟨ad2, e2, q0, q1, q2, q3⟩ := XSf.at_T63 (Kd.C_below hC.out hb) (i : Int) hi0 hinI
        obtain rfl := Option.some.inj e2
        rw [Oz.rd63 _ i hin, Int.toNat_natCast] at q0 q1 q2 q3
        exact ⟨q0, q1, q2, q3⟩)
      rw [Oz.rd63 _ i hin, Int.toNat_natCast] at x0 x1 x2 x3
      obtain ⟨kb, hkb⟩ : ∃ b, Tw.key l[i].f0.data.toList = b := ⟨_, rfl⟩
      obtain ⟨rb, hrb⟩ : ∃ b, right l[i].f1.f0 l[i].f1.f1 l[i].f1.f2 = b := ⟨_, rfl⟩
      have hok : okAt (l.map av) i = (kb && rb && !(decide (i < 16) && twice (l.map av) i)) := by
        unfold okAt
        rw [map_at l i hin, ← hkb, ← hrb]; rfl
      have hki := Aside0.mk (show ∀ q, l[i].f0 = q → (∀ j, j < i → ∀ hj : j < l.length, l[j].f0 ≠ q) → kb = true → rb = true → ∀ j, j < i + 1 → okAt (l.map av) j = true from fun q hq h e1 e2 j hj => by
        by_cases e : j = i
        · subst e
          rw [hok, e1, e2]
          have : twice (l.map av) j = false := by
            cases ht : twice (l.map av) j with
            | false => rfl
            | true =>
              obtain ⟨k, hk2, he⟩ := (twice_iff _ j (by rw [List.length_map]; exact hin)).1 ht
              rw [List.getElem_map, List.getElem_map] at he
              exact absurd (show l[k].f0 = q from he.trans hq) (h k hk2 (by omega))
          rw [this]; simp
        · exact HR.out j (by omega))
      have hb1 := Aside0.mk (show kb = false → 55 = r from fun e => hbad.out i hin (by rw [hok, e]; rfl))
      have hb2 := Aside0.mk (show rb = false → 55 = r from fun e => hbad.out i hin (by rw [hok, e, Bool.and_false]; rfl))
      have hb3 := Aside0.mk (show ∀ q, l[i].f0 = q → ∀ k, k < i → ∀ hk2 : k < l.length, l[k].f0 = q → 55 = r from fun q hq k hk1 hk2 he => hbad.out i hin (by
        have : twice (l.map av) i = true := (twice_iff _ i (by rw [List.length_map]; exact hin)).2 ⟨k, hk1, by rw [List.getElem_map, List.getElem_map]; exact he.trans hq.symm⟩
        rw [hok, this, decide_eq_true (show i < 16 by omega)]
        cases kb <;> cases rb <;> rfl))
      obtain ⟨x, hx⟩ : ∃ x, l[i] = x := ⟨_, rfl⟩
      have hxq := Aside0.mk (show l[i].f0 = x.f0 by rw [hx])
      rw [hx] at x0 x1 x2 x3 hkb hrb hks hcells
      clear hok HR hx
      replace hkb := Aside0.mk hkb
      replace hrb := Aside0.mk hrb
      cases kb with
      | false =>
        have he := Aside0.mk (hb1.out rfl)
        go_wp2_with (first
          | (go_at_call 47; refine (key_w x.f0 _ _ hkb.out hks.out).mono ?_; rintro e w3 ⟨rfl, hbb⟩; replace hT := Aside0.mk (hT.out.keep hbb); clear hbb; clear x0 x1 x2 x3 y9; have ⟨y9, _⟩ := hT.out.row (List.mem_cons_self ..) 9 _ rfl; have ⟨x0, x1, x2, x3⟩ := hcells.out _ hT.out.b))
        go_ret
        exact ⟨by rw [← he.out]; rfl, hT.out.b⟩
      | true =>
      cases rb with
      | false =>
        have he := Aside0.mk (hb2.out rfl)
        go_wp2_with (first
          | (go_at_call 47; refine (key_w x.f0 _ _ hkb.out hks.out).mono ?_; rintro e w3 ⟨rfl, hbb⟩; replace hT := Aside0.mk (hT.out.keep hbb); clear hbb; clear x0 x1 x2 x3 y9; have ⟨y9, _⟩ := hT.out.row (List.mem_cons_self ..) 9 _ rfl; have ⟨x0, x1, x2, x3⟩ := hcells.out _ hT.out.b)
          | (go_at_call 65; refine (rright_w x.f1.f0 x.f1.f1 x.f1.f2 _ _ hrb.out).mono ?_; rintro e w4 ⟨rfl, hbb⟩; replace hT := Aside0.mk (hT.out.keep hbb); clear hbb; clear x0 x1 x2 x3 y9; have ⟨y9, _⟩ := hT.out.row (List.mem_cons_self ..) 9 _ rfl; have ⟨x0, x1, x2, x3⟩ := hcells.out _ hT.out.b))
        go_ret
        exact ⟨by rw [← he.out]; rfl, hT.out.b⟩
      | true =>
        go_wp2_with (first
          | (go_at_call 47; refine (key_w x.f0 _ _ hkb.out hks.out).mono ?_; rintro e w3 ⟨rfl, hbb⟩; replace hT := Aside0.mk (hT.out.keep hbb); clear hbb; clear x0 x1 x2 x3 y9; have ⟨y9, _⟩ := hT.out.row (List.mem_cons_self ..) 9 _ rfl; have ⟨x0, x1, x2, x3⟩ := hcells.out _ hT.out.b)
          | (go_at_call 65; refine (rright_w x.f1.f0 x.f1.f1 x.f1.f2 _ _ hrb.out).mono ?_; rintro e w4 ⟨rfl, hbb⟩; replace hT := Aside0.mk (hT.out.keep hbb); clear hbb; clear x0 x1 x2 x3 y9; have ⟨y9, _⟩ := hT.out.row (List.mem_cons_self ..) 9 _ rfl; have ⟨x0, x1, x2, x3⟩ := hcells.out _ hT.out.b))
        clear x0 x1 x2 x3 y9
        go_loopg [4] (i + 1) (fun kq2 v4 wr => ∃ k : Nat, v4 = .int .i64 (k : Int) ∧ k ≤ i ∧ i - k < kq2 ∧ Aside0 (∀ j, j < k → ∀ hj : j < l.length, l[j].f0 ≠ x.f0) ∧ Aside0 (Bx w wr [(w.heap.size, [.int .u64 a0, .int .u64 a1, .int .u64 a2, .string a3, .string a4, .int .i64 a5, .int .i64 a6, .int .u64 a7, .int .u64 a8, .slice (some ad) l.length c])]))
        case atStart => exact ⟨0, rfl, Nat.zero_le _, by omega, ⟨fun j h => absurd h (by omega)⟩, hT⟩
        case round =>
          clear hT
          obtain ⟨k, rfl, hk1, hkq2, HR, hT⟩ := hrel
          obtain ⟨k2, rfl⟩ : ∃ m, gk = m + 1 := ⟨gk - 1, by omega⟩
          have hk0 : (0 : Int) ≤ (k : Int) := by omega
          have ⟨y9, _⟩ := hT.out.row (List.mem_cons_self ..) 9 _ rfl
          by_cases hki2 : k < i
          · have hkiI : (k : Int) < (i : Int) := by omega
            have hkn : k < l.length := by omega
            have hknI : (k : Int) < (l.length : Int) := by omega
            obtain ⟨ad2, e2, z0, _⟩ := XSf.at_T63 (Kd.C_below hC.out hT.out.b) (k : Int) hk0 hknI
            obtain rfl := Option.some.inj e2
            rw [Oz.rd63 _ k hkn, Int.toNat_natCast] at z0
            have x0 := (hcells.out _ hT.out.b).1
            by_cases he : l[k].f0 = x.f0
            · have h5 := Aside0.mk (hb3.out _ hxq.out k hki2 hkn he)
              have hee : l[k].f0.toList = x.f0.toList := by rw [he]
              generalize l[k].f0 = q at z0 hee
              clear he
              go_wp2
              go_quiet (fail)
              go_wp2
              go_ret
              exact ⟨by rw [← h5.out]; rfl, (hT.out.drewN _).b⟩
            · have hee := toList_ne he
              have HR2 := Aside0.mk (show ∀ j, j < k + 1 → ∀ hj : j < l.length, l[j].f0 ≠ x.f0 from fun j h hj => by
                by_cases e : j = k
                · subst e; exact he
                · exact HR.out j (by omega) hj)
              have heb : (l[k].f0.toList == x.f0.toList) = false := by simpa using hee
              clear he HR
              generalize l[k].f0 = q at z0 hee heb
              go_wp2
              go_quiet (fail)
              go_wp2
              go_roundg k2
              case measure => omega
              case rel => exact ⟨k + 1, by first | rfl | simp, by omega, by omega, HR2, ⟨hT.out.drewN _⟩⟩
          · have hkiI : ¬ (k : Int) < (i : Int) := by omega
            have HR2 := Aside0.mk (hki.out _ hxq.out (fun j hj hjl => HR.out j (by omega) hjl) (by first | rfl | trivial) (by first | rfl | trivial))
            clear hkq2
            go_wp2
            go_roundg k1
            case measure => omega
            case rel => exact ⟨i + 1, by first | rfl | simp, by omega, by omega, HR2, hT⟩
    · have hinI : ¬ (i : Int) < (l.length : Int) := by omega
      have he := Aside0.mk (hgood.out (fun j hj => HR.out j (by omega)))
      clear hkq
      go_wp2
      go_ret
      exact ⟨by rw [← he.out]; rfl, hT.out.b⟩
end Go.Proofs.Ytllepjhimkogjaa.Ck
namespace Go.Proofs.Ytllepjhimkogjaa.Ck
open Go.RowKit Go.Proofs.YtllepjhimkogjaaW.PrintWords Go.Proofs.YtllepjhimkogjaaW.PrintLast
open Go.Proofs.Ytllepjhimkogjaa.Ob Go.Proofs.Ytllepjhimkogjaa.Two Go.Proofs.Ytllepjhimkogjaa.Sk
set_option linter.unusedSimpArgs false
set_option linter.unusedVariables false
open Go.Proofs.Ytllepjhimkogjaa.Sw Go.Proofs.Ytllepjhimkogjaa.Ix
open Go.Proofs.Ytllepjhimkogjaa.Rw (insL srtL srtL_length srtL_mem srtL_find srtL_ord srtL_id kc kc_trans kc_lt kc_swap insL_ord)
theorem fn_mem (l : List E) (i : Nat) (h : i < l.length) : Rw.fn l i ∈ l := by rw [fn_at l i h]; exact List.getElem_mem h
theorem ins_cut (x : E) : ∀ (pre : List E) (k : Nat), Rw.Ord pre → k ≤ pre.length → (∀ j, k ≤ j → j < pre.length → kc x (Rw.fn pre j) < 0) → (0 < k → ¬ kc x (Rw.fn pre (k - 1)) < 0) → insL x pre = pre.take k ++ x :: pre.drop k
  | [], k, _, hk, _, _ => by
    obtain rfl : k = 0 := by simpa using hk
    rfl
  | y :: l, 0, _, _, h1, _ => by
    have h3 : kc x y < 0 := h1 0 (Nat.le_refl _) (by simp)
    rw [insL, if_pos h3]; rfl
  | y :: l, k + 1, hO, hk, h1, h2 => by
    obtain ⟨o1, o2⟩ := List.pairwise_cons.1 hO
    have hkl : k ≤ l.length := by simpa using hk
    have h3 : ¬ kc x (Rw.fn (y :: l) k) < 0 := h2 (by omega)
    have hn : ¬ kc x y < 0 := fun e => h3 (by
      cases k with
      | zero => exact e
      | succ k => exact kc_lt e (o1 _ (fn_mem l k (by omega))))
    rw [insL, if_neg hn, ins_cut x l k o2 hkl (fun j hj hjl => h1 (j + 1) (by omega) (by simpa using hjl)) (fun hk0 => by
      cases k with
      | zero => omega
      | succ k => exact h3)]
    rfl
theorem srt_snoc (l : List E) (x : E) : srtL (l ++ [x]) = insL x (srtL l) := by unfold srtL; rw [List.foldl_append]; rfl
theorem less_kc (x y : E) : Op.bytesLess x.f0.toList y.f0.toList = true ↔ kc x y < 0 := by
  rw [Lb.toList_D, Lb.toList_D]
  have h := Sb.cmp_lt (Lb.D x.f0) (Lb.D y.f0)
  have h2 := Rw.kc_range x y
  have e : kc x y = Lib.compareBytes (Lb.D x.f0) (Lb.D y.f0) := rfl
  rw [h, ← e]
  omega
theorem Bx.set {w W : World} {g : Nat} {cs : List Value} {L : List (Nat × List Value)} (h : Bx w W ((g, cs) :: L)) (hL : ∀ p ∈ L, p.1 ≠ g) (j : Nat) (v : Value) : Bx w (W.setCell ⟨g, j, none⟩ v) ((g, cs.set j v) :: L) := by
  have hr := h.r (g, cs) (by simp)
  have ho : Only (fun q => q = g) W (W.setCell ⟨g, j, none⟩ v) := (Only.refl (fun q => q = g) W).setCell ⟨g, j, none⟩ v rfl
  have h1 : Bx w (W.setCell ⟨g, j, none⟩ v) L := (h.sub (fun q hq => List.mem_cons_of_mem _ hq)).only ho (fun q hq => by have e : q = g := hq; rw [e]; exact hr.1) (fun p hp e => hL p hp e)
  refine ⟨h1.b, fun p hp => ?_⟩
  rcases List.mem_cons.1 hp with rfl | hp
  · exact ⟨hr.1, Nat.lt_of_lt_of_le hr.2.1 ho.size, hr.2.2.set j v⟩
  · exact h1.r p hp
theorem info63 : (Try.prog.info? 63).map (fun i => (i.zero, i.size, i.bytes)) = some (some (.agg #[(.string ⟨#[]⟩), (.int .i64 0), (.int .i64 0), (.string ⟨#[]⟩)]), 4, 48) := by kernel_rfl
theorem size63 : ∃ i, Try.prog.info? 63 = some i ∧ i.size = 4 := by
  obtain ⟨i, h1, h2⟩ := Option.map_eq_some_iff.1 info63
  exact ⟨i, h1, by simp only [Prod.mk.injEq] at h2; exact h2.2.1⟩
theorem slice_to (V : Option Addr) (n d k : Nat) (hk : k ≤ n) (hn : n ≤ d) (W : World) : (Instr.slice 35 (.slice V n d) none (some (.int .i64 (k : Int))) none).run Try.prog W = .ok (.slice V k d) W := by
  obtain ⟨i, h1, _⟩ := size63
  have := cut_to 35 63 .i64 Try.underlying35 h1 V n d (k : Int) (by omega) (by omega) hn W
  rwa [Int.toNat_natCast] at this
theorem slice_from (V : Option Addr) (n d k : Nat) (hk : k ≤ n) (W : World) : (Instr.slice 35 (.slice V n d) (some (.int .i64 (k : Int))) none none).run Try.prog W = .ok (.slice (if d = k then V else V.map (·.add (k * 4))) (n - k) (d - k)) W := by
  obtain ⟨i, h1, h2⟩ := size63
  have := cut_from 35 63 .i64 Try.underlying35 h1 4 h2 V n d (k : Int) (by omega) (by omega) W
  rwa [Int.toNat_natCast] at this
end Go.Proofs.Ytllepjhimkogjaa.Ck
namespace Go.Proofs.Ytllepjhimkogjaa.Ck
open Go.RowKit Go.Proofs.YtllepjhimkogjaaW.PrintWords Go.Proofs.YtllepjhimkogjaaW.PrintLast
open Go.Proofs.Ytllepjhimkogjaa.Ob Go.Proofs.Ytllepjhimkogjaa.Two Go.Proofs.Ytllepjhimkogjaa.Sk Go.Proofs.YtllepjhimkogjaaW.PrintMore
set_option linter.unusedSimpArgs false
set_option linter.unusedVariables false
open Go.Proofs.Ytllepjhimkogjaa.Sw Go.Proofs.Ytllepjhimkogjaa.Ix
open Go.Proofs.Ytllepjhimkogjaa.Rw (insL srtL srtL_length srtL_mem srtL_find srtL_ord srtL_id kc kc_trans kc_lt kc_swap insL_ord)
attribute [local go_sem] Go.Proofs.Ytllepjhimkogjaa.Sb.gtr_string
def Row3 (w W : World) (V : Option Addr) (n d : Nat) (pre : List XSf.S63) : Prop := Kd.R XSf.k63 63 W (w.heap.size + 3) (fun k => w.heap.size + 3 ≤ k) (.slice V n d) pre
theorem Row3.keep {w W W' : World} {V : Option Addr} {n d : Nat} {pre : List XSf.S63} (h : Row3 w W V n d pre) (k : Below W.heap.size W W') : Row3 w W' V n d pre := Kd.R_below h k
theorem Row3.far {w W : World} {V : Option Addr} {n d : Nat} {pre : List XSf.S63} (h : Row3 w W V n d pre) (p : Addr) (hp : p.block < w.heap.size + 3) (v : Value) : Row3 w (W.setCell p v) V n d pre := Kd.R_far h (fun k (hk : w.heap.size + 3 ≤ k) e => by omega) v
theorem Row3.reads {w W : World} {V : Option Addr} {n d : Nat} {pre : List XSf.S63} (h : Row3 w W V n d pre) : n = pre.length ∧ pre.length ≤ d ∧ Kd.C XSf.k63 W V pre.length pre := by
  obtain ⟨A, c, e, h1, h2⟩ := Kd.R_reads h
  injection e with e1 e2 e3
  subst e1 e2 e3
  exact ⟨rfl, h1, h2⟩
theorem ne3 (n : Nat) (a b : List Value) : ∀ p ∈ [(n + 1, a), (n, b)], p.1 ≠ n + 2 := by
  intro p hp e
  simp only [List.mem_cons, List.not_mem_nil, or_false] at hp
  rcases hp with rfl | rfl
  · have e : n + 1 = n + 2 := e
    omega
  · have e : n = n + 2 := e
    omega
set_option maxHeartbeats 32000000 in
set_option maxRecDepth 1000000 in
theorem ralike_w (w : World) (a0 a1 a2 : Int) (a3 a4 : ByteArray) (a5 a6 a7 a8 : Int) (A : Option Addr) (c : Nat) (l : List XSf.S63) (m : Int) (r3 r4 : ByteArray) (e3 : Lb.lab a3 m = r3) (e4 : Lb.lab a4 m = r4) (hC : Kd.C XSf.k63 w A l.length l) (hn : l.length ≤ 40) (h3 : a3.size ≤ 5000) (h4 : a4.size ≤ 5000) :
    Calls Try.prog 32 #[.agg #[.int .u64 a0, .int .u64 a1, .int .u64 a2, .string a3, .string a4, .int .i64 a5, .int .i64 a6, .int .u64 a7, .int .u64 a8, .slice A l.length c], .int .i64 m] w fun e w' => ∃ V d R, e = .returned (.agg #[.int .u64 a0, .int .u64 a1, .int .u64 a2, .string r3, .string r4, .int .i64 a5, .int .i64 a6, .int .u64 a7, .int .u64 a8, .slice V l.length d]) ∧ R.length = l.length ∧ l.length ≤ d ∧ R.map av = srtL (l.map av) ∧ Kd.C XSf.k63 w' V l.length R ∧ Below w.heap.size w w' := by
  have hT := Aside0.mk (show Bx w _ _ from (((Bx.start w).new [.int .u64 a0, .int .u64 a1, .int .u64 a2, .string a3, .string a4, .int .i64 a5, .int .i64 a6, .int .u64 a7, .int .u64 a8, .slice A l.length c] 37).new [.int .u64 0, .int .u64 0, .int .u64 0, .string ⟨#[]⟩, .string ⟨#[]⟩, .int .i64 0, .int .i64 0, .int .u64 0, .int .u64 0, .slice none 0 0] 37).new [.int .u64 a0, .int .u64 a1, .int .u64 a2, .string a3, .string a4, .int .i64 a5, .int .i64 a6, .int .u64 a7, .int .u64 a8, .slice A l.length c] 37)
  have hT1 := Aside0.mk (show Bx w _ _ from ((Bx.start w).new [.int .u64 a0, .int .u64 a1, .int .u64 a2, .string a3, .string a4, .int .i64 a5, .int .i64 a6, .int .u64 a7, .int .u64 a8, .slice A l.length c] 37).new [.int .u64 0, .int .u64 0, .int .u64 0, .string ⟨#[]⟩, .string ⟨#[]⟩, .int .i64 0, .int .i64 0, .int .u64 0, .int .u64 0, .slice none 0 0] 37)
  rw [size_alloc, size_alloc] at hT
  rw [size_alloc] at hT1
  replace hC := Aside0.mk hC
  replace e3 := Aside0.mk e3
  replace e4 := Aside0.mk e4
  replace h3 := Aside0.mk h3
  replace h4 := Aside0.mk h4
  replace hn := Aside0.mk hn
  have hld : (l.map av).length = l.length := List.length_map _
  replace hld := Aside0.mk hld
  go_enter Try.func32, Try.ntmps32
  go_wp2_with (first
    | (go_at_call 66; replace hT := Aside0.mk (show Bx w (w4.setCell ⟨w.heap.size + 2, 3, none⟩ (.string r3)) [(w.heap.size + 2, [.int .u64 a0, .int .u64 a1, .int .u64 a2, .string r3, .string a4, .int .i64 a5, .int .i64 a6, .int .u64 a7, .int .u64 a8, .slice A l.length c]), (w.heap.size + 1, [.int .u64 0, .int .u64 0, .int .u64 0, .string ⟨#[]⟩, .string ⟨#[]⟩, .int .i64 0, .int .i64 0, .int .u64 0, .int .u64 0, .slice none 0 0]), (w.heap.size, [.int .u64 a0, .int .u64 a1, .int .u64 a2, .string a3, .string a4, .int .i64 a5, .int .i64 a6, .int .u64 a7, .int .u64 a8, .slice A l.length c])] from Bx.set hT.out (ne3 _ _ _) 3 (.string r3)); generalize w4.setCell ⟨w.heap.size + 2, 3, none⟩ (.string r3) = w5 at hT ⊢; clear q3 q3f; refine (rlabel_w a4 m _ r4 e4.out h4.out).mono ?_; rintro e w6 ⟨rfl, hb⟩; replace hT := Aside0.mk (hT.out.keep hb); clear hb; have ⟨q4, q4f⟩ := hT.out.row (g := w.heap.size + 2) (cs := [.int .u64 a0, .int .u64 a1, .int .u64 a2, .string r3, .string a4, .int .i64 a5, .int .i64 a6, .int .u64 a7, .int .u64 a8, .slice A l.length c]) (by simp) 4 _ rfl; have ⟨q9, q9f⟩ := hT.out.row (g := w.heap.size + 2) (cs := [.int .u64 a0, .int .u64 a1, .int .u64 a2, .string r3, .string a4, .int .i64 a5, .int .i64 a6, .int .u64 a7, .int .u64 a8, .slice A l.length c]) (by simp) 9 _ rfl)
    | (go_at_call 66; generalize ((w.alloc (.cells #[.int .u64 a0, .int .u64 a1, .int .u64 a2, .string a3, .string a4, .int .i64 a5, .int .i64 a6, .int .u64 a7, .int .u64 a8, .slice A l.length c] 37)).alloc (.cells #[.int .u64 0, .int .u64 0, .int .u64 0, .string ⟨#[]⟩, .string ⟨#[]⟩, .int .i64 0, .int .i64 0, .int .u64 0, .int .u64 0, .slice none 0 0] 37)).alloc (.cells #[.int .u64 a0, .int .u64 a1, .int .u64 a2, .string a3, .string a4, .int .i64 a5, .int .i64 a6, .int .u64 a7, .int .u64 a8, .slice A l.length c] 37) = w3 at hT ⊢; refine (rlabel_w a3 m _ r3 e3.out h3.out).mono ?_; rintro e w4 ⟨rfl, hb⟩; replace hT := Aside0.mk (hT.out.keep hb); clear hb; have ⟨q3, q3f⟩ := hT.out.row (g := w.heap.size + 2) (cs := [.int .u64 a0, .int .u64 a1, .int .u64 a2, .string a3, .string a4, .int .i64 a5, .int .i64 a6, .int .u64 a7, .int .u64 a8, .slice A l.length c]) (by simp) 3 _ rfl; have ⟨q4, q4f⟩ := hT.out.row (g := w.heap.size) (cs := [.int .u64 a0, .int .u64 a1, .int .u64 a2, .string a3, .string a4, .int .i64 a5, .int .i64 a6, .int .u64 a7, .int .u64 a8, .slice A l.length c]) (by simp) 4 _ rfl)
    | (refine wpList_load_at (by rfl) 37 _ rfl w.heap.size 0 rfl [.int .u64 a0, .int .u64 a1, .int .u64 a2, .string a3, .string a4, .int .i64 a5, .int .i64 a6, .int .u64 a7, .int .u64 a8, .slice A l.length c] _ (row_at0 (hT1.out.row (by simp))) Try.underlying37 rfl (by kernel_rfl) ?_))
  have hT2 := Aside0.mk (show Bx w _ [(w.heap.size + 2, [.int .u64 a0, .int .u64 a1, .int .u64 a2, .string r3, .string r4, .int .i64 a5, .int .i64 a6, .int .u64 a7, .int .u64 a8, .slice none 0 0]), (w.heap.size + 1, [.int .u64 0, .int .u64 0, .int .u64 0, .string ⟨#[]⟩, .string ⟨#[]⟩, .int .i64 0, .int .i64 0, .int .u64 0, .int .u64 0, .slice none 0 0]), (w.heap.size, [.int .u64 a0, .int .u64 a1, .int .u64 a2, .string a3, .string a4, .int .i64 a5, .int .i64 a6, .int .u64 a7, .int .u64 a8, .slice A l.length c])] from Bx.set (Bx.set hT.out (ne3 _ _ _) 4 (.string r4)) (ne3 _ _ _) 9 (.slice none 0 0))
  clear q4 q4f q9 q9f hT hT1
  generalize (w6.setCell ⟨w.heap.size + 2, 4, none⟩ (.string r4)).setCell ⟨w.heap.size + 2, 9, none⟩ (.slice none 0 0) = w7 at hT2 ⊢
  have hR0 := Aside0.mk (show Row3 w w7 none 0 0 [] from Kd.R_nil _ _ _ _ _)
  go_loopg [6] (l.length + 1) (fun kq v6 wr => ∃ (i : Nat) (V : Option Addr) (d : Nat) (pre : List XSf.S63), v6 = .int .i64 (i : Int) ∧ i ≤ l.length ∧ l.length - i < kq ∧ pre.length = i ∧ i ≤ d ∧ Aside0 (pre.map av = srtL ((l.map av).take i)) ∧ Aside0 (Row3 w wr V i d pre) ∧ Aside0 (Bx w wr [(w.heap.size + 2, [.int .u64 a0, .int .u64 a1, .int .u64 a2, .string r3, .string r4, .int .i64 a5, .int .i64 a6, .int .u64 a7, .int .u64 a8, .slice V i d]), (w.heap.size + 1, [.int .u64 0, .int .u64 0, .int .u64 0, .string ⟨#[]⟩, .string ⟨#[]⟩, .int .i64 0, .int .i64 0, .int .u64 0, .int .u64 0, .slice none 0 0]), (w.heap.size, [.int .u64 a0, .int .u64 a1, .int .u64 a2, .string a3, .string a4, .int .i64 a5, .int .i64 a6, .int .u64 a7, .int .u64 a8, .slice A l.length c])]))
  case atStart => exact ⟨0, none, 0, [], rfl, Nat.zero_le _, by omega, rfl, Nat.le_refl _, ⟨by simp [srtL]⟩, hR0, hT2⟩
  case round =>
    clear hR0 hT2
    obtain ⟨i, V, d, pre, rfl, hi, hkq, hpl, hid, hpre, hR, hT⟩ := hrel
    obtain ⟨k1, rfl⟩ : ∃ m, gk = m + 1 := ⟨gk - 1, by omega⟩
    have hi0 : (0 : Int) ≤ (i : Int) := by omega
    have ⟨s9, s9f⟩ := hT.out.row (g := w.heap.size) (cs := [.int .u64 a0, .int .u64 a1, .int .u64 a2, .string a3, .string a4, .int .i64 a5, .int .i64 a6, .int .u64 a7, .int .u64 a8, .slice A l.length c]) (by simp) 9 _ rfl
    have ⟨o9, o9f⟩ := hT.out.row (g := w.heap.size + 2) (cs := [.int .u64 a0, .int .u64 a1, .int .u64 a2, .string r3, .string r4, .int .i64 a5, .int .i64 a6, .int .u64 a7, .int .u64 a8, .slice V i d]) (by simp) 9 _ rfl
    by_cases hin : i < l.length
    · have hl40 := hn.out
      have hinI : (i : Int) < (l.length : Int) := by omega
      obtain ⟨ad, rfl, x0, x1, x2, x3⟩ := XSf.at_T63 (Kd.C_below hC.out hT.out.b) (i : Int) hi0 hinI
      have hcells := Aside0.mk (show ∀ W, Below w.heap.size w W → W.cell? (ad.add (i * 4)) = some (.string l[i].f0) ∧ W.cell? ⟨(ad.add (i * 4)).block, (ad.add (i * 4)).off + 1, none⟩ = some (.int .i64 l[i].f1.f0) ∧ W.cell? ⟨(ad.add (i * 4)).block, (ad.add (i * 4)).off + 2, none⟩ = some (.int .i64 l[i].f1.f1) ∧ W.cell? ⟨(ad.add (i * 4)).block, (ad.add (i * 4)).off + 3, none⟩ = some (.string l[i].f1.f2) from fun W hb => by
        obtain ⟨ad2, e2, q0, q1, q2, q3⟩ := XSf.at_T63 (Kd.C_below hC.out hb) (i : Int) hi0 hinI
        obtain rfl := Option.some.inj e2
        rw [Oz.rd63 _ i hin, Int.toNat_natCast] at q0 q1 q2 q3
        exact ⟨q0, q1, q2, q3⟩)
      clear x0 x1 x2 x3
      have hnext := Aside0.mk (show ∀ q : List XSf.S63, q.map av = insL (av l[i]) (pre.map av) → q.map av = srtL ((l.map av).take (i + 1)) from fun q hq => by
        rw [hq, hpre.out, List.take_succ_eq_append_getElem (by rw [List.length_map]; exact hin), srt_snoc, List.getElem_map])
      have hord := Aside0.mk (show Rw.Ord (pre.map av) by rw [hpre.out]; exact srtL_ord _)
      have hpm : (pre.map av).length = i := by rw [List.length_map, hpl]
      replace hpm := Aside0.mk hpm
      generalize l[i] = x at hcells hnext
      go_wp2
      clear s9 s9f o9 o9f
      go_loopg [7] (i + 1) (fun kq2 v7 wr => ∃ k : Nat, v7 = .int .i64 (k : Int) ∧ k ≤ i ∧ k < kq2 ∧ Aside0 (∀ j, k ≤ j → j < i → kc (av x) (Rw.fn (pre.map av) j) < 0) ∧ Aside0 (Row3 w wr V i d pre) ∧ Aside0 (Bx w wr [(w.heap.size + 2, [.int .u64 a0, .int .u64 a1, .int .u64 a2, .string r3, .string r4, .int .i64 a5, .int .i64 a6, .int .u64 a7, .int .u64 a8, .slice V i d]), (w.heap.size + 1, [.int .u64 0, .int .u64 0, .int .u64 0, .string ⟨#[]⟩, .string ⟨#[]⟩, .int .i64 0, .int .i64 0, .int .u64 0, .int .u64 0, .slice none 0 0]), (w.heap.size, [.int .u64 a0, .int .u64 a1, .int .u64 a2, .string a3, .string a4, .int .i64 a5, .int .i64 a6, .int .u64 a7, .int .u64 a8, .slice (some ad) l.length c])]))
      case atStart => exact ⟨i, rfl, Nat.le_refl _, by omega, ⟨fun j h1 h2 => absurd h2 (by omega)⟩, hR, hT⟩
      case round =>
        clear hR hT
        obtain ⟨k, rfl, hki, hkq2, hc2, hR, hT⟩ := hrel
        obtain ⟨k2, rfl⟩ : ∃ m, gk = m + 1 := ⟨gk - 1, by omega⟩
        have ⟨s9, s9f⟩ := hT.out.row (g := w.heap.size) (cs := [.int .u64 a0, .int .u64 a1, .int .u64 a2, .string a3, .string a4, .int .i64 a5, .int .i64 a6, .int .u64 a7, .int .u64 a8, .slice (some ad) l.length c]) (by simp) 9 _ rfl
        have ⟨o9, o9f⟩ := hT.out.row (g := w.heap.size + 2) (cs := [.int .u64 a0, .int .u64 a1, .int .u64 a2, .string r3, .string r4, .int .i64 a5, .int .i64 a6, .int .u64 a7, .int .u64 a8, .slice V i d]) (by simp) 9 _ rfl
        have ⟨x0, _⟩ := hcells.out _ hT.out.b
        have hstop := Aside0.mk (show (0 < k → ¬ kc (av x) (Rw.fn (pre.map av) (k - 1)) < 0) → insL (av x) (pre.map av) = ((pre.take k) ++ x :: pre.drop k).map av from fun h => by
          rw [ins_cut (av x) (pre.map av) k hord.out (by rw [hpm.out]; exact hki) (fun j h1 h2 => hc2.out j h1 (by rw [hpm.out] at h2; exact h2)) h, List.map_append, List.map_take, List.map_cons, List.map_drop])
        by_cases hk0 : 0 < k
        · have hk0I : (0 : Int) < (k : Int) := by omega
          obtain ⟨j, rfl⟩ : ∃ j, k = j + 1 := ⟨k - 1, by omega⟩
          have hjI : ((j + 1 : Nat) : Int) - 1 = (j : Int) := by omega
          have hjw : wrap64 (((j + 1 : Nat) : Int) - 1) = (j : Int) := by rw [IntWalk.wrap64_in _ (by omega)]; exact hjI
          have hj0 : (0 : Int) ≤ (j : Int) := by omega
          have hjn : (j : Int) < (i : Int) := by omega
          have hjp : j < pre.length := by omega
          obtain ⟨ad2, rfl, z0, _⟩ := XSf.at_T63 hR.out.reads.2.2 (j : Int) hj0 (by omega)
          rw [Oz.rd63 _ j hjp, Int.toNat_natCast] at z0
          have hfn : Rw.fn (pre.map av) j = av pre[j] := map_at pre j hjp
          have hless := less_kc (av x) (av pre[j])
          obtain ⟨kk, hkk⟩ : ∃ kk : Nat, j + 1 = kk := ⟨_, rfl⟩
          rw [hkk] at hjI hjw hk0I ⊢
          have hk0N : 0 < kk := by omega
          by_cases hlt : kc (av x) (av pre[j]) < 0
          · have hb : Op.bytesLess x.f0.toList pre[j].f0.toList = true := hless.2 hlt
            have hc3 := Aside0.mk (show ∀ q, j ≤ q → q < i → kc (av x) (Rw.fn (pre.map av) q) < 0 from fun q h1 h2 => by
              by_cases e : q = j
              · subst e; rw [hfn]; exact hlt
              · exact hc2.out q (by omega) h2)
            clear hless hlt hfn hc2 hstop
            generalize pre[j].f0 = pk at z0 hb
            replace hkk := Aside0.mk hkk
            go_wp2
            go_quiet (fail)
            go_wp2
            go_roundg k2
            case measure => have := hkk.out; omega
            case rel => exact ⟨j, by first | rfl | simp, by omega, by have := hkk.out; omega, hc3, ⟨Kd.R_drewN hR.out _⟩, ⟨hT.out.drewN _⟩⟩
          · have hb : Op.bytesLess x.f0.toList pre[j].f0.toList = false := by
              cases e : Op.bytesLess x.f0.toList pre[j].f0.toList with
              | false => rfl
              | true => exact absurd (hless.1 e) hlt
            have hins := Aside0.mk (hstop.out (fun _ => by rw [show j + 1 - 1 = j from rfl, hfn]; exact hlt))
            rw [hkk] at hins
            have hkj : kk ≤ i := by omega
            have hkd : kk ≤ d := by omega
            clear hless hlt hfn hc2 hstop hki hkq2 hk0 hkk
            generalize pre[j].f0 = pk at z0 hb
            go_wp2
            go_quiet (fail)
            have hR1 := Aside0.mk (show Row3 w (wr.drewN nq) (some ad2) i d pre from Kd.R_drewN hR.out nq)
            have hT1 := Aside0.mk (hT.out.drewN nq)
            generalize wr.drewN nq = wt at hR1 hT1 ⊢
            clear s9 s9f o9 o9f hR hT x0 z0 hb hjI hjw hk0I hk0N
            have hb0 := Aside0.mk (show w.heap.size + 3 ≤ wt.heap.size by have := (hT1.out.r (w.heap.size + 2, [.int .u64 a0, .int .u64 a1, .int .u64 a2, .string r3, .string r4, .int .i64 a5, .int .i64 a6, .int .u64 a7, .int .u64 a8, .slice (some ad2) i d]) (by simp)).2.1; omega)
            have hsl1 := fun W => slice_to (some ad2) i d kk hkj hid W
            have hsl2 := fun W => slice_from (some ad2) i d kk hkj W
            obtain ⟨V2, hV2⟩ : ∃ V2, (if d = kk then (some ad2) else ((some ad2) : Option Addr).map (·.add (kk * 4))) = V2 := ⟨_, rfl⟩
            rw [hV2] at hsl2
            have hCp := Aside0.mk (show ∀ W, Row3 w W (some ad2) i d pre → Kd.C XSf.k63 W (some ad2) kk (pre.take kk) ∧ Kd.C XSf.k63 W V2 (i - kk) (pre.drop kk) from fun W h => by
              obtain ⟨_, h2, h3⟩ := h.reads
              have t1 := Kd.C_take h3 (m := kk) (by rw [hpl]; exact hkj)
              have t2 := Kd.C_drop h3 (m := kk) (c := d) (by rw [hpl]; exact hkj) h2
              rw [List.length_take, hpl, Nat.min_eq_left hkj] at t1
              rw [List.length_drop, hpl, show XSf.k63.sz = 4 from rfl, hV2] at t2
              exact ⟨t1, t2⟩)
            clear hV2
            have ⟨o9, o9f⟩ := hT1.out.row (g := w.heap.size + 2) (cs := [.int .u64 a0, .int .u64 a1, .int .u64 a2, .string r3, .string r4, .int .i64 a5, .int .i64 a6, .int .u64 a7, .int .u64 a8, .slice (some ad2) i d]) (by simp) 9 _ rfl
            have hXl0 : (([] ++ List.take kk pre ++ [x]) ++ List.drop kk pre).length = i + 1 := by
              simp only [List.nil_append, List.length_append, List.length_take, List.length_drop, List.length_singleton]; omega
            have hXL := Aside0.mk hXl0
            clear hXl0
            go_wp2_with (first
              | ((with_reducible refine gate_dst (N := 51) rfl ?_); refine Kd.R_lit XSf.k63 (w0 := wt) wt.heap.size 63 ?hg (N := 51) ?hd (xs := ([] : List XSf.S63)) (inner := []) (ok := fun _ => True) (okp := fun _ => True) ?hr ?hp (fun _ hk => hk) trivial (Below.refl _ _) (Nat.le_refl _) (by simp) ?_; (case hd => rfl); (case hg => rfl); (case hr => first | (go_simp; done) | (go_simp; rfl)); (case hp => exact (Reps.none _ _)); intro v1 w1 hl1 hb1 _ _; replace hl1 := Aside0.mk hl1; clear o9 o9f; have ⟨o9, o9f⟩ := (hT1.out.keep hb1).row (g := w.heap.size + 2) (cs := [.int .u64 a0, .int .u64 a1, .int .u64 a2, .string r3, .string r4, .int .i64 a5, .int .i64 a6, .int .u64 a7, .int .u64 a8, .slice (some ad2) i d]) (by simp) 9 _ rfl; replace hb1 := Aside0.mk hb1)
              | ((with_reducible refine gate_builtin (b := .append) (xs := #[.tmp 51, .tmp 55]) rfl ?_); at_builtin; refine Kd.R_append_rows XSf.k63 (w0 := wt) wt.heap.size rfl (.tmp 51) (.tmp 55) 35 63 (.agg #[(.string ⟨#[]⟩), (.int .i64 0), (.int .i64 0), (.string ⟨#[]⟩)]) 48 rfl Try.underlying35 info63 rfl (by decide) (by omega) v1 [] (pre.take kk) _ _ _ (fun _ => True) (fun _ => False) rfl rfl hl1.out (hCp.out _ (hR1.out.keep hb1.out)).1 (fun _ _ h => h) (fun _ h => h.elim) (fun _ _ => trivial) hb1.out hb1.out.size (by simp only [List.length_nil]; omega) ?_; intro v2 w2 hl2 hb2 _ _; replace hl2 := Aside0.mk hl2; clear hl1 hb1 o9 o9f; have ⟨s9, s9f⟩ := (hT1.out.keep hb2).row (g := w.heap.size) (cs := [.int .u64 a0, .int .u64 a1, .int .u64 a2, .string a3, .string a4, .int .i64 a5, .int .i64 a6, .int .u64 a7, .int .u64 a8, .slice (some ad) l.length c]) (by simp) 9 _ rfl; have ⟨x0, x1, x2, x3⟩ := hcells.out _ (hT1.out.keep hb2).b; replace hb2 := Aside0.mk hb2)
              | ((with_reducible refine gate_builtin (b := .append) (xs := #[.tmp 57, .tmp 63]) rfl ?_); at_builtin; refine Kd.R_append XSf.k63 (w0 := wt) wt.heap.size rfl (.tmp 57) (.tmp 63) 35 63 (.agg #[(.string ⟨#[]⟩), (.int .i64 0), (.int .i64 0), (.string ⟨#[]⟩)]) 48 rfl Try.underlying35 info63 rfl (by decide) (by omega) v2 _ x [.string x.f0, .int .i64 x.f1.f0, .int .i64 x.f1.f1, .string x.f1.f2] (fun _ => True) (fun _ => False) rfl rfl (XSf.k63_mkM _ _ _ x) (fun _ hk => hk.elim) (fun _ _ => trivial) hl2.out hb2.out hb2.out.size (by simp only [List.nil_append, List.length_take]; omega) ?_; intro v3 w3 hl3 hb3 _ _; replace hl3 := Aside0.mk hl3; clear hl2 hb2 s9 s9f x0 x1 x2 x3; have ⟨o9, o9f⟩ := (hT1.out.keep hb3).row (g := w.heap.size + 2) (cs := [.int .u64 a0, .int .u64 a1, .int .u64 a2, .string r3, .string r4, .int .i64 a5, .int .i64 a6, .int .u64 a7, .int .u64 a8, .slice (some ad2) i d]) (by simp) 9 _ rfl; replace hb3 := Aside0.mk hb3)
              | ((with_reducible refine gate_builtin (b := .append) (xs := #[.tmp 65, .tmp 69]) rfl ?_); at_builtin; refine Kd.R_append_rows XSf.k63 (w0 := wt) wt.heap.size rfl (.tmp 65) (.tmp 69) 35 63 (.agg #[(.string ⟨#[]⟩), (.int .i64 0), (.int .i64 0), (.string ⟨#[]⟩)]) 48 rfl Try.underlying35 info63 rfl (by decide) (by omega) v3 _ (pre.drop kk) _ _ _ (fun _ => True) (fun _ => False) rfl rfl hl3.out (hCp.out _ (hR1.out.keep hb3.out)).2 (fun _ _ h => h) (fun _ h => h.elim) (fun _ _ => trivial) hb3.out hb3.out.size (by simp only [List.nil_append, List.length_append, List.length_take, List.length_singleton]; omega) ?_; intro v4 w4 hl4 hb4 _ _; obtain ⟨V4, d4, rfl, hd4, _⟩ := Kd.R_reads hl4; rw [hXL.out] at hl4 hd4 ⊢; clear hl3 hb3 o9 o9f; have ⟨o9, o9f⟩ := (hT1.out.keep hb4).row (g := w.heap.size + 2) (cs := [.int .u64 a0, .int .u64 a1, .int .u64 a2, .string r3, .string r4, .int .i64 a5, .int .i64 a6, .int .u64 a7, .int .u64 a8, .slice (some ad2) i d]) (by simp) 9 _ rfl; replace hl4 := Aside0.mk hl4; replace hb4 := Aside0.mk hb4; replace hd4 := Aside0.mk hd4))
            have hXl := hXL.out
            clear hXL
            have hXe : ([] ++ List.take kk pre ++ [x]) ++ List.drop kk pre = List.take kk pre ++ x :: List.drop kk pre := by simp
            have hXa := Aside0.mk (hnext.out (([] ++ List.take kk pre ++ [x]) ++ List.drop kk pre) (by rw [hXe]; exact hins.out.symm))
            clear hXe
            generalize ([] ++ List.take kk pre ++ [x]) ++ List.drop kk pre = X at hl4 hXl hXa
            have hT4 := Aside0.mk (show Bx w (w4.setCell ⟨w.heap.size + 2, 9, none⟩ (.slice V4 (i + 1) d4)) _ from Bx.set (hT1.out.keep hb4.out) (ne3 _ _ _) 9 (.slice V4 (i + 1) d4))
            have hR4 := Aside0.mk (show Row3 w (w4.setCell ⟨w.heap.size + 2, 9, none⟩ (.slice V4 (i + 1) d4)) V4 (i + 1) d4 X from Row3.far (Kd.R_mono (Kd.R_lower (Kd.R_fresh rfl hl4.out) hb0.out) (fun q (hq : wt.heap.size ≤ q) => Nat.le_trans hb0.out hq)) ⟨w.heap.size + 2, 9, none⟩ (by show w.heap.size + 2 < w.heap.size + 3; omega) _)
            clear hl4 o9 o9f hT1 hR1
            generalize w4.setCell ⟨w.heap.size + 2, 9, none⟩ (.slice V4 (i + 1) d4) = w5 at hT4 hR4 ⊢
            go_roundg k1
            case measure => omega
            case rel => exact ⟨i + 1, V4, d4, X, by first | rfl | simp, by omega, by omega, hXl, by have := hd4.out; omega, hXa, hR4, hT4⟩
        · have hk0I : ¬ (0 : Int) < (k : Int) := by omega
          have hins := Aside0.mk (hstop.out (fun h => absurd h hk0))
          have hkd : k ≤ d := by omega
          clear hc2 hstop hkq2
          go_wp2
          go_quiet (fail)
          have hR1 := Aside0.mk (show Row3 w (wr.drewN nq) V i d pre from Kd.R_drewN hR.out nq)
          have hT1 := Aside0.mk (hT.out.drewN nq)
          generalize wr.drewN nq = wt at hR1 hT1 ⊢
          clear s9 s9f o9 o9f hR hT x0 hk0I hk0
          have hb0 := Aside0.mk (show w.heap.size + 3 ≤ wt.heap.size by have := (hT1.out.r (w.heap.size + 2, [.int .u64 a0, .int .u64 a1, .int .u64 a2, .string r3, .string r4, .int .i64 a5, .int .i64 a6, .int .u64 a7, .int .u64 a8, .slice V i d]) (by simp)).2.1; omega)
          have hsl1 := fun W => slice_to V i d k hki hid W
          have hsl2 := fun W => slice_from V i d k hki W
          obtain ⟨V2, hV2⟩ : ∃ V2, (if d = k then V else (V : Option Addr).map (·.add (k * 4))) = V2 := ⟨_, rfl⟩
          rw [hV2] at hsl2
          have hCp := Aside0.mk (show ∀ W, Row3 w W V i d pre → Kd.C XSf.k63 W V k (pre.take k) ∧ Kd.C XSf.k63 W V2 (i - k) (pre.drop k) from fun W h => by
            obtain ⟨_, h2, h3⟩ := h.reads
            have t1 := Kd.C_take h3 (m := k) (by rw [hpl]; exact hki)
            have t2 := Kd.C_drop h3 (m := k) (c := d) (by rw [hpl]; exact hki) h2
            rw [List.length_take, hpl, Nat.min_eq_left hki] at t1
            rw [List.length_drop, hpl, show XSf.k63.sz = 4 from rfl, hV2] at t2
            exact ⟨t1, t2⟩)
          clear hV2
          have ⟨o9, o9f⟩ := hT1.out.row (g := w.heap.size + 2) (cs := [.int .u64 a0, .int .u64 a1, .int .u64 a2, .string r3, .string r4, .int .i64 a5, .int .i64 a6, .int .u64 a7, .int .u64 a8, .slice V i d]) (by simp) 9 _ rfl
          have hXl0 : (([] ++ List.take k pre ++ [x]) ++ List.drop k pre).length = i + 1 := by
            simp only [List.nil_append, List.length_append, List.length_take, List.length_drop, List.length_singleton]; omega
          have hXL := Aside0.mk hXl0
          clear hXl0
          go_wp2_with (first
            | ((with_reducible refine gate_dst (N := 51) rfl ?_); refine Kd.R_lit XSf.k63 (w0 := wt) wt.heap.size 63 ?hg (N := 51) ?hd (xs := ([] : List XSf.S63)) (inner := []) (ok := fun _ => True) (okp := fun _ => True) ?hr ?hp (fun _ hk => hk) trivial (Below.refl _ _) (Nat.le_refl _) (by simp) ?_; (case hd => rfl); (case hg => rfl); (case hr => first | (go_simp; done) | (go_simp; rfl)); (case hp => exact (Reps.none _ _)); intro v1 w1 hl1 hb1 _ _; replace hl1 := Aside0.mk hl1; clear o9 o9f; have ⟨o9, o9f⟩ := (hT1.out.keep hb1).row (g := w.heap.size + 2) (cs := [.int .u64 a0, .int .u64 a1, .int .u64 a2, .string r3, .string r4, .int .i64 a5, .int .i64 a6, .int .u64 a7, .int .u64 a8, .slice V i d]) (by simp) 9 _ rfl; replace hb1 := Aside0.mk hb1)
            | ((with_reducible refine gate_builtin (b := .append) (xs := #[.tmp 51, .tmp 55]) rfl ?_); at_builtin; refine Kd.R_append_rows XSf.k63 (w0 := wt) wt.heap.size rfl (.tmp 51) (.tmp 55) 35 63 (.agg #[(.string ⟨#[]⟩), (.int .i64 0), (.int .i64 0), (.string ⟨#[]⟩)]) 48 rfl Try.underlying35 info63 rfl (by decide) (by omega) v1 [] (pre.take k) _ _ _ (fun _ => True) (fun _ => False) rfl rfl hl1.out (hCp.out _ (hR1.out.keep hb1.out)).1 (fun _ _ h => h) (fun _ h => h.elim) (fun _ _ => trivial) hb1.out hb1.out.size (by simp only [List.length_nil]; omega) ?_; intro v2 w2 hl2 hb2 _ _; replace hl2 := Aside0.mk hl2; clear hl1 hb1 o9 o9f; have ⟨s9, s9f⟩ := (hT1.out.keep hb2).row (g := w.heap.size) (cs := [.int .u64 a0, .int .u64 a1, .int .u64 a2, .string a3, .string a4, .int .i64 a5, .int .i64 a6, .int .u64 a7, .int .u64 a8, .slice (some ad) l.length c]) (by simp) 9 _ rfl; have ⟨x0, x1, x2, x3⟩ := hcells.out _ (hT1.out.keep hb2).b; replace hb2 := Aside0.mk hb2)
            | ((with_reducible refine gate_builtin (b := .append) (xs := #[.tmp 57, .tmp 63]) rfl ?_); at_builtin; refine Kd.R_append XSf.k63 (w0 := wt) wt.heap.size rfl (.tmp 57) (.tmp 63) 35 63 (.agg #[(.string ⟨#[]⟩), (.int .i64 0), (.int .i64 0), (.string ⟨#[]⟩)]) 48 rfl Try.underlying35 info63 rfl (by decide) (by omega) v2 _ x [.string x.f0, .int .i64 x.f1.f0, .int .i64 x.f1.f1, .string x.f1.f2] (fun _ => True) (fun _ => False) rfl rfl (XSf.k63_mkM _ _ _ x) (fun _ hk => hk.elim) (fun _ _ => trivial) hl2.out hb2.out hb2.out.size (by simp only [List.nil_append, List.length_take]; omega) ?_; intro v3 w3 hl3 hb3 _ _; replace hl3 := Aside0.mk hl3; clear hl2 hb2 s9 s9f x0 x1 x2 x3; have ⟨o9, o9f⟩ := (hT1.out.keep hb3).row (g := w.heap.size + 2) (cs := [.int .u64 a0, .int .u64 a1, .int .u64 a2, .string r3, .string r4, .int .i64 a5, .int .i64 a6, .int .u64 a7, .int .u64 a8, .slice V i d]) (by simp) 9 _ rfl; replace hb3 := Aside0.mk hb3)
            | ((with_reducible refine gate_builtin (b := .append) (xs := #[.tmp 65, .tmp 69]) rfl ?_); at_builtin; refine Kd.R_append_rows XSf.k63 (w0 := wt) wt.heap.size rfl (.tmp 65) (.tmp 69) 35 63 (.agg #[(.string ⟨#[]⟩), (.int .i64 0), (.int .i64 0), (.string ⟨#[]⟩)]) 48 rfl Try.underlying35 info63 rfl (by decide) (by omega) v3 _ (pre.drop k) _ _ _ (fun _ => True) (fun _ => False) rfl rfl hl3.out (hCp.out _ (hR1.out.keep hb3.out)).2 (fun _ _ h => h) (fun _ h => h.elim) (fun _ _ => trivial) hb3.out hb3.out.size (by simp only [List.nil_append, List.length_append, List.length_take, List.length_singleton]; omega) ?_; intro v4 w4 hl4 hb4 _ _; obtain ⟨V4, d4, rfl, hd4, _⟩ := Kd.R_reads hl4; rw [hXL.out] at hl4 hd4 ⊢; clear hl3 hb3 o9 o9f; have ⟨o9, o9f⟩ := (hT1.out.keep hb4).row (g := w.heap.size + 2) (cs := [.int .u64 a0, .int .u64 a1, .int .u64 a2, .string r3, .string r4, .int .i64 a5, .int .i64 a6, .int .u64 a7, .int .u64 a8, .slice V i d]) (by simp) 9 _ rfl; replace hl4 := Aside0.mk hl4; replace hb4 := Aside0.mk hb4; replace hd4 := Aside0.mk hd4))
          have hXl := hXL.out
          clear hXL
          have hXe : ([] ++ List.take k pre ++ [x]) ++ List.drop k pre = List.take k pre ++ x :: List.drop k pre := by simp
          have hXa := Aside0.mk (hnext.out (([] ++ List.take k pre ++ [x]) ++ List.drop k pre) (by rw [hXe]; exact hins.out.symm))
          clear hXe
          generalize ([] ++ List.take k pre ++ [x]) ++ List.drop k pre = X at hl4 hXl hXa
          have hT4 := Aside0.mk (show Bx w (w4.setCell ⟨w.heap.size + 2, 9, none⟩ (.slice V4 (i + 1) d4)) _ from Bx.set (hT1.out.keep hb4.out) (ne3 _ _ _) 9 (.slice V4 (i + 1) d4))
          have hR4 := Aside0.mk (show Row3 w (w4.setCell ⟨w.heap.size + 2, 9, none⟩ (.slice V4 (i + 1) d4)) V4 (i + 1) d4 X from Row3.far (Kd.R_mono (Kd.R_lower (Kd.R_fresh rfl hl4.out) hb0.out) (fun q (hq : wt.heap.size ≤ q) => Nat.le_trans hb0.out hq)) ⟨w.heap.size + 2, 9, none⟩ (by show w.heap.size + 2 < w.heap.size + 3; omega) _)
          clear hl4 o9 o9f hT1 hR1
          generalize w4.setCell ⟨w.heap.size + 2, 9, none⟩ (.slice V4 (i + 1) d4) = w5 at hT4 hR4 ⊢
          go_roundg k1
          case measure => omega
          case rel => exact ⟨i + 1, V4, d4, X, by first | rfl | simp, by omega, by omega, hXl, by have := hd4.out; omega, hXa, hR4, hT4⟩
    · have hinI : ¬ (i : Int) < (l.length : Int) := by omega
      have e1 : i = l.length := by omega
      subst e1
      have hpre2 := Aside0.mk (show pre.map av = srtL (l.map av) by rw [hpre.out, List.take_of_length_le (by rw [List.length_map]; exact Nat.le_refl _)])
      clear hkq hpre
      have ⟨u0, z0⟩ := (hT.out.row (g := w.heap.size + 1) (cs := [.int .u64 0, .int .u64 0, .int .u64 0, .string ⟨#[]⟩, .string ⟨#[]⟩, .int .i64 0, .int .i64 0, .int .u64 0, .int .u64 0, .slice none 0 0]) (by simp)) 0 _ rfl
      have ⟨u1, z1⟩ := (hT.out.row (g := w.heap.size + 1) (cs := [.int .u64 0, .int .u64 0, .int .u64 0, .string ⟨#[]⟩, .string ⟨#[]⟩, .int .i64 0, .int .i64 0, .int .u64 0, .int .u64 0, .slice none 0 0]) (by simp)) 1 _ rfl
      have ⟨u2, z2⟩ := (hT.out.row (g := w.heap.size + 1) (cs := [.int .u64 0, .int .u64 0, .int .u64 0, .string ⟨#[]⟩, .string ⟨#[]⟩, .int .i64 0, .int .i64 0, .int .u64 0, .int .u64 0, .slice none 0 0]) (by simp)) 2 _ rfl
      have ⟨u3, z3⟩ := (hT.out.row (g := w.heap.size + 1) (cs := [.int .u64 0, .int .u64 0, .int .u64 0, .string ⟨#[]⟩, .string ⟨#[]⟩, .int .i64 0, .int .i64 0, .int .u64 0, .int .u64 0, .slice none 0 0]) (by simp)) 3 _ rfl
      have ⟨u4, z4⟩ := (hT.out.row (g := w.heap.size + 1) (cs := [.int .u64 0, .int .u64 0, .int .u64 0, .string ⟨#[]⟩, .string ⟨#[]⟩, .int .i64 0, .int .i64 0, .int .u64 0, .int .u64 0, .slice none 0 0]) (by simp)) 4 _ rfl
      have ⟨u5, z5⟩ := (hT.out.row (g := w.heap.size + 1) (cs := [.int .u64 0, .int .u64 0, .int .u64 0, .string ⟨#[]⟩, .string ⟨#[]⟩, .int .i64 0, .int .i64 0, .int .u64 0, .int .u64 0, .slice none 0 0]) (by simp)) 5 _ rfl
      have ⟨u6, z6⟩ := (hT.out.row (g := w.heap.size + 1) (cs := [.int .u64 0, .int .u64 0, .int .u64 0, .string ⟨#[]⟩, .string ⟨#[]⟩, .int .i64 0, .int .i64 0, .int .u64 0, .int .u64 0, .slice none 0 0]) (by simp)) 6 _ rfl
      have ⟨u7, z7⟩ := (hT.out.row (g := w.heap.size + 1) (cs := [.int .u64 0, .int .u64 0, .int .u64 0, .string ⟨#[]⟩, .string ⟨#[]⟩, .int .i64 0, .int .i64 0, .int .u64 0, .int .u64 0, .slice none 0 0]) (by simp)) 7 _ rfl
      have ⟨u8, z8⟩ := (hT.out.row (g := w.heap.size + 1) (cs := [.int .u64 0, .int .u64 0, .int .u64 0, .string ⟨#[]⟩, .string ⟨#[]⟩, .int .i64 0, .int .i64 0, .int .u64 0, .int .u64 0, .slice none 0 0]) (by simp)) 8 _ rfl
      have ⟨u9, z9⟩ := (hT.out.row (g := w.heap.size + 1) (cs := [.int .u64 0, .int .u64 0, .int .u64 0, .string ⟨#[]⟩, .string ⟨#[]⟩, .int .i64 0, .int .i64 0, .int .u64 0, .int .u64 0, .slice none 0 0]) (by simp)) 9 _ rfl
      go_wp2_with (first
        | (refine wpList_load_at (by rfl) 37 _ rfl (w.heap.size + 2) 0 rfl [.int .u64 a0, .int .u64 a1, .int .u64 a2, .string r3, .string r4, .int .i64 a5, .int .i64 a6, .int .u64 a7, .int .u64 a8, .slice V l.length d] _ (row_at0 (hT.out.row (by simp))) Try.underlying37 rfl (by kernel_rfl) ?_))
      have hT4 := (((((((((((hT.out.row (g := w.heap.size + 1) (cs := [.int .u64 0, .int .u64 0, .int .u64 0, .string ⟨#[]⟩, .string ⟨#[]⟩, .int .i64 0, .int .i64 0, .int .u64 0, .int .u64 0, .slice none 0 0]) (by simp)).set 0 (.int .u64 a0)).set 1 (.int .u64 a1)).set 2 (.int .u64 a2)).set 3 (.string r3)).set 4 (.string r4)).set 5 (.int .i64 a5)).set 6 (.int .i64 a6)).set 7 (.int .u64 a7)).set 8 (.int .u64 a8)).set 9 (.slice V l.length d))
      have hR4 := (Row3.far (Row3.far (Row3.far (Row3.far (Row3.far (Row3.far (Row3.far (Row3.far (Row3.far (Row3.far hR.out ⟨w.heap.size + 1, 0, none⟩ (by show w.heap.size + 1 < w.heap.size + 3; omega) (.int .u64 a0)) ⟨w.heap.size + 1, 1, none⟩ (by show w.heap.size + 1 < w.heap.size + 3; omega) (.int .u64 a1)) ⟨w.heap.size + 1, 2, none⟩ (by show w.heap.size + 1 < w.heap.size + 3; omega) (.int .u64 a2)) ⟨w.heap.size + 1, 3, none⟩ (by show w.heap.size + 1 < w.heap.size + 3; omega) (.string r3)) ⟨w.heap.size + 1, 4, none⟩ (by show w.heap.size + 1 < w.heap.size + 3; omega) (.string r4)) ⟨w.heap.size + 1, 5, none⟩ (by show w.heap.size + 1 < w.heap.size + 3; omega) (.int .i64 a5)) ⟨w.heap.size + 1, 6, none⟩ (by show w.heap.size + 1 < w.heap.size + 3; omega) (.int .i64 a6)) ⟨w.heap.size + 1, 7, none⟩ (by show w.heap.size + 1 < w.heap.size + 3; omega) (.int .u64 a7)) ⟨w.heap.size + 1, 8, none⟩ (by show w.heap.size + 1 < w.heap.size + 3; omega) (.int .u64 a8)) ⟨w.heap.size + 1, 9, none⟩ (by show w.heap.size + 1 < w.heap.size + 3; omega) (.slice V l.length d))
      have hCF := hR4.reads.2.2
      rw [hpl] at hCF
      refine bodyPost_ret (results_at rfl _ _ (w.heap.size + 1) [.int .u64 a0, .int .u64 a1, .int .u64 a2, .string r3, .string r4, .int .i64 a5, .int .i64 a6, .int .u64 a7, .int .u64 a8, .slice V l.length d] _ rfl (show Row _ _ [.int .u64 a0, .int .u64 a1, .int .u64 a2, .string r3, .string r4, .int .i64 a5, .int .i64 a6, .int .u64 a7, .int .u64 a8, .slice V l.length d] from hT4) Try.underlying37 rfl (by kernel_rfl)) rfl ⟨V, d, rfl, pre, hpl, hid, hpre2.out, hCF, ?_⟩
      exact ((((((((((hT.out.b.setCell (by show w.heap.size ≤ w.heap.size + 1; omega) _).setCell (by show w.heap.size ≤ w.heap.size + 1; omega) _).setCell (by show w.heap.size ≤ w.heap.size + 1; omega) _).setCell (by show w.heap.size ≤ w.heap.size + 1; omega) _).setCell (by show w.heap.size ≤ w.heap.size + 1; omega) _).setCell (by show w.heap.size ≤ w.heap.size + 1; omega) _).setCell (by show w.heap.size ≤ w.heap.size + 1; omega) _).setCell (by show w.heap.size ≤ w.heap.size + 1; omega) _).setCell (by show w.heap.size ≤ w.heap.size + 1; omega) _).setCell (by show w.heap.size ≤ w.heap.size + 1; omega) _)
end Go.Proofs.Ytllepjhimkogjaa.Ck
