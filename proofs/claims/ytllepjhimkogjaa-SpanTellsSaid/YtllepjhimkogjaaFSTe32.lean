/- The law's proof, part 32: the text Ob9 of this session, or words printed for this seat; what the theorem doesn't use is left out. No conditions. -/
import Derived.Test.YtllepjhimkogjaaFSTe31
import Derived.Deep.LoopGhost
import Derived.RegionTactic
import Derived.Test.YtllepjhimkogjaaFSTe5
namespace Go.Proofs.Ytllepjhimkogjaa.Ix
end Go.Proofs.Ytllepjhimkogjaa.Ix
namespace Go.Proofs.Ytllepjhimkogjaa.Ob
end Go.Proofs.Ytllepjhimkogjaa.Ob
namespace Go.Proofs.Ytllepjhimkogjaa.Rw
end Go.Proofs.Ytllepjhimkogjaa.Rw
namespace Go.Proofs.Ytllepjhimkogjaa.Sk
end Go.Proofs.Ytllepjhimkogjaa.Sk
namespace Go.Proofs.Ytllepjhimkogjaa.Sw
end Go.Proofs.Ytllepjhimkogjaa.Sw
namespace Go.Proofs.Ytllepjhimkogjaa.Two
end Go.Proofs.Ytllepjhimkogjaa.Two
namespace Go.Proofs.YtllepjhimkogjaaW.PrintLast
end Go.Proofs.YtllepjhimkogjaaW.PrintLast
namespace Go.Proofs.YtllepjhimkogjaaW.PrintWords
end Go.Proofs.YtllepjhimkogjaaW.PrintWords
namespace Go.Proofs.Ytllepjhimkogjaa.Ix
open Go.RowKit Go.Proofs.YtllepjhimkogjaaW.PrintWords Go.Proofs.YtllepjhimkogjaaW.PrintLast
open Go.Proofs.Ytllepjhimkogjaa.Ob Go.Proofs.Ytllepjhimkogjaa.Two Go.Proofs.Ytllepjhimkogjaa.Sk
set_option linter.unusedSimpArgs false
set_option linter.unusedVariables false
open Go.Proofs.Ytllepjhimkogjaa.Sw
abbrev E := Go.Proofs.Ytllepjhimkogjaa.Ty.S51
abbrev K51 := Go.Proofs.Ytllepjhimkogjaa.Ty.k51
theorem toList_ne {x y : ByteArray} (h : ¬ x = y) : ¬ x.toList = y.toList := by
  intro k
  rw [Lb.toList_D, Lb.toList_D] at k
  exact h (Lb.D_inj k)
def ix (l : List E) (q : ByteArray) : Option Nat := l.findIdx? (fun y => decide (y.f0 = q))
def ixI (l : List E) (q : ByteArray) : Int := match ix l q with | some i => (i : Int) | none => -1
theorem ix_none {l : List E} {q : ByteArray} (h : ∀ j, ∀ hj : j < l.length, l[j].f0 ≠ q) : ixI l q = -1 := by
  have : ix l q = none := by
    unfold ix
    rw [List.findIdx?_eq_none_iff]
    intro x hx
    obtain ⟨j, hj, rfl⟩ := List.mem_iff_getElem.1 hx
    simpa using h j hj
  unfold ixI
  rw [this]
theorem ix_some {l : List E} {q : ByteArray} (i : Nat) (hi : i < l.length) (h : ∀ j, j < i → ∀ hj : j < l.length, l[j].f0 ≠ q) (h2 : l[i].f0 = q) : ixI l q = (i : Int) := by
  have : ix l q = some i := by
    unfold ix
    rw [List.findIdx?_eq_some_iff_getElem]
    exact ⟨hi, by simpa using h2, fun j hj => by simpa using h j hj (by omega)⟩
  unfold ixI
  rw [this]
theorem rd_at (l : List E) (i : Nat) (h : i < l.length) : Ty.rd_T51 l (i : Int) = l[i] := by
  unfold Ty.rd_T51
  rw [Int.toNat_natCast, List.getD_eq_getElem?_getD, List.getElem?_eq_getElem h]; rfl
set_option maxHeartbeats 4000000 in
set_option maxRecDepth 1000000 in
theorem key94_w (x : E) (b : Nat) (q : ByteArray) (w : World) (hq : w.cell? ⟨b, 0, none⟩ = some (.string q)) : Calls Try.prog 94 #[.agg #[.string (x).f0, .int .i64 (x).f1.f0, .int .i64 (x).f1.f1, .string (x).f1.f2], .pointer (some ⟨b, 0, none⟩)] w fun e w' => e = .returned (.bool (decide (x.f0 = q))) ∧ Below w.heap.size w w' := by
  have hT := Aside0.mk ((Bx.start w).new [.string x.f0, .int .i64 x.f1.f0, .int .i64 x.f1.f1, .string x.f1.f2] 51)
  obtain ⟨y0, z0⟩ := hT.out.row (List.mem_cons_self ..) 0 _ rfl
  have hb := World.block_lt_of_cell? w _ hq
  have hq2 : (w.alloc (.cells #[.string x.f0, .int .i64 x.f1.f0, .int .i64 x.f1.f1, .string x.f1.f2] 51)).cell? ⟨b, 0, none⟩ = some (.string q) := by
    have h3 := ((Below.refl w.heap.size w).alloc (Nat.le_refl _) (.cells #[.string x.f0, .int .i64 x.f1.f0, .int .i64 x.f1.f1, .string x.f1.f2] 51)).block b hb
    unfold World.cell? at hq ⊢
    rw [h3]; exact hq
  by_cases e : x.f0 = q
  · have e2 : x.f0.toList = q.toList := by rw [e]
    rw [decide_eq_true e]
    clear e
    go_enter Try.func94, Try.ntmps94
    go_wp2
    go_ret
    exact ⟨by first | rfl | simp, hT.out.b⟩
  · have e2 := toList_ne e
    rw [decide_eq_false e]
    clear e
    go_enter Try.func94, Try.ntmps94
    go_wp2
    go_ret
    exact ⟨by first | rfl | simp [e2], hT.out.b⟩
set_option maxHeartbeats 4000000 in
set_option maxRecDepth 1000000 in
theorem index94_w (w : World) (A : Option Addr) (n c : Nat) (l : List E) (b : Nat) (q : ByteArray) (r : Int) (hr : ixI l q = r) (hC : Kd.C K51 w A n l) (hn : n ≤ 1000) (hq : w.cell? ⟨b, 0, none⟩ = some (.string q)) :
    Calls Try.prog 67 #[.slice A n c, .func (.func 94) #[] #[.pointer (some ⟨b, 0, none⟩)]] w fun e w' => e = .returned (.int .i64 r) ∧ Below w.heap.size w w' := by
  have hl : l.length = n := hC.1
  have hb := Aside0.mk (World.block_lt_of_cell? w _ hq)
  have HB := Aside0.mk (Below.refl w.heap.size w)
  replace hl := Aside0.mk hl
  replace hC := Aside0.mk hC
  replace hq := Aside0.mk hq
  replace hr := Aside0.mk hr
  go_enter Try.func67, Try.ntmps67
  go_wp2
  go_loopg [8] (n + 1) (fun kq v8 wr => ∃ i : Nat, v8 = .int .i64 (i : Int) ∧ i ≤ n ∧ n - i < kq ∧ Aside0 (∀ j, j < i → ∀ hj : j < l.length, l[j].f0 ≠ q) ∧ Aside0 (Below w.heap.size w wr))
  case atStart => exact ⟨0, rfl, Nat.zero_le _, by omega, ⟨fun j h => absurd h (by omega)⟩, HB⟩
  case round =>
    clear HB
    obtain ⟨i, rfl, hi, hk, HR, HB⟩ := hrel
    obtain ⟨k1, rfl⟩ : ∃ m, gk = m + 1 := ⟨gk - 1, by omega⟩
    have hi0 : (0 : Int) ≤ (i : Int) := by omega
    by_cases hin : i < n
    · have hinI : (i : Int) < (n : Int) := by omega
      have hil : i < l.length := by rw [hl.out]; exact hin
      obtain ⟨ad, rfl, x0, x1, x2, x3⟩ := Ty.at_T51 (Kd.C_below hC.out HB.out) (i : Int) hi0 (by exact hinI)
      rw [rd_at l i hil, Int.toNat_natCast] at x0 x1 x2 x3
      have hq2 : wr.cell? ⟨b, 0, none⟩ = some (.string q) := by
        have h3 := HB.out.block b hb.out
        have h4 := hq.out
        unfold World.cell? at h4 ⊢
        rw [h3]; exact h4
      by_cases e : l[i].f0 = q
      · have hd : decide (l[i].f0 = q) = true := decide_eq_true e
        have he := Aside0.mk (show (i : Int) = r by rw [← hr.out]; exact (ix_some i hil HR.out e).symm)
        clear e
        generalize l[i] = x at x0 x1 x2 x3 hd
        replace hd := Aside0.mk hd
        go_wp2_with (go_at_call 94; refine (key94_w x b q _ hq2).mono ?_; rintro e w2 ⟨rfl, hb2⟩; rw [hd.out])
        go_ret
        exact ⟨by rw [← he.out]; rfl, HB.out.trans (hb2.mono HB.out.size)⟩
      · have hd : decide (l[i].f0 = q) = false := decide_eq_false e
        have HR2 := Aside0.mk (show ∀ j, j < i + 1 → ∀ hj : j < l.length, l[j].f0 ≠ q from fun j h hj => by
          by_cases e2 : j = i
          · subst e2; exact e
          · exact HR.out j (by omega) hj)
        clear e HR
        generalize l[i] = x at x0 x1 x2 x3 hd
        replace hd := Aside0.mk hd
        go_wp2_with (go_at_call 94; refine (key94_w x b q _ hq2).mono ?_; rintro e w2 ⟨rfl, hb2⟩; rw [hd.out])
        go_roundg k1
        case measure => omega
        case rel => exact ⟨i + 1, by first | rfl | simp, by omega, by omega, HR2, ⟨HB.out.trans (hb2.mono HB.out.size)⟩⟩
    · have e1 : i = n := by omega
      have hinI : ¬ (i : Int) < (n : Int) := by omega
      have he := Aside0.mk (show (-1 : Int) = r by rw [← hr.out]; exact (ix_none (fun j hj => HR.out j (by have := hl.out; omega) hj)).symm)
      clear hk e1
      go_wp2
      go_ret
      exact ⟨by rw [← he.out]; rfl, HB.out⟩
set_option maxHeartbeats 4000000 in
set_option maxRecDepth 1000000 in
theorem key68_w (x : E) (b : Nat) (q : ByteArray) (w : World) (hq : w.cell? ⟨b, 0, none⟩ = some (.string q)) : Calls Try.prog 68 #[.agg #[.string (x).f0, .int .i64 (x).f1.f0, .int .i64 (x).f1.f1, .string (x).f1.f2], .pointer (some ⟨b, 0, none⟩)] w fun e w' => e = .returned (.bool (decide (x.f0 = q))) ∧ Below w.heap.size w w' := by
  have hT := Aside0.mk ((Bx.start w).new [.string x.f0, .int .i64 x.f1.f0, .int .i64 x.f1.f1, .string x.f1.f2] 51)
  obtain ⟨y0, z0⟩ := hT.out.row (List.mem_cons_self ..) 0 _ rfl
  have hb := World.block_lt_of_cell? w _ hq
  have hq2 : (w.alloc (.cells #[.string x.f0, .int .i64 x.f1.f0, .int .i64 x.f1.f1, .string x.f1.f2] 51)).cell? ⟨b, 0, none⟩ = some (.string q) := by
    have h3 := ((Below.refl w.heap.size w).alloc (Nat.le_refl _) (.cells #[.string x.f0, .int .i64 x.f1.f0, .int .i64 x.f1.f1, .string x.f1.f2] 51)).block b hb
    unfold World.cell? at hq ⊢
    rw [h3]; exact hq
  by_cases e : x.f0 = q
  · have e2 : x.f0.toList = q.toList := by rw [e]
    rw [decide_eq_true e]
    clear e
    go_enter Try.func68, Try.ntmps68
    go_wp2
    go_ret
    exact ⟨by first | rfl | simp, hT.out.b⟩
  · have e2 := toList_ne e
    rw [decide_eq_false e]
    clear e
    go_enter Try.func68, Try.ntmps68
    go_wp2
    go_ret
    exact ⟨by first | rfl | simp [e2], hT.out.b⟩
set_option maxHeartbeats 4000000 in
set_option maxRecDepth 1000000 in
theorem index68_w (w : World) (A : Option Addr) (n c : Nat) (l : List E) (b : Nat) (q : ByteArray) (r : Int) (hr : ixI l q = r) (hC : Kd.C K51 w A n l) (hn : n ≤ 1000) (hq : w.cell? ⟨b, 0, none⟩ = some (.string q)) :
    Calls Try.prog 67 #[.slice A n c, .func (.func 68) #[] #[.pointer (some ⟨b, 0, none⟩)]] w fun e w' => e = .returned (.int .i64 r) ∧ Below w.heap.size w w' := by
  have hl : l.length = n := hC.1
  have hb := Aside0.mk (World.block_lt_of_cell? w _ hq)
  have HB := Aside0.mk (Below.refl w.heap.size w)
  replace hl := Aside0.mk hl
  replace hC := Aside0.mk hC
  replace hq := Aside0.mk hq
  replace hr := Aside0.mk hr
  go_enter Try.func67, Try.ntmps67
  go_wp2
  go_loopg [8] (n + 1) (fun kq v8 wr => ∃ i : Nat, v8 = .int .i64 (i : Int) ∧ i ≤ n ∧ n - i < kq ∧ Aside0 (∀ j, j < i → ∀ hj : j < l.length, l[j].f0 ≠ q) ∧ Aside0 (Below w.heap.size w wr))
  case atStart => exact ⟨0, rfl, Nat.zero_le _, by omega, ⟨fun j h => absurd h (by omega)⟩, HB⟩
  case round =>
    clear HB
    obtain ⟨i, rfl, hi, hk, HR, HB⟩ := hrel
    obtain ⟨k1, rfl⟩ : ∃ m, gk = m + 1 := ⟨gk - 1, by omega⟩
    have hi0 : (0 : Int) ≤ (i : Int) := by omega
    by_cases hin : i < n
    · have hinI : (i : Int) < (n : Int) := by omega
      have hil : i < l.length := by rw [hl.out]; exact hin
      obtain ⟨ad, rfl, x0, x1, x2, x3⟩ := Ty.at_T51 (Kd.C_below hC.out HB.out) (i : Int) hi0 (by exact hinI)
      rw [rd_at l i hil, Int.toNat_natCast] at x0 x1 x2 x3
      have hq2 : wr.cell? ⟨b, 0, none⟩ = some (.string q) := by
        have h3 := HB.out.block b hb.out
        have h4 := hq.out
        unfold World.cell? at h4 ⊢
        rw [h3]; exact h4
      by_cases e : l[i].f0 = q
      · have hd : decide (l[i].f0 = q) = true := decide_eq_true e
        have he := Aside0.mk (show (i : Int) = r by rw [← hr.out]; exact (ix_some i hil HR.out e).symm)
        clear e
        generalize l[i] = x at x0 x1 x2 x3 hd
        replace hd := Aside0.mk hd
        go_wp2_with (go_at_call 68; refine (key68_w x b q _ hq2).mono ?_; rintro e w2 ⟨rfl, hb2⟩; rw [hd.out])
        go_ret
        exact ⟨by rw [← he.out]; rfl, HB.out.trans (hb2.mono HB.out.size)⟩
      · have hd : decide (l[i].f0 = q) = false := decide_eq_false e
        have HR2 := Aside0.mk (show ∀ j, j < i + 1 → ∀ hj : j < l.length, l[j].f0 ≠ q from fun j h hj => by
          by_cases e2 : j = i
          · subst e2; exact e
          · exact HR.out j (by omega) hj)
        clear e HR
        generalize l[i] = x at x0 x1 x2 x3 hd
        replace hd := Aside0.mk hd
        go_wp2_with (go_at_call 68; refine (key68_w x b q _ hq2).mono ?_; rintro e w2 ⟨rfl, hb2⟩; rw [hd.out])
        go_roundg k1
        case measure => omega
        case rel => exact ⟨i + 1, by first | rfl | simp, by omega, by omega, HR2, ⟨HB.out.trans (hb2.mono HB.out.size)⟩⟩
    · have e1 : i = n := by omega
      have hinI : ¬ (i : Int) < (n : Int) := by omega
      have he := Aside0.mk (show (-1 : Int) = r by rw [← hr.out]; exact (ix_none (fun j hj => HR.out j (by have := hl.out; omega) hj)).symm)
      clear hk e1
      go_wp2
      go_ret
      exact ⟨by rw [← he.out]; rfl, HB.out⟩
set_option maxHeartbeats 4000000 in
set_option maxRecDepth 1000000 in
theorem has_w (w : World) (A : Option Addr) (n c : Nat) (l : List E) (b : Nat) (q : ByteArray) (r : Bool) (hr : l.any (fun y => decide (y.f0 = q)) = r) (hC : Kd.C K51 w A n l) (hn : n ≤ 1000) (hq : w.cell? ⟨b, 0, none⟩ = some (.string q)) :
    Calls Try.prog 93 #[.slice A n c, .func (.func 94) #[] #[.pointer (some ⟨b, 0, none⟩)]] w fun e w' => e = .returned (.bool r) ∧ Below w.heap.size w w' := by
  obtain ⟨v, hv⟩ : ∃ v, ixI l q = v := ⟨_, rfl⟩
  have hvr : decide (v ≥ 0) = r := by
    rw [← hr, ← hv]
    unfold ixI ix
    cases hx : l.findIdx? (fun y => decide (y.f0 = q)) with
    | none =>
      rw [List.findIdx?_eq_none_iff] at hx
      have : l.any (fun y => decide (y.f0 = q)) = false := by
        rw [List.any_eq_false]
        intro x h; simpa using hx x h
      rw [this]; rfl
    | some i =>
      rw [List.findIdx?_eq_some_iff_getElem] at hx
      obtain ⟨hi, h2, _⟩ := hx
      have : l.any (fun y => decide (y.f0 = q)) = true := List.any_eq_true.2 ⟨l[i], List.getElem_mem hi, h2⟩
      rw [this]
      simp
  replace hC := Aside0.mk hC
  replace hq := Aside0.mk hq
  replace hv := Aside0.mk hv
  replace hvr := Aside0.mk hvr
  clear hr
  go_enter Try.func93, Try.ntmps93
  go_wp2_with (go_at_call 67; refine (index94_w _ A n c l b q v hv.out hC.out hn hq.out).mono ?_; rintro e w2 ⟨rfl, hb2⟩)
  go_ret
  exact ⟨by rw [← hvr.out]; first | rfl | simp, hb2⟩
end Go.Proofs.Ytllepjhimkogjaa.Ix
namespace Go.Proofs.Ytllepjhimkogjaa.Ck
open Go.RowKit Go.Proofs.YtllepjhimkogjaaW.PrintWords Go.Proofs.YtllepjhimkogjaaW.PrintLast
open Go.Proofs.Ytllepjhimkogjaa.Ob Go.Proofs.Ytllepjhimkogjaa.Two Go.Proofs.Ytllepjhimkogjaa.Sk
set_option linter.unusedSimpArgs false
set_option linter.unusedVariables false
open Go.Proofs.Ytllepjhimkogjaa.Sw Go.Proofs.Ytllepjhimkogjaa.Ix
def right (k n : Int) (s : ByteArray) : Bool := if k = 1 then decide (s.size = 0) else if k = 2 then decide (s.size = 0 ∧ (n = 0 ∨ n = 1)) else if k = 3 then decide (n = 0 ∧ s.size ≤ 4096) else false
theorem empty_iff (s : ByteArray) : s.toList = [] ↔ s.size = 0 := by
  rw [Lb.toList_D, ← List.length_eq_zero_iff, Lb.D_len]
theorem isEmpty_f {s : ByteArray} (h : ¬ s.size = 0) : s.toList.isEmpty = false := by
  rw [List.isEmpty_eq_false_iff]; intro k; exact h ((empty_iff s).1 k)
set_option maxHeartbeats 4000000 in
set_option maxRecDepth 1000000 in
theorem right_w (k n : Int) (s : ByteArray) (w : World) (r : Bool) (hr : right k n s = r) : Calls Try.prog 95 #[.agg #[.int .i64 k, .int .i64 n, .string s]] w fun e w' => e = .returned (.bool r) ∧ Below w.heap.size w w' := by
  subst hr
  have hT := Aside0.mk ((Bx.start w).new [.int .i64 k, .int .i64 n, .string s] 49)
  obtain ⟨y0, z0⟩ := hT.out.row (List.mem_cons_self ..) 0 _ rfl
  obtain ⟨y1, z1⟩ := hT.out.row (List.mem_cons_self ..) 1 _ rfl
  obtain ⟨y2, z2⟩ := hT.out.row (List.mem_cons_self ..) 2 _ rfl
  by_cases h1 : k = 1
  · subst h1
    by_cases hs : s.size = 0
    · have e1 : right 1 n s = true := by unfold right; rw [if_pos rfl, decide_eq_true hs]
      have e2 := (empty_iff s).2 hs
      rw [e1]; clear e1 hs
      go_enter Try.func95, Try.ntmps95
      go_wp2
      go_ret
      exact ⟨by first | rfl | simp [e2], hT.out.b⟩
    · have e1 : right 1 n s = false := by unfold right; rw [if_pos rfl, decide_eq_false hs]
      have e2 := isEmpty_f hs
      have e3 : ¬ s.toList = [] := fun k => hs ((empty_iff s).1 k)
      rw [e1]; clear e1 hs
      go_enter Try.func95, Try.ntmps95
      go_wp2
      go_ret
      exact ⟨by first | rfl | simp [e2, e3], hT.out.b⟩
  · by_cases h2 : k = 2
    · subst h2
      by_cases hs : s.size = 0
      · have e2 := (empty_iff s).2 hs
        by_cases hn0 : n = 0
        · subst hn0
          have e1 : right 2 0 s = true := by unfold right; rw [if_neg (by decide), if_pos rfl, decide_eq_true ⟨hs, Or.inl rfl⟩]
          rw [e1]; clear e1 hs h1
          go_enter Try.func95, Try.ntmps95
          go_wp2
          go_ret
          exact ⟨by first | rfl | simp [e2], hT.out.b⟩
        · have hz : (n == 0) = false := by simpa using hn0
          by_cases hn1 : n = 1
          · subst hn1
            have e1 : right 2 1 s = true := by unfold right; rw [if_neg (by decide), if_pos rfl, decide_eq_true ⟨hs, Or.inr rfl⟩]
            rw [e1]; clear e1 hs h1
            go_enter Try.func95, Try.ntmps95
            go_wp2
            go_ret
            exact ⟨by first | rfl | simp [e2], hT.out.b⟩
          · have hy : (n == 1) = false := by simpa using hn1
            have e1 : right 2 n s = false := by unfold right; rw [if_neg (by decide), if_pos rfl, decide_eq_false (by omega)]
            rw [e1]; clear e1 hs h1
            go_enter Try.func95, Try.ntmps95
            go_wp2
            go_ret
            exact ⟨by first | rfl | simp [e2, hy, hz, hn0, hn1], hT.out.b⟩
      · have e2 := isEmpty_f hs
        have e3 : ¬ s.toList = [] := fun k => hs ((empty_iff s).1 k)
        have e1 : right 2 n s = false := by unfold right; rw [if_neg (by decide), if_pos rfl, decide_eq_false (by omega)]
        rw [e1]; clear e1 hs h1
        go_enter Try.func95, Try.ntmps95
        go_wp2
        go_ret
        exact ⟨by first | rfl | simp [e2, e3], hT.out.b⟩
    · by_cases h3 : k = 3
      · subst h3
        by_cases hn0 : n = 0
        · subst hn0
          by_cases hs : s.size ≤ 4096
          · have hI : (s.size : Int) ≤ 4096 := by omega
            have e1 : right 3 0 s = true := by unfold right; rw [if_neg (by decide), if_neg (by decide), if_pos rfl, decide_eq_true ⟨rfl, hs⟩]
            rw [e1]; clear e1 h1 h2
            go_enter Try.func95, Try.ntmps95
            go_wp2
            go_ret
            exact ⟨by first | rfl | simp [hI], hT.out.b⟩
          · have hI : ¬ (s.size : Int) ≤ 4096 := by omega
            have e1 : right 3 0 s = false := by unfold right; rw [if_neg (by decide), if_neg (by decide), if_pos rfl, decide_eq_false (by omega)]
            rw [e1]; clear e1 h1 h2
            go_enter Try.func95, Try.ntmps95
            go_wp2
            go_ret
            exact ⟨by first | rfl | simp [hI], hT.out.b⟩
        · have hz : (n == 0) = false := by simpa using hn0
          have e1 : right 3 n s = false := by unfold right; rw [if_neg (by decide), if_neg (by decide), if_pos rfl, decide_eq_false (by omega)]
          rw [e1]; clear e1 h1 h2
          go_enter Try.func95, Try.ntmps95
          go_wp2
          go_ret
          exact ⟨by first | rfl | simp [hz, hn0], hT.out.b⟩
      · have g1 : (k == 1) = false := by simpa using h1
        have g2 : (k == 2) = false := by simpa using h2
        have g3 : (k == 3) = false := by simpa using h3
        have e1 : right k n s = false := by unfold right; rw [if_neg h1, if_neg h2, if_neg h3]
        rw [e1]; clear e1 h1 h2 h3
        go_enter Try.func95, Try.ntmps95
        go_wp2
        go_ret
        exact ⟨by first | rfl | simp, hT.out.b⟩
def named (s : ByteArray) : Bool := decide (1 ≤ s.size ∧ s.size ≤ 4096)
set_option maxHeartbeats 4000000 in
set_option maxRecDepth 1000000 in
theorem named_w (s : ByteArray) (w : World) (r : Bool) (hr : named s = r) : Calls Try.prog 63 #[.string s] w fun e w' => e = .returned (.bool r) ∧ Below w.heap.size w w' := by
  subst hr
  by_cases hs : s.size = 0
  · have e1 : named s = false := decide_eq_false (by omega)
    have e2 := (empty_iff s).2 hs
    rw [e1]; clear e1 hs
    go_enter Try.func63, Try.ntmps63
    go_wp2
    go_ret
    exact ⟨by first | rfl | simp [e2], Below.refl _ _⟩
  · have e2 := isEmpty_f hs
    have e3 : ¬ s.toList = [] := fun k => hs ((empty_iff s).1 k)
    by_cases h4 : s.size ≤ 4096
    · have hI : (s.size : Int) ≤ 4096 := by omega
      have e1 : named s = true := decide_eq_true (by omega)
      rw [e1]; clear e1 hs
      go_enter Try.func63, Try.ntmps63
      go_wp2
      go_ret
      exact ⟨by first | rfl | simp [e2, e3, hI], Below.refl _ _⟩
    · have hI : ¬ (s.size : Int) ≤ 4096 := by omega
      have e1 : named s = false := decide_eq_false (by omega)
      rw [e1]; clear e1 hs
      go_enter Try.func63, Try.ntmps63
      go_wp2
      go_ret
      exact ⟨by first | rfl | simp [e2, e3, hI], Below.refl _ _⟩
end Go.Proofs.Ytllepjhimkogjaa.Ck
namespace Go.Proofs.Ytllepjhimkogjaa.Ck
open Go.RowKit Go.Proofs.YtllepjhimkogjaaW.PrintWords Go.Proofs.YtllepjhimkogjaaW.PrintLast
open Go.Proofs.Ytllepjhimkogjaa.Ob Go.Proofs.Ytllepjhimkogjaa.Two Go.Proofs.Ytllepjhimkogjaa.Sk
set_option linter.unusedSimpArgs false
set_option linter.unusedVariables false
open Go.Proofs.Ytllepjhimkogjaa.Sw Go.Proofs.Ytllepjhimkogjaa.Ix
def twice (l : List E) (i : Nat) : Bool := (l.take i).any (fun y => decide (y.f0 = (Rw.fn l i).f0))
def okAt (l : List E) (i : Nat) : Bool := Tw.key (Rw.fn l i).f0.data.toList && right (Rw.fn l i).f1.f0 (Rw.fn l i).f1.f1 (Rw.fn l i).f1.f2 && !(decide (i < 16) && twice l i)
def attrsOk (l : List E) : Bool := (List.range l.length).all (okAt l) && decide (l.length ≤ 16)
theorem fn_at (l : List E) (i : Nat) (h : i < l.length) : Rw.fn l i = l[i] := by
  unfold Rw.fn
  rw [List.getD_eq_getElem?_getD, List.getElem?_eq_getElem h]; rfl
set_option maxHeartbeats 16000000 in
set_option maxRecDepth 1000000 in
theorem attrs_w (w : World) (A : Option Addr) (n c : Nat) (l : List E) (r : Bool) (hr : attrsOk l = r) (hC : Kd.C K51 w A n l) (hn : n ≤ 1000) (hc : n ≤ c) (hk : ∀ x ∈ l, x.f0.size ≤ 1000000) :
    Calls Try.prog 64 #[.slice A n c] w fun e w' => e = .returned (.bool r) ∧ Below w.heap.size w w' := by
  have hl : l.length = n := hC.1
  have HB := Aside0.mk (Below.refl w.heap.size w)
  replace hl := Aside0.mk hl
  replace hC := Aside0.mk hC
  replace hr := Aside0.mk hr
  replace hk := Aside0.mk hk
  go_enter Try.func64, Try.ntmps64
  go_wp2
  go_loopg [8] (n + 1) (fun kq v8 wr => ∃ i : Nat, v8 = .int .i64 (i : Int) ∧ i ≤ n ∧ n - i < kq ∧ Aside0 (∀ j, j < i → okAt l j = true) ∧ Aside0 (Below w.heap.size w wr))
  case atStart => exact ⟨0, rfl, Nat.zero_le _, by omega, ⟨fun j h => absurd h (by omega)⟩, HB⟩
  case round =>
    clear HB
    obtain ⟨i, rfl, hi, hkq, HR, HB⟩ := hrel
    obtain ⟨k1, rfl⟩ : ∃ m, gk = m + 1 := ⟨gk - 1, by omega⟩
    have hi0 : (0 : Int) ≤ (i : Int) := by omega
    by_cases hin : i < n
    · have hinI : (i : Int) < (n : Int) := by omega
      have hic : (i : Int) ≤ (c : Int) := by omega
      have hicN : i ≤ c := by omega
      have hil : i < l.length := by rw [hl.out]; exact hin
      have hks := Aside0.mk (hk.out l[i] (List.getElem_mem hil))
      obtain ⟨ad, rfl, x0, x1, x2, x3⟩ := Ty.at_T51 (Kd.C_below hC.out HB.out) (i : Int) hi0 (by exact hinI)
      rw [Ix.rd_at l i hil, Int.toNat_natCast] at x0 x1 x2 x3
      have hCt := Aside0.mk (show Kd.C K51 w (some ad) i (l.take i) from by
        have h3 : Kd.C K51 w (some ad) l.length l := by rw [hl.out]; exact hC.out
        have h4 := Kd.C_take h3 (Nat.le_of_lt hil)
        rw [List.length_take, Nat.min_eq_left (Nat.le_of_lt hil)] at h4
        exact h4)
      obtain ⟨kb, hkb⟩ : ∃ b, Tw.key l[i].f0.data.toList = b := ⟨_, rfl⟩
      obtain ⟨rb, hrb⟩ : ∃ b, right l[i].f1.f0 l[i].f1.f1 l[i].f1.f2 = b := ⟨_, rfl⟩
      obtain ⟨tb, htb⟩ : ∃ b, (l.take i).any (fun y => decide (y.f0 = l[i].f0)) = b := ⟨_, rfl⟩
      have hok : okAt l i = (kb && rb && !(decide (i < 16) && tb)) := by
        unfold okAt twice
        rw [fn_at l i hil, hkb, hrb, htb]
      have hbad := Aside0.mk (show okAt l i = false → r = false from fun h => by
        rw [← hr.out]
        unfold attrsOk
        have : (List.range l.length).all (okAt l) = false := by
          rw [List.all_eq_false]
          exact ⟨i, List.mem_range.2 hil, by rw [h]; decide⟩
        rw [this]; rfl)
      have hgood := Aside0.mk (show okAt l i = true → ∀ j, j < i + 1 → okAt l j = true from fun h j hj => by
        by_cases e : j = i
        · subst e; exact h
        · exact HR.out j (by omega))
      clear HR
      rw [hok] at hbad hgood
      clear hok
      generalize l[i] = x at x0 x1 x2 x3 hkb hrb htb hks
      replace hkb := Aside0.mk hkb
      replace hrb := Aside0.mk hrb
      replace htb := Aside0.mk htb
      have hT0 := Aside0.mk (show Bx w wr [] from ⟨HB.out, fun p hp => by cases hp⟩)
      by_cases h16 : i < 16
      · have h16I : (i : Int) < 16 := by omega
        cases kb with
        | false =>
          have he := Aside0.mk (hbad.out (by simp)).symm
          clear hbad hgood
          go_wp2_with (first
            | (refine wpList_store_new wr (by rfl) 51 _ _ rfl rfl _ #[.string x.f0, .int .i64 x.f1.f0, .int .i64 x.f1.f1, .string x.f1.f2] rfl (by kernel_rfl) (by kernel_rfl) (by kernel_rfl) ?_; have hT := Aside0.mk (show Bx w (wr.alloc (.cells #[.string x.f0, .int .i64 x.f1.f0, .int .i64 x.f1.f1, .string x.f1.f2] 51)) _ from hT0.out.new [.string x.f0, .int .i64 x.f1.f0, .int .i64 x.f1.f1, .string x.f1.f2] 51); generalize wr.alloc (.cells #[.string x.f0, .int .i64 x.f1.f0, .int .i64 x.f1.f1, .string x.f1.f2] 51) = wn at hT ⊢; have ⟨y0, _⟩ := hT.out.row (List.mem_cons_self ..) 0 _ rfl; have ⟨y1, _⟩ := hT.out.row (List.mem_cons_self ..) 1 _ rfl; have ⟨y2, _⟩ := hT.out.row (List.mem_cons_self ..) 2 _ rfl; have ⟨y3, _⟩ := hT.out.row (List.mem_cons_self ..) 3 _ rfl)
            | (go_at_call 93; refine (has_w _ (some ad) i c (l.take i) wr.heap.size x.f0 _ htb.out (Kd.C_below hCt.out hT.out.b) (by omega) y0).mono ?_; rintro e w2 ⟨rfl, hb2⟩; replace hT := Aside0.mk (hT.out.keep hb2); clear hb2; clear y0 y1 y2 y3; have ⟨y0, _⟩ := hT.out.row (List.mem_cons_self ..) 0 _ rfl; have ⟨y1, _⟩ := hT.out.row (List.mem_cons_self ..) 1 _ rfl; have ⟨y2, _⟩ := hT.out.row (List.mem_cons_self ..) 2 _ rfl; have ⟨y3, _⟩ := hT.out.row (List.mem_cons_self ..) 3 _ rfl)
            | (go_at_call 46; refine (Tw.key_walk x.f0 _ (by have := hks.out; omega)).mono ?_; rintro e w3 ⟨rfl, hb2⟩; rw [hkb.out]; replace hT := Aside0.mk (hT.out.keep hb2); clear hb2; clear y0 y1 y2 y3; have ⟨y0, _⟩ := hT.out.row (List.mem_cons_self ..) 0 _ rfl; have ⟨y1, _⟩ := hT.out.row (List.mem_cons_self ..) 1 _ rfl; have ⟨y2, _⟩ := hT.out.row (List.mem_cons_self ..) 2 _ rfl; have ⟨y3, _⟩ := hT.out.row (List.mem_cons_self ..) 3 _ rfl)
            | (go_at_call 95; refine (right_w x.f1.f0 x.f1.f1 x.f1.f2 _ _ hrb.out).mono ?_; rintro e w4 ⟨rfl, hb2⟩; replace hT := Aside0.mk (hT.out.keep hb2); clear hb2 y0 y1 y2 y3))
          go_ret
          exact ⟨by rw [← he.out]; rfl, hT.out.b⟩
        | true =>
          cases rb with
          | false =>
            have he := Aside0.mk (hbad.out (by simp)).symm
            clear hbad hgood
            go_wp2_with (first
              | (refine wpList_store_new wr (by rfl) 51 _ _ rfl rfl _ #[.string x.f0, .int .i64 x.f1.f0, .int .i64 x.f1.f1, .string x.f1.f2] rfl (by kernel_rfl) (by kernel_rfl) (by kernel_rfl) ?_; have hT := Aside0.mk (show Bx w (wr.alloc (.cells #[.string x.f0, .int .i64 x.f1.f0, .int .i64 x.f1.f1, .string x.f1.f2] 51)) _ from hT0.out.new [.string x.f0, .int .i64 x.f1.f0, .int .i64 x.f1.f1, .string x.f1.f2] 51); generalize wr.alloc (.cells #[.string x.f0, .int .i64 x.f1.f0, .int .i64 x.f1.f1, .string x.f1.f2] 51) = wn at hT ⊢; have ⟨y0, _⟩ := hT.out.row (List.mem_cons_self ..) 0 _ rfl; have ⟨y1, _⟩ := hT.out.row (List.mem_cons_self ..) 1 _ rfl; have ⟨y2, _⟩ := hT.out.row (List.mem_cons_self ..) 2 _ rfl; have ⟨y3, _⟩ := hT.out.row (List.mem_cons_self ..) 3 _ rfl)
              | (go_at_call 93; refine (has_w _ (some ad) i c (l.take i) wr.heap.size x.f0 _ htb.out (Kd.C_below hCt.out hT.out.b) (by omega) y0).mono ?_; rintro e w2 ⟨rfl, hb2⟩; replace hT := Aside0.mk (hT.out.keep hb2); clear hb2; clear y0 y1 y2 y3; have ⟨y0, _⟩ := hT.out.row (List.mem_cons_self ..) 0 _ rfl; have ⟨y1, _⟩ := hT.out.row (List.mem_cons_self ..) 1 _ rfl; have ⟨y2, _⟩ := hT.out.row (List.mem_cons_self ..) 2 _ rfl; have ⟨y3, _⟩ := hT.out.row (List.mem_cons_self ..) 3 _ rfl)
              | (go_at_call 46; refine (Tw.key_walk x.f0 _ (by have := hks.out; omega)).mono ?_; rintro e w3 ⟨rfl, hb2⟩; rw [hkb.out]; replace hT := Aside0.mk (hT.out.keep hb2); clear hb2; clear y0 y1 y2 y3; have ⟨y0, _⟩ := hT.out.row (List.mem_cons_self ..) 0 _ rfl; have ⟨y1, _⟩ := hT.out.row (List.mem_cons_self ..) 1 _ rfl; have ⟨y2, _⟩ := hT.out.row (List.mem_cons_self ..) 2 _ rfl; have ⟨y3, _⟩ := hT.out.row (List.mem_cons_self ..) 3 _ rfl)
              | (go_at_call 95; refine (right_w x.f1.f0 x.f1.f1 x.f1.f2 _ _ hrb.out).mono ?_; rintro e w4 ⟨rfl, hb2⟩; replace hT := Aside0.mk (hT.out.keep hb2); clear hb2 y0 y1 y2 y3))
            go_ret
            exact ⟨by rw [← he.out]; rfl, hT.out.b⟩
          | true =>
            cases tb with
            | true =>
              have he := Aside0.mk (hbad.out (by simp [h16])).symm
              clear hbad hgood
              go_wp2_with (first
                | (refine wpList_store_new wr (by rfl) 51 _ _ rfl rfl _ #[.string x.f0, .int .i64 x.f1.f0, .int .i64 x.f1.f1, .string x.f1.f2] rfl (by kernel_rfl) (by kernel_rfl) (by kernel_rfl) ?_; have hT := Aside0.mk (show Bx w (wr.alloc (.cells #[.string x.f0, .int .i64 x.f1.f0, .int .i64 x.f1.f1, .string x.f1.f2] 51)) _ from hT0.out.new [.string x.f0, .int .i64 x.f1.f0, .int .i64 x.f1.f1, .string x.f1.f2] 51); generalize wr.alloc (.cells #[.string x.f0, .int .i64 x.f1.f0, .int .i64 x.f1.f1, .string x.f1.f2] 51) = wn at hT ⊢; have ⟨y0, _⟩ := hT.out.row (List.mem_cons_self ..) 0 _ rfl; have ⟨y1, _⟩ := hT.out.row (List.mem_cons_self ..) 1 _ rfl; have ⟨y2, _⟩ := hT.out.row (List.mem_cons_self ..) 2 _ rfl; have ⟨y3, _⟩ := hT.out.row (List.mem_cons_self ..) 3 _ rfl)
                | (go_at_call 93; refine (has_w _ (some ad) i c (l.take i) wr.heap.size x.f0 _ htb.out (Kd.C_below hCt.out hT.out.b) (by omega) y0).mono ?_; rintro e w2 ⟨rfl, hb2⟩; replace hT := Aside0.mk (hT.out.keep hb2); clear hb2; clear y0 y1 y2 y3; have ⟨y0, _⟩ := hT.out.row (List.mem_cons_self ..) 0 _ rfl; have ⟨y1, _⟩ := hT.out.row (List.mem_cons_self ..) 1 _ rfl; have ⟨y2, _⟩ := hT.out.row (List.mem_cons_self ..) 2 _ rfl; have ⟨y3, _⟩ := hT.out.row (List.mem_cons_self ..) 3 _ rfl)
                | (go_at_call 46; refine (Tw.key_walk x.f0 _ (by have := hks.out; omega)).mono ?_; rintro e w3 ⟨rfl, hb2⟩; rw [hkb.out]; replace hT := Aside0.mk (hT.out.keep hb2); clear hb2; clear y0 y1 y2 y3; have ⟨y0, _⟩ := hT.out.row (List.mem_cons_self ..) 0 _ rfl; have ⟨y1, _⟩ := hT.out.row (List.mem_cons_self ..) 1 _ rfl; have ⟨y2, _⟩ := hT.out.row (List.mem_cons_self ..) 2 _ rfl; have ⟨y3, _⟩ := hT.out.row (List.mem_cons_self ..) 3 _ rfl)
                | (go_at_call 95; refine (right_w x.f1.f0 x.f1.f1 x.f1.f2 _ _ hrb.out).mono ?_; rintro e w4 ⟨rfl, hb2⟩; replace hT := Aside0.mk (hT.out.keep hb2); clear hb2 y0 y1 y2 y3))
              go_ret
              exact ⟨by rw [← he.out]; rfl, hT.out.b⟩
            | false =>
              have HR2 := Aside0.mk (hgood.out (by simp))
              clear hbad hgood
              go_wp2_with (first
                | (refine wpList_store_new wr (by rfl) 51 _ _ rfl rfl _ #[.string x.f0, .int .i64 x.f1.f0, .int .i64 x.f1.f1, .string x.f1.f2] rfl (by kernel_rfl) (by kernel_rfl) (by kernel_rfl) ?_; have hT := Aside0.mk (show Bx w (wr.alloc (.cells #[.string x.f0, .int .i64 x.f1.f0, .int .i64 x.f1.f1, .string x.f1.f2] 51)) _ from hT0.out.new [.string x.f0, .int .i64 x.f1.f0, .int .i64 x.f1.f1, .string x.f1.f2] 51); generalize wr.alloc (.cells #[.string x.f0, .int .i64 x.f1.f0, .int .i64 x.f1.f1, .string x.f1.f2] 51) = wn at hT ⊢; have ⟨y0, _⟩ := hT.out.row (List.mem_cons_self ..) 0 _ rfl; have ⟨y1, _⟩ := hT.out.row (List.mem_cons_self ..) 1 _ rfl; have ⟨y2, _⟩ := hT.out.row (List.mem_cons_self ..) 2 _ rfl; have ⟨y3, _⟩ := hT.out.row (List.mem_cons_self ..) 3 _ rfl)
                | (go_at_call 93; refine (has_w _ (some ad) i c (l.take i) wr.heap.size x.f0 _ htb.out (Kd.C_below hCt.out hT.out.b) (by omega) y0).mono ?_; rintro e w2 ⟨rfl, hb2⟩; replace hT := Aside0.mk (hT.out.keep hb2); clear hb2; clear y0 y1 y2 y3; have ⟨y0, _⟩ := hT.out.row (List.mem_cons_self ..) 0 _ rfl; have ⟨y1, _⟩ := hT.out.row (List.mem_cons_self ..) 1 _ rfl; have ⟨y2, _⟩ := hT.out.row (List.mem_cons_self ..) 2 _ rfl; have ⟨y3, _⟩ := hT.out.row (List.mem_cons_self ..) 3 _ rfl)
                | (go_at_call 46; refine (Tw.key_walk x.f0 _ (by have := hks.out; omega)).mono ?_; rintro e w3 ⟨rfl, hb2⟩; rw [hkb.out]; replace hT := Aside0.mk (hT.out.keep hb2); clear hb2; clear y0 y1 y2 y3; have ⟨y0, _⟩ := hT.out.row (List.mem_cons_self ..) 0 _ rfl; have ⟨y1, _⟩ := hT.out.row (List.mem_cons_self ..) 1 _ rfl; have ⟨y2, _⟩ := hT.out.row (List.mem_cons_self ..) 2 _ rfl; have ⟨y3, _⟩ := hT.out.row (List.mem_cons_self ..) 3 _ rfl)
                | (go_at_call 95; refine (right_w x.f1.f0 x.f1.f1 x.f1.f2 _ _ hrb.out).mono ?_; rintro e w4 ⟨rfl, hb2⟩; replace hT := Aside0.mk (hT.out.keep hb2); clear hb2 y0 y1 y2 y3))
              go_roundg k1
              case measure => omega
              case rel => exact ⟨i + 1, by first | rfl | simp, by omega, by omega, HR2, ⟨hT.out.b⟩⟩
      · have h16I : ¬ (i : Int) < 16 := by omega
        cases kb with
        | false =>
          have he := Aside0.mk (hbad.out (by simp)).symm
          clear hbad hgood
          go_wp2_with (first
            | (refine wpList_store_new wr (by rfl) 51 _ _ rfl rfl _ #[.string x.f0, .int .i64 x.f1.f0, .int .i64 x.f1.f1, .string x.f1.f2] rfl (by kernel_rfl) (by kernel_rfl) (by kernel_rfl) ?_; have hT := Aside0.mk (show Bx w (wr.alloc (.cells #[.string x.f0, .int .i64 x.f1.f0, .int .i64 x.f1.f1, .string x.f1.f2] 51)) _ from hT0.out.new [.string x.f0, .int .i64 x.f1.f0, .int .i64 x.f1.f1, .string x.f1.f2] 51); generalize wr.alloc (.cells #[.string x.f0, .int .i64 x.f1.f0, .int .i64 x.f1.f1, .string x.f1.f2] 51) = wn at hT ⊢; have ⟨y0, _⟩ := hT.out.row (List.mem_cons_self ..) 0 _ rfl; have ⟨y1, _⟩ := hT.out.row (List.mem_cons_self ..) 1 _ rfl; have ⟨y2, _⟩ := hT.out.row (List.mem_cons_self ..) 2 _ rfl; have ⟨y3, _⟩ := hT.out.row (List.mem_cons_self ..) 3 _ rfl)
            | (go_at_call 93; refine (has_w _ (some ad) i c (l.take i) wr.heap.size x.f0 _ htb.out (Kd.C_below hCt.out hT.out.b) (by omega) y0).mono ?_; rintro e w2 ⟨rfl, hb2⟩; replace hT := Aside0.mk (hT.out.keep hb2); clear hb2; clear y0 y1 y2 y3; have ⟨y0, _⟩ := hT.out.row (List.mem_cons_self ..) 0 _ rfl; have ⟨y1, _⟩ := hT.out.row (List.mem_cons_self ..) 1 _ rfl; have ⟨y2, _⟩ := hT.out.row (List.mem_cons_self ..) 2 _ rfl; have ⟨y3, _⟩ := hT.out.row (List.mem_cons_self ..) 3 _ rfl)
            | (go_at_call 46; refine (Tw.key_walk x.f0 _ (by have := hks.out; omega)).mono ?_; rintro e w3 ⟨rfl, hb2⟩; rw [hkb.out]; replace hT := Aside0.mk (hT.out.keep hb2); clear hb2; clear y0 y1 y2 y3; have ⟨y0, _⟩ := hT.out.row (List.mem_cons_self ..) 0 _ rfl; have ⟨y1, _⟩ := hT.out.row (List.mem_cons_self ..) 1 _ rfl; have ⟨y2, _⟩ := hT.out.row (List.mem_cons_self ..) 2 _ rfl; have ⟨y3, _⟩ := hT.out.row (List.mem_cons_self ..) 3 _ rfl)
            | (go_at_call 95; refine (right_w x.f1.f0 x.f1.f1 x.f1.f2 _ _ hrb.out).mono ?_; rintro e w4 ⟨rfl, hb2⟩; replace hT := Aside0.mk (hT.out.keep hb2); clear hb2 y0 y1 y2 y3))
          go_ret
          exact ⟨by rw [← he.out]; rfl, hT.out.b⟩
        | true =>
          cases rb with
          | false =>
            have he := Aside0.mk (hbad.out (by simp)).symm
            clear hbad hgood
            go_wp2_with (first
              | (refine wpList_store_new wr (by rfl) 51 _ _ rfl rfl _ #[.string x.f0, .int .i64 x.f1.f0, .int .i64 x.f1.f1, .string x.f1.f2] rfl (by kernel_rfl) (by kernel_rfl) (by kernel_rfl) ?_; have hT := Aside0.mk (show Bx w (wr.alloc (.cells #[.string x.f0, .int .i64 x.f1.f0, .int .i64 x.f1.f1, .string x.f1.f2] 51)) _ from hT0.out.new [.string x.f0, .int .i64 x.f1.f0, .int .i64 x.f1.f1, .string x.f1.f2] 51); generalize wr.alloc (.cells #[.string x.f0, .int .i64 x.f1.f0, .int .i64 x.f1.f1, .string x.f1.f2] 51) = wn at hT ⊢; have ⟨y0, _⟩ := hT.out.row (List.mem_cons_self ..) 0 _ rfl; have ⟨y1, _⟩ := hT.out.row (List.mem_cons_self ..) 1 _ rfl; have ⟨y2, _⟩ := hT.out.row (List.mem_cons_self ..) 2 _ rfl; have ⟨y3, _⟩ := hT.out.row (List.mem_cons_self ..) 3 _ rfl)
              | (go_at_call 93; refine (has_w _ (some ad) i c (l.take i) wr.heap.size x.f0 _ htb.out (Kd.C_below hCt.out hT.out.b) (by omega) y0).mono ?_; rintro e w2 ⟨rfl, hb2⟩; replace hT := Aside0.mk (hT.out.keep hb2); clear hb2; clear y0 y1 y2 y3; have ⟨y0, _⟩ := hT.out.row (List.mem_cons_self ..) 0 _ rfl; have ⟨y1, _⟩ := hT.out.row (List.mem_cons_self ..) 1 _ rfl; have ⟨y2, _⟩ := hT.out.row (List.mem_cons_self ..) 2 _ rfl; have ⟨y3, _⟩ := hT.out.row (List.mem_cons_self ..) 3 _ rfl)
              | (go_at_call 46; refine (Tw.key_walk x.f0 _ (by have := hks.out; omega)).mono ?_; rintro e w3 ⟨rfl, hb2⟩; rw [hkb.out]; replace hT := Aside0.mk (hT.out.keep hb2); clear hb2; clear y0 y1 y2 y3; have ⟨y0, _⟩ := hT.out.row (List.mem_cons_self ..) 0 _ rfl; have ⟨y1, _⟩ := hT.out.row (List.mem_cons_self ..) 1 _ rfl; have ⟨y2, _⟩ := hT.out.row (List.mem_cons_self ..) 2 _ rfl; have ⟨y3, _⟩ := hT.out.row (List.mem_cons_self ..) 3 _ rfl)
              | (go_at_call 95; refine (right_w x.f1.f0 x.f1.f1 x.f1.f2 _ _ hrb.out).mono ?_; rintro e w4 ⟨rfl, hb2⟩; replace hT := Aside0.mk (hT.out.keep hb2); clear hb2 y0 y1 y2 y3))
            go_ret
            exact ⟨by rw [← he.out]; rfl, hT.out.b⟩
          | true =>
            have HR2 := Aside0.mk (hgood.out (by simp [h16]))
            clear hbad hgood
            go_wp2_with (first
              | (refine wpList_store_new wr (by rfl) 51 _ _ rfl rfl _ #[.string x.f0, .int .i64 x.f1.f0, .int .i64 x.f1.f1, .string x.f1.f2] rfl (by kernel_rfl) (by kernel_rfl) (by kernel_rfl) ?_; have hT := Aside0.mk (show Bx w (wr.alloc (.cells #[.string x.f0, .int .i64 x.f1.f0, .int .i64 x.f1.f1, .string x.f1.f2] 51)) _ from hT0.out.new [.string x.f0, .int .i64 x.f1.f0, .int .i64 x.f1.f1, .string x.f1.f2] 51); generalize wr.alloc (.cells #[.string x.f0, .int .i64 x.f1.f0, .int .i64 x.f1.f1, .string x.f1.f2] 51) = wn at hT ⊢; have ⟨y0, _⟩ := hT.out.row (List.mem_cons_self ..) 0 _ rfl; have ⟨y1, _⟩ := hT.out.row (List.mem_cons_self ..) 1 _ rfl; have ⟨y2, _⟩ := hT.out.row (List.mem_cons_self ..) 2 _ rfl; have ⟨y3, _⟩ := hT.out.row (List.mem_cons_self ..) 3 _ rfl)
              | (go_at_call 93; refine (has_w _ (some ad) i c (l.take i) wr.heap.size x.f0 _ htb.out (Kd.C_below hCt.out hT.out.b) (by omega) y0).mono ?_; rintro e w2 ⟨rfl, hb2⟩; replace hT := Aside0.mk (hT.out.keep hb2); clear hb2; clear y0 y1 y2 y3; have ⟨y0, _⟩ := hT.out.row (List.mem_cons_self ..) 0 _ rfl; have ⟨y1, _⟩ := hT.out.row (List.mem_cons_self ..) 1 _ rfl; have ⟨y2, _⟩ := hT.out.row (List.mem_cons_self ..) 2 _ rfl; have ⟨y3, _⟩ := hT.out.row (List.mem_cons_self ..) 3 _ rfl)
              | (go_at_call 46; refine (Tw.key_walk x.f0 _ (by have := hks.out; omega)).mono ?_; rintro e w3 ⟨rfl, hb2⟩; rw [hkb.out]; replace hT := Aside0.mk (hT.out.keep hb2); clear hb2; clear y0 y1 y2 y3; have ⟨y0, _⟩ := hT.out.row (List.mem_cons_self ..) 0 _ rfl; have ⟨y1, _⟩ := hT.out.row (List.mem_cons_self ..) 1 _ rfl; have ⟨y2, _⟩ := hT.out.row (List.mem_cons_self ..) 2 _ rfl; have ⟨y3, _⟩ := hT.out.row (List.mem_cons_self ..) 3 _ rfl)
              | (go_at_call 95; refine (right_w x.f1.f0 x.f1.f1 x.f1.f2 _ _ hrb.out).mono ?_; rintro e w4 ⟨rfl, hb2⟩; replace hT := Aside0.mk (hT.out.keep hb2); clear hb2 y0 y1 y2 y3))
            go_roundg k1
            case measure => omega
            case rel => exact ⟨i + 1, by first | rfl | simp, by omega, by omega, HR2, ⟨hT.out.b⟩⟩
    · have e1 : i = n := by omega
      have hinI : ¬ (i : Int) < (n : Int) := by omega
      have hall : (List.range l.length).all (okAt l) = true := by
        rw [List.all_eq_true]
        intro j hj
        exact HR.out j (by have := List.mem_range.1 hj; have := hl.out; omega)
      by_cases h16 : n ≤ 16
      · have hI : (n : Int) ≤ 16 := by omega
        have he := Aside0.mk (show true = r by rw [← hr.out]; unfold attrsOk; rw [hall, hl.out, decide_eq_true h16]; rfl)
        clear hkq e1 hall
        go_wp2
        go_ret
        exact ⟨by rw [← he.out]; first | rfl | simp [hI], HB.out⟩
      · have hI : ¬ (n : Int) ≤ 16 := by omega
        have he := Aside0.mk (show false = r by rw [← hr.out]; unfold attrsOk; rw [hall, hl.out, decide_eq_false h16]; rfl)
        clear hkq e1 hall
        go_wp2
        go_ret
        exact ⟨by rw [← he.out]; first | rfl | simp [hI], HB.out⟩
end Go.Proofs.Ytllepjhimkogjaa.Ck
namespace Go.Proofs.Ytllepjhimkogjaa.Ck
open Go.RowKit Go.Proofs.YtllepjhimkogjaaW.PrintWords Go.Proofs.YtllepjhimkogjaaW.PrintLast
open Go.Proofs.Ytllepjhimkogjaa.Ob Go.Proofs.Ytllepjhimkogjaa.Two Go.Proofs.Ytllepjhimkogjaa.Sk
set_option linter.unusedSimpArgs false
set_option linter.unusedVariables false
open Go.Proofs.Ytllepjhimkogjaa.Sw Go.Proofs.Ytllepjhimkogjaa.Ix
def check (a0 a1 : Int) (a3 a4 : ByteArray) (a5 a6 a7 a8 : Int) (l : List E) : Int :=
  if a0 = 0 ∨ a1 = 0 then 50 else if a8 < a7 ∨ 4611686018427387904 < a8 then 51 else if a5 < 0 ∨ 4 < a5 then 52 else if a6 < 0 ∨ 2 < a6 then 53 else if named a3 = false ∨ named a4 = false then 54 else if attrsOk l = false then 55 else 0
set_option maxHeartbeats 16000000 in
set_option maxRecDepth 1000000 in
theorem check_w (w : World) (a0 a1 a2 : Int) (a3 a4 : ByteArray) (a5 a6 a7 a8 : Int) (A : Option Addr) (n c : Nat) (l : List E) (r : Int) (hr : check a0 a1 a3 a4 a5 a6 a7 a8 l = r) (hC : Kd.C K51 w A n l) (hn : n ≤ 1000) (hc : n ≤ c) (hk : ∀ x ∈ l, x.f0.size ≤ 1000000) :
    Calls Try.prog 30 #[.agg #[.int .u64 a0, .int .u64 a1, .int .u64 a2, .string a3, .string a4, .int .i64 a5, .int .i64 a6, .int .u64 a7, .int .u64 a8, .slice A n c]] w fun e w' => e = .returned (.int .i64 r) ∧ Below w.heap.size w w' := by
  subst hr
  have hT := Aside0.mk ((Bx.start w).new [.int .u64 a0, .int .u64 a1, .int .u64 a2, .string a3, .string a4, .int .i64 a5, .int .i64 a6, .int .u64 a7, .int .u64 a8, .slice A n c] 40)
  replace hC := Aside0.mk hC
  replace hk := Aside0.mk hk
  obtain ⟨y0, _⟩ := hT.out.row (List.mem_cons_self ..) 0 _ rfl
  obtain ⟨y1, _⟩ := hT.out.row (List.mem_cons_self ..) 1 _ rfl
  obtain ⟨y3, _⟩ := hT.out.row (List.mem_cons_self ..) 3 _ rfl
  obtain ⟨y5, _⟩ := hT.out.row (List.mem_cons_self ..) 5 _ rfl
  obtain ⟨y6, _⟩ := hT.out.row (List.mem_cons_self ..) 6 _ rfl
  obtain ⟨y7, _⟩ := hT.out.row (List.mem_cons_self ..) 7 _ rfl
  obtain ⟨y8, _⟩ := hT.out.row (List.mem_cons_self ..) 8 _ rfl
  by_cases p0 : a0 = 0
  · have g0 : (a0 == 0) = true := by simpa using p0
    have hv : check a0 a1 a3 a4 a5 a6 a7 a8 l = 50 := by unfold check; rw [if_pos (Or.inl p0)]
    rw [hv]; clear hv p0
    go_enter Try.func30, Try.ntmps30
    go_wp2
    go_ret
    exact ⟨by first | rfl | simp, hT.out.b⟩
  have g0 : (a0 == 0) = false := by simpa using p0
  by_cases p1 : a1 = 0
  · have g1 : (a1 == 0) = true := by simpa using p1
    have hv : check a0 a1 a3 a4 a5 a6 a7 a8 l = 50 := by unfold check; rw [if_pos (Or.inr p1)]
    rw [hv]; clear hv p1
    go_enter Try.func30, Try.ntmps30
    go_wp2
    go_ret
    exact ⟨by first | rfl | simp, hT.out.b⟩
  have g1 : (a1 == 0) = false := by simpa using p1
  have c1 : ¬ (a0 = 0 ∨ a1 = 0) := by omega
  by_cases p2 : a8 < a7
  · skip
    have hv : check a0 a1 a3 a4 a5 a6 a7 a8 l = 51 := by unfold check; rw [if_neg c1, if_pos (Or.inl p2)]
    rw [hv]; clear hv
    go_enter Try.func30, Try.ntmps30
    go_wp2
    go_ret
    exact ⟨by first | rfl | simp, hT.out.b⟩
  by_cases p3 : 4611686018427387904 < a8
  · skip
    have hv : check a0 a1 a3 a4 a5 a6 a7 a8 l = 51 := by unfold check; rw [if_neg c1, if_pos (Or.inr p3)]
    rw [hv]; clear hv
    go_enter Try.func30, Try.ntmps30
    go_wp2
    go_ret
    exact ⟨by first | rfl | simp, hT.out.b⟩
  have c2 : ¬ (a8 < a7 ∨ 4611686018427387904 < a8) := by omega
  by_cases p4 : a5 < 0
  · skip
    have hv : check a0 a1 a3 a4 a5 a6 a7 a8 l = 52 := by unfold check; rw [if_neg c1, if_neg c2, if_pos (Or.inl p4)]
    rw [hv]; clear hv
    go_enter Try.func30, Try.ntmps30
    go_wp2
    go_ret
    exact ⟨by first | rfl | simp, hT.out.b⟩
  by_cases p5 : 4 < a5
  · skip
    have hv : check a0 a1 a3 a4 a5 a6 a7 a8 l = 52 := by unfold check; rw [if_neg c1, if_neg c2, if_pos (Or.inr p5)]
    rw [hv]; clear hv
    go_enter Try.func30, Try.ntmps30
    go_wp2
    go_ret
    exact ⟨by first | rfl | simp, hT.out.b⟩
  have c3 : ¬ (a5 < 0 ∨ 4 < a5) := by omega
  by_cases p6 : a6 < 0
  · skip
    have hv : check a0 a1 a3 a4 a5 a6 a7 a8 l = 53 := by unfold check; rw [if_neg c1, if_neg c2, if_neg c3, if_pos (Or.inl p6)]
    rw [hv]; clear hv
    go_enter Try.func30, Try.ntmps30
    go_wp2
    go_ret
    exact ⟨by first | rfl | simp, hT.out.b⟩
  by_cases p7 : 2 < a6
  · skip
    have hv : check a0 a1 a3 a4 a5 a6 a7 a8 l = 53 := by unfold check; rw [if_neg c1, if_neg c2, if_neg c3, if_pos (Or.inr p7)]
    rw [hv]; clear hv
    go_enter Try.func30, Try.ntmps30
    go_wp2
    go_ret
    exact ⟨by first | rfl | simp, hT.out.b⟩
  have c4 : ¬ (a6 < 0 ∨ 2 < a6) := by omega
  obtain ⟨b3, n3⟩ : ∃ b, named a3 = b := ⟨_, rfl⟩
  obtain ⟨b4, n4⟩ : ∃ b, named a4 = b := ⟨_, rfl⟩
  obtain ⟨b5, n5⟩ : ∃ b, attrsOk l = b := ⟨_, rfl⟩
  cases b3 with
  | false =>
    have hv : check a0 a1 a3 a4 a5 a6 a7 a8 l = 54 := by unfold check; rw [if_neg c1, if_neg c2, if_neg c3, if_neg c4, if_pos (Or.inl n3)]
    rw [hv]; clear hv
    replace n3 := Aside0.mk n3
    replace n4 := Aside0.mk n4
    replace n5 := Aside0.mk n5
    clear c1 p0 p1
    go_enter Try.func30, Try.ntmps30
    go_wp2_with (first | (go_at_call 63; (with_reducible refine (named_w a3 _ _ n3.out).mono ?_); rintro e w2 ⟨rfl, hb2⟩; replace hT := Aside0.mk (hT.out.keep hb2); clear hb2; clear y0 y1 y3 y5 y6 y7 y8; have ⟨y4, _⟩ := hT.out.row (List.mem_cons_self ..) 4 _ rfl))
    go_ret
    exact ⟨by first | rfl | simp, hT.out.b⟩
  | true =>
    cases b4 with
    | false =>
      have hv : check a0 a1 a3 a4 a5 a6 a7 a8 l = 54 := by unfold check; rw [if_neg c1, if_neg c2, if_neg c3, if_neg c4, if_pos (Or.inr n4)]
      rw [hv]; clear hv
      replace n3 := Aside0.mk n3
      replace n4 := Aside0.mk n4
      replace n5 := Aside0.mk n5
      clear c1 p0 p1
      go_enter Try.func30, Try.ntmps30
      go_wp2_with (first | (go_at_call 63; (with_reducible refine (named_w a3 _ _ n3.out).mono ?_); rintro e w2 ⟨rfl, hb2⟩; replace hT := Aside0.mk (hT.out.keep hb2); clear hb2; clear y0 y1 y3 y5 y6 y7 y8; have ⟨y4, _⟩ := hT.out.row (List.mem_cons_self ..) 4 _ rfl) | (go_at_call 63; (with_reducible refine (named_w a4 _ _ n4.out).mono ?_); rintro e w3 ⟨rfl, hb2⟩; replace hT := Aside0.mk (hT.out.keep hb2); clear hb2 y4; have ⟨y9, _⟩ := hT.out.row (List.mem_cons_self ..) 9 _ rfl))
      go_ret
      exact ⟨by first | rfl | simp, hT.out.b⟩
    | true =>
      have c5 : ¬ (named a3 = false ∨ named a4 = false) := by rw [n3, n4]; simp
      cases b5 with
      | false =>
        have hv : check a0 a1 a3 a4 a5 a6 a7 a8 l = 55 := by unfold check; rw [if_neg c1, if_neg c2, if_neg c3, if_neg c4, if_neg c5, if_pos n5]
        clear c5
        rw [hv]; clear hv
        replace n3 := Aside0.mk n3
        replace n4 := Aside0.mk n4
        replace n5 := Aside0.mk n5
        clear c1 p0 p1
        go_enter Try.func30, Try.ntmps30
        go_wp2_with (first | (go_at_call 63; (with_reducible refine (named_w a3 _ _ n3.out).mono ?_); rintro e w2 ⟨rfl, hb2⟩; replace hT := Aside0.mk (hT.out.keep hb2); clear hb2; clear y0 y1 y3 y5 y6 y7 y8; have ⟨y4, _⟩ := hT.out.row (List.mem_cons_self ..) 4 _ rfl) | (go_at_call 63; (with_reducible refine (named_w a4 _ _ n4.out).mono ?_); rintro e w3 ⟨rfl, hb2⟩; replace hT := Aside0.mk (hT.out.keep hb2); clear hb2 y4; have ⟨y9, _⟩ := hT.out.row (List.mem_cons_self ..) 9 _ rfl) | (go_at_call 64; refine (attrs_w _ A n c l _ n5.out (Kd.C_below hC.out hT.out.b) hn hc hk.out).mono ?_; rintro e w4 ⟨rfl, hb2⟩; replace hT := Aside0.mk (hT.out.keep hb2); clear hb2 y9))
        go_ret
        exact ⟨by first | rfl | simp, hT.out.b⟩
      | true =>
        have c6 : ¬ (attrsOk l = false) := by rw [n5]; simp
        have hv : check a0 a1 a3 a4 a5 a6 a7 a8 l = 0 := by unfold check; rw [if_neg c1, if_neg c2, if_neg c3, if_neg c4, if_neg c5, if_neg c6]
        clear c5 c6
        rw [hv]; clear hv
        replace n3 := Aside0.mk n3
        replace n4 := Aside0.mk n4
        replace n5 := Aside0.mk n5
        clear c1 p0 p1
        go_enter Try.func30, Try.ntmps30
        go_wp2_with (first | (go_at_call 63; (with_reducible refine (named_w a3 _ _ n3.out).mono ?_); rintro e w2 ⟨rfl, hb2⟩; replace hT := Aside0.mk (hT.out.keep hb2); clear hb2; clear y0 y1 y3 y5 y6 y7 y8; have ⟨y4, _⟩ := hT.out.row (List.mem_cons_self ..) 4 _ rfl) | (go_at_call 63; (with_reducible refine (named_w a4 _ _ n4.out).mono ?_); rintro e w3 ⟨rfl, hb2⟩; replace hT := Aside0.mk (hT.out.keep hb2); clear hb2 y4; have ⟨y9, _⟩ := hT.out.row (List.mem_cons_self ..) 9 _ rfl) | (go_at_call 64; refine (attrs_w _ A n c l _ n5.out (Kd.C_below hC.out hT.out.b) hn hc hk.out).mono ?_; rintro e w4 ⟨rfl, hb2⟩; replace hT := Aside0.mk (hT.out.keep hb2); clear hb2 y9))
        go_ret
        exact ⟨by first | rfl | simp, hT.out.b⟩
end Go.Proofs.Ytllepjhimkogjaa.Ck
namespace Go.Proofs.Ytllepjhimkogjaa.Ck
open Go.RowKit Go.Proofs.YtllepjhimkogjaaW.PrintWords Go.Proofs.YtllepjhimkogjaaW.PrintLast
open Go.Proofs.Ytllepjhimkogjaa.Ob Go.Proofs.Ytllepjhimkogjaa.Two Go.Proofs.Ytllepjhimkogjaa.Sk
set_option linter.unusedSimpArgs false
set_option linter.unusedVariables false
open Go.Proofs.Ytllepjhimkogjaa.Sw Go.Proofs.Ytllepjhimkogjaa.Ix
theorem results_at2 {P : Program} {fn : Func} {p u : Tmp} {ty : TypeId} (h : fn.results = #[.cell p ty, .tmp u]) (tmps : Array Value) (w : World) (g : Nat) (cs : List Value) (d : TypeDesc)
    (hp : tmps.getD p undef = .pointer (some ⟨g, 0, none⟩)) (hr : Row w g cs) (hu : P.underlying ty = some d) (hd : (match d with | .struct _ | .array _ _ => true | _ => false) = true) (hi : (P.info? ty).map (·.size) = some cs.length) :
    (results fn tmps).run P w = .ok (.tuple #[.agg cs.toArray, tmps.getD u undef]) w := by
  have hp' : tmps[p]?.getD undef = .pointer (some ⟨g, 0, none⟩) := by simpa using hp
  simp [results, h, hp', asAddr, loadVar_at w g 0 ty cs d (row_at0 hr) hu hd hi]
def attrV (l : List E) (q : ByteArray) : Option Ty.S49 := (l.find? (fun y => decide (y.f0 = q))).map (·.f1)
theorem attr_none {l : List E} {q : ByteArray} (h : attrV l q = none) : ixI l q = -1 := by
  unfold attrV at h
  rw [Option.map_eq_none_iff, List.find?_eq_none] at h
  refine ix_none (fun j hj => ?_)
  have := h l[j] (List.getElem_mem hj)
  simpa using this
theorem attr_some {l : List E} {q : ByteArray} {v : Ty.S49} (h : attrV l q = some v) : ∃ i, ∃ hi : i < l.length, ixI l q = (i : Int) ∧ l[i].f1 = v := by
  unfold attrV at h
  obtain ⟨x, hx, rfl⟩ := Option.map_eq_some_iff.1 h
  rw [List.find?_eq_some_iff_getElem] at hx
  obtain ⟨h1, i, hi, rfl, h2⟩ := hx
  exact ⟨i, hi, ix_some i hi (fun j hj hjl => by simpa using h2 j hj) (by simpa using h1), rfl⟩
set_option maxHeartbeats 16000000 in
set_option maxRecDepth 1000000 in
theorem attr_w0 (w : World) (a0 a1 a2 : Int) (a3 a4 : ByteArray) (a5 a6 a7 a8 : Int) (A : Option Addr) (n c : Nat) (l : List E) (q : ByteArray) (hv : attrV l q = none) (hC : Kd.C K51 w A n l) (hn : n ≤ 1000) :
    Calls Try.prog 33 #[.agg #[.int .u64 a0, .int .u64 a1, .int .u64 a2, .string a3, .string a4, .int .i64 a5, .int .i64 a6, .int .u64 a7, .int .u64 a8, .slice A n c], .string q] w fun e w' => e = .returned (.tuple #[.agg #[.int .i64 0, .int .i64 0, .string ⟨#[]⟩], .bool false]) ∧ Below w.heap.size w w' := by
  have hix := Aside0.mk (attr_none hv)
  clear hv
  have hT := Aside0.mk ((((Bx.start w).new [.int .u64 a0, .int .u64 a1, .int .u64 a2, .string a3, .string a4, .int .i64 a5, .int .i64 a6, .int .u64 a7, .int .u64 a8, .slice A n c] 40).new [.string q] 9).new [.int .i64 0, .int .i64 0, .string ⟨#[]⟩] 49)
  rw [size_alloc, size_alloc] at hT
  replace hC := Aside0.mk hC
  obtain ⟨y9, _⟩ := hT.out.row (g := w.heap.size) (cs := [.int .u64 a0, .int .u64 a1, .int .u64 a2, .string a3, .string a4, .int .i64 a5, .int .i64 a6, .int .u64 a7, .int .u64 a8, .slice A n c]) (by simp) 9 _ rfl
  go_enter Try.func33, Try.ntmps33
  go_wp2_with (first | (go_at_call 67; refine (index68_w _ A n c l (w.heap.size + 1) q _ hix.out (Kd.C_below hC.out hT.out.b) hn ((hT.out.row (g := w.heap.size + 1) (cs := [.string q]) (by simp) 0 _ rfl).1)).mono ?_; rintro e w2 ⟨rfl, hb2⟩; replace hT := Aside0.mk (hT.out.keep hb2); clear hb2 y9; obtain ⟨z0, z0f⟩ := hT.out.row (g := w.heap.size + 2) (cs := [.int .i64 0, .int .i64 0, .string ⟨#[]⟩]) (by simp) 0 _ rfl; obtain ⟨z1, z1f⟩ := hT.out.row (g := w.heap.size + 2) (cs := [.int .i64 0, .int .i64 0, .string ⟨#[]⟩]) (by simp) 1 _ rfl; obtain ⟨z2, z2f⟩ := hT.out.row (g := w.heap.size + 2) (cs := [.int .i64 0, .int .i64 0, .string ⟨#[]⟩]) (by simp) 2 _ rfl))
  have hr := hT.out.row (g := w.heap.size + 2) (cs := [.int .i64 0, .int .i64 0, .string ⟨#[]⟩]) (by simp)
  have hr2 := ((hr.set 0 (.int .i64 0)).set 1 (.int .i64 0)).set 2 (.string ⟨#[]⟩)
  refine bodyPost_ret (results_at2 rfl _ _ (w.heap.size + 2) [.int .i64 0, .int .i64 0, .string ⟨#[]⟩] _ rfl hr2 Try.underlying49 rfl (by kernel_rfl)) rfl ⟨rfl, ?_⟩
  exact ((hT.out.b.setCell (by show w.heap.size ≤ w.heap.size + 2; omega) _).setCell (by show w.heap.size ≤ w.heap.size + 2; omega) _).setCell (by show w.heap.size ≤ w.heap.size + 2; omega) _
set_option maxHeartbeats 16000000 in
set_option maxRecDepth 1000000 in
theorem attr_w1 (w : World) (a0 a1 a2 : Int) (a3 a4 : ByteArray) (a5 a6 a7 a8 : Int) (A : Option Addr) (n c : Nat) (l : List E) (q : ByteArray) (v : Ty.S49) (hv : attrV l q = some v) (hC : Kd.C K51 w A n l) (hn : n ≤ 1000) :
    Calls Try.prog 33 #[.agg #[.int .u64 a0, .int .u64 a1, .int .u64 a2, .string a3, .string a4, .int .i64 a5, .int .i64 a6, .int .u64 a7, .int .u64 a8, .slice A n c], .string q] w fun e w' => e = .returned (.tuple #[.agg #[.int .i64 v.f0, .int .i64 v.f1, .string v.f2], .bool true]) ∧ Below w.heap.size w w' := by
  obtain ⟨i, hil, hix, hvi⟩ := attr_some hv
  have hi : i < n := by have := hC.1; omega
  have hiI : (i : Int) < (n : Int) := by omega
  have hi0 : (0 : Int) ≤ (i : Int) := by omega
  replace hix := Aside0.mk hix
  clear hv
  have hT := Aside0.mk ((((Bx.start w).new [.int .u64 a0, .int .u64 a1, .int .u64 a2, .string a3, .string a4, .int .i64 a5, .int .i64 a6, .int .u64 a7, .int .u64 a8, .slice A n c] 40).new [.string q] 9).new [.int .i64 0, .int .i64 0, .string ⟨#[]⟩] 49)
  rw [size_alloc, size_alloc] at hT
  obtain ⟨ad, rfl, _⟩ := Ty.at_T51 hC (i : Int) hi0 hiI
  replace hC := Aside0.mk hC
  obtain ⟨y9, _⟩ := hT.out.row (g := w.heap.size) (cs := [.int .u64 a0, .int .u64 a1, .int .u64 a2, .string a3, .string a4, .int .i64 a5, .int .i64 a6, .int .u64 a7, .int .u64 a8, .slice (some ad) n c]) (by simp) 9 _ rfl
  go_enter Try.func33, Try.ntmps33
  go_wp2_with (first | (go_at_call 67; refine (index68_w _ (some ad) n c l (w.heap.size + 1) q _ hix.out (Kd.C_below hC.out hT.out.b) hn ((hT.out.row (g := w.heap.size + 1) (cs := [.string q]) (by simp) 0 _ rfl).1)).mono ?_; rintro e w2 ⟨rfl, hb2⟩; replace hT := Aside0.mk (hT.out.keep hb2); clear hb2 y9; obtain ⟨z0, z0f⟩ := hT.out.row (g := w.heap.size + 2) (cs := [.int .i64 0, .int .i64 0, .string ⟨#[]⟩]) (by simp) 0 _ rfl; obtain ⟨z1, z1f⟩ := hT.out.row (g := w.heap.size + 2) (cs := [.int .i64 0, .int .i64 0, .string ⟨#[]⟩]) (by simp) 1 _ rfl; obtain ⟨z2, z2f⟩ := hT.out.row (g := w.heap.size + 2) (cs := [.int .i64 0, .int .i64 0, .string ⟨#[]⟩]) (by simp) 2 _ rfl; obtain ⟨y9, _⟩ := hT.out.row (g := w.heap.size) (cs := [.int .u64 a0, .int .u64 a1, .int .u64 a2, .string a3, .string a4, .int .i64 a5, .int .i64 a6, .int .u64 a7, .int .u64 a8, .slice (some ad) n c]) (by simp) 9 _ rfl; obtain ⟨ad2, hade, x0, x1, x2, x3⟩ := Ty.at_T51 (Kd.C_below hC.out hT.out.b) (i : Int) hi0 hiI; obtain rfl := Option.some.inj hade; rw [Ix.rd_at l i hil, Int.toNat_natCast] at x0 x1 x2 x3; rw [hvi] at x1 x2 x3; clear x0))
  have hr := hT.out.row (g := w.heap.size + 2) (cs := [.int .i64 0, .int .i64 0, .string ⟨#[]⟩]) (by simp)
  have hr2 := ((hr.set 0 (.int .i64 v.f0)).set 1 (.int .i64 v.f1)).set 2 (.string v.f2)
  refine bodyPost_ret (results_at2 rfl _ _ (w.heap.size + 2) [.int .i64 v.f0, .int .i64 v.f1, .string v.f2] _ rfl hr2 Try.underlying49 rfl (by kernel_rfl)) rfl ⟨rfl, ?_⟩
  exact ((hT.out.b.setCell (by show w.heap.size ≤ w.heap.size + 2; omega) _).setCell (by show w.heap.size ≤ w.heap.size + 2; omega) _).setCell (by show w.heap.size ≤ w.heap.size + 2; omega) _
end Go.Proofs.Ytllepjhimkogjaa.Ck
namespace Go.Proofs.Ytllepjhimkogjaa.Ck
open Go.Proofs.Ytllepjhimkogjaa.Rw (insL srtL srtL_length srtL_mem srtL_find srtL_ord srtL_id)
set_option linter.unusedSimpArgs false
set_option linter.unusedVariables false
abbrev E := Go.Proofs.Ytllepjhimkogjaa.Ty.S51
theorem twice_iff (l : List E) (i : Nat) (hi : i < l.length) : Ck.twice l i = true ↔ ∃ j, ∃ hj : j < i, (l[j]'(by omega)).f0 = l[i].f0 := by
  unfold twice
  rw [fn_at l i hi, List.any_eq_true]
  constructor
  · rintro ⟨x, hx, he⟩
    obtain ⟨j, hj, rfl⟩ := List.mem_iff_getElem.1 hx
    rw [List.length_take] at hj
    refine ⟨j, by omega, ?_⟩
    rw [List.getElem_take] at he
    simpa using he
  · rintro ⟨j, hj, he⟩
    refine ⟨l[j]'(by omega), ?_, by simpa using he⟩
    rw [List.mem_iff_getElem]
    exact ⟨j, by rw [List.length_take]; omega, by rw [List.getElem_take]⟩
theorem attrV_mem (l : List E) (i : Nat) (hi : i < l.length) : ∃ v, attrV l l[i].f0 = some v := by
  unfold attrV
  cases h : l.find? (fun y => decide (y.f0 = l[i].f0)) with
  | none =>
    rw [List.find?_eq_none] at h
    have := h l[i] (List.getElem_mem hi)
    simp at this
  | some x => exact ⟨_, rfl⟩
end Go.Proofs.Ytllepjhimkogjaa.Ck
namespace Go.Proofs.Ytllepjhimkogjaa.Ck
open Go.RowKit Go.Proofs.YtllepjhimkogjaaW.PrintWords Go.Proofs.YtllepjhimkogjaaW.PrintLast
open Go.Proofs.Ytllepjhimkogjaa.Ob Go.Proofs.Ytllepjhimkogjaa.Two Go.Proofs.Ytllepjhimkogjaa.Sk
set_option linter.unusedSimpArgs false
set_option linter.unusedVariables false
open Go.Proofs.Ytllepjhimkogjaa.Sw Go.Proofs.Ytllepjhimkogjaa.Ix
theorem exec_index63 {a : Act} {o : Oper} {w : World} (x y : Operand) (ho : o.op = .indexAddr 35 x y) (ad : Addr) (n c q : Nat) (hx : a.eval x = .slice (some ad) n c) (hy : a.eval y = .int .i64 (q : Int)) (hq : q < n) :
    (execOp a.eval o).run Try.prog w = .ok (.value (.pointer (some (ad.add (q * 4))))) w := by
  have h0 : (0 : Int) ≤ (q : Int) := by omega
  have h1 : (q : Int) < (n : Int) := by omega
  unfold execOp
  simp only [ho, hx, hy]
  go_simp
end Go.Proofs.Ytllepjhimkogjaa.Ck
