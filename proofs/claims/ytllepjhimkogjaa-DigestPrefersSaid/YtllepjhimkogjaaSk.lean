/- The order of spans (span.Compare): what it comes to, and what its parts come to. No conditions but bounds. -/
import Derived.Test.YtllepjhimkogjaaXSqx12
import Derived.Test.YtllepjhimkogjaaXSqx15
import Derived.Test.YtllepjhimkogjaaSb
import Derived.Test.YtllepjhimkogjaaTy
import Derived.Deep.LoopGhost
import Derived.Outline
namespace Go.Proofs.Ytllepjhimkogjaa.Sk
open Go.RowKit Go.Proofs.YtllepjhimkogjaaW.PrintWords Go.Proofs.YtllepjhimkogjaaW.PrintLast Go.Proofs.YtllepjhimkogjaaW.PrintMore
open Go.Proofs.Ytllepjhimkogjaa.XSq Go.Proofs.Ytllepjhimkogjaa.Ty
set_option linter.unusedSimpArgs false
set_option linter.unusedVariables false
/-- The first that is not 0. -/
def fnz : List Int → Int
  | [] => 0
  | x :: l => if x = 0 then fnz l else x
def ord (a b : Int) : Int := if a < b then -1 else if b < a then 1 else 0
def cb (a b : ByteArray) : Int := Lib.compareBytes a.data.toList b.data.toList
def sord (a b : ByteArray) : Int := if Op.bytesLess a.toList b.toList = true then -1 else if Op.bytesLess b.toList a.toList = true then 1 else 0
def cmpV (x y : S49) : Int := fnz [ord x.f0 y.f0, ord x.f1 y.f1, sord x.f2 y.f2]
def cmpA (x y : S51) : Int := fnz [cb x.f0 y.f0, cmpV x.f1 y.f1]
def cmpL : List S51 → List S51 → Int
  | [], [] => 0
  | [], _ :: _ => -1
  | _ :: _, [] => 1
  | x :: xs, y :: ys => if cmpA x y = 0 then cmpL xs ys else cmpA x y
theorem or_loop (l : List Int) : ∀ (d i k : Nat), i + d = l.length → d < k → l.length ≤ 1000 → cmp_Or_int.l0 k 0 l (l.length : Int) (i : Int) = some (fnz (l.drop i)) := by
  intro d
  induction d with
  | zero =>
    intro i k hi hk hl
    obtain ⟨k, rfl⟩ : ∃ m, k = m + 1 := ⟨k - 1, by omega⟩
    rw [cmp_Or_int.l0, if_neg (by omega), List.drop_of_length_le (by omega)]; rfl
  | succ d ih =>
    intro i k hi hk hl
    obtain ⟨k, rfl⟩ : ∃ m, k = m + 1 := ⟨k - 1, by omega⟩
    have hlt : i < l.length := by omega
    have e : rd l (i : Int) = l[i] := by
      simp only [rd, Int.toNat_natCast, List.getD_eq_getElem?_getD, List.getElem?_eq_getElem hlt, Option.getD_some]
    rw [cmp_Or_int.l0, if_pos (by omega), if_pos (by omega), if_pos (by omega), e, List.drop_eq_getElem_cons hlt, fnz]
    by_cases h0 : l[i] = 0
    · rw [if_pos h0, if_pos h0, IntWalk.wrap64_in _ (by omega), show (i : Int) + 1 = ((i + 1 : Nat) : Int) by omega]
      exact ih (i + 1) k (by omega) (by omega) hl
    · rw [if_neg h0, if_neg h0]
theorem or_f (l : List Int) (k : Nat) (hk : l.length < k) (hl : l.length ≤ 1000) : cmp_Or_int.f k l = some (fnz l) := by
  have := or_loop l l.length 0 k (by omega) hk hl
  rw [List.drop_zero] at this
  exact this
theorem cmpi_f (a b : Int) : cmp_Compare_int.f a b = some (ord a b) := by
  unfold cmp_Compare_int.f cmp_isNaN_int.f ord
  simp only [Option.bind_some, bne_self_eq_false, Bool.false_eq_true, if_false]
  by_cases h : a < b
  · rw [if_pos h, if_pos h]
  · rw [if_neg h, if_neg h]
    by_cases h2 : b < a
    · rw [if_pos h2, if_pos h2]
    · rw [if_neg (by omega), if_neg h2]
theorem cmpi64_f (a b : Int) : cmp_Compare_int64.f a b = some (ord a b) := by
  unfold cmp_Compare_int64.f cmp_isNaN_int64.f ord
  simp only [Option.bind_some, bne_self_eq_false, Bool.false_eq_true, if_false]
  by_cases h : a < b
  · rw [if_pos h, if_pos h]
  · rw [if_neg h, if_neg h]
    by_cases h2 : b < a
    · rw [if_pos h2, if_pos h2]
    · rw [if_neg (by omega), if_neg h2]
theorem cmpu_f (a b : Int) : cmp_Compare_uint64.f a b = some (ord a b) := by
  unfold cmp_Compare_uint64.f cmp_isNaN_uint64.f ord
  simp only [Option.bind_some, bne_self_eq_false, Bool.false_eq_true, if_false]
  by_cases h : a < b
  · rw [if_pos h, if_pos h]
  · rw [if_neg h, if_neg h]
    by_cases h2 : b < a
    · rw [if_pos h2, if_pos h2]
    · rw [if_neg (by omega), if_neg h2]
theorem cmps_f (a b : ByteArray) : cmp_Compare_string.f a b = some (sord a b) := by
  unfold cmp_Compare_string.f cmp_isNaN_string.f sord
  simp only [Option.bind_some, bne_self_eq_false, Bool.false_eq_true, if_false]
  by_cases h : Op.bytesLess a.toList b.toList = true
  · rw [if_pos h, if_pos h]
  · rw [if_neg h, if_neg h]
    by_cases h2 : Op.bytesLess b.toList a.toList = true
    · rw [if_pos h2, if_pos h2]
    · rw [if_neg h2, if_neg h2]
theorem cmpV_f (x y : S49) : value_Compare.f 20 x.f0 x.f1 x.f2 y.f0 y.f1 y.f2 = some (cmpV x y) := by
  unfold value_Compare.f
  rw [cmpi_f, Option.bind_some, cmpi64_f, Option.bind_some, cmps_f, Option.bind_some, or_f _ 20 (by simp) (by simp)]
  rfl
theorem cmpA_f (x y : S51) : span_Compare_1.f 20 x.f0 x.f1.f0 x.f1.f1 x.f1.f2 y.f0 y.f1.f0 y.f1.f1 y.f1.f2 = some (cmpA x y) := by
  unfold span_Compare_1.f strings_Compare.f
  rw [Option.bind_some, cmpV_f, Option.bind_some, or_f _ 20 (by simp) (by simp)]
  rfl
theorem cmpA_calls (x y : S51) (w : World) : Calls Try.prog 73 #[.agg #[.string x.f0, .int .i64 x.f1.f0, .int .i64 x.f1.f1, .string x.f1.f2], .agg #[.string y.f0, .int .i64 y.f1.f0, .int .i64 y.f1.f1, .string y.f1.f2]] w fun e w' => e = .returned (.int .i64 (cmpA x y)) ∧ Below w.heap.size w w' :=
  span_Compare_1.calls 20 _ _ _ _ _ _ _ _ _ w (cmpA_f x y)
theorem cmpL_step (l m : List S51) (i : Nat) (h1 : i < l.length) (h2 : i < m.length) : cmpL (l.drop i) (m.drop i) = if cmpA l[i] m[i] = 0 then cmpL (l.drop (i + 1)) (m.drop (i + 1)) else cmpA l[i] m[i] := by
  rw [List.drop_eq_getElem_cons h1, List.drop_eq_getElem_cons h2, cmpL]
theorem rd_at (l : List S51) (i : Nat) (h : i < l.length) : rd_T51 l (i : Int) = l[i] := by
  unfold rd_T51
  rw [Int.toNat_natCast, List.getD_eq_getElem?_getD, List.getElem?_eq_getElem h]; rfl
theorem below_cmp {w wr w2 : World} {o1 o2 : Obj} (h : Below w.heap.size w wr) (k : Below ((wr.alloc o1).alloc o2).heap.size ((wr.alloc o1).alloc o2) w2) : Below w.heap.size w w2 := by
  have h1 := (h.alloc h.size o1).alloc (Nat.le_trans h.size (by show _ ≤ (wr.heap.push o1).size; simp)) o2
  exact h1.trans (k.mono (h1.size))
set_option maxHeartbeats 4000000 in
set_option maxRecDepth 1000000 in
theorem cmpL_calls (w : World) (A0 A1 : Option Addr) (c0 c1 : Nat) (l m : List S51) (h0 : Kd.C k51 w A0 l.length l) (h1 : Kd.C k51 w A1 m.length m) (hl : l.length ≤ 1000) (hm : m.length ≤ 1000) (r : Int) (hr : cmpL l m = r) :
    Calls Try.prog 72 #[.slice A0 l.length c0, .slice A1 m.length c1, .func (.func 73) #[] #[]] w fun e w' => e = .returned (.int .i64 r) ∧ Below w.heap.size w w' := by
  replace h0 := Aside0.mk h0
  replace h1 := Aside0.mk h1
  replace hr := Aside0.mk hr
  obtain ⟨nl, hnl⟩ : ∃ n, l.length = n := ⟨_, rfl⟩
  obtain ⟨nm, hnm⟩ : ∃ n, m.length = n := ⟨_, rfl⟩
  rw [hnl, hnm]
  rw [hnl] at hl
  rw [hnm] at hm
  replace hnl := Aside0.mk hnl
  replace hnm := Aside0.mk hnm
  have HB := Aside0.mk (Below.refl w.heap.size w)
  go_enter Try.func72, Try.ntmps72
  go_wp2
  go_loopg [13] (nl + 1) (fun kq v13 wr => ∃ i : Nat, v13 = .int .i64 (i : Int) ∧ i ≤ nl ∧ i ≤ nm ∧ nl - i < kq ∧ Aside0 (cmpL (l.drop i) (m.drop i) = r) ∧ Aside0 (Below w.heap.size w wr))
  case atStart => exact ⟨0, rfl, by omega, by omega, by omega, ⟨by simpa using hr.out⟩, HB⟩
  case round =>
    clear HB
    obtain ⟨i, rfl, hi, hi2, hk, HR, HB⟩ := hrel
    obtain ⟨k1, rfl⟩ : ∃ m, gk = m + 1 := ⟨gk - 1, by omega⟩
    have hi0 : (0 : Int) ≤ (i : Int) := by omega
    by_cases hin : i < nl
    · have hinI : (i : Int) < (nl : Int) := by omega
      have hil : i < l.length := by rw [hnl.out]; exact hin
      obtain ⟨ad, rfl, x0, x1, x2, x3⟩ := at_T51 (Kd.C_below h0.out HB.out) (i : Int) hi0 (by rw [hnl.out]; exact hinI)
      rw [rd_at l i hil, Int.toNat_natCast] at x0 x1 x2 x3
      by_cases him : i < nm
      · have himI : (i : Int) < (nm : Int) := by omega
        have himJ : ¬ (nm : Int) ≤ (i : Int) := by omega
        have hml : i < m.length := by rw [hnm.out]; exact him
        obtain ⟨ad1, rfl, y0, y1, y2, y3⟩ := at_T51 (Kd.C_below h1.out HB.out) (i : Int) hi0 (by rw [hnm.out]; exact himI)
        rw [rd_at m i hml, Int.toNat_natCast] at y0 y1 y2 y3
        have hs := cmpL_step l m i hil hml
        generalize l[i] = x at x0 x1 x2 x3 hs
        generalize m[i] = y at y0 y1 y2 y3 hs
        have z0 := World.block_lt_of_cell? _ _ y0
        have z1 := Nat.ne_of_lt z0
        by_cases hz : cmpA x y = 0
        · rw [if_pos hz] at hs
          replace hs := Aside0.mk hs.symm
          replace hz := Aside0.mk hz
          go_wp2_with (go_at_call 73; refine (cmpA_calls x y _).mono ?_; rintro e w2 ⟨rfl, hb⟩; rw [hz.out])
          go_roundg k1
          case measure => omega
          case rel => exact ⟨i + 1, by first | rfl | simp, by omega, by omega, by omega, ⟨hs.out.trans HR.out⟩, ⟨below_cmp HB.out hb⟩⟩
        · rw [if_neg hz] at hs
          have hr2 := Aside0.mk (hs.symm.trans HR.out)
          have hzI : (cmpA x y == 0) = false := by simpa using hz
          have hzJ : (cmpA x y != 0) = true := by simpa using hz
          clear hs HR
          go_wp2_with (go_at_call 73; refine (cmpA_calls x y _).mono ?_; rintro e w2 ⟨rfl, hb⟩)
          go_ret
          exact ⟨by rw [← hr2.out]; rfl, below_cmp HB.out hb⟩
      · obtain rfl : i = nm := by omega
        have hr1 : r = 1 := by
          rw [← HR.out, show m.drop i = [] from List.drop_of_length_le (by rw [hnm.out]; omega), List.drop_eq_getElem_cons hil]; rfl
        subst hr1
        have himJ : (i : Int) ≤ (i : Int) := by omega
        clear hk
        go_wp2
        go_ret
        exact ⟨by first | rfl | simp, HB.out.alloc (HB.out.size) _⟩
    · obtain rfl : i = nl := by omega
      by_cases him : i < nm
      · have himI : (i : Int) < (nm : Int) := by omega
        have hr1 : r = -1 := by
          rw [← HR.out, show l.drop i = [] from List.drop_of_length_le (by rw [hnl.out]; omega), List.drop_eq_getElem_cons (show i < m.length by rw [hnm.out]; exact him)]; rfl
        subst hr1
        clear hk
        go_wp2
        go_ret
        exact ⟨by first | rfl | simp, HB.out⟩
      · obtain rfl : i = nm := by omega
        have hr1 : r = 0 := by
          rw [← HR.out, show l.drop i = [] from List.drop_of_length_le (by rw [hnl.out]; omega), show m.drop i = [] from List.drop_of_length_le (by rw [hnm.out]; omega)]; rfl
        subst hr1
        clear hk
        go_wp2
        go_ret
        exact ⟨by first | rfl | simp, HB.out⟩
end Go.Proofs.Ytllepjhimkogjaa.Sk
