/- What a histogram's numbers are: plain. No conditions but bounds on lengths. -/
import Derived.Test.YtdcbhakclhbdpaaHb
import Derived.Test.YtdcbhakclhbdpaaXHx5
import Derived.Test.YtdcbhakclhbdpaaXHx25
import Derived.Test.YtdcbhakclhbdpaaXHx26
import Derived.Test.YtdcbhakclhbdpaaXHx1
import Derived.Test.YtdcbhakclhbdpaaXHx2
import Derived.Test.YtdcbhakclhbdpaaXHx14
namespace Go.Proofs.Ytdcbhakclhbdpaa.Hi
open Go.RowKit Go.Shelf Go.Proofs.YtdcbhakclhbdpaaW.PrintWords Go.Proofs.YtdcbhakclhbdpaaW.PrintLast
open Go.Proofs.Ytdcbhakclhbdpaa.Ob Go.Proofs.Ytdcbhakclhbdpaa.XH
set_option linter.unusedSimpArgs false
set_option linter.unusedVariables false

/-- the greatest count -/
def most : Nat := 9223372036854775807
def addC (c : Nat × Bool) (n : Nat) : Nat × Bool := if c.2 = true ∨ most < n + c.1 then (most, true) else (c.1 + n, false)
def joinC (c d : Nat × Bool) : Nat × Bool := if d.2 = true then (most, true) else addC c d.1
def satS (t : Nat) : Nat × Bool := if most < t then (most, true) else (t, false)
theorem satS_le (t : Nat) : (satS t).1 ≤ most := by unfold satS; split <;> simp <;> omega
theorem add_sat (t n : Nat) : addC (satS t) n = satS (t + n) := by
  unfold addC satS
  by_cases h : most < t
  · rw [if_pos h, if_pos (.inl rfl), if_pos (by omega)]
  · rw [if_neg h]
    by_cases h2 : most < t + n
    · rw [if_pos (.inr (by show most < n + t; omega)), if_pos h2]
    · rw [if_neg (by simp; omega), if_neg h2]
theorem join_sat (t n : Nat) : joinC (satS t) (satS n) = satS (t + n) := by
  unfold joinC
  by_cases h : most < n
  · have e : satS n = (most, true) := by unfold satS; rw [if_pos h]
    rw [e, if_pos rfl]
    unfold satS; rw [if_pos (by omega)]
  · have e : satS n = (n, false) := by unfold satS; rw [if_neg h]
    rw [e, if_neg (by simp), add_sat]
theorem u64_in (x : Int) (h0 : 0 ≤ x) (h1 : x < 18446744073709551616) : IntKind.u64.wrap x = x := by
  unfold IntKind.wrap
  simp only [IntKind.signed, IntKind.bits]
  simp
  omega
theorem add_f (c : Nat × Bool) (n : Nat) (hc : c.1 ≤ most) : sat_Count_Add.f (c.1 : Int) c.2 (n : Int) = some (((addC c n).1 : Int), (addC c n).2) := by
  obtain ⟨c, f⟩ := c
  simp only at hc ⊢
  unfold sat_Count_Add.f sat_full.f addC
  cases f with
  | true => simp [most]
  | false =>
    have hm : most = 9223372036854775807 := rfl
    rw [hm] at hc
    by_cases h1 : (n : Int) > 9223372036854775807
    · rw [if_neg (by simp), if_pos h1, if_pos (.inr (by rw [hm]; show _ < n + c; omega))]; rfl
    · rw [if_neg (by simp), if_neg h1, u64_in _ (by omega) (by omega)]
      by_cases h2 : (c : Int) > 9223372036854775807 - (n : Int)
      · rw [if_pos h2, if_pos (.inr (by rw [hm]; show _ < n + c; omega))]; rfl
      · rw [if_neg h2, if_neg (by rw [hm]; simp; omega), u64_in _ (by omega) (by omega)]; rfl
theorem join_f (c d : Nat × Bool) (hc : c.1 ≤ most) : sat_Count_Join.f (c.1 : Int) c.2 (d.1 : Int) d.2 = some (((joinC c d).1 : Int), (joinC c d).2) := by
  obtain ⟨d, f⟩ := d
  unfold sat_Count_Join.f joinC
  cases f with
  | true => simp [sat_full.f, most]
  | false => simp only [Bool.false_eq_true, if_false, add_f c d hc, Option.bind_some]
/-- May these be bounds? -/
def okB (bs : List Nat) : Prop := bs.length ≤ 32 ∧ ∀ i, i + 1 < bs.length → bs.getD i 0 < bs.getD (i + 1) 0
instance (bs : List Nat) : Decidable (okB bs) := decidable_of_iff (bs.length ≤ 32 ∧ ∀ i, i < bs.length - 1 → bs.getD i 0 < bs.getD (i + 1) 0) ⟨fun h => ⟨h.1, fun i hi => h.2 i (by omega)⟩, fun h => ⟨h.1, fun i hi => h.2 i (by omega)⟩⟩
/-- How many of l are in each bucket. -/
def bucks (bs l : List Nat) : List (Nat × Bool) := (List.range (bs.length + 1)).map fun i => (l.countP fun x => decide (bk bs x = i), false)
theorem bucks_length (bs l : List Nat) : (bucks bs l).length = bs.length + 1 := by simp [bucks]
theorem bucks_get (bs l : List Nat) (i : Nat) (h : i < bs.length + 1) : (bucks bs l)[i]? = some (l.countP fun x => decide (bk bs x = i), false) := by
  unfold bucks
  rw [List.getElem?_map, List.getElem?_range h]; rfl
theorem bucks_put (bs l : List Nat) (x : Nat) (hl : l.length < most) : (bucks bs l).set (bk bs x) (addC (l.countP (fun y => decide (bk bs y = bk bs x)), false) 1) = bucks bs (l ++ [x]) := by
  have hx := bk_le bs x
  apply List.ext_getElem?
  intro i
  by_cases hi : i < bs.length + 1
  · rw [List.getElem?_set, bucks_get bs l i hi, bucks_get bs (l ++ [x]) i hi, List.countP_append]
    by_cases e : bk bs x = i
    · subst e
      rw [if_pos rfl, if_pos (by rw [bucks_length]; exact hi)]
      have hle : l.countP (fun y => decide (bk bs y = bk bs x)) ≤ l.length := List.countP_le_length
      unfold addC
      rw [if_neg (by simp; omega)]
      simp
    · rw [if_neg e]
      simp [e]
  · rw [List.getElem?_eq_none (by rw [List.length_set, bucks_length]; omega), List.getElem?_eq_none (by rw [bucks_length]; omega)]
theorem bucks_join (bs l l' : List Nat) (hl : l.length + l'.length ≤ most) (i : Nat) (hi : i < bs.length + 1) :
    joinC (l.countP (fun y => decide (bk bs y = i)), false) (l'.countP (fun y => decide (bk bs y = i)), false) = ((l ++ l').countP (fun y => decide (bk bs y = i)), false) := by
  have h1 : l.countP (fun y => decide (bk bs y = i)) ≤ l.length := List.countP_le_length
  have h2 : l'.countP (fun y => decide (bk bs y = i)) ≤ l'.length := List.countP_le_length
  unfold joinC addC
  rw [if_neg (by simp), if_neg (by simp; omega), List.countP_append]
/-- The cells of counts. -/
def bc (l : List (Nat × Bool)) : List Value := l.flatMap fun c => [.int .u64 (c.1 : Int), .bool c.2]
theorem bc_length (l : List (Nat × Bool)) : (bc l).length = 2 * l.length := by
  induction l with
  | nil => rfl
  | cons x l ih => unfold bc at ih ⊢; rw [List.flatMap_cons, List.length_append, ih, List.length_cons]; simp; omega
theorem bc_get (l : List (Nat × Bool)) (i : Nat) (c : Nat × Bool) (h : l[i]? = some c) : (bc l)[i * 2]? = some (.int .u64 (c.1 : Int)) ∧ (bc l)[i * 2 + 1]? = some (.bool c.2) := by
  induction l generalizing i with
  | nil => simp at h
  | cons x l ih =>
    unfold bc at ih ⊢
    rw [List.flatMap_cons]
    cases i with
    | zero =>
      obtain rfl : x = c := by simpa using h
      exact ⟨rfl, rfl⟩
    | succ i =>
      have := ih i (by simpa using h)
      have e1 : (i + 1) * 2 = i * 2 + 2 := by omega
      rw [e1]
      exact this
theorem bc_set (l : List (Nat × Bool)) (i : Nat) (c : Nat × Bool) (h : i < l.length) : ((bc l).set (i * 2) (.int .u64 (c.1 : Int))).set (i * 2 + 1) (.bool c.2) = bc (l.set i c) := by
  induction l generalizing i with
  | nil => simp at h
  | cons x l ih =>
    unfold bc at ih ⊢
    cases i with
    | zero => rfl
    | succ i =>
      have := ih i (by simpa using h)
      rw [List.set_cons_succ, List.flatMap_cons, List.flatMap_cons, show (i + 1) * 2 = i * 2 + 1 + 1 by omega]
      show _ :: _ :: _ = _ :: _ :: _
      rw [← this]
      rfl
end Go.Proofs.Ytdcbhakclhbdpaa.Hi
