/- A ledger (ledger.Ledger) in memory, and what Reject does. No conditions but bounds. -/
import Derived.Test.YtfgpcoocbblkiaaOb
import Derived.Test.YtfgpcoocbblkiaaXLex1
import Derived.Test.YtfgpcoocbblkiaaXLex2
import Derived.Test.YtfgpcoocbblkiaaXLex7
import Derived.Deep.LoopGhost
import Derived.Deep.QuietTactic
import Derived.BigQuiet
import Derived.RegionTactic
import Derived.BigRegion
namespace Go.Proofs.Ytfgpcoocbblkiaa.Le
open Go.RowKit Go.Proofs.YtfgpcoocbblkiaaW.PrintWords Go.Proofs.YtfgpcoocbblkiaaW.PrintLast
open Go.Proofs.Ytfgpcoocbblkiaa.Ob Go.Proofs.Ytfgpcoocbblkiaa.XLe
set_option linter.unusedSimpArgs false
set_option linter.unusedVariables false

theorem below_of {w wr : World} (h : Only (fun _ => False) w wr) : Below w.heap.size w wr := h.below (fun _ e => e.elim) (Nat.le_refl _)
theorem fresh {F S : Nat → Prop} {w a b : World} (h : Only F w a) (k : Only S a b) (hS : ∀ i, S i → w.heap.size ≤ i) : Only F w b :=
  ⟨k.os.trans h.os, k.tape.trans h.tape, k.output.trans h.output, Nat.le_trans h.size k.size, fun i hi hf => (k.block i (Nat.lt_of_lt_of_le hi h.size) fun e => by have := hS i e; omega).trans (h.block i hi hf)⟩
/-- The cells of a ledger: how many records, counted, the rest; the six reasons. -/
def lcells (rec cnt rest : Nat) (iv : List Nat) : List Value :=
  [.int .u64 0, .int .u64 0, .int .u64 0, .int .u64 0, .int .u64 (rec : Int), .int .u64 (cnt : Int), .int .u64 0, .int .u64 0, .int .u64 0, .int .u64 0, .int .u64 (rest : Int), .int .u64 0, .int .u64 0] ++ iv.map fun n : Nat => .int .u64 (n : Int)
theorem lcells_at (rec cnt rest : Nat) (iv : List Nat) (j : Nat) (hj : j < iv.length) : (lcells rec cnt rest iv)[13 + j]? = some (.int .u64 ((iv[j] : Nat) : Int)) := by
  unfold lcells
  rw [List.getElem?_append_right (by simp)]
  simp [hj]
theorem lcells_set (rec cnt rest : Nat) (iv : List Nat) (j n : Nat) : (lcells rec cnt rest iv).set (13 + j) (.int .u64 (n : Int)) = lcells rec cnt rest (iv.set j n) := by
  unfold lcells
  rw [List.set_append_right _ _ (by simp), List.map_set]
  simp
/-- The place of a reason, or -1. -/
def place (e : Int) : Int := if e = 50 then 0 else if e = 51 then 1 else if e = 52 then 2 else if e = 53 then 3 else if e = 54 then 4 else if e = 55 then 5 else -1
theorem index_step (e v : Int) (i k : Nat) (hi : i < 6) (hv : rd [50, 51, 52, 53, 54, 55] (i : Int) = v) : api_Errno.l0 (k + 1) [50, 51, 52, 53, 54, 55] e 6 (i : Int) = if e = v then some (i : Int) else api_Errno.l0 k [50, 51, 52, 53, 54, 55] e 6 ((i + 1 : Nat) : Int) := by
  rw [api_Errno.l0, if_pos (by omega), if_pos (by omega), if_pos (by show (i : Int) < 6; omega), hv, show wrap64 ((i : Int) + 1) = ((i + 1 : Nat) : Int) by rw [IntWalk.wrap64_in _ (by omega)]; omega]
theorem index_f (e : Int) : api_Errno.f 20 [50, 51, 52, 53, 54, 55] e = some (place e) := by
  by_cases h0 : e = 50
  · subst h0; decide +kernel
  by_cases h1 : e = 51
  · subst h1; decide +kernel
  by_cases h2 : e = 52
  · subst h2; decide +kernel
  by_cases h3 : e = 53
  · subst h3; decide +kernel
  by_cases h4 : e = 54
  · subst h4; decide +kernel
  by_cases h5 : e = 55
  · subst h5; decide +kernel
  show api_Errno.l0 20 [50, 51, 52, 53, 54, 55] e 6 ((0 : Nat) : Int) = _
  rw [index_step e 50 0 _ (by decide) rfl, if_neg h0, index_step e 51 1 _ (by decide) rfl, if_neg h1, index_step e 52 2 _ (by decide) rfl, if_neg h2, index_step e 53 3 _ (by decide) rfl, if_neg h3, index_step e 54 4 _ (by decide) rfl, if_neg h4, index_step e 55 5 _ (by decide) rfl, if_neg h5, api_Errno.l0, if_neg (by decide)]
  unfold place
  rw [if_neg h0, if_neg h1, if_neg h2, if_neg h3, if_neg h4, if_neg h5]
theorem reasons_walk (w : World) : Calls Try.prog 50 #[] w fun r w' => ∃ A c, r = .returned (.slice A 6 c) ∧ 6 ≤ c ∧ Kd.C (Kd.int .i64) w' A 6 [50, 51, 52, 53, 54, 55] ∧ Only (fun _ => False) w w' := by
  refine (span_Reasons.calls _ w rfl).mono ?_
  rintro r w' ⟨v, rfl, hR, hB⟩
  obtain ⟨A, c, rfl⟩ := Kd.R_slice hR
  obtain ⟨_, h2, h3⟩ := Kd.R_reads' hR
  exact ⟨A, c, rfl, h2, h3, Only.of_below hB (fun k hk _ => hk)⟩
theorem index_walk (w : World) (A : Option Addr) (c : Nat) (e : Int) (hC : Kd.C (Kd.int .i64) w A 6 [50, 51, 52, 53, 54, 55]) (hc : 6 ≤ c) :
    Calls Try.prog 49 #[.slice A 6 c, .int .i64 e] w fun r w' => r = .returned (.int .i64 (place e)) ∧ Only (fun _ => False) w w' := by
  refine (api_Errno.calls 20 A c [50, 51, 52, 53, 54, 55] e _ w hC hc (index_f e)).mono ?_
  rintro r w' ⟨rfl, j, rfl⟩
  exact ⟨rfl, (Only.refl _ w).drewN j⟩
set_option maxHeartbeats 4000000 in
set_option maxRecDepth 1000000 in
theorem reject_no (w : World) (N : Nat) (e : Int) (he : place e = -1) :
    Calls Try.prog 25 #[.pointer (some ⟨N, 0, none⟩), .int .i64 e] w fun r w' => r = .returned (.bool false) ∧ Only (fun _ => False) w w' := by
  go_enter Try.func25, Try.ntmps25
  go_wp2_with (first
    | (go_at_call 50; refine (reasons_walk _).mono ?_; rintro r w1 ⟨A, c, rfl, hc, hC, ho⟩; replace hC := Aside0.mk hC; replace ho := Aside0.mk ho)
    | (go_at_call 49; refine (index_walk _ A c e hC.out hc).mono ?_; rintro r w2 ⟨rfl, ho2⟩; rw [he]; replace ho := Aside0.mk (ho.out.trans ho2); clear ho2))
  go_ret
  exact ⟨by first | rfl | simp, ho.out⟩
set_option maxHeartbeats 4000000 in
set_option maxRecDepth 1000000 in
theorem reject_yes (w : World) (N : Nat) (e : Int) (j rec cnt rest : Nat) (iv : List Nat) (he : place e = (j : Int)) (hj : j < 6) (hr : Row w N (lcells rec cnt rest iv)) (hl : iv.length = 6) (n : Nat) (hn : iv[j]? = some n) (hb : n ≤ 1000) :
    Calls Try.prog 25 #[.pointer (some ⟨N, 0, none⟩), .int .i64 e] w fun r w' => r = .returned (.bool true) ∧ Row w' N (lcells rec cnt rest (iv.set j (n + 1))) ∧ Only (fun k => k = N) w w' := by
  have hx : ∀ W, Row W N (lcells rec cnt rest iv) → W.cell? ⟨N, 13 + j, none⟩ = some (.int .u64 (n : Int)) ∧ W.frozen? ⟨N, 13 + j, none⟩ = false := fun W h => by
    have := lcells_at rec cnt rest iv j (by omega)
    rw [List.getElem?_eq_getElem (by omega)] at hn
    rw [Option.some.inj hn] at this
    exact h _ _ this
  replace hx := Aside0.mk hx
  have hset := Aside0.mk (fun W (h : Row W N (lcells rec cnt rest iv)) => (lcells_set rec cnt rest iv j (n + 1)) ▸ h.set (13 + j) (.int .u64 ((n + 1 : Nat) : Int)))
  replace hr := Aside0.mk hr
  have hj0 : (0 : Int) ≤ (j : Int) := by omega
  have hj6 : (j : Int) < 6 := by omega
  clear hn
  go_enter Try.func25, Try.ntmps25
  go_wp2_with (first
    | (go_at_call 50; refine (reasons_walk _).mono ?_; rintro r w1 ⟨A, c, rfl, hc, hC, ho⟩; replace hC := Aside0.mk hC; replace ho := Aside0.mk ho)
    | (go_at_call 49; refine (index_walk _ A c e hC.out hc).mono ?_; rintro r w2 ⟨rfl, ho2⟩; rw [he]; replace ho := Aside0.mk (ho.out.trans ho2); clear ho2; have hr2 := Aside0.mk (hr.out.only ho.out id); obtain ⟨x0, x0f⟩ := hx.out _ hr2.out))
  go_region
  go_wp2
  go_ret
  exact ⟨by first | rfl | simp, (hset.out _ hr2.out).drew, ((ho.out.mono (T := fun k => k = N) fun _ e => e.elim).setCell ⟨N, 13 + j, none⟩ (.int .u64 ((n + 1 : Nat) : Int)) rfl).drew⟩
/-- A ledger's value. -/
def lval (rec cnt rest a b c d e f : Nat) : Value := .agg #[.int .u64 0, .int .u64 0, .int .u64 0, .int .u64 0, .int .u64 (rec : Int), .int .u64 (cnt : Int), .int .u64 0, .int .u64 0, .int .u64 0, .int .u64 0, .int .u64 (rest : Int), .int .u64 0, .int .u64 0, .int .u64 (a : Int), .int .u64 (b : Int), .int .u64 (c : Int), .int .u64 (d : Int), .int .u64 (e : Int), .int .u64 (f : Int)]
set_option maxHeartbeats 4000000 in
set_option maxRecDepth 1000000 in
theorem clean_walk (w : World) (rec cnt rest a b c d e f : Nat) :
    Calls Try.prog 27 #[.agg #[.int .u64 0, .int .u64 0, .int .u64 0, .int .u64 0, .int .u64 (rec : Int), .int .u64 (cnt : Int), .int .u64 0, .int .u64 0, .int .u64 0, .int .u64 0, .int .u64 (rest : Int), .int .u64 0, .int .u64 0, .int .u64 (a : Int), .int .u64 (b : Int), .int .u64 (c : Int), .int .u64 (d : Int), .int .u64 (e : Int), .int .u64 (f : Int)]] w fun r w' => r = .returned (.bool (decide (rest = 0))) ∧ Only (fun _ => False) w w' := by
  have hx := Aside0.mk ((Only.refl (fun _ => False) w).alloc (.cells #[.int .u64 0, .int .u64 0, .int .u64 0, .int .u64 0, .int .u64 (rec : Int), .int .u64 (cnt : Int), .int .u64 0, .int .u64 0, .int .u64 0, .int .u64 0, .int .u64 (rest : Int), .int .u64 0, .int .u64 0, .int .u64 (a : Int), .int .u64 (b : Int), .int .u64 (c : Int), .int .u64 (d : Int), .int .u64 (e : Int), .int .u64 (f : Int)] 50))
  by_cases h : rest = 0
  · subst h
    go_enter Try.func27, Try.ntmps27
    go_wp2
    go_ret
    exact ⟨by first | rfl | simp, hx.out⟩
  · have hI : ¬ (rest : Int) = 0 := by omega
    rw [decide_eq_false h]
    go_enter Try.func27, Try.ntmps27
    go_wp2
    go_ret
    exact ⟨by first | rfl | simp [h], hx.out⟩
def ofN (l : List Nat) : List Int := l.map (Nat.cast : Nat → Int)
theorem ofN_length (l : List Nat) : (ofN l).length = l.length := by simp [ofN]
theorem rd_ofN (l : List Nat) (i : Nat) : rd (ofN l) (i : Int) = ((l.getD i 0 : Nat) : Int) := by
  simp only [rd, ofN, Int.toNat_natCast, List.getD_eq_getElem?_getD, List.getElem?_map]
  cases l[i]? <;> simp
theorem add_f (s n : Nat) (h : s + n ≤ 100000) : sat_Count_Add.f (s : Int) false (n : Int) = some (((s + n : Nat) : Int), false) := by
  unfold sat_Count_Add.f
  rw [if_neg (by simp), if_neg (by omega), IntWalk.u64_in _ (by omega), if_neg (by omega), IntWalk.u64_in _ (by omega)]
  rfl
theorem sum_loop (l : List Nat) (hl : l.length ≤ 1000) (hs : l.sum ≤ 100000) : ∀ (d i k : Nat), i + d = l.length → d < k → sat_Sum.l0 k (ofN l) (l.length : Int) (i : Int) (((l.take i).sum : Nat) : Int) false = some (((l.sum : Nat) : Int), false) := by
  intro d
  induction d with
  | zero =>
    intro i k hi hk
    obtain ⟨k, rfl⟩ : ∃ m, k = m + 1 := ⟨k - 1, by omega⟩
    rw [sat_Sum.l0, if_neg (by omega), List.take_of_length_le (by omega)]
  | succ d ih =>
    intro i k hi hk
    obtain ⟨k, rfl⟩ : ∃ m, k = m + 1 := ⟨k - 1, by omega⟩
    have hlt : i < l.length := by omega
    have e : (l.take (i + 1)).sum = (l.take i).sum + l.getD i 0 := by
      rw [List.take_succ_eq_append_getElem hlt, List.getD_eq_getElem?_getD, List.getElem?_eq_getElem hlt, List.sum_append]; rfl
    have hle : (l.take (i + 1)).sum ≤ l.sum := by
      have h := List.sum_append_nat (l₁ := l.take (i + 1)) (l₂ := l.drop (i + 1))
      rw [List.take_append_drop] at h
      omega
    have hrec := ih (i + 1) k (by omega) (by omega)
    rw [e] at hrec hle
    rw [sat_Sum.l0, if_pos (by omega), if_pos (by omega), if_pos (by rw [ofN_length]; omega), rd_ofN, add_f _ _ (by omega), Option.bind_some, IntWalk.wrap64_in _ (by omega), show (i : Int) + 1 = ((i + 1 : Nat) : Int) by omega]
    exact hrec
theorem sum_walk (w : World) (A : Option Addr) (m c : Nat) (l : List Nat) (hC : Kd.C (Kd.int .u64) w A m (ofN l)) (hm : m = l.length) (hc : m ≤ c) (hl : l.length ≤ 1000) (hs : l.sum ≤ 100000) :
    Calls Try.prog 51 #[.slice A m c] w fun r w' => r = .returned (.agg #[.int .u64 (l.sum : Int), .bool false]) ∧ Only (fun _ => False) w w' := by
  have e : m = (ofN l).length := by rw [ofN_length, hm]
  subst e
  refine (sat_Sum.calls (l.length + 1) A c (ofN l) _ _ w hC hc (by
    have := sum_loop l hl hs l.length 0 (l.length + 1) (by omega) (by omega)
    unfold sat_Sum.f
    rw [ofN_length]
    exact this)).mono ?_
  rintro r w' ⟨rfl, hb⟩
  exact ⟨rfl, Only.of_below hb (fun k hk _ => hk)⟩
end Go.Proofs.Ytfgpcoocbblkiaa.Le
