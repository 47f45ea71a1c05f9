/- What Told and Open of a ledger answer. No conditions but bounds. -/
import Derived.Test.YtfgpcoocbblkiaaLe
namespace Go.Proofs.Ytfgpcoocbblkiaa.Le
open Go.RowKit Go.Proofs.YtfgpcoocbblkiaaW.PrintWords Go.Proofs.YtfgpcoocbblkiaaW.PrintLast
open Go.Proofs.Ytfgpcoocbblkiaa.Ob Go.Proofs.Ytfgpcoocbblkiaa.XLe
set_option linter.unusedSimpArgs false
set_option linter.unusedVariables false

theorem R_sl {α : Type} {d : Kd α} {e base : Nat} {ok : Nat → Prop} {w : World} {v : Value} {xs : List α} (h : d.R e w base ok v xs) : ∃ A m c, v = .slice A m c ∧ m = xs.length := by
  obtain ⟨A, c, h⟩ := Kd.R_slice h
  exact ⟨A, _, c, h, rfl⟩
/-- The boxes of a call of Told. -/
structure Tb (w W : World) (cs : List Value) : Prop where
  o : Only (fun _ => False) w W
  r1 : Row W w.heap.size cs
  r2 : W.heap[w.heap.size + 1]? = some (.cells #[.int .u64 0, .bool false] 53 (0, 0))
theorem Tb.keep {w W W' : World} {cs : List Value} (h : Tb w W cs) (o : Only (fun _ => False) W W') : Tb w W' cs := ⟨h.o.trans o, h.r1.only o id, (o.block _ (Array.getElem?_eq_some_iff.1 h.r2).1 id).trans h.r2⟩
theorem Tb.keep2 {w W W' : World} {cs : List Value} (h : Tb w W cs) {S : Nat → Prop} (o : Only S W W') (hS : ∀ k, S k → w.heap.size + 2 ≤ k) : Tb w W' cs :=
  ⟨fresh h.o o (fun k hk => by have := hS k hk; omega), h.r1.only o (fun e => by have := hS _ e; omega), (o.block _ (Array.getElem?_eq_some_iff.1 h.r2).1 (fun e => by have := hS _ e; omega)).trans h.r2⟩
theorem Tb.drew {w W : World} {cs : List Value} (h : Tb w W cs) : Tb w W.drew cs := h.keep (Only.refl _ W).drew
theorem Tb.of (w : World) (cs : List Value) (t1 : TypeId) : Tb w ((w.alloc (.cells cs.toArray t1)).alloc (.cells #[.int .u64 0, .bool false] 53)) cs := by
  refine ⟨((Only.refl _ w).alloc _).alloc _, (Row.new w cs t1).alloc _, ?_⟩
  have h := blk_new (w.alloc (.cells cs.toArray t1)) (.cells #[.int .u64 0, .bool false] 53)
  have e : (w.alloc (.cells cs.toArray t1)).heap.size = w.heap.size + 1 := by show (w.heap.push _).size = _; simp
  rw [e] at h
  exact h
theorem only_none {W W' : World} (h : W.grownBy W' none) : Only (fun _ => False) W W' := ⟨h.os, h.tape, h.output, h.size, fun k hk _ => h.block k hk (by simp)⟩
theorem only_own {W W' : World} {row : Option Nat} (h : W.grownBy W' row) : Only (fun k => some k = row) W W' := ⟨h.os, h.tape, h.output, h.size, fun k hk hs => h.block k hk hs⟩
theorem Tb.r2size {w W : World} {cs : List Value} (h : Tb w W cs) : w.heap.size + 2 ≤ W.drew.heap.size := (Array.getElem?_eq_some_iff.1 h.r2).1
theorem Tb.cell2 {w W : World} {cs : List Value} (h : Tb w W cs) : (W.cell? ⟨w.heap.size + 1, 0, none⟩ = some (.int .u64 0) ∧ W.frozen? ⟨w.heap.size + 1, 0, none⟩ = false) ∧ (W.cell? ⟨w.heap.size + 1, 1, none⟩ = some (.bool false) ∧ W.frozen? ⟨w.heap.size + 1, 1, none⟩ = false) := by
  have := h.r2
  unfold World.cell? World.frozen?
  simp only [this]
  exact ⟨⟨rfl, rfl⟩, rfl, rfl⟩
theorem sum11 (cnt a b c d e f : Nat) : [cnt, 0, 0, 0, 0, a, b, c, d, e, f].sum = cnt + a + b + c + d + e + f := by simp only [List.sum_cons, List.sum_nil]; omega
/-- The array within the box, as a row that is read. -/
theorem C_arr {W : World} {B rec cnt rest a b c d e f : Nat} (h : Row W B [.int .u64 0, .int .u64 0, .int .u64 0, .int .u64 0, .int .u64 (rec : Int), .int .u64 (cnt : Int), .int .u64 0, .int .u64 0, .int .u64 0, .int .u64 0, .int .u64 (rest : Int), .int .u64 0, .int .u64 0, .int .u64 (a : Int), .int .u64 (b : Int), .int .u64 (c : Int), .int .u64 (d : Int), .int .u64 (e : Int), .int .u64 (f : Int)]) : Kd.C (Kd.int .u64) W (some ⟨B, 13, none⟩) 6 (ofN [a, b, c, d, e, f]) := by
  refine ⟨rfl, by omega, fun _ => ⟨_, rfl, fun j x hx => ⟨[.int .u64 x], rfl, rfl, fun i u hu => ?_⟩⟩⟩
  have hj : j < 6 := (List.getElem?_eq_some_iff.1 hx).1
  match i, hu with
  | 0, hu =>
    obtain rfl := Option.some.inj hu
    have h2 := (h (13 + j) (.int .u64 x) (by
      match j, hj, hx with
      | 0, _, hx => obtain rfl := Option.some.inj hx; rfl
      | 1, _, hx => obtain rfl := Option.some.inj hx; rfl
      | 2, _, hx => obtain rfl := Option.some.inj hx; rfl
      | 3, _, hx => obtain rfl := Option.some.inj hx; rfl
      | 4, _, hx => obtain rfl := Option.some.inj hx; rfl
      | 5, _, hx => obtain rfl := Option.some.inj hx; rfl)).1
    have e1 : (⟨B, 13, none⟩ : Addr).add (j * (Kd.int .u64).sz + 0) = ⟨B, 13 + j, none⟩ := by
      show (⟨B, 13, none⟩ : Addr).add (j * 1 + 0) = _
      unfold Addr.add
      split
      · rename_i h0; have : j = 0 := by omega
        subst this; rfl
      · simp
    rw [e1]; exact h2
  | i + 1, hu => cases hu
set_option maxHeartbeats 8000000 in
set_option maxRecDepth 1000000 in
theorem told_walk (w : World) (rec cnt rest a b c d e f : Nat) (hs : cnt + a + b + c + d + e + f ≤ 100000) :
    Calls Try.prog 26 #[.agg #[.int .u64 0, .int .u64 0, .int .u64 0, .int .u64 0, .int .u64 (rec : Int), .int .u64 (cnt : Int), .int .u64 0, .int .u64 0, .int .u64 0, .int .u64 0, .int .u64 (rest : Int), .int .u64 0, .int .u64 0, .int .u64 (a : Int), .int .u64 (b : Int), .int .u64 (c : Int), .int .u64 (d : Int), .int .u64 (e : Int), .int .u64 (f : Int)]] w fun r w' => r = .returned (.agg #[.int .u64 ((cnt + a + b + c + d + e + f : Nat) : Int), .bool false]) ∧ Only (fun _ => False) w w' := by
  have H := Aside0.mk (Tb.of w [.int .u64 0, .int .u64 0, .int .u64 0, .int .u64 0, .int .u64 (rec : Int), .int .u64 (cnt : Int), .int .u64 0, .int .u64 0, .int .u64 0, .int .u64 0, .int .u64 (rest : Int), .int .u64 0, .int .u64 0, .int .u64 (a : Int), .int .u64 (b : Int), .int .u64 (c : Int), .int .u64 (d : Int), .int .u64 (e : Int), .int .u64 (f : Int)] 50)
  have hcells := Aside0.mk (fun W (h : Tb w W [.int .u64 0, .int .u64 0, .int .u64 0, .int .u64 0, .int .u64 (rec : Int), .int .u64 (cnt : Int), .int .u64 0, .int .u64 0, .int .u64 0, .int .u64 0, .int .u64 (rest : Int), .int .u64 0, .int .u64 0, .int .u64 (a : Int), .int .u64 (b : Int), .int .u64 (c : Int), .int .u64 (d : Int), .int .u64 (e : Int), .int .u64 (f : Int)]) => And.intro (h.r1 5 _ rfl).1 (And.intro (h.r1 6 _ rfl).1 (And.intro (h.r1 7 _ rfl).1 (And.intro (h.r1 8 _ rfl).1 (h.r1 9 _ rfl).1))))
  go_enter Try.func26, Try.ntmps26
  go_wp2
  have s0 := hcells.out _ H.out
  have hS := (show (fun w' : World => w'.cell? ⟨w.heap.size, 5, none⟩ = some (.int .u64 (cnt : Int)) ∧ w'.cell? ⟨w.heap.size, 6, none⟩ = some (.int .u64 0) ∧ w'.cell? ⟨w.heap.size, 7, none⟩ = some (.int .u64 0) ∧ w'.cell? ⟨w.heap.size, 8, none⟩ = some (.int .u64 0) ∧ w'.cell? ⟨w.heap.size, 9, none⟩ = some (.int .u64 0)) (((w.alloc (.cells #[.int .u64 0, .int .u64 0, .int .u64 0, .int .u64 0, .int .u64 (rec : Int), .int .u64 (cnt : Int), .int .u64 0, .int .u64 0, .int .u64 0, .int .u64 0, .int .u64 (rest : Int), .int .u64 0, .int .u64 0, .int .u64 (a : Int), .int .u64 (b : Int), .int .u64 (c : Int), .int .u64 (d : Int), .int .u64 (e : Int), .int .u64 (f : Int)] 50)).alloc (.cells #[.int .u64 0, .bool false] 53)).drew) from s0)
  refine start_ (n := 16) (S := fun w' : World => w'.cell? ⟨w.heap.size, 5, none⟩ = some (.int .u64 (cnt : Int)) ∧ w'.cell? ⟨w.heap.size, 6, none⟩ = some (.int .u64 0) ∧ w'.cell? ⟨w.heap.size, 7, none⟩ = some (.int .u64 0) ∧ w'.cell? ⟨w.heap.size, 8, none⟩ = some (.int .u64 0) ∧ w'.cell? ⟨w.heap.size, 9, none⟩ = some (.int .u64 0)) (ds := [15]) #[false, false, false, false, false, false, false, false, false, false, false, false, false, false, false, false] (by kernel_rfl) rfl rfl hS (fun hHeld => ?_)
  clear hS
  refine pure_ (i := 0) (N := some 3) (v := ?_) (a' := ?_) #[true, false, false, false, false, false, false, false, false, false, false, false, false, false, false, false] rfl rfl (by kernel_rfl) (fun _ _ _ h => h) (Or.inl ⟨by rfl, ?_⟩) ?_ ?_
  rotate_left
  · intro w'
    go_simp
    with_reducible rfl
  rotate_left
  · simp only [Act.put, List.setIfInBounds_toArray, List.set_cons_zero, List.set_cons_succ, i64_w, i32_w]
    rfl
  refine take_ (i := 1) (N := some 4) (v := ?_) (a' := ?_) #[true, true, false, false, false, false, false, false, false, false, false, false, false, false, false, false] rfl rfl (by kernel_rfl) (fun _ _ _ h => h) (Or.inl ⟨by rfl, ?_⟩) hHeld ?_ ?_
  rotate_left
  · rintro w' ⟨s0, s1, s2, s3, s4⟩
    go_simp
    with_reducible rfl
  rotate_left
  · simp only [Act.put, List.setIfInBounds_toArray, List.set_cons_zero, List.set_cons_succ, i64_w, i32_w]
    rfl
  refine pure_ (i := 2) (N := some 5) (v := ?_) (a' := ?_) #[true, true, true, false, false, false, false, false, false, false, false, false, false, false, false, false] rfl rfl (by kernel_rfl) (fun _ _ _ h => h) (Or.inl ⟨by rfl, ?_⟩) ?_ ?_
  rotate_left
  · intro w'
    go_simp
    with_reducible rfl
  rotate_left
  · simp only [Act.put, List.setIfInBounds_toArray, List.set_cons_zero, List.set_cons_succ, i64_w, i32_w]
    rfl
  refine take_ (i := 3) (N := some 6) (v := ?_) (a' := ?_) #[true, true, true, true, false, false, false, false, false, false, false, false, false, false, false, false] rfl rfl (by kernel_rfl) (fun _ _ _ h => h) (Or.inl ⟨by rfl, ?_⟩) hHeld ?_ ?_
  rotate_left
  · rintro w' ⟨s0, s1, s2, s3, s4⟩
    go_simp
    with_reducible rfl
  rotate_left
  · simp only [Act.put, List.setIfInBounds_toArray, List.set_cons_zero, List.set_cons_succ, i64_w, i32_w]
    rfl
  refine pure_ (i := 4) (N := some 7) (v := ?_) (a' := ?_) #[true, true, true, true, true, false, false, false, false, false, false, false, false, false, false, false] rfl rfl (by kernel_rfl) (fun _ _ _ h => h) (Or.inl ⟨by rfl, ?_⟩) ?_ ?_
  rotate_left
  · intro w'
    go_simp
    with_reducible rfl
  rotate_left
  · simp only [Act.put, List.setIfInBounds_toArray, List.set_cons_zero, List.set_cons_succ, i64_w, i32_w]
    rfl
  refine take_ (i := 5) (N := some 8) (v := ?_) (a' := ?_) #[true, true, true, true, true, true, false, false, false, false, false, false, false, false, false, false] rfl rfl (by kernel_rfl) (fun _ _ _ h => h) (Or.inl ⟨by rfl, ?_⟩) hHeld ?_ ?_
  rotate_left
  · rintro w' ⟨s0, s1, s2, s3, s4⟩
    go_simp
    with_reducible rfl
  rotate_left
  · simp only [Act.put, List.setIfInBounds_toArray, List.set_cons_zero, List.set_cons_succ, i64_w, i32_w]
    rfl
  refine pure_ (i := 6) (N := some 9) (v := ?_) (a' := ?_) #[true, true, true, true, true, true, true, false, false, false, false, false, false, false, false, false] rfl rfl (by kernel_rfl) (fun _ _ _ h => h) (Or.inl ⟨by rfl, ?_⟩) ?_ ?_
  rotate_left
  · intro w'
    go_simp
    with_reducible rfl
  rotate_left
  · simp only [Act.put, List.setIfInBounds_toArray, List.set_cons_zero, List.set_cons_succ, i64_w, i32_w]
    rfl
  refine take_ (i := 7) (N := some 10) (v := ?_) (a' := ?_) #[true, true, true, true, true, true, true, true, false, false, false, false, false, false, false, false] rfl rfl (by kernel_rfl) (fun _ _ _ h => h) (Or.inl ⟨by rfl, ?_⟩) hHeld ?_ ?_
  rotate_left
  · rintro w' ⟨s0, s1, s2, s3, s4⟩
    go_simp
    with_reducible rfl
  rotate_left
  · simp only [Act.put, List.setIfInBounds_toArray, List.set_cons_zero, List.set_cons_succ, i64_w, i32_w]
    rfl
  refine pure_ (i := 8) (N := some 11) (v := ?_) (a' := ?_) #[true, true, true, true, true, true, true, true, true, false, false, false, false, false, false, false] rfl rfl (by kernel_rfl) (fun _ _ _ h => h) (Or.inl ⟨by rfl, ?_⟩) ?_ ?_
  rotate_left
  · intro w'
    go_simp
    with_reducible rfl
  rotate_left
  · simp only [Act.put, List.setIfInBounds_toArray, List.set_cons_zero, List.set_cons_succ, i64_w, i32_w]
    rfl
  refine take_ (i := 9) (N := some 12) (v := ?_) (a' := ?_) #[true, true, true, true, true, true, true, true, true, true, false, false, false, false, false, false] rfl rfl (by kernel_rfl) (fun _ _ _ h => h) (Or.inl ⟨by rfl, ?_⟩) hHeld ?_ ?_
  rotate_left
  · rintro w' ⟨s0, s1, s2, s3, s4⟩
    go_simp
    with_reducible rfl
  rotate_left
  · simp only [Act.put, List.setIfInBounds_toArray, List.set_cons_zero, List.set_cons_succ, i64_w, i32_w]
    rfl
  clear s0
  refine pure_ (i := 11) (N := some 14) (v := ?_) (a' := ?_) #[true, true, true, true, true, true, true, true, true, true, false, true, false, false, false, false] rfl rfl (by kernel_rfl) (fun _ _ _ h => h) (Or.inl ⟨by rfl, ?_⟩) ?_ ?_
  rotate_left
  · intro w'
    go_simp
    with_reducible rfl
  rotate_left
  · simp only [Act.put, List.setIfInBounds_toArray, List.set_cons_zero, List.set_cons_succ, i64_w, i32_w]
    rfl
  refine pure_ (i := 12) (N := some 15) (v := ?_) (a' := ?_) #[true, true, true, true, true, true, true, true, true, true, false, true, true, false, false, false] rfl rfl (by kernel_rfl) (fun _ _ _ h => h) (Or.inl ⟨by rfl, ?_⟩) ?_ ?_
  rotate_left
  · intro w'
    go_simp
    with_reducible rfl
  rotate_left
  · simp only [Act.put, List.setIfInBounds_toArray, List.set_cons_zero, List.set_cons_succ, i64_w, i32_w]
    rfl
  refine one_ (i := 10) (N := some 13) #[true, true, true, true, true, true, true, true, true, true, true, true, true, false, false, false] rfl rfl (by kernel_rfl) (by decide) (fun K hK => ?_)
  refine Kd.R_lit_step (Kd.int .u64) (w0 := w) w.heap.size 47 (by rfl) rfl (xs := ofN [cnt, 0, 0, 0, 0]) (inner := [.int .u64 (cnt : Int), .int .u64 0, .int .u64 0, .int .u64 0, .int .u64 0]) (ok := fun _ => True) (okp := fun _ => True) ?hr ?hp (fun _ hk => hk) trivial (below_of H.out.drew.o) H.out.drew.o.size (by show 5 ≤ 9223372036854775807; omega) ?_; (case hr => first | (go_simp; done) | (go_simp; rfl)); (case hp => exact (Reps.one (show Kd.M (Kd.int .u64) _ _ _ (cnt : Int) [.int .u64 (cnt : Int)] from rfl) (Reps.one (show Kd.M (Kd.int .u64) _ _ _ ((0 : Nat) : Int) [.int .u64 0] from rfl) (Reps.one (show Kd.M (Kd.int .u64) _ _ _ ((0 : Nat) : Int) [.int .u64 0] from rfl) (Reps.one (show Kd.M (Kd.int .u64) _ _ _ ((0 : Nat) : Int) [.int .u64 0] from rfl) (Reps.one (show Kd.M (Kd.int .u64) _ _ _ ((0 : Nat) : Int) [.int .u64 0] from rfl) (Reps.none _ _)))))))
  intro v13 W1 hr1 hb1 hg1 hn1
  obtain ⟨A1, m1, c1, rfl, hm1⟩ := R_sl hr1
  obtain rfl : m1 = 5 := hm1
  have K1 := Aside0.mk (H.out.drew.keep (only_none hg1))
  have hs2 := H.out.r2size
  replace hn1 := Aside0.mk (show ∃ b, (Value.slice A1 5 c1).ownBlock = some b ∧ w.heap.size + 2 ≤ b from by obtain ⟨b, h1, h2⟩ := hn1; exact ⟨b, h1, Nat.le_trans hs2 h2⟩)
  replace hr1 := Aside0.mk hr1
  clear hb1 hg1 hs2
  refine hK.out _ _ (hcells.out _ K1.out) (fun hHeld => ?_)
  clear hK K
  refine norm_ (a' := ?_) ?_ ?_
  rotate_left
  · show Act.put _ (some 13) _ = _
    simp only [Act.put, List.setIfInBounds_toArray, List.set_cons_zero, List.set_cons_succ, i64_w, i32_w]
    rfl
  refine one_ (i := 13) (N := some 16) #[true, true, true, true, true, true, true, true, true, true, true, true, true, true, false, false] rfl rfl (by kernel_rfl) (by decide) (fun K hK => ?_)
  refine Kd.R_append_rows_step (Kd.int .u64) (w0 := w) w.heap.size (by rfl) (.tmp 13) (.tmp 15) 122 47 (.int .u64 0) 8 rfl Try.underlying122 (by kernel_rfl) rfl (by decide) (by decide) (.slice A1 5 c1) (ofN [cnt, 0, 0, 0, 0]) (ofN [a, b, c, d, e, f]) _ _ _ (fun _ => True) (fun _ => False) rfl rfl hr1.out (C_arr K1.out.r1) (fun _ _ h => h) (fun _ h => h.elim) (fun _ _ => trivial) (below_of K1.out.o) K1.out.o.size (by show (5 + 6) * 8 ≤ _; omega) ?_
  intro v16 W2 hr2 hb2 hg2 _
  obtain ⟨A2, m2, c2, rfl, hm2⟩ := R_sl hr2
  obtain rfl : m2 = 11 := hm2
  have K2 := Aside0.mk (K1.out.keep2 (only_own hg2) (fun k hk => by obtain ⟨b, h1, h2⟩ := hn1.out; rw [h1] at hk; cases hk; exact h2))
  obtain ⟨-, hc2, hC2⟩ := Kd.R_reads' hr2
  replace hC2 := Aside0.mk (show Kd.C (Kd.int .u64) W2 A2 11 (ofN [cnt, 0, 0, 0, 0, a, b, c, d, e, f]) from hC2)
  clear hr2 hb2 hg2
  refine hK.out _ _ (hcells.out _ K2.out) (fun hHeld => ?_)
  clear hK K
  refine norm_ (a' := ?_) ?_ ?_
  rotate_left
  · show Act.put _ (some 16) _ = _
    simp only [Act.put, List.setIfInBounds_toArray, List.set_cons_zero, List.set_cons_succ, i64_w, i32_w]
    rfl
  refine one_ (i := 14) (N := some 17) #[true, true, true, true, true, true, true, true, true, true, true, true, true, true, true, false] rfl rfl (by kernel_rfl) (by decide) (fun K hK => ?_)
  refine goes_ Try.func51 (by kernel_rfl) rfl #[.slice A2 11 c2] (by rfl) rfl rfl (by (try simp only [List.map_toArray, List.map_cons, List.map_nil]); first | done | rfl) ?_
  refine (sum_walk _ A2 11 c2 [cnt, 0, 0, 0, 0, a, b, c, d, e, f] hC2.out rfl hc2 (by show 11 ≤ 1000; omega) (by rw [sum11]; omega)).mono ?_
  rintro r W3 ⟨rfl, ho3⟩
  rw [sum11]
  have K3 := Aside0.mk (K2.out.keep ho3)
  clear ho3
  refine ⟨_, rfl, ?_⟩
  refine hK.out _ _ (hcells.out _ K3.out) (fun hHeld => ?_)
  clear hK K
  refine norm_ (a' := ?_) ?_ ?_
  rotate_left
  · show Act.put _ (some 17) _ = _
    simp only [Act.put, List.setIfInBounds_toArray, List.set_cons_zero, List.set_cons_succ, i64_w, i32_w]
    rfl
  obtain ⟨⟨x0, x0f⟩, x1, x1f⟩ := K3.out.cell2
  refine last_ (i := 15) (N := none) #[true, true, true, true, true, true, true, true, true, true, true, true, true, true, true, true] rfl rfl (by kernel_rfl) (by decide) (fun K hK => ?_)
  refine skip_ (w1 := ?_) (by rfl) rfl ?_ ?_
  rotate_left
  · go_simp
    rfl
  refine hK.out _ _ ?_
  clear hK K
  refine done_ (by kernel_rfl) ?_
  go_wp2
  refine bodyPost_ret (results_cell_row rfl _ _ (w.heap.size + 1) 53 #[.int .u64 ((cnt + a + b + c + d + e + f : Nat) : Int), .bool false] (0, 0) _ rfl (by refine blk_put (cs := #[.int .u64 ((cnt + a + b + c + d + e + f : Nat) : Int), .bool false]) ?_ 1 _ rfl; refine blk_put (cs := #[.int .u64 0, .bool false]) ?_ 0 _ rfl; exact K3.out.r2) Try.underlying53 rfl (by kernel_rfl)) rfl ?_
  exact ⟨rfl, fresh K3.out.o (((Only.refl (fun k => k = w.heap.size + 1) W3).setCell ⟨w.heap.size + 1, 0, none⟩ _ rfl).setCell ⟨w.heap.size + 1, 1, none⟩ _ rfl) (fun k e => by omega)⟩
end Go.Proofs.Ytfgpcoocbblkiaa.Le
