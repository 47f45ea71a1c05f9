/- StrtabSame, walked: numbers stay. No conditions but bounds. -/
import Derived.Test.YtfgpcoocbblkiaaSy
namespace Go.Proofs.Ytfgpcoocbblkiaa.St
open Go.RowKit Go.Maps Go.ChangeMaps Go.MapKept Go.Proofs.YtfgpcoocbblkiaaW.PrintWords Go.Proofs.YtfgpcoocbblkiaaW.PrintLast
open Go.Proofs.Ytfgpcoocbblkiaa.Ob Go.Proofs.Ytfgpcoocbblkiaa.XSv Go.Proofs.Ytfgpcoocbblkiaa.Var
set_option linter.unusedSimpArgs false
set_option linter.unusedVariables false

/-- No text stands twice. -/
def Nd (L : List ByteArray) : Prop := ∀ i, (h : i < L.length) → idx (L.take i) L[i] = none
theorem nd_snoc {L : List ByteArray} {s : ByteArray} (h : Nd L) (hs : idx L s = none) : Nd (L ++ [s]) := by
  intro i hi
  by_cases hl : i < L.length
  · rw [List.take_append_of_le_length (by omega), List.getElem_append_left hl]
    exact h i hl
  · have : i = L.length := by simp at hi; omega
    subst this
    rw [List.take_left]
    simpa using hs
theorem getD_left {l r : List Nat} {i : Nat} (h : i < l.length) : (l ++ r).getD i 0 = l.getD i 0 := by
  rw [List.getD_eq_getElem?_getD, List.getD_eq_getElem?_getD, List.getElem?_append_left h]
theorem getD_last (l : List Nat) (x : Nat) : (l ++ [x]).getD l.length 0 = x := by
  rw [List.getD_eq_getElem?_getD, List.getElem?_append_right (Nat.le_refl _)]; simp
theorem upto_next {P : Nat → ByteArray} {i : Nat} (h : ∀ j, j < i → (P j).size ≤ 4096) (hs : (P i).size ≤ 4096) : ∀ j, j < i + 1 → (P j).size ≤ 4096 := by
  intro j hj
  by_cases e : j < i
  · exact h j e
  · have : j = i := by omega
    subst this; exact hs
/-- The numbers of the texts so far. -/
structure Ix (L : List ByteArray) (P : Nat → ByteArray) (At : List Nat) (i : Nat) : Prop where
  len : At.length = i
  at' : ∀ j, j < i → idx L (P j) = some (At.getD j 0)
  nd : Nd L
theorem ix_old {L : List ByteArray} {P : Nat → ByteArray} {At : List Nat} {i q : Nat} (h : Ix L P At i) (hq : idx L (P i) = some q) : Ix L P (At ++ [q]) (i + 1) := by
  refine ⟨by simp [h.len], fun j hj => ?_, h.nd⟩
  by_cases e : j < i
  · rw [getD_left (by rw [h.len]; exact e)]; exact h.at' j e
  · obtain rfl : j = i := by omega
    rw [hq, ← h.len, getD_last]
theorem ix_new {L : List ByteArray} {P : Nat → ByteArray} {At : List Nat} {i : Nat} (h : Ix L P At i) (hq : idx L (P i) = none) : Ix (L ++ [P i]) P (At ++ [L.length]) (i + 1) := by
  refine ⟨by simp [h.len], fun j hj => ?_, nd_snoc h.nd hq⟩
  rw [idx_snoc L (P i) (P j) hq]
  by_cases e : j < i
  · have hj := h.at' j e
    rw [if_neg (fun e2 => by rw [e2, hq] at hj; cases hj), getD_left (by rw [h.len]; exact e)]; exact hj
  · obtain rfl : j = i := by omega
    rw [if_pos rfl, ← h.len, getD_last]
/-- A table, and the list of the numbers. -/
structure Qm (w wr : World) (N B : Nat) (b : Option Nat) (L : List ByteArray) (At : List Nat) (v : Value) : Prop where
  t : Ts w wr N B b L
  m : Kd.R (Kd.int .i64) 3 wr w.heap.size (fun k => k ≠ N ∧ k ≠ B ∧ some k ≠ b) v (ofN At)
section
variable {w wr w' : World} {N B : Nat} {b : Option Nat} {L : List ByteArray} {At : List Nat} {v : Value}
theorem Qm.keep (h : Qm w wr N B b L At v) (k : Only (fun _ => False) wr w') : Qm w w' N B b L At v := ⟨h.t.keep k, R_only h.m k (fun _ _ _ => id)⟩
theorem qm_put (h : Qm w wr N B b L At v) (s : ByteArray) (hs : s.size ≤ 4096) (hi : idx L s = none) (hf : L.length < 4096) :
    Calls Try.prog 14 #[.pointer (some ⟨N, 0, none⟩), .string s] wr fun r w' => r = .returned (.tuple #[.int .i64 (L.length : Int), .int .i64 0]) ∧ ∃ b', Qm w w' N B b' (L ++ [s]) At v := by
  refine (ts_put h.t s hs hi hf _ rfl).mono ?_
  rintro r w' ⟨rfl, b', ht, hb, k⟩
  refine ⟨rfl, b', ht, ?_⟩
  have hR := R_only (Kd.R_bound h.m) k (fun j hj _ e => by
    rcases e with e | e | e
    · exact hj.1.1 e
    · exact hj.1.2.1 e
    · exact hj.1.2.2 e)
  refine Kd.R_mono hR (fun j hj => ⟨hj.1.1, hj.1.2.1, ?_⟩)
  rcases hb with rfl | ⟨q, rfl, hq⟩
  · exact hj.1.2.2
  · intro e; have := hj.2.2.1; cases e; omega
theorem Qm.own (h : Qm w wr N B b L At v) (o : Obj) : Kd.R (Kd.int .i64) 3 (wr.alloc o) w.heap.size (fun k => k ≠ N ∧ k ≠ B ∧ some k ≠ b) v (ofN At) := R_only h.m ((Only.refl (fun _ => False) wr).alloc o) (fun _ _ _ => id)
theorem Qm.fresh' (h : Qm w wr N B b L At v) (o : Obj) : ∀ k, (wr.alloc o).heap.size ≤ k → k ≠ N ∧ k ≠ B ∧ some k ≠ b := by
  intro k hk
  have e : (wr.alloc o).heap.size = wr.heap.size + 1 := by show (wr.heap.push _).size = _; simp
  have := h.t.t.lt
  exact ⟨by omega, by omega, fun e2 => by have := (this.2.2 k e2.symm).1; omega⟩
theorem Qm.size (h : Qm w wr N B b L At v) (o : Obj) : w.heap.size ≤ (wr.alloc o).heap.size := (h.t.o.alloc o).size
theorem Qm.below' (h : Qm w wr N B b L At v) (o : Obj) : Below w.heap.size w (wr.alloc o) := below_of (h.t.o.alloc o)
theorem Qm.put {w5 : World} {v1 : Value} {At' : List Nat} {o : Obj} (h : Qm w wr N B b L At v) (hg : (wr.alloc o).grownBy w5 v.ownBlock) (hr : Kd.R (Kd.int .i64) 3 w5 w.heap.size (fun k => k ≠ N ∧ k ≠ B ∧ some k ≠ b) v1 (ofN At')) (hB : Below w.heap.size w w5) : Qm w w5 N B b L At' v1 := by
  have k := ((Only.refl (fun k => some k = v.ownBlock) wr).alloc o).trans (only_of_grown hg)
  exact ⟨⟨h.t.t.only k (fun e => (h.m.1 _ e.symm).1 rfl) (fun e => (h.m.1 _ e.symm).2.1 rfl) (fun j hj e => (h.m.1 _ e.symm).2.2 hj.symm), Only.of_below hB (fun k hk _ => hk), h.t.small⟩, hr⟩
end
theorem C_int (W : World) (b : Nat) (x : Int) (hb : W.heap.size = b) : Kd.C (Kd.int .i64) (W.alloc (.cells #[.int .i64 x] 3)) (some ⟨b, 0, none⟩) 1 [x] := by
  subst hb
  have h := Row.new W [.int .i64 x] 3
  refine ⟨rfl, by omega, fun _ => ⟨_, rfl, fun j y hx => ?_⟩⟩
  have hj : j = 0 := by
    have := (List.getElem?_eq_some_iff.1 hx).1
    simp at this; exact this
  subst hj
  obtain rfl : x = y := Option.some.inj hx
  refine ⟨[.int .i64 x], rfl, rfl, fun i u hu => ?_⟩
  have := (h i u hu).1
  have hi : i = 0 := by have := (List.getElem?_eq_some_iff.1 hu).1; simp at this; exact this
  subst hi
  simpa [Addr.add] using this
theorem int_at {w : World} {A : Option Addr} {n : Nat} {At : List Nat} (h : Kd.C (Kd.int .i64) w A n (ofN At)) (i : Nat) (hi : i < At.length) : ∃ ad, A = some ad ∧ w.cell? (ad.add i) = some (.int .i64 ((At.getD i 0 : Nat) : Int)) := by
  obtain ⟨hl, _, hc⟩ := h
  rw [ofN_length] at hl
  obtain ⟨ad, e, hc⟩ := hc (by omega)
  have hx : (ofN At)[i]? = some ((At.getD i 0 : Nat) : Int) := by
    unfold ofN
    rw [List.getElem?_map, List.getElem?_eq_getElem hi, List.getD_eq_getElem?_getD, List.getElem?_eq_getElem hi]; rfl
  obtain ⟨c, hcl, hk, hcell⟩ := hc i _ hx
  obtain rfl : c = [.int .i64 ((At.getD i 0 : Nat) : Int)] := hk
  have := hcell 0 _ rfl
  refine ⟨ad, e, ?_⟩
  rw [show i * (Kd.int .i64).sz + 0 = i by show i * 1 + 0 = i; omega] at this
  exact this
/-- Two tables. -/
structure Tt (w wr : World) (N B : Nat) (b : Option Nat) (L : List ByteArray) (z0 Nu Bu : Nat) (bu : Option Nat) (Lu : List ByteArray) : Prop where
  t : Ts w wr N B b L
  lt : N < z0 ∧ B < z0 ∧ ∀ k, b = some k → k < z0
  u : IsT wr z0 Nu Bu bu Lu
  z : w.heap.size ≤ z0
  zz : z0 ≤ wr.heap.size
theorem tt_new {w wr : World} {N B : Nat} {b : Option Nat} {L : List ByteArray} (h : Ts w wr N B b L) : Calls Try.prog 13 #[] wr fun r w' => ∃ Nu Bu, r = .returned (.pointer (some ⟨Nu, 0, none⟩)) ∧ Tt w w' N B b L wr.heap.size Nu Bu none [] := by
  refine (new_walk wr.heap.size wr (Nat.le_refl _)).mono ?_
  rintro r w' ⟨Nu, Bu, rfl, h1, h2, ht, k⟩
  have := h.t.lt
  exact ⟨Nu, Bu, rfl, h.keep k, ⟨this.1, this.2.1, fun k hk => (this.2.2 k hk).1⟩, ht, h.o.size, k.size⟩
theorem tt_put {w wr : World} {N B z0 Nu Bu : Nat} {b bu : Option Nat} {L Lu : List ByteArray} (h : Tt w wr N B b L z0 Nu Bu bu Lu) (s : ByteArray) (hs : s.size ≤ 4096) (hi : idx Lu s = none) (hf : Lu.length < 4096) (m : Nat) (hm : Lu.length = m) :
    Calls Try.prog 14 #[.pointer (some ⟨Nu, 0, none⟩), .string s] wr fun r w' => r = .returned (.tuple #[.int .i64 (m : Int), .int .i64 0]) ∧ ∃ b', Tt w w' N B b L z0 Nu Bu b' (Lu ++ [s]) := by
  subst hm
  refine (put_new s wr Nu Bu z0 bu Lu h.u hs hi hf h.zz).mono ?_
  rintro r w' ⟨rfl, ⟨b', hb, ht⟩, k⟩
  have kz : Only (fun k => z0 ≤ k) wr w' := k.mono (fun j e => by
    rcases e with rfl | rfl | e
    · exact h.u.wn
    · exact h.u.wb
    · exact (h.u.lt.2.2 j e.symm).2.1)
  exact ⟨rfl, b', ⟨h.t.t.only kz (by have := h.lt.1; omega) (by have := h.lt.2.1; omega) (fun j hj => by have := h.lt.2.2 j hj; omega), fresh h.t.o kz (fun j hj => Nat.le_trans h.z hj), h.t.small⟩, h.lt, ht, h.z, Nat.le_trans h.zz k.size⟩
theorem take_idx {L : List ByteArray} (h : Nd L) (i : Nat) (hi : i < L.length) : idx (L.take i) L[i] = none ∧ L.take i ++ [L[i]] = L.take (i + 1) := ⟨h i hi, (List.take_succ_eq_append_getElem hi).symm⟩
theorem Qm.num {w wr : World} {N B : Nat} {b : Option Nat} {L : List ByteArray} {At : List Nat} {A : Option Addr} {m c i : Nat} (h : Qm w wr N B b L At (.slice A m c)) (hi : i < At.length) : ∃ ad, A = some ad ∧ wr.cell? (ad.add i) = some (.int .i64 ((At.getD i 0 : Nat) : Int)) :=
  int_at (Kd.R_reads' h.m).2.2 i hi
theorem Tt.keep {w wr w' : World} {N B z0 Nu Bu : Nat} {b bu : Option Nat} {L Lu : List ByteArray} (h : Tt w wr N B b L z0 Nu Bu bu Lu) (k : Only (fun _ => False) wr w') : Tt w w' N B b L z0 Nu Bu bu Lu :=
  ⟨h.t.keep k, h.lt, h.u.only k id id (fun _ _ => id), h.z, Nat.le_trans h.zz k.size⟩
theorem tt_bytes {w wr : World} {N B z0 Nu Bu : Nat} {b bu : Option Nat} {L Lu : List ByteArray} (h : Tt w wr N B b L z0 Nu Bu bu Lu) (hs : ∀ s ∈ Lu, s.size ≤ 5000) :
    Calls Try.prog 18 #[.pointer (some ⟨Nu, 0, none⟩)] wr fun r w' => ∃ A m c, r = .returned (.slice A m c) ∧ By w w' (.slice A m c) (enc Lu) ∧ Only (fun _ => False) wr w' := by
  refine (bytes_walk wr Nu Bu z0 bu Lu h.u hs).mono ?_
  rintro r w' ⟨A, m, c, rfl, HB⟩
  exact ⟨A, m, c, rfl, ⟨Kd.R_lower HB.r h.t.o.size, h.t.o.trans HB.o⟩, HB.o⟩
set_option maxHeartbeats 8000000 in
set_option maxRecDepth 1000000 in
theorem same_law (A0 : Option Addr) (c0 n0 : Nat) (P : Nat → ByteArray) (w : World) (hr0 : Strs w A0 n0 P) :
    Calls Try.prog 4 #[.slice A0 n0 c0] w fun r w' => r = .returned (.bool true) ∧ Below w.heap.size w w' := by
  have HR0 := Aside0.mk hr0
  clear hr0
  by_cases h60 : (n0 : Int) > 60
  · go_enter Try.func4, Try.ntmps4
    go_wp2_with (go_at_call 12; refine (alive_walk _).mono ?_; rintro r w1 ⟨rfl, ho⟩)
    go_ret
    exact ⟨rfl, below_of ho⟩
  · go_enter Try.func4, Try.ntmps4
    go_wp2_with (first
      | (go_at_call 12; refine (alive_walk _).mono ?_; rintro r w1 ⟨rfl, ho⟩)
      | (go_at_call 13; refine (ts_new0 ho).mono ?_; rintro r w2 ⟨N, B, rfl, H, _, _, _⟩; have H0 := Aside0.mk (show Qm w w2 N B none [] [] (.slice none 0 0) from ⟨H, Kd.R_nil _ _ _ _ _⟩); clear H ho))
    go_loopg [4, 5] (n0 + 1) (fun kq v4 v5 wr => ∃ (i : Nat) (b : Option Nat) (L : List ByteArray) (At : List Nat) (A : Option Addr) (m c : Nat), v4 = .slice A m c ∧ v5 = .int .i64 (i : Int) ∧ i ≤ n0 ∧ n0 - i < kq ∧ L.length ≤ i ∧ Aside0 (∀ j, j < i → (P j).size ≤ 4096) ∧ Aside0 (Ix L P At i) ∧ Aside0 (Qm w wr N B b L At (.slice A m c)))
    case atStart => exact ⟨0, _, [], [], none, 0, 0, rfl, rfl, by omega, by omega, by simp, ⟨fun j hj => by omega⟩, ⟨⟨rfl, fun j hj => by omega, fun i hi => absurd hi (by simp)⟩⟩, H0⟩
    case round =>
      clear H0
      obtain ⟨i, b, L, At, A, m, c, rfl, rfl, hi, hk, hL, HP, HI, H⟩ := hrel
      obtain ⟨k1, rfl⟩ : ∃ m, gk = m + 1 := ⟨gk - 1, by omega⟩
      have hmA := Aside0.mk (show m = i by have := (Kd.R_reads' H.out.m).1; rw [ofN_length, HI.out.len] at this; exact this)
      have hbw := Aside0.mk (below_of H.out.t.o)
      by_cases hil : i < n0
      · have hil' : (i : Int) < (n0 : Int) := by omega
        have hi0 : (0 : Int) ≤ (i : Int) := by omega
        obtain ⟨ad, eA, hx⟩ := HR0.out _ hbw.out i hil
        cases eA
        have hIo := Aside0.mk (fun q hq => ix_old (q := q) HI.out hq)
        have hIn := Aside0.mk (fun hq => ix_new HI.out hq)
        have hPn := Aside0.mk (fun (hs : (P i).size ≤ 4096) => upto_next HP.out hs)
        generalize P i = s at hx hIo hIn hPn
        by_cases h4 : 4096 < s.size
        · have h4I : (4096 : Int) < (s.size : Int) := by omega
          go_wp2
          go_ret
          exact ⟨rfl, hbw.out⟩
        · have h4I : ¬ (4096 : Int) < (s.size : Int) := by omega
          cases hid : idx L s with
          | some q =>
            replace hid := Aside0.mk hid
            go_wp2_with (first
              | (go_at_call 14; refine (ts_old H.out.t s (by omega) q hid.out).mono ?_; rintro r w3 ⟨rfl, rfl⟩)
              | ((with_reducible refine gate_builtin (b := .append) (xs := #[.tmp 49, .tmp 51]) rfl ?_); at_builtin; refine Kd.R_append_rows (Kd.int .i64) (w0 := w) w.heap.size rfl (.tmp 49) (.tmp 51) 36 3 (.int .i64 0) 8 rfl Try.underlying36 (by kernel_rfl) rfl (by decide) (by omega) (.slice A m c) (ofN At) [(q : Int)] _ _ _ (fun k => k ≠ N ∧ k ≠ B ∧ some k ≠ b) (fun _ => False) rfl rfl (H.out.own _) (C_int _ _ (q : Int) rfl) (fun _ _ h => h) (fun _ h => h.elim) (H.out.fresh' _) (H.out.below' _) (H.out.size _) (by rw [ofN_length, HI.out.len]; omega) ?_; intro v1 w5 hr5 hb5 hg5 hat5; obtain ⟨A1, m1, c1, rfl, -⟩ := R_sl hr5; have H5 := Aside0.mk (H.out.put (At' := At ++ [q]) hg5 (by rw [ofN_append]; exact hr5) hb5); clear hr5 hb5 hg5 hat5 H))
            go_roundg k1
            case measure => omega
            case rel => exact ⟨i + 1, b, L, At ++ [q], A1, m1, c1, rfl, rfl, by omega, by omega, by omega, ⟨hPn.out (by omega)⟩, ⟨hIo.out q hid.out⟩, H5⟩
          | none =>
            replace hid := Aside0.mk hid
            go_wp2_with (first
              | (go_at_call 14; refine (qm_put H.out s (by omega) hid.out (by omega)).mono ?_; rintro r w3 ⟨rfl, b3, H3⟩; replace H3 := Aside0.mk H3; clear H)
              | ((with_reducible refine gate_builtin (b := .append) (xs := #[.tmp 49, .tmp 51]) rfl ?_); at_builtin; refine Kd.R_append_rows (Kd.int .i64) (w0 := w) w.heap.size rfl (.tmp 49) (.tmp 51) 36 3 (.int .i64 0) 8 rfl Try.underlying36 (by kernel_rfl) rfl (by decide) (by omega) (.slice A m c) (ofN At) [(L.length : Int)] _ _ _ (fun k => k ≠ N ∧ k ≠ B ∧ some k ≠ b3) (fun _ => False) rfl rfl (H3.out.own _) (C_int _ _ (L.length : Int) rfl) (fun _ _ h => h) (fun _ h => h.elim) (H3.out.fresh' _) (H3.out.below' _) (H3.out.size _) (by rw [ofN_length, HI.out.len]; omega) ?_; intro v1 w5 hr5 hb5 hg5 hat5; obtain ⟨A1, m1, c1, rfl, -⟩ := R_sl hr5; have H5 := Aside0.mk (H3.out.put (At' := At ++ [L.length]) hg5 (by rw [ofN_append]; exact hr5) hb5); clear hr5 hb5 hg5 hat5 H3))
            go_roundg k1
            case measure => omega
            case rel => exact ⟨i + 1, b3, L ++ [s], At ++ [L.length], A1, m1, c1, rfl, rfl, by omega, by omega, by simp; omega, ⟨hPn.out (by omega)⟩, ⟨hIn.out hid.out⟩, H5⟩
      · obtain rfl : i = n0 := by omega
        go_wp2
        go_loopg [8] (i + 1) (fun kq v8 wq => ∃ (j : Nat), v8 = .int .i64 (j : Int) ∧ j ≤ i ∧ i - j < kq ∧ Aside0 (Qm w wq N B b L At (.slice A m c)))
        case atStart => exact ⟨0, rfl, by omega, by omega, H⟩
        case round =>
          clear H hbw
          obtain ⟨j, rfl, hj, hk2, H⟩ := hrel
          obtain ⟨k2, rfl⟩ : ∃ z, gk = z + 1 := ⟨gk - 1, by omega⟩
          by_cases hji : j < i
          · have hjI : (j : Int) < (i : Int) := by omega
            have hjA : (j : Int) < (m : Int) := by rw [hmA.out]; omega
            have hj0 : (0 : Int) ≤ (j : Int) := by omega
            obtain ⟨ad, eA, hx⟩ := HR0.out _ (below_of H.out.t.o) j hji
            cases eA
            obtain ⟨ad2, eA, hy⟩ := H.out.num (i := j) (by rw [HI.out.len]; exact hji)
            cases eA
            have hid := HI.out.at' j hji
            obtain ⟨hql, hqs⟩ := idx_lt hid
            have hat := Aside0.mk (fun (W : World) (h : Qm w W N B b L At (.slice (some ad2) m c)) => (by have := at_walk W N B w.heap.size b L (At.getD j 0) h.t.t hql; rw [hqs] at this; exact this : Calls Try.prog 20 #[.pointer (some ⟨N, 0, none⟩), .int .i64 ((At.getD j 0 : Nat) : Int)] W fun r w' => r = .returned (.tuple #[.string (P j), .bool true]) ∧ w' = W))
            have hss := HP.out j hji
            replace hid := Aside0.mk hid
            clear hqs hql
            obtain ⟨s, hs⟩ : ∃ s, P j = s := ⟨_, rfl⟩
            obtain ⟨q, hq⟩ : ∃ q, At.getD j 0 = q := ⟨_, rfl⟩
            rw [hs] at hx hat hid hss
            rw [hq] at hy hat hid
            replace hs := Aside0.mk hs
            replace hq := Aside0.mk hq
            go_wp2_with (first
              | (go_at_call 14; refine (ts_old H.out.t s hss q hid.out).mono ?_; rintro r w3 ⟨rfl, rfl⟩)
              | (go_at_call 20; refine (hat.out _ H.out).mono ?_; rintro r w4 ⟨rfl, rfl⟩))
            go_loopg [13] (j + 1) (fun kq v13 wv => ∃ (k : Nat), v13 = .int .i64 (k : Int) ∧ k ≤ j ∧ j - k < kq ∧ Aside0 (Qm w wv N B b L At (.slice (some ad2) m c)))
            case atStart => exact ⟨0, rfl, by omega, by omega, H⟩
            case round =>
              clear H hx hy
              obtain ⟨k, rfl, hkj, hk3, H⟩ := hrel
              obtain ⟨k3, rfl⟩ : ∃ z, gk = z + 1 := ⟨gk - 1, by omega⟩
              by_cases hkj2 : k < j
              · have hkI : (k : Int) < (j : Int) := by omega
                have hkI2 : (k : Int) < (i : Int) := by omega
                have hkA : (k : Int) < (m : Int) := by rw [hmA.out]; omega
                have hk0 : (0 : Int) ≤ (k : Int) := by omega
                obtain ⟨ad', eA, hx⟩ := HR0.out _ (below_of H.out.t.o) j hji
                cases eA
                obtain ⟨ad', eA, hy⟩ := H.out.num (i := j) (by rw [HI.out.len]; exact hji)
                cases eA
                obtain ⟨ad', eA, hx2⟩ := HR0.out _ (below_of H.out.t.o) k (by omega)
                cases eA
                obtain ⟨ad', eA, hy2⟩ := H.out.num (i := k) (by rw [HI.out.len]; omega)
                cases eA
                have hid2 := HI.out.at' k (by omega)
                rw [hs.out] at hx
                rw [hq.out] at hy
                generalize P k = t at hx2 hid2
                generalize At.getD k 0 = p at hy2 hid2
                by_cases hst : s = t
                · subst hst
                  obtain rfl : q = p := by have := hid.out.symm.trans hid2; exact Option.some.inj this
                  clear hid2
                  go_wp2
                  go_quiet (fail)
                  go_wp2
                  go_roundg k3
                  case measure => omega
                  case rel => exact ⟨k + 1, rfl, by omega, by omega, ⟨H.out.keep ((Only.refl _ _).drewN _)⟩⟩
                · have hqp : ¬ q = p := fun e => by
                    obtain ⟨h1, h2⟩ := idx_lt hid.out
                    obtain ⟨h3, h4⟩ := idx_lt hid2
                    subst e
                    exact hst (h2.symm.trans h4)
                  have hqI : ¬ (q : Int) = (p : Int) := by omega
                  have hs1 : ¬ s.data.toList = t.data.toList := fun e => hst (bytes_ext e)
                  have hs2 : ¬ s.toList = t.toList := by rw [ByteArray.toList_eq, ByteArray.toList_eq]; exact hs1
                  have hs3 : (s.toList == t.toList) = false := beq_eq_false_iff_ne.2 hs2
                  have hs4 : ((q : Int) == (p : Int)) = false := beq_eq_false_iff_ne.2 hqI
                  clear hid2
                  go_wp2
                  go_quiet (fail)
                  go_wp2
                  go_roundg k3
                  case measure => omega
                  case rel => exact ⟨k + 1, rfl, by omega, by omega, ⟨H.out.keep ((Only.refl _ _).drewN _)⟩⟩
              · go_wp2
                go_roundg k2
                case measure => omega
                case rel => exact ⟨j + 1, rfl, by omega, by omega, H⟩
          · go_wp2_with (go_at_call 13; refine (tt_new H.out.t).mono ?_; rintro r w6 ⟨Nu, Bu, rfl, T⟩; replace T := Aside0.mk T)
            obtain ⟨n, hn⟩ : ∃ n, L.length = n := ⟨_, rfl⟩
            have hn2 : n ≤ 60 := by omega
            replace hn := Aside0.mk hn
            go_loopg [15] (n + 1) (fun kq v15 wv => ∃ (k : Nat) (bu : Option Nat), v15 = .int .i64 (k : Int) ∧ k ≤ n ∧ n - k < kq ∧ Aside0 (Tt w wv N B b L _ Nu Bu bu (L.take k)))
            case atStart => exact ⟨0, _, rfl, by omega, by omega, ⟨by rw [List.take_zero]; exact T.out⟩⟩
            case round =>
              clear T H
              obtain ⟨k, bu, rfl, hkn, hk3, T⟩ := hrel
              obtain ⟨k3, rfl⟩ : ∃ z, gk = z + 1 := ⟨gk - 1, by omega⟩
              have hlen := Aside0.mk (fun (W : World) (h : Ts w W N B b L) => hn.out ▸ len_walk W N B w.heap.size b L h.t)
              by_cases hkl : k < n
              · have hkI : (k : Int) < (n : Int) := by omega
                have hkL : k < L.length := by rw [hn.out]; exact hkl
                obtain ⟨hnone, hnext⟩ := take_idx HI.out.nd k hkL
                have hat := Aside0.mk (fun (W : World) (h : Ts w W N B b L) => at_walk W N B w.heap.size b L k h.t hkL)
                have hsz := T.out.t.small _ (List.getElem_mem hkL)
                generalize L[k] = s at hnone hnext hat hsz
                have hnone := Aside0.mk hnone
                have hnext := Aside0.mk hnext
                go_wp2_with (first
                  | (go_at_call 21; refine (hlen.out _ T.out.t).mono ?_; rintro r w7 ⟨rfl, rfl⟩)
                  | (go_at_call 20; refine (hat.out _ T.out.t).mono ?_; rintro r w8 ⟨rfl, rfl⟩)
                  | (go_at_call 14; refine (tt_put T.out s hsz hnone.out (by rw [List.length_take]; omega) k (by rw [List.length_take]; omega)).mono ?_; rintro r w9 ⟨rfl, b9, T9⟩; rw [hnext.out] at T9; replace T9 := Aside0.mk T9))
                go_roundg k3
                case measure => omega
                case rel => exact ⟨k + 1, b9, rfl, by omega, by omega, T9⟩
              · have hall := Aside0.mk (show L.take k = L from List.take_of_length_le (by rw [hn.out]; omega))
                have hkI : ¬ (k : Int) < (n : Int) := by omega
                go_wp2_with (first
                  | (go_at_call 21; refine (hlen.out _ T.out.t).mono ?_; rintro r w7 ⟨rfl, rfl⟩)
                  | (go_at_call 18; refine (tt_bytes T.out (fun s hs => by have := T.out.t.small s (List.mem_of_mem_take hs); omega)).mono ?_; rintro r w8 ⟨A8, m8, c8, rfl, HB, ho8⟩; rw [hall.out] at HB; have T2 := Aside0.mk (T.out.keep ho8).t; replace HB := Aside0.mk HB; clear T ho8)
                  | (go_at_call 18; refine (by_bytes T2.out).mono ?_; rintro r w9 ⟨A9, m9, c9, rfl, HB9, ho9⟩; replace HB := Aside0.mk (HB.out.keep ho9); replace HB9 := Aside0.mk HB9; clear ho9)
                  | (go_at_call 17; refine (by_eq HB.out HB9.out (enc_byte L) (enc_byte L)).mono ?_; rintro r w10 ⟨rfl, n, rfl⟩))
                go_ret
                exact ⟨by first | rfl | simp, below_of (HB.out.o.drewN _)⟩
end Go.Proofs.Ytfgpcoocbblkiaa.St
