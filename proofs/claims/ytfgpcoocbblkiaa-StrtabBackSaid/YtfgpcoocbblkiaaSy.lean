/- StrtabPuts, walked: how any texts are numbered, and the table's bytes. No conditions but bounds. -/
import Derived.Test.YtfgpcoocbblkiaaSw
namespace Go.Proofs.Ytfgpcoocbblkiaa.St
open Go.RowKit Go.Maps Go.ChangeMaps Go.MapKept Go.Proofs.YtfgpcoocbblkiaaW.PrintWords Go.Proofs.YtfgpcoocbblkiaaW.PrintLast
open Go.Proofs.Ytfgpcoocbblkiaa.Ob Go.Proofs.Ytfgpcoocbblkiaa.XSv Go.Proofs.Ytfgpcoocbblkiaa.Var
set_option linter.unusedSimpArgs false
set_option linter.unusedVariables false

/-- A table within a call. -/
structure Ts (w wr : World) (N B : Nat) (b : Option Nat) (L : List ByteArray) : Prop where
  t : IsT wr w.heap.size N B b L
  o : Only (fun _ => False) w wr
  small : ∀ s ∈ L, s.size ≤ 4096
theorem below_of {w wr : World} (h : Only (fun _ => False) w wr) : Below w.heap.size w wr := h.below (fun _ e => e.elim) (Nat.le_refl _)
section
variable {w wr w' : World} {N B : Nat} {b : Option Nat} {L : List ByteArray}
theorem Ts.keep (h : Ts w wr N B b L) (k : Only (fun _ => False) wr w') : Ts w w' N B b L := ⟨h.t.only k id id (fun _ _ => id), h.o.trans k, h.small⟩
theorem ts_new0 (ho : Only (fun _ => False) w wr) : Calls Try.prog 13 #[] wr fun r w' => ∃ N B, r = .returned (.pointer (some ⟨N, 0, none⟩)) ∧ Ts w w' N B none [] ∧ wr.heap.size ≤ N ∧ wr.heap.size ≤ B ∧ Only (fun _ => False) wr w' := by
  refine (new_walk w.heap.size wr ho.size).mono ?_
  rintro r w' ⟨N, B, rfl, h1, h2, ht, k⟩
  exact ⟨N, B, rfl, ⟨ht, ho.trans k, by simp⟩, h1, h2, k⟩
theorem ts_old (h : Ts w wr N B b L) (s : ByteArray) (hs : s.size ≤ 4096) (i : Nat) (hi : idx L s = some i) : Calls Try.prog 14 #[.pointer (some ⟨N, 0, none⟩), .string s] wr fun r w' => r = .returned (.tuple #[.int .i64 (i : Int), .int .i64 0]) ∧ w' = wr :=
  put_old s wr N B w.heap.size b L i h.t hs hi
theorem ts_long (h : Ts w wr N B b L) (s : ByteArray) (hs : 4096 < s.size) : Calls Try.prog 14 #[.pointer (some ⟨N, 0, none⟩), .string s] wr fun r w' => r = .returned (.tuple #[.int .i64 0, .int .i64 2]) ∧ w' = wr :=
  put_long (.bool true) s wr N B w.heap.size b L h.t hs
theorem ts_put (h : Ts w wr N B b L) (s : ByteArray) (hs : s.size ≤ 4096) (hi : idx L s = none) (hf : L.length < 4096) (m : Nat) (hm : L.length = m) :
    Calls Try.prog 14 #[.pointer (some ⟨N, 0, none⟩), .string s] wr fun r w' => r = .returned (.tuple #[.int .i64 (m : Int), .int .i64 0]) ∧ ∃ b', Ts w w' N B b' (L ++ [s]) ∧ (b' = b ∨ ∃ k, b' = some k ∧ wr.heap.size ≤ k) ∧ Only (fun k => k = N ∨ k = B ∨ some k = b) wr w' := by
  subst hm
  refine (put_new s wr N B w.heap.size b L h.t hs hi hf h.o.size).mono ?_
  rintro r w' ⟨rfl, ⟨b', hb, ht⟩, k⟩
  refine ⟨rfl, b', ⟨ht, fresh h.o k ?_, ?_⟩, hb, k⟩
  · rintro i (rfl | rfl | e)
    · exact h.t.wn
    · exact h.t.wb
    · exact (h.t.lt.2.2 i e.symm).2.1
  · intro x hx
    rcases List.mem_append.1 hx with hx | hx
    · exact h.small x hx
    · rw [List.mem_singleton.1 hx]; exact hs
end
theorem by_lit (w W : World) (ho : Only (fun _ => False) w W) (cs : List Nat) (b : Nat) (hb : W.heap.size = b) (n : Nat) (hn : cs.length = n) (h1 : n < 1000) : By w (W.alloc (.cells ((ofN cs).map (Value.int .u8)).toArray 5)) (.slice (some ⟨b, 0, none⟩) n n) cs := by
  subst hb hn
  refine ⟨?_, ho.alloc _⟩
  have h := World.ownsRow_lit (base := w.heap.size) (e := 5) (size := 1) W ((ofN cs).map (Value.int .u8)).toArray cs.length ho.size (by unfold maxLen; omega) (by simp [ofN])
  have h2 : (ofN cs).length = cs.length := ofN_length cs
  refine Kd.R_of_own (h1 := fun _ => rfl) ?_ (fun _ _ => trivial)
  rw [h2]
  simpa [encs] using h
set_option maxHeartbeats 8000000 in
set_option maxRecDepth 1000000 in
theorem alive_walk (w : World) : Calls Try.prog 12 #[] w fun r w' => r = .returned (.bool true) ∧ Only (fun _ => False) w w' := by
  have e1 : idx [] (⟨#[97]⟩ : ByteArray) = none := rfl
  have e2 : idx [(⟨#[97]⟩ : ByteArray)] (⟨#[98]⟩ : ByteArray) = none := by decide
  have e3 : idx [(⟨#[97]⟩ : ByteArray), ⟨#[98]⟩] (⟨#[97]⟩ : ByteArray) = some 0 := by decide
  have e4 : enc [(⟨#[97]⟩ : ByteArray), ⟨#[98]⟩] = [2, 1, 97, 1, 98] := by
    unfold enc
    simp only [List.flatMap_cons, List.flatMap_nil, txt]
    rw [vput_small (by decide), vput_small (by decide), vput_small (by decide)]
    decide
  go_enter Try.func12, Try.ntmps12
  go_wp2_with (go_at_call 13; refine (ts_new0 (Only.refl _ w)).mono ?_; rintro r w1 ⟨N, B, rfl, H, _, _, _⟩; replace H := Aside0.mk H)
  go_wp2_with (go_at_call 14; refine (ts_put H.out ⟨#[97]⟩ (by decide) e1 (by decide) 0 rfl).mono ?_; rintro r w2 ⟨rfl, b1, H1, _, _⟩; replace H1 := Aside0.mk H1; clear H)
  go_wp2_with (go_at_call 14; refine (ts_put H1.out ⟨#[98]⟩ (by decide) e2 (by decide) 1 rfl).mono ?_; rintro r w3 ⟨rfl, b2, H2, _, _⟩; replace H2 := Aside0.mk H2; clear H1)
  go_wp2_with (first
    | (go_at_call 14; refine (ts_old H2.out ⟨#[97]⟩ (by decide) 0 e3).mono ?_; rintro r w4 ⟨rfl, rfl⟩)
    | (go_at_call 18; refine (bytes_walk _ N B w.heap.size b2 _ H2.out.t (fun s hs => by have := H2.out.small s hs; omega)).mono ?_; rintro r w5 ⟨A, m, c, rfl, HB⟩; rw [show ([] ++ [(⟨#[97]⟩ : ByteArray)] ++ [⟨#[98]⟩]) = [⟨#[97]⟩, ⟨#[98]⟩] from rfl, e4] at HB; replace HB := Aside0.mk (By.mk (Kd.R_lower HB.r H2.out.o.size) (H2.out.o.trans HB.o) : By w w5 (.slice A m c) [2, 1, 97, 1, 98]); clear H2)
    | (go_at_call 17; refine (by_eq (HB.out.keep ((Only.refl _ _).alloc _)) (by_lit w w5 HB.out.o [2, 1, 97, 1, 98] w5.heap.size rfl 5 rfl (by decide)) (by decide) (by decide)).mono ?_; rintro r w6 ⟨rfl, n, rfl⟩))
  go_ret
  exact ⟨by first | rfl | simp, (HB.out.o.alloc _).drewN _⟩
/-- Texts, as they stand in memory, whatever was made since. -/
def Strs (w : World) (A0 : Option Addr) (n0 : Nat) (P : Nat → ByteArray) : Prop := ∀ W, Below w.heap.size w W → ∀ i, i < n0 → ∃ ad, A0 = some ad ∧ W.cell? (ad.add i) = some (.string (P i))
/-- A table, and a list of the same texts. -/
structure Pm (w wr : World) (N B : Nat) (b : Option Nat) (L M : List ByteArray) (v : Value) : Prop where
  t : Ts w wr N B b L
  m : Kd.R Kd.string 9 wr w.heap.size (fun k => k ≠ N ∧ k ≠ B ∧ some k ≠ b) v M
section
variable {w wr w' : World} {N B : Nat} {b : Option Nat} {L M : List ByteArray} {v : Value}
theorem Pm.keep (h : Pm w wr N B b L M v) (k : Only (fun _ => False) wr w') : Pm w w' N B b L M v := ⟨h.t.keep k, R_only h.m k (fun _ _ _ => id)⟩
theorem Pm.drewN (h : Pm w wr N B b L M v) (n : Nat) : Pm w (wr.drewN n) N B b L M v := h.keep ((Only.refl _ wr).drewN n)
theorem pm_put (h : Pm w wr N B b L M v) (s : ByteArray) (hs : s.size ≤ 4096) (hi : idx L s = none) (hf : L.length < 4096) (m : Nat) (hm : L.length = m) :
    Calls Try.prog 14 #[.pointer (some ⟨N, 0, none⟩), .string s] wr fun r w' => r = .returned (.tuple #[.int .i64 (m : Int), .int .i64 0]) ∧ ∃ b', Pm w w' N B b' (L ++ [s]) M v := by
  refine (ts_put h.t s hs hi hf m hm).mono ?_
  rintro r w' ⟨rfl, b', ht, hb, k⟩
  refine ⟨rfl, b', ht, ?_⟩
  have hR := R_only (Kd.R_bound h.m) k (fun j hj _ e => by
    rcases e with e | e | e
    · exact hj.1.1 e
    · exact hj.1.2.1 e
    · exact hj.1.2.2 e)
  refine Kd.R_mono hR (fun j hj => ⟨hj.1.1, hj.1.2.1, ?_⟩)
  rcases hb with rfl | ⟨q, rfl, hq⟩
  · exact hj.1.2.2
  · intro e; have := hj.2.2.1; cases e; omega
theorem pm_find {A : Option Addr} {m c : Nat} (h : Pm w wr N B b L M (.slice A m c)) (s : ByteArray) (hl : M.length < 10000) (z : Int) (hz : idxI (idx M s) = z) :
    Calls Try.prog 15 #[.slice A m c, .string s] wr fun r w' => r = .returned (.int .i64 z) ∧ Pm w w' N B b L M (.slice A m c) := by
  obtain ⟨rfl, hc, hC⟩ := Kd.R_reads' h.m
  refine (tallyroomref05_Find.calls 10001 A c M s _ wr hC hc (find_f M s hl)).mono ?_
  rintro r w' ⟨rfl, n, rfl⟩
  exact ⟨by rw [hz], h.drewN n⟩
theorem Pm.own (h : Pm w wr N B b L M v) (o : Obj) : Kd.R Kd.string 9 (wr.alloc o) w.heap.size (fun k => k ≠ N ∧ k ≠ B ∧ some k ≠ b) v M := R_only h.m ((Only.refl (fun _ => False) wr).alloc o) (fun _ _ _ => id)
theorem Pm.fresh' (h : Pm w wr N B b L M v) (o : Obj) : ∀ k, (wr.alloc o).heap.size ≤ k → k ≠ N ∧ k ≠ B ∧ some k ≠ b := by
  intro k hk
  have e : (wr.alloc o).heap.size = wr.heap.size + 1 := by show (wr.heap.push _).size = _; simp
  have := h.t.t.lt
  exact ⟨by omega, by omega, fun e2 => by have := (this.2.2 k e2.symm).1; omega⟩
theorem Pm.size (h : Pm w wr N B b L M v) (o : Obj) : w.heap.size ≤ (wr.alloc o).heap.size := (h.t.o.alloc o).size
theorem Pm.below' (h : Pm w wr N B b L M v) (o : Obj) : Below w.heap.size w (wr.alloc o) := below_of (h.t.o.alloc o)
theorem Pm.put {w5 : World} {v1 : Value} {M' : List ByteArray} {o : Obj} (h : Pm w wr N B b L M v) (hg : (wr.alloc o).grownBy w5 v.ownBlock) (hr : Kd.R Kd.string 9 w5 w.heap.size (fun k => k ≠ N ∧ k ≠ B ∧ some k ≠ b) v1 M') (hB : Below w.heap.size w w5) : Pm w w5 N B b L M' v1 := by
  have k := ((Only.refl (fun k => some k = v.ownBlock) wr).alloc o).trans (only_of_grown hg)
  exact ⟨⟨h.t.t.only k (fun e => (h.m.1 _ e.symm).1 rfl) (fun e => (h.m.1 _ e.symm).2.1 rfl) (fun j hj e => (h.m.1 _ e.symm).2.2 hj.symm), Only.of_below hB (fun k hk _ => hk), h.t.small⟩, hr⟩
end
theorem by_bytes {w wr : World} {N B : Nat} {b : Option Nat} {L : List ByteArray} (h : Ts w wr N B b L) :
    Calls Try.prog 18 #[.pointer (some ⟨N, 0, none⟩)] wr fun r w' => ∃ A m c, r = .returned (.slice A m c) ∧ By w w' (.slice A m c) (enc L) ∧ Only (fun _ => False) wr w' := by
  refine (bytes_walk wr N B w.heap.size b L h.t (fun s hs => by have := h.small s hs; omega)).mono ?_
  rintro r w' ⟨A, m, c, rfl, HB⟩
  exact ⟨A, m, c, rfl, ⟨Kd.R_lower HB.r h.o.size, h.o.trans HB.o⟩, HB.o⟩
theorem by_rbytes {w wr : World} {A : Option Addr} {m c : Nat} {L : List ByteArray} (ho : Only (fun _ => False) w wr) (hC : Kd.C Kd.string wr A m L) (hm : m = L.length) (hc : m ≤ c) (hf : L.length ≤ 4096) (hs : ∀ s ∈ L, s.size ≤ 5000) :
    Calls Try.prog 19 #[.slice A m c] wr fun r w' => ∃ A m c, r = .returned (.slice A m c) ∧ By w w' (.slice A m c) (enc L) ∧ Only (fun _ => False) wr w' := by
  subst hm
  refine (rbytes_walk wr A c L hC hc hf hs).mono ?_
  rintro r w' ⟨A, m, c, rfl, HB⟩
  exact ⟨A, m, c, rfl, ⟨Kd.R_lower HB.r ho.size, ho.trans HB.o⟩, HB.o⟩
set_option maxHeartbeats 8000000 in
set_option maxRecDepth 1000000 in
theorem puts_law (A0 : Option Addr) (c0 n0 : Nat) (P : Nat → ByteArray) (w : World) (hr0 : Strs w A0 n0 P) :
    Calls Try.prog 3 #[.slice A0 n0 c0] w fun r w' => r = .returned (.bool true) ∧ Below w.heap.size w w' := by
  have HR0 := Aside0.mk hr0
  clear hr0
  by_cases h200 : (n0 : Int) > 200
  · go_enter Try.func3, Try.ntmps3
    go_wp2_with (go_at_call 12; refine (alive_walk _).mono ?_; rintro r w1 ⟨rfl, ho⟩)
    go_ret
    exact ⟨rfl, below_of ho⟩
  · go_enter Try.func3, Try.ntmps3
    go_wp2_with (first
      | (go_at_call 12; refine (alive_walk _).mono ?_; rintro r w1 ⟨rfl, ho⟩)
      | (go_at_call 13; refine (ts_new0 ho).mono ?_; rintro r w2 ⟨N, B, rfl, H, _, _, _⟩; have H0 := Aside0.mk (show Pm w w2 N B none [] [] (.slice none 0 0) from ⟨H, Kd.R_nil _ _ _ _ _⟩); clear H ho))
    go_loopg [4, 5] (n0 + 1) (fun kq v4 v5 wr => ∃ (i : Nat) (b : Option Nat) (L : List ByteArray) (A : Option Addr) (m c : Nat), v4 = .slice A m c ∧ v5 = .int .i64 (i : Int) ∧ i ≤ n0 ∧ n0 - i < kq ∧ L.length ≤ i ∧ Aside0 (Pm w wr N B b L L (.slice A m c)))
    case atStart => exact ⟨0, _, [], none, 0, 0, rfl, rfl, by omega, by omega, by simp, H0⟩
    case round =>
      clear H0
      obtain ⟨i, b, L, A, m, c, rfl, rfl, hi, hk, hL, H⟩ := hrel
      obtain ⟨k1, rfl⟩ : ∃ m, gk = m + 1 := ⟨gk - 1, by omega⟩
      have hmL := Aside0.mk (show L.length = m from (Kd.R_reads' H.out.m).1.symm)
      have hbw := Aside0.mk (below_of H.out.t.o)
      by_cases hil : i < n0
      · have hil' : (i : Int) < (n0 : Int) := by omega
        have hi0 : (0 : Int) ≤ (i : Int) := by omega
        obtain ⟨ad, eA, hx⟩ := HR0.out _ hbw.out i hil
        cases eA
        have HX := Aside0.mk (fun W hW => HR0.out W hW i hil)
        generalize P i = s at hx HX
        by_cases h5 : 5000 < s.size
        · have h5I : (5000 : Int) < (s.size : Int) := by omega
          go_wp2
          go_ret
          exact ⟨rfl, hbw.out⟩
        · have h5I : ¬ (5000 : Int) < (s.size : Int) := by omega
          by_cases h4 : 4096 < s.size
          · have h4I : (4096 : Int) < (s.size : Int) := by omega
            obtain ⟨z, hz⟩ : ∃ z, idxI (idx L s) = z := ⟨_, rfl⟩
            replace hz := Aside0.mk hz
            go_wp2_with (first
              | (go_at_call 14; refine (ts_long H.out.t s h4).mono ?_; rintro r w3 ⟨rfl, rfl⟩)
              | (go_at_call 15; refine (pm_find H.out s (by omega) z hz.out).mono ?_; rintro r w4 ⟨rfl, H4⟩; obtain ⟨ad', e', hx⟩ := HX.out w4 (below_of H4.t.o); cases e'; replace H := Aside0.mk H4; clear H4))
            go_roundg k1
            case measure => omega
            case rel => exact ⟨i + 1, b, L, A, m, c, rfl, rfl, by omega, by omega, by omega, H⟩
          · have h4I : ¬ (4096 : Int) < (s.size : Int) := by omega
            cases hid : idx L s with
            | some j =>
              have hz := Aside0.mk (show idxI (idx L s) = (j : Int) by rw [hid]; rfl)
              have hjI : ¬ (j : Int) < 0 := by omega
              replace hid := Aside0.mk hid
              go_wp2_with (first
                | (go_at_call 14; refine (ts_old H.out.t s (by omega) j hid.out).mono ?_; rintro r w3 ⟨rfl, rfl⟩)
                | (go_at_call 15; refine (pm_find H.out s (by omega) (j : Int) hz.out).mono ?_; rintro r w4 ⟨rfl, H4⟩; obtain ⟨ad', e', hx⟩ := HX.out w4 (below_of H4.t.o); cases e'; replace H := Aside0.mk H4; clear H4))
              go_roundg k1
              case measure => omega
              case rel => exact ⟨i + 1, b, L, A, m, c, rfl, rfl, by omega, by omega, by omega, H⟩
            | none =>
              have hz := Aside0.mk (show idxI (idx L s) = -1 by rw [hid]; rfl)
              replace hid := Aside0.mk hid
              go_wp2_with (first
                | (go_at_call 14; refine (pm_put H.out s (by omega) hid.out (by omega) m hmL.out).mono ?_; rintro r w3 ⟨rfl, b3, H3⟩; obtain ⟨ad', e', hx⟩ := HX.out w3 (below_of H3.t.o); cases e'; replace H3 := Aside0.mk H3; clear H)
                | (go_at_call 15; refine (pm_find H3.out s (by omega) (-1) hz.out).mono ?_; rintro r w4 ⟨rfl, H4⟩; obtain ⟨ad', e', hx⟩ := HX.out w4 (below_of H4.t.o); cases e'; replace H4 := Aside0.mk H4; clear H3)
                | ((with_reducible refine gate_builtin (b := .append) (xs := #[.tmp 58, .tmp 63]) rfl ?_); at_builtin; refine Kd.R_append_rows Kd.string (w0 := w) w.heap.size rfl (.tmp 58) (.tmp 63) 22 9 (.string ByteArray.empty) 16 rfl Try.underlying22 (by kernel_rfl) rfl (by decide) (by omega) (.slice A m c) L [s] _ _ _ (fun k => k ≠ N ∧ k ≠ B ∧ some k ≠ b3) (fun _ => False) rfl rfl (H4.out.own _) (C_lit w4 w4.heap.size s rfl) (fun _ _ h => h) (fun _ h => h.elim) (H4.out.fresh' _) (H4.out.below' _) (H4.out.size _) (by have := hmL.out; omega) ?_; intro v1 w5 hr5 hb5 hg5 hat5; obtain ⟨A1, m1, c1, rfl, -⟩ := R_sl hr5; have H5 := Aside0.mk (H4.out.put hg5 hr5 hb5); clear hr5 hb5 hg5 hat5 H4))
              go_roundg k1
              case measure => omega
              case rel => exact ⟨i + 1, b3, L ++ [s], A1, m1, c1, rfl, rfl, by omega, by omega, by simp; omega, H5⟩
      · have hsm := Aside0.mk (show ∀ s ∈ L, s.size ≤ 5000 from fun s hs => by have := H.out.t.small s hs; omega)
        obtain ⟨hme, hmc, hC⟩ := Kd.R_reads' H.out.m
        replace hme := Aside0.mk hme
        replace hmc := Aside0.mk hmc
        have hC : Aside0 (Kd.C Kd.string wr A m L) := ⟨by rw [hme.out]; exact hC⟩
        have hsh := Aside0.mk (shows_walk wr N B w.heap.size b L A m c H.out.t.t hC.out hme.out)
        go_wp2_with (first
          | (go_at_call 16; refine hsh.out.mono ?_; rintro r w6 ⟨rfl, hw6⟩; subst hw6)
          | (go_at_call 18; refine (by_bytes H.out.t).mono ?_; rintro r w7 ⟨A7, m7, c7, rfl, HB, ho7⟩; replace hC := Aside0.mk (Kd.C_below hC.out (below_of ho7)); replace HB := Aside0.mk HB; clear ho7 H)
          | (go_at_call 19; refine (by_rbytes HB.out.o hC.out hme.out hmc.out (by omega) hsm.out).mono ?_; rintro r w8 ⟨A8, m8, c8, rfl, HB8, ho8⟩; replace HB := Aside0.mk (HB.out.keep ho8); replace HB8 := Aside0.mk HB8; clear ho8)
          | (go_at_call 17; refine (by_eq HB.out HB8.out (enc_byte L) (enc_byte L)).mono ?_; rintro r w9 ⟨rfl, n, rfl⟩))
        go_ret
        exact ⟨by first | rfl | simp, below_of (HB.out.o.drewN _)⟩
end Go.Proofs.Ytfgpcoocbblkiaa.St
