/- The walk of the law StrtabBack. No conditions but bounds. -/
import Derived.Test.YtfgpcoocbblkiaaSx
import Derived.Test.YtfgpcoocbblkiaaSback
namespace Go.Proofs.Ytfgpcoocbblkiaa.St
open Go.RowKit Go.Maps Go.ChangeMaps Go.MapKept Go.Proofs.YtfgpcoocbblkiaaW.PrintWords Go.Proofs.YtfgpcoocbblkiaaW.PrintLast
open Go.Proofs.Ytfgpcoocbblkiaa.Ob Go.Proofs.Ytfgpcoocbblkiaa.XSv Go.Proofs.Ytfgpcoocbblkiaa.Var
set_option linter.unusedSimpArgs false
set_option linter.unusedVariables false

theorem enc_len (L : List ByteArray) (hl : L.length ≤ 40) (hs : ∀ s ∈ L, s.size ≤ 200) : (enc L).length ≤ 8500 := by
  have h1 : ∀ M : List ByteArray, (∀ s ∈ M, s.size ≤ 200) → (M.flatMap txt).length ≤ 210 * M.length := by
    intro M
    induction M with
    | nil => intro _; simp
    | cons s M ih =>
      intro h
      have h2 := ih (fun x hx => h x (by simp [hx]))
      have h3 := h s (by simp)
      have h4 := vput_length_le s.size (by omega)
      rw [List.flatMap_cons, List.length_append, txt_eq, List.length_append, raw_length, List.length_cons]
      omega
  have h2 := h1 L hs
  have h3 := vput_length_le L.length (by omega)
  unfold enc
  rw [List.length_append]
  omega
theorem cut_take (w : World) (A : Option Addr) (m c : Nat) (l : List Nat) (p : Nat) (hC : Kd.C (Kd.int .u8) w A m (ofN l)) (hm : m = l.length) (hc : m ≤ c) (hp : p ≤ l.length) :
    (∀ W : World, (Instr.slice 32 (.slice A m c) none (some (.int .i64 (p : Int))) none).run Try.prog W = .ok (.slice A p c) W) ∧ Kd.C (Kd.int .u8) w A (ofN (l.take p)).length (ofN (l.take p)) ∧ p ≤ c ∧ p = (ofN (l.take p)).length := by
  have e : m = (ofN l).length := by rw [ofN_length, hm]
  subst e
  obtain ⟨i0, hi0, _, hsz, _⟩ := info_parts info5
  obtain ⟨h1, h2, h3⟩ := print_take_of (P := Try.prog) (Value.int .u8) 0 32 5 .i64 Try.underlying32 hi0 hsz A c (ofN l) (p : Int) (by omega) (by rw [ofN_length]; omega) hc
  have hp2 : p = (ofN (l.take p)).length := by rw [ofN_length, List.length_take]; omega
  simp only [Int.toNat_natCast, ofN_take] at h1 h2 h3
  rw [← hp2] at h1 h3
  exact ⟨h1, Kd.C_of_reads (h1 := fun _ => rfl) (h2 _ (Kd.reads_of_C hC)), h3, hp2⟩
theorem R_empty (W : World) (base : Nat) (hb : base ≤ W.heap.size) : Kd.R (Kd.int .u8) 5 (W.alloc (.cells #[] 5)) base (fun _ => True) (.slice (some ⟨W.heap.size, 0, none⟩) 0 0) [] := by
  refine ⟨fun _ _ => trivial, [], ?_, Reps.none _ _⟩
  exact World.ownsRow_lit (base := base) (e := 5) (size := 1) W #[] 0 hb (by decide) rfl
theorem Ts.lower {w w6 w7 : World} {N B : Nat} {b : Option Nat} {L : List ByteArray} (h : Ts w6 w7 N B b L) (o : Only (fun _ => False) w w6) : Ts w w7 N B b L := ⟨h.t.lower o.size, o.trans h.o, h.small⟩
theorem app_one {w1 w5 : World} {o : Obj} (hg : (w1.alloc o).grownBy w5 (some w1.heap.size)) : Only (fun _ => False) w1 w5 :=
  fresh ((Only.refl _ w1).alloc o) (only_of_grown hg) (fun i e => by cases e; exact Nat.le_refl _)
theorem app_two {w1 w5 w6 : World} {v : Value} (h5 : Only (fun _ => False) w1 w5) (hg : w5.grownBy w6 v.ownBlock) (hv : ∀ k, v.ownBlock = some k → w1.heap.size ≤ k) : Only (fun _ => False) w1 w6 :=
  fresh h5 (only_of_grown hg) (fun i e => hv i e.symm)
theorem own_new {W : World} {n : Nat} {v1 : Value} (h : v1.ownBlock = (Value.slice (some ⟨n, 0, none⟩) 0 0).ownBlock ∨ ∃ b, v1.ownBlock = some b ∧ (W.heap.size : Nat) ≤ b) (hn : n ≤ W.heap.size) : ∀ k, v1.ownBlock = some k → n ≤ k := by
  intro k hk
  rcases h with e | ⟨b, e, hb⟩
  · rw [e] at hk
    first | (have := Option.some.inj hk; omega) | (simp [Value.ownBlock] at hk; omega) | cases hk
  · rw [e] at hk; have := Option.some.inj hk; omega
theorem by_app {w w9 : World} {v : Value} {l R : List Nat} (h : Kd.R (Kd.int .u8) 5 w9 w.heap.size (fun _ => True) v (ofN l ++ ofN R)) (o : Only (fun _ => False) w w9) : By w w9 v (l ++ R) := ⟨by rw [ofN_append]; exact h, o⟩
theorem read_by {w wr : World} {A : Option Addr} {m c : Nat} {l : List Nat} (h : By w wr (.slice A m c) l) (hw : ∀ n ∈ l, n ≤ 255) (hl : l.length ≤ 20000) : Calls Try.prog 22 #[.slice A m c] wr fun r w' => Red wr w' r (readN l) := by
  obtain ⟨h1, h2, h3⟩ := Kd.R_reads' h.r
  subst h1
  exact read_walk wr A c l h3 h2 hw hl
theorem read_cut_by {w wr : World} {A : Option Addr} {m c : Nat} {l : List Nat} (h : By w wr (.slice A m c) l) (j : Nat) (hj : j ≤ l.length) (hw : ∀ n ∈ l, n ≤ 255) (hl : l.length ≤ 20000) : Calls Try.prog 22 #[.slice A j c] wr fun r w' => Red wr w' r (readN (l.take j)) := by
  obtain ⟨h1, h2, h3⟩ := h.c
  obtain ⟨_, h4, h5, h6⟩ := cut_take wr A m c l j h3 h1 h2 hj
  have := read_walk wr A c (l.take j) h4 (by rw [← h6]; exact h5) (fun n hn => hw n (List.mem_of_mem_take hn)) (by rw [List.length_take]; omega)
  rw [← h6] at this
  exact this
/-- The table within the law: texts that are short and lone. -/
structure Bk (w wr : World) (N B : Nat) (b : Option Nat) (L : List ByteArray) : Prop where
  t : Ts w wr N B b L
  nd : L.Nodup
  sh : ∀ s ∈ L, s.size ≤ 200
section
variable {w wr w' : World} {N B : Nat} {b : Option Nat} {L : List ByteArray}
theorem bk_old (h : Bk w wr N B b L) (s : ByteArray) (hs : s.size ≤ 200) (i : Nat) (hi : idx L s = some i) : Calls Try.prog 14 #[.pointer (some ⟨N, 0, none⟩), .string s] wr fun r w' => r = .returned (.tuple #[.int .i64 (i : Int), .int .i64 0]) ∧ w' = wr := ts_old h.t s (by omega) i hi
theorem bk_put (h : Bk w wr N B b L) (s : ByteArray) (hs : s.size ≤ 200) (hi : idx L s = none) (hf : L.length < 4096) :
    Calls Try.prog 14 #[.pointer (some ⟨N, 0, none⟩), .string s] wr fun r w' => r = .returned (.tuple #[.int .i64 (L.length : Int), .int .i64 0]) ∧ ∃ b', Bk w w' N B b' (L ++ [s]) := by
  refine (ts_put h.t s (by omega) hi hf _ rfl).mono ?_
  rintro r w' ⟨rfl, b', ht, _, _⟩
  refine ⟨rfl, b', ht, nodup_snoc h.nd hi, ?_⟩
  intro x hx
  rcases List.mem_append.1 hx with hx | hx
  · exact h.sh x hx
  · rw [List.mem_singleton.1 hx]; exact hs
end
set_option maxHeartbeats 8000000 in
set_option maxRecDepth 1000000 in
theorem back_law (A0 : Option Addr) (c0 n0 : Nat) (P : Nat → ByteArray) (AR : Option Addr) (cR nR : Nat) (R : List Nat) (at_ : Nat) (w : World) (hr0 : Strs w A0 n0 P) (hC : Kd.C (Kd.int .u8) w AR nR (ofN R)) (hnR : nR = R.length) (hcR : nR ≤ cR) (hRw : ∀ x ∈ R, x ≤ 255) (hat_ : at_ ≤ 65535) :
    Calls Try.prog 6 #[.slice A0 n0 c0, .slice AR nR cR, .int .u16 (at_ : Int)] w fun r w' => r = .returned (.bool true) ∧ Below w.heap.size w w' := by
  have HR0 := Aside0.mk hr0
  have HC := Aside0.mk hC
  have HnR := Aside0.mk hnR
  have HcR := Aside0.mk hcR
  have HRw := Aside0.mk hRw
  clear hr0 hC hnR hcR hRw
  by_cases h40 : (n0 : Int) > 40
  · go_enter Try.func6, Try.ntmps6
    go_wp2_with (go_at_call 12; refine (alive_walk _).mono ?_; rintro r w1 ⟨rfl, ho⟩)
    go_ret
    exact ⟨rfl, below_of ho⟩
  by_cases h100 : (nR : Int) > 100
  · go_enter Try.func6, Try.ntmps6
    go_wp2_with (go_at_call 12; refine (alive_walk _).mono ?_; rintro r w1 ⟨rfl, ho⟩)
    go_ret
    exact ⟨rfl, below_of ho⟩
  have hRl := Aside0.mk (show R.length ≤ 100 by have := HnR.out; omega)
  go_enter Try.func6, Try.ntmps6
  go_wp2_with (first
    | (go_at_call 12; refine (alive_walk _).mono ?_; rintro r w1 ⟨rfl, ho⟩)
    | (go_at_call 13; refine (ts_new0 ho).mono ?_; rintro r w2 ⟨N, B, rfl, H, _, _, _⟩; have H0 := Aside0.mk (show Bk w w2 N B none [] from ⟨H, List.nodup_nil, by simp⟩); clear H ho))
  go_loopg [8] (n0 + 1) (fun kq v8 wr => ∃ (i : Nat) (b : Option Nat) (L : List ByteArray), v8 = .int .i64 (i : Int) ∧ i ≤ n0 ∧ n0 - i < kq ∧ L.length ≤ i ∧ Aside0 (Bk w wr N B b L))
  case atStart => exact ⟨0, _, [], rfl, by omega, by omega, by simp, H0⟩
  case round =>
    clear H0
    obtain ⟨i, b, L, rfl, hi, hk, hL, H⟩ := hrel
    obtain ⟨k1, rfl⟩ : ∃ m, gk = m + 1 := ⟨gk - 1, by omega⟩
    have hbw := Aside0.mk (below_of H.out.t.o)
    by_cases hil : i < n0
    · have hil' : (i : Int) < (n0 : Int) := by omega
      have hi0 : (0 : Int) ≤ (i : Int) := by omega
      obtain ⟨ad, eA, hx⟩ := HR0.out _ hbw.out i hil
      cases eA
      generalize P i = s at hx
      by_cases h5 : 200 < s.size
      · have h5I : (200 : Int) < (s.size : Int) := by omega
        go_wp2
        go_ret
        exact ⟨rfl, hbw.out⟩
      · have h5I : ¬ (200 : Int) < (s.size : Int) := by omega
        cases hid : idx L s with
        | some j =>
          replace hid := Aside0.mk hid
          go_wp2_with (go_at_call 14; refine (bk_old H.out s (by omega) j hid.out).mono ?_; rintro r w3 ⟨rfl, rfl⟩)
          go_roundg k1
          case measure => omega
          case rel => exact ⟨i + 1, b, L, rfl, by omega, by omega, by omega, H⟩
        | none =>
          replace hid := Aside0.mk hid
          go_wp2_with (go_at_call 14; refine (bk_put H.out s (by omega) hid.out (by omega)).mono ?_; rintro r w3 ⟨rfl, b3, H3⟩; replace H3 := Aside0.mk H3; clear H)
          go_roundg k1
          case measure => omega
          case rel => exact ⟨i + 1, b3, L ++ [s], rfl, by omega, by omega, by simp; omega, H3⟩
    · have hlen := enc_len L (by omega) H.out.sh
      have hpos := enc_pos L
      have hrd := read_all L R H.out.nd (by omega) (fun s hs => by have := H.out.sh s hs; omega)
      have hrc := Aside0.mk (fun k hk => read_cut L k H.out.nd (by omega) (fun s hs => by have := H.out.sh s hs; omega) hk)
      obtain ⟨q, hq⟩ : ∃ q, (enc L).length = q := ⟨_, rfl⟩
      rw [hq] at hlen hpos hrd
      replace hrd := Aside0.mk hrd
      replace hq := Aside0.mk hq
      have hwd := Aside0.mk (show ∀ x ∈ enc L ++ R, x ≤ 255 from mem_app (enc_byte L) HRw.out)
      have hln := Aside0.mk (show (enc L ++ R).length ≤ 20000 by rw [List.length_append, hq.out]; have := hRl.out; omega)
      have hlenA := Aside0.mk hlen
      replace H := Aside0.mk H.out.t
      have hqI : ¬ (q : Int) = 0 := by omega
      obtain ⟨j, hj, hjq⟩ : ∃ j : Nat, (at_ : Int) % (q : Int) = (j : Int) ∧ j < q := ⟨at_ % q, by omega, Nat.mod_lt _ (by omega)⟩
      obtain ⟨TA, Tb, hcut⟩ := hrc.out j (by rw [hq.out]; exact hjq)
      replace hcut := Aside0.mk hcut
      replace hjq := Aside0.mk hjq
      clear hrc
      go_wp2_with (first
        | (go_at_call 18; with_reducible refine (by_bytes H.out).mono ?_; rintro r w7 ⟨A7, m7, c7, rfl, HB, ho7⟩; replace H := Aside0.mk (H.out.keep ho7); obtain ⟨hm7, hmc7, hC7⟩ := HB.c; replace HB := Aside0.mk HB; clear ho7; obtain rfl : m7 = q := hm7.trans hq.out; clear hm7; have hrun := (cut_take _ A7 m7 c7 (enc L) j hC7 hq.out.symm hmc7 (by rw [hq.out]; exact Nat.le_of_lt hjq.out)).1; replace hC7 := Aside0.mk hC7; replace hmc7 := Aside0.mk hmc7)
        | ((with_reducible refine gate_builtin (b := .append) (xs := #[.tmp 53, .tmp 54]) rfl ?_); at_builtin; refine Kd.R_append_rows (Kd.int .u8) (w0 := w) w.heap.size rfl (.tmp 53) (.tmp 54) 32 5 (.int .u8 0) 1 rfl Try.underlying32 (by kernel_rfl) rfl (by decide) (by omega) _ [] (ofN (enc L)) _ _ _ (fun _ => True) (fun _ => False) rfl rfl (R_empty w7 w.heap.size HB.out.o.size) (Kd.C_alloc hC7.out _) (fun _ _ h => h) (fun _ h => h.elim) (fun _ _ => trivial) (below_of (HB.out.o.alloc _)) (HB.out.o.alloc _).size (by simp; omega) ?_; intro v1 w8 hr8 hb8 hg8 hat8; obtain ⟨A8, m8, c8, rfl, -⟩ := R_sl hr8; have K8 := Aside0.mk (app_one hg8); replace hb8 := Aside0.mk hb8; replace hr8 := Aside0.mk hr8; replace hat8 := Aside0.mk (own_new hat8 (by show w7.heap.size ≤ (w7.heap.push _).size; simp)); clear hg8)
        | ((with_reducible refine gate_builtin (b := .append) (xs := #[.tmp 55, .tmp 56]) rfl ?_); at_builtin; refine Kd.R_append_rows (Kd.int .u8) (w0 := w) w.heap.size rfl (.tmp 55) (.tmp 56) 32 5 (.int .u8 0) 1 rfl Try.underlying32 (by kernel_rfl) rfl (by decide) (by omega) _ (ofN (enc L)) (ofN R) _ _ _ (fun _ => True) (fun _ => False) rfl rfl hr8.out (Kd.C_below HC.out hb8.out) (fun _ _ h => h) (fun _ h => h.elim) (fun _ _ => trivial) hb8.out hb8.out.size (by rw [ofN_length, hq.out]; have := hlenA.out; omega) ?_; intro v2 w9 hr9 hb9 hg9 _; obtain ⟨A9, m9, c9, rfl, -⟩ := R_sl hr9; have K9 := Aside0.mk (app_two K8.out hg9 hat8.out); have HB9 := Aside0.mk (by_app hr9 (HB.out.o.trans K9.out)); replace H := Aside0.mk (H.out.keep K9.out); replace HB := Aside0.mk (HB.out.keep K9.out); clear hr9 hb9 hg9 hr8 hb8 hat8 K8)
        | (go_at_call 22; first
            | (with_reducible refine (read_by HB9.out hwd.out hln.out).mono ?_; rintro r w10 hred; obtain ⟨N2, B2, b2, rfl, H2⟩ := red_ok hred hrd.out; clear hred; replace H := Aside0.mk (H.out.keep H2.o); replace HB := Aside0.mk (HB.out.keep H2.o); replace H2 := Aside0.mk (H2.lower HB9.out.o))
            | (with_reducible refine (read_cut_by HB.out j (by rw [hq.out]; exact Nat.le_of_lt hjq.out) (enc_byte L) (by rw [hq.out]; have := hlenA.out; omega)).mono ?_; rintro r w14 hred; obtain ⟨rfl, ho14⟩ := red_bad hred hcut.out (by decide); clear hred; replace HB := Aside0.mk (HB.out.keep ho14); clear ho14))
        | (go_at_call 21; first
            | (with_reducible refine (len_walk _ N2 B2 _ b2 L H2.out.t).mono ?_; rintro r w11 ⟨rfl, hw11⟩; subst hw11)
            | (with_reducible refine (len_walk _ N B _ b L H.out.t).mono ?_; rintro r w11 ⟨rfl, hw11⟩; subst hw11)
            | (with_reducible refine (len_nil _).mono ?_; rintro r w11 ⟨rfl, hw11⟩; subst hw11))
        | (go_at_call 18; first
            | (with_reducible refine (by_bytes H2.out).mono ?_; rintro r w12 ⟨A12, m12, c12, rfl, HB12, ho12⟩; replace HB := Aside0.mk (HB.out.keep ho12); replace HB12 := Aside0.mk HB12; clear ho12)
            | (with_reducible refine (bytes_nil _).mono ?_; rintro r w11 ⟨rfl, hw11⟩; subst hw11))
        | (go_at_call 17; with_reducible refine (by_eq HB12.out HB.out (enc_byte L) (enc_byte L)).mono ?_; rintro r w13 ⟨rfl, n13, rfl⟩; rw [show decide (enc L = enc L) = true from decide_eq_true rfl]; replace HB := Aside0.mk (HB.out.keep ((Only.refl _ _).drewN n13)))
        | (go_at_call 14; with_reducible refine (put_nil _ _).mono ?_; rintro r w15 ⟨rfl, hw15⟩; subst hw15)
        | (go_at_call 20; with_reducible refine (at_nil _ _).mono ?_; rintro r w16 ⟨rfl, hw16⟩; subst hw16))
      go_ret
      exact ⟨by first | rfl | simp, below_of HB.out.o⟩
end Go.Proofs.Ytfgpcoocbblkiaa.St
