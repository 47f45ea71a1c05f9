/- The law HistPuts, walked. No conditions but bounds. -/
import Derived.Test.YtdcbhakclhbdpaaHa
namespace Go.Proofs.Ytdcbhakclhbdpaa.Hi
open Go.RowKit Go.Shelf Go.Proofs.YtdcbhakclhbdpaaW.PrintWords Go.Proofs.YtdcbhakclhbdpaaW.PrintLast
open Go.Proofs.Ytdcbhakclhbdpaa.Ob Go.Proofs.Ytdcbhakclhbdpaa.XH
set_option linter.unusedSimpArgs false
set_option linter.unusedVariables false

theorem ofN_take (a : List Nat) (k : Nat) : (ofN a).take k = ofN (a.take k) := by simp [ofN]
theorem ofN_drop (a : List Nat) (k : Nat) : (ofN a).drop k = ofN (a.drop k) := by simp [ofN]
theorem cut_take (w : World) (A : Option Addr) (m c : Nat) (l : List Nat) (p : Nat) (hC : Kd.C (Kd.int .u64) w A m (ofN l)) (hm : m = l.length) (hc : m ≤ c) (hp : p ≤ l.length) :
    (∀ W : World, (Instr.slice 22 (.slice A m c) none (some (.int .i64 (p : Int))) none).run Try.prog W = .ok (.slice A p c) W) ∧ Kd.C (Kd.int .u64) w A p (ofN (l.take p)) ∧ p ≤ c ∧ p = (l.take p).length := by
  have e : m = (ofN l).length := by rw [ofN_length, hm]
  subst e
  obtain ⟨i0, hi0, _, hsz, _⟩ := info_parts info24
  obtain ⟨h1, h2, h3⟩ := print_take_of (P := Try.prog) (Value.int .u64) 0 22 24 .i64 Try.underlying22 hi0 hsz A c (ofN l) (p : Int) (by omega) (by rw [ofN_length]; omega) hc
  have hp2 : p = (ofN (l.take p)).length := by rw [ofN_length, List.length_take]; omega
  simp only [Int.toNat_natCast, ofN_take] at h1 h2 h3
  have h4 := Kd.C_of_reads (h1 := fun _ => rfl) (h2 _ (Kd.reads_of_C hC))
  rw [← hp2] at h1 h3 h4
  exact ⟨h1, h4, h3, by rw [List.length_take]; omega⟩
theorem cut_drop (w : World) (A : Option Addr) (m c : Nat) (l : List Nat) (p : Nat) (hC : Kd.C (Kd.int .u64) w A m (ofN l)) (hm : m = l.length) (hc : m ≤ c) (hp : p ≤ l.length) :
    ∃ A', (∀ W : World, (Instr.slice 22 (.slice A m c) (some (.int .i64 (p : Int))) none none).run Try.prog W = .ok (.slice A' (m - p) (c - p)) W) ∧ Kd.C (Kd.int .u64) w A' (m - p) (ofN (l.drop p)) ∧ m - p ≤ c - p ∧ m - p = (l.drop p).length := by
  have e : m = (ofN l).length := by rw [ofN_length, hm]
  subst e
  obtain ⟨i0, hi0, _, hsz, _⟩ := info_parts info24
  obtain ⟨A', h1, h2, h3⟩ := print_drop_of (P := Try.prog) (Value.int .u64) 0 22 24 .i64 Try.underlying22 hi0 hsz A c (ofN l) (p : Int) (by omega) (by rw [ofN_length]; omega) hc
  simp only [Int.toNat_natCast, List.length_drop] at h1 h2 h3
  have h5 : (ofN l).length - p = (ofN (l.drop p)).length := by rw [ofN_length, ofN_length, List.length_drop]
  have h4 := h2 _ (Kd.reads_of_C hC)
  rw [ofN_drop] at h4
  rw [h5] at h4
  refine ⟨A', h1, ?_, h3, by rw [ofN_length, List.length_drop]⟩
  rw [h5]
  exact Kd.C_of_reads (h1 := fun _ => rfl) h4
theorem right_walk (W : World) (A : Option Addr) (n c : Nat) (bs : List Nat) (hC : Kd.C (Kd.int .u64) W A n (ofN bs)) (hn : n = bs.length) (hc : n ≤ c) (hl : n ≤ 1000) (t : Bool) (ht : decide (okB bs) = t) :
    Calls Try.prog 30 #[.slice A n c] W fun r w' => r = .returned (.bool t) ∧ Only (fun _ => False) W w' := by
  have e : n = (ofN bs).length := by rw [ofN_length, hn]
  subst e
  refine (tallyroomref11_Right.calls (bs.length + 1) A c (ofN bs) t W hC hc (by rw [right_f bs (by rw [ofN_length] at hl; exact hl) _ (by omega), ht])).mono ?_
  rintro r w' ⟨rfl, j, rfl⟩
  exact ⟨rfl, (Only.refl _ W).drewN j⟩
/-- Three histograms within the law. -/
structure P3 (w W : World) (l1 h1 N1 l2 h2 N2 l3 h3 N3 : Nat) (bs a b c : List Nat) : Prop where
  a : IsH W l1 h1 N1 bs a
  b : IsH W l2 h2 N2 bs b
  c : IsH W l3 h3 N3 bs c
  o : Only (fun _ => False) w W
  e1 : w.heap.size ≤ l1
  e2 : h1 ≤ l2
  e3 : h2 ≤ l3
  f1 : l1 ≤ h1
  f2 : l2 ≤ h2
section
variable {w W W' : World} {l1 h1 N1 l2 h2 N2 l3 h3 N3 : Nat} {bs a b c : List Nat}
theorem P3.keep (h : P3 w W l1 h1 N1 l2 h2 N2 l3 h3 N3 bs a b c) (o : Only (fun _ => False) W W') : P3 w W' l1 h1 N1 l2 h2 N2 l3 h3 N3 bs a b c := ⟨h.a.keep o, h.b.keep o, h.c.keep o, h.o.trans o, h.e1, h.e2, h.e3, h.f1, h.f2⟩
theorem P3.putA (h : P3 w W l1 h1 N1 l2 h2 N2 l3 h3 N3 bs a b c) (x : Nat) (hl : a.length < 1000) : Calls Try.prog 32 #[.pointer (some ⟨N1, 0, none⟩), .int .u64 (x : Int)] W fun r w' => r = .returned (.int .i64 0) ∧ P3 w w' l1 h1 N1 l2 h2 N2 l3 h3 N3 bs (a ++ [x]) b c := by
  refine (put_h h.a x hl).mono ?_
  rintro r w' ⟨rfl, hh, ho⟩
  have := h.e1; have := h.e2; have := h.e3; have := h.f1; have := h.f2
  exact ⟨rfl, hh, h.b.only ho (fun j _ _ e => by omega), h.c.only ho (fun j _ _ e => by omega), fresh h.o ho (fun j e => by omega), h.e1, h.e2, h.e3, h.f1, h.f2⟩
theorem P3.putB (h : P3 w W l1 h1 N1 l2 h2 N2 l3 h3 N3 bs a b c) (x : Nat) (hl : b.length < 1000) : Calls Try.prog 32 #[.pointer (some ⟨N2, 0, none⟩), .int .u64 (x : Int)] W fun r w' => r = .returned (.int .i64 0) ∧ P3 w w' l1 h1 N1 l2 h2 N2 l3 h3 N3 bs a (b ++ [x]) c := by
  refine (put_h h.b x hl).mono ?_
  rintro r w' ⟨rfl, hh, ho⟩
  have := h.e1; have := h.e2; have := h.e3; have := h.f1; have := h.f2
  exact ⟨rfl, h.a.only ho (fun j _ _ e => by omega), hh, h.c.only ho (fun j _ _ e => by omega), fresh h.o ho (fun j e => by omega), h.e1, h.e2, h.e3, h.f1, h.f2⟩
theorem P3.putC (h : P3 w W l1 h1 N1 l2 h2 N2 l3 h3 N3 bs a b c) (x : Nat) (hl : c.length < 1000) : Calls Try.prog 32 #[.pointer (some ⟨N3, 0, none⟩), .int .u64 (x : Int)] W fun r w' => r = .returned (.int .i64 0) ∧ P3 w w' l1 h1 N1 l2 h2 N2 l3 h3 N3 bs a b (c ++ [x]) := by
  refine (put_h h.c x hl).mono ?_
  rintro r w' ⟨rfl, hh, ho⟩
  have := h.e1; have := h.e2; have := h.e3; have := h.f1; have := h.f2
  exact ⟨rfl, h.a.only ho (fun j _ _ e => by omega), h.b.only ho (fun j _ _ e => by omega), hh, fresh h.o ho (fun j e => by omega), h.e1, h.e2, h.e3, h.f1, h.f2⟩
theorem P3.join (h : P3 w W l1 h1 N1 l2 h2 N2 l3 h3 N3 bs a b c) (hl : b.length + c.length ≤ 1000) (l : List Nat) (hbc : b ++ c = l) : Calls Try.prog 40 #[.pointer (some ⟨N2, 0, none⟩), .pointer (some ⟨N3, 0, none⟩)] W fun r w' => r = .returned (.int .i64 0) ∧ P3 w w' l1 h1 N1 l2 h2 N2 l3 h3 N3 bs a l c := by
  subst hbc
  refine (join_h h.b h.c (.inl h.e3) hl).mono ?_
  rintro r w' ⟨rfl, hh, ho⟩
  have := h.e1; have := h.e2; have := h.e3; have := h.f1; have := h.f2
  exact ⟨rfl, h.a.only ho (fun j _ _ e => by omega), hh, h.c.only ho (fun j _ _ e => by omega), fresh h.o ho (fun j e => by omega), h.e1, h.e2, h.e3, h.f1, h.f2⟩
end
theorem IsH.le {w : World} {lo hi N : Nat} {bs l : List Nat} (h : IsH w lo hi N bs l) : lo ≤ hi := by
  obtain ⟨v0, b, k, hc⟩ := h.ev
  have := hc.wn; omega
theorem take_lo {l : List Nat} {i k : Nat} (h : i < l.length) (hk : i < k) : (l.take i).take k ++ [l.getD i 0] = (l.take (i + 1)).take k ∧ (l.take i).drop k = (l.take (i + 1)).drop k := by
  have e : l.take (i + 1) = l.take i ++ [l.getD i 0] := by rw [List.take_succ_eq_append_getElem h, getD_at l i h]
  have a1 : (l.take i).take k = l.take i := List.take_of_length_le (by rw [List.length_take]; omega)
  have a2 : (l.take (i + 1)).take k = l.take (i + 1) := List.take_of_length_le (by rw [List.length_take]; omega)
  have b1 : (l.take i).drop k = [] := List.drop_eq_nil_of_le (by rw [List.length_take]; omega)
  have b2 : (l.take (i + 1)).drop k = [] := List.drop_eq_nil_of_le (by rw [List.length_take]; omega)
  exact ⟨by rw [a1, a2, e], by rw [b1, b2]⟩
theorem take_hi {l : List Nat} {i k : Nat} (h : i < l.length) (hk : k ≤ i) : (l.take i).take k = (l.take (i + 1)).take k ∧ (l.take i).drop k ++ [l.getD i 0] = (l.take (i + 1)).drop k := by
  have e : l.take (i + 1) = l.take i ++ [l.getD i 0] := by rw [List.take_succ_eq_append_getElem h, getD_at l i h]
  have e2 : (l.take i).length = i := by rw [List.length_take]; omega
  constructor
  · rw [e, List.take_append_of_le_length (by omega)]
  · rw [e, List.drop_append_of_le_length (by omega)]
set_option maxHeartbeats 16000000 in
set_option maxRecDepth 1000000 in
theorem puts_law (w : World) (A0 A1 A2 : Option Addr) (n0 c0 m1 c1 n2 c2 : Nat) (bs l os : List Nat) (at_ : Nat) (hC0 : Kd.C (Kd.int .u64) w A0 n0 (ofN bs)) (hn0 : n0 = bs.length) (hc0 : n0 ≤ c0) (hC1 : Kd.C (Kd.int .u64) w A1 m1 (ofN l)) (hm1 : m1 = l.length) (hc1 : m1 ≤ c1) (hC2 : Kd.C (Kd.int .u64) w A2 n2 (ofN os)) (hn2 : n2 = os.length) (hc2 : n2 ≤ c2) (hw : ∀ x ∈ l, x < 18446744073709551616) (hat_ : at_ ≤ 255) :
    Calls Try.prog 14 #[.slice A0 n0 c0, .slice A1 m1 c1, .int .u8 (at_ : Int), .slice A2 n2 c2] w fun r w' => r = .returned (.bool true) ∧ Below w.heap.size w w' := by
  replace hC0 := Aside0.mk hC0
  replace hC1 := Aside0.mk hC1
  replace hC2 := Aside0.mk hC2
  replace hn0 := Aside0.mk hn0
  replace hm1 := Aside0.mk hm1
  replace hn2 := Aside0.mk hn2
  replace hc0 := Aside0.mk hc0
  replace hc1 := Aside0.mk hc1
  replace hc2 := Aside0.mk hc2
  replace hw := Aside0.mk hw
  by_cases g0 : (n0 : Int) > 60
  · go_enter Try.func14, Try.ntmps14
    go_wp2_with (go_at_call 34; refine (alive_walk _).mono ?_; rintro r w1 ⟨rfl, ho⟩)
    go_ret
    exact ⟨rfl, below_of ho⟩
  by_cases g1 : (m1 : Int) > 200
  · go_enter Try.func14, Try.ntmps14
    go_wp2_with (go_at_call 34; refine (alive_walk _).mono ?_; rintro r w1 ⟨rfl, ho⟩)
    go_ret
    exact ⟨rfl, below_of ho⟩
  by_cases g2 : (n2 : Int) > 60
  · go_enter Try.func14, Try.ntmps14
    go_wp2_with (go_at_call 34; refine (alive_walk _).mono ?_; rintro r w1 ⟨rfl, ho⟩)
    go_ret
    exact ⟨rfl, below_of ho⟩
  have hl0 := Aside0.mk (show n0 ≤ 1000 by omega)
  have hl2 := Aside0.mk (show n2 ≤ 1000 by omega)
  by_cases hok : okB bs
  · have ht := Aside0.mk (decide_eq_true hok)
    replace hok := Aside0.mk hok
    obtain ⟨k, hk, hkm⟩ : ∃ k : Nat, (at_ : Int) % ((m1 : Int) + 1) = (k : Int) ∧ k ≤ m1 := ⟨at_ % (m1 + 1), by simp, by have := Nat.mod_lt at_ (show 0 < m1 + 1 by omega); omega⟩
    have hm0 : ¬ (m1 : Int) + 1 = 0 := by omega
    go_enter Try.func14, Try.ntmps14
    go_wp2_with (first
      | (go_at_call 34; with_reducible refine (alive_walk _).mono ?_; rintro r w0 ⟨rfl, ho0⟩; replace ho0 := Aside0.mk ho0)
      | (go_at_call 31; first
         | (with_reducible refine (new_h (bs := bs) A0 n0 c0 (Kd.C_below hC0.out (below_of HB.out.2.2.1)) hn0.out hc0.out hok.out).mono ?_; rintro r w3 ⟨N3, rfl, H3, ho⟩; have HP := Aside0.mk (P3.mk (HB.out.1.keep ho) (HB.out.2.1.keep ho) H3 (HB.out.2.2.1.trans ho) HB.out.2.2.2.1 HB.out.2.2.2.2 HB.out.2.1.top HB.out.1.le HB.out.2.1.le); clear ho H3 HB)
         | (with_reducible refine (new_h (bs := bs) A0 n0 c0 (Kd.C_below hC0.out (below_of HA.out.2)) hn0.out hc0.out hok.out).mono ?_; rintro r w2 ⟨N2, rfl, H2, ho⟩; have HB := Aside0.mk (And.intro (HA.out.1.keep ho) (And.intro H2 (And.intro (HA.out.2.trans ho) (And.intro ho0.out.size HA.out.1.top)))); clear ho H2 HA)
         | (with_reducible refine (new_h (bs := bs) A0 n0 c0 (Kd.C_below hC0.out (below_of ho0.out)) hn0.out hc0.out hok.out).mono ?_; rintro r w1 ⟨N1, rfl, H1, ho⟩; have HA := Aside0.mk (And.intro H1 (ho0.out.trans ho)); clear ho H1))
      | (go_at_call 30; with_reducible refine (right_walk _ A0 n0 c0 bs (Kd.C_below hC0.out (below_of HA.out.2)) hn0.out hc0.out hl0.out true ht.out).mono ?_; rintro r w5 ⟨rfl, ho⟩; replace HA := Aside0.mk (And.intro (HA.out.1.keep ho) (HA.out.2.trans ho)); clear ho))
    rw [hk]
    clear hk hm0
    go_loopg [16] (m1 + 1) (fun kq v16 wr => ∃ i : Nat, v16 = .int .i64 (i : Int) ∧ i ≤ m1 ∧ m1 - i < kq ∧ Aside0 (P3 w wr _ _ N1 _ _ N2 _ _ N3 bs (l.take i) ((l.take i).take k) ((l.take i).drop k)))
    case atStart => exact ⟨0, rfl, by omega, by omega, ⟨by simpa using HP.out⟩⟩
    case round =>
      clear HP
      obtain ⟨i, rfl, hi, hq, HP⟩ := hrel
      obtain ⟨k1, rfl⟩ : ∃ m, gk = m + 1 := ⟨gk - 1, by omega⟩
      by_cases him : i < m1
      · have himI : (i : Int) < (m1 : Int) := by omega
        have hi0 : (0 : Int) ≤ (i : Int) := by omega
        have hil : i < l.length := by rw [← hm1.out]; exact him
        obtain ⟨ad, rfl, hx⟩ := num_at (Kd.C_below hC1.out (below_of HP.out.o)) i hil
        have hcell := Aside0.mk (fun W (o : Only (fun _ => False) w W) => num_at (Kd.C_below hC1.out (below_of o)) i hil)
        have hlen := Aside0.mk (show (l.take i).length < 1000 by rw [List.length_take]; omega)
        have hlen2 := Aside0.mk (show ((l.take i).take k).length < 1000 by rw [List.length_take, List.length_take]; omega)
        have hlen3 := Aside0.mk (show ((l.take i).drop k).length < 1000 by rw [List.length_drop, List.length_take]; omega)
        have e1 : l.take i ++ [l.getD i 0] = l.take (i + 1) := by rw [List.take_succ_eq_append_getElem hil, getD_at l i hil]
        replace e1 := Aside0.mk e1
        by_cases hik : i < k
        · have hikI : (i : Int) < (k : Int) := by omega
          have e2 := Aside0.mk (take_lo (l := l) hil hik)
          generalize l.getD i 0 = x at hx e1 e2 hcell
          go_wp2_with (go_at_call 32; first
            | (with_reducible refine (HP.out.putA x hlen.out).mono ?_; rintro r w6 ⟨rfl, H⟩; rw [e1.out] at H; have HP2 := Aside0.mk H; clear H HP hx; obtain ⟨ad', e', hx⟩ := hcell.out _ HP2.out.o; cases e')
            | (with_reducible refine (HP2.out.putB x hlen2.out).mono ?_; rintro r w7 ⟨rfl, H⟩; rw [e2.out.1, e2.out.2] at H; have HP3 := Aside0.mk H; clear H HP2))
          go_roundg k1
          case measure => omega
          case rel => exact ⟨i + 1, by first | rfl | simp, by omega, by omega, HP3⟩
        · have hikI : ¬ (i : Int) < (k : Int) := by omega
          have e2 := Aside0.mk (take_hi (l := l) hil (show k ≤ i by omega))
          generalize l.getD i 0 = x at hx e1 e2 hcell
          go_wp2_with (go_at_call 32; first
            | (with_reducible refine (HP.out.putA x hlen.out).mono ?_; rintro r w6 ⟨rfl, H⟩; rw [e1.out] at H; have HP2 := Aside0.mk H; clear H HP hx; obtain ⟨ad', e', hx⟩ := hcell.out _ HP2.out.o; cases e')
            | (with_reducible refine (HP2.out.putC x hlen3.out).mono ?_; rintro r w7 ⟨rfl, H⟩; rw [e2.out.1, e2.out.2] at H; have HP3 := Aside0.mk H; clear H HP2))
          go_roundg k1
          case measure => omega
          case rel => exact ⟨i + 1, by first | rfl | simp, by omega, by omega, HP3⟩
      · have himI : ¬ (i : Int) < (m1 : Int) := by omega
        have hil : l.take i = l := List.take_of_length_le (by rw [← hm1.out]; omega)
        rw [hil] at HP
        obtain ⟨ht1, ht2, ht3, ht4⟩ := cut_take w A1 m1 c1 l k hC1.out hm1.out hc1.out (by rw [← hm1.out]; exact hkm)
        obtain ⟨A1', hd1, hd2, hd3, hd4⟩ := cut_drop w A1 m1 c1 l k hC1.out hm1.out hc1.out (by rw [← hm1.out]; exact hkm)
        replace ht2 := Aside0.mk ht2
        replace ht3 := Aside0.mk ht3
        replace ht4 := Aside0.mk ht4
        replace hd2 := Aside0.mk hd2
        replace hd3 := Aside0.mk hd3
        replace hd4 := Aside0.mk hd4
        have hwt := Aside0.mk (fun x (hx : x ∈ l.take k) => hw.out x (List.mem_of_mem_take hx))
        have hwd := Aside0.mk (fun x (hx : x ∈ l.drop k) => hw.out x (List.mem_of_mem_drop hx))
        have hsum := Aside0.mk (show (l.take k).length + (l.drop k).length ≤ 1000 by rw [← List.length_append, List.take_append_drop, ← hm1.out]; omega)
        have hsp := Aside0.mk (List.take_append_drop k l)
        clear hil
        by_cases hoo : okB os
        · replace hoo := Aside0.mk hoo
          by_cases hne : n2 = n0
          · have hne2 := hne.symm
            subst hne2
            clear hne
            go_wp2_with (first
            | (go_at_call 39; first
               | (with_reducible refine (shows_walk _ _ _ N2 A0 A1 n0 c0 m1 c1 bs l HQ.out.b (Kd.C_below hC0.out (below_of HQ.out.o)) hn0.out hc0.out (Kd.C_below hC1.out (below_of HQ.out.o)) hm1.out hc1.out hw.out).mono ?_; rintro r w8 ⟨rfl, ho⟩; replace HQ := Aside0.mk (HQ.out.keep ho); clear ho)
               | (with_reducible refine (shows_walk _ _ _ N1 A0 A1 n0 c0 m1 c1 bs l HQ.out.a (Kd.C_below hC0.out (below_of HQ.out.o)) hn0.out hc0.out (Kd.C_below hC1.out (below_of HQ.out.o)) hm1.out hc1.out hw.out).mono ?_; rintro r w8 ⟨rfl, ho⟩; replace HQ := Aside0.mk (HQ.out.keep ho); clear ho)
               | (with_reducible refine (shows_walk _ _ _ N3 A0 A1' n0 c0 (m1 - k) (c1 - k) bs (l.drop k) HQ.out.c (Kd.C_below hC0.out (below_of HQ.out.o)) hn0.out hc0.out (Kd.C_below hd2.out (below_of HQ.out.o)) hd4.out hd3.out hwd.out).mono ?_; rintro r w8 ⟨rfl, ho⟩; replace HQ := Aside0.mk (HQ.out.keep ho); clear ho)
               | (with_reducible refine (shows_walk _ _ _ N2 A0 A1 n0 c0 k c1 bs (l.take k) HP.out.b (Kd.C_below hC0.out (below_of HP.out.o)) hn0.out hc0.out (Kd.C_below ht2.out (below_of HP.out.o)) ht4.out ht3.out hwt.out).mono ?_; rintro r w8 ⟨rfl, ho⟩; replace HP := Aside0.mk (HP.out.keep ho); clear ho)
               | (with_reducible refine (shows_walk _ _ _ N3 A0 A1' n0 c0 (m1 - k) (c1 - k) bs (l.drop k) HP.out.c (Kd.C_below hC0.out (below_of HP.out.o)) hn0.out hc0.out (Kd.C_below hd2.out (below_of HP.out.o)) hd4.out hd3.out hwd.out).mono ?_; rintro r w8 ⟨rfl, ho⟩; replace HP := Aside0.mk (HP.out.keep ho); clear ho))
            | (go_at_call 40; with_reducible refine (HP.out.join hsum.out l hsp.out).mono ?_; rintro r w9 ⟨rfl, H⟩; have HQ := Aside0.mk H; clear H HP)
              | (go_at_call 31; with_reducible refine (new_h (bs := os) A2 n0 c2 (Kd.C_below hC2.out (below_of HQ.out.o)) hn2.out hc2.out hoo.out).mono ?_; rintro r w10 ⟨N4, rfl, H4, ho⟩; replace HQ := Aside0.mk (HQ.out.keep ho); clear ho H4))
            go_ret
            exact ⟨by first | rfl | simp, below_of HQ.out.o⟩
          · have hneI : ¬ (n2 : Int) = (n0 : Int) := by omega
            have hneL := Aside0.mk (show bs.length ≠ os.length by rw [← hn0.out, ← hn2.out]; omega)
            go_wp2_with (first
            | (go_at_call 39; first
               | (with_reducible refine (shows_walk _ _ _ N2 A0 A1 n0 c0 m1 c1 bs l HQ.out.b (Kd.C_below hC0.out (below_of HQ.out.o)) hn0.out hc0.out (Kd.C_below hC1.out (below_of HQ.out.o)) hm1.out hc1.out hw.out).mono ?_; rintro r w8 ⟨rfl, ho⟩; replace HQ := Aside0.mk (HQ.out.keep ho); clear ho)
               | (with_reducible refine (shows_walk _ _ _ N1 A0 A1 n0 c0 m1 c1 bs l HQ.out.a (Kd.C_below hC0.out (below_of HQ.out.o)) hn0.out hc0.out (Kd.C_below hC1.out (below_of HQ.out.o)) hm1.out hc1.out hw.out).mono ?_; rintro r w8 ⟨rfl, ho⟩; replace HQ := Aside0.mk (HQ.out.keep ho); clear ho)
               | (with_reducible refine (shows_walk _ _ _ N3 A0 A1' n0 c0 (m1 - k) (c1 - k) bs (l.drop k) HQ.out.c (Kd.C_below hC0.out (below_of HQ.out.o)) hn0.out hc0.out (Kd.C_below hd2.out (below_of HQ.out.o)) hd4.out hd3.out hwd.out).mono ?_; rintro r w8 ⟨rfl, ho⟩; replace HQ := Aside0.mk (HQ.out.keep ho); clear ho)
               | (with_reducible refine (shows_walk _ _ _ N2 A0 A1 n0 c0 k c1 bs (l.take k) HP.out.b (Kd.C_below hC0.out (below_of HP.out.o)) hn0.out hc0.out (Kd.C_below ht2.out (below_of HP.out.o)) ht4.out ht3.out hwt.out).mono ?_; rintro r w8 ⟨rfl, ho⟩; replace HP := Aside0.mk (HP.out.keep ho); clear ho)
               | (with_reducible refine (shows_walk _ _ _ N3 A0 A1' n0 c0 (m1 - k) (c1 - k) bs (l.drop k) HP.out.c (Kd.C_below hC0.out (below_of HP.out.o)) hn0.out hc0.out (Kd.C_below hd2.out (below_of HP.out.o)) hd4.out hd3.out hwd.out).mono ?_; rintro r w8 ⟨rfl, ho⟩; replace HP := Aside0.mk (HP.out.keep ho); clear ho))
            | (go_at_call 40; first | (with_reducible refine (joinlen_h HQ.out.b H4.out hneL.out).mono ?_; rintro r w11 ⟨rfl, ho⟩; replace HQ := Aside0.mk (HQ.out.keep ho); clear ho) | (with_reducible refine (HP.out.join hsum.out l hsp.out).mono ?_; rintro r w9 ⟨rfl, H⟩; have HQ := Aside0.mk H; clear H HP))
              | (go_at_call 31; with_reducible refine (new_h (bs := os) A2 n2 c2 (Kd.C_below hC2.out (below_of HQ.out.o)) hn2.out hc2.out hoo.out).mono ?_; rintro r w10 ⟨N4, rfl, H4, ho⟩; replace HQ := Aside0.mk (HQ.out.keep ho); replace H4 := Aside0.mk H4; clear ho))
            go_ret
            exact ⟨by first | rfl | simp, below_of HQ.out.o⟩
        · replace hoo := Aside0.mk hoo
          go_wp2_with (first
          | (go_at_call 39; first
             | (with_reducible refine (shows_walk _ _ _ N2 A0 A1 n0 c0 m1 c1 bs l HQ.out.b (Kd.C_below hC0.out (below_of HQ.out.o)) hn0.out hc0.out (Kd.C_below hC1.out (below_of HQ.out.o)) hm1.out hc1.out hw.out).mono ?_; rintro r w8 ⟨rfl, ho⟩; replace HQ := Aside0.mk (HQ.out.keep ho); clear ho)
             | (with_reducible refine (shows_walk _ _ _ N1 A0 A1 n0 c0 m1 c1 bs l HQ.out.a (Kd.C_below hC0.out (below_of HQ.out.o)) hn0.out hc0.out (Kd.C_below hC1.out (below_of HQ.out.o)) hm1.out hc1.out hw.out).mono ?_; rintro r w8 ⟨rfl, ho⟩; replace HQ := Aside0.mk (HQ.out.keep ho); clear ho)
             | (with_reducible refine (shows_walk _ _ _ N3 A0 A1' n0 c0 (m1 - k) (c1 - k) bs (l.drop k) HQ.out.c (Kd.C_below hC0.out (below_of HQ.out.o)) hn0.out hc0.out (Kd.C_below hd2.out (below_of HQ.out.o)) hd4.out hd3.out hwd.out).mono ?_; rintro r w8 ⟨rfl, ho⟩; replace HQ := Aside0.mk (HQ.out.keep ho); clear ho)
             | (with_reducible refine (shows_walk _ _ _ N2 A0 A1 n0 c0 k c1 bs (l.take k) HP.out.b (Kd.C_below hC0.out (below_of HP.out.o)) hn0.out hc0.out (Kd.C_below ht2.out (below_of HP.out.o)) ht4.out ht3.out hwt.out).mono ?_; rintro r w8 ⟨rfl, ho⟩; replace HP := Aside0.mk (HP.out.keep ho); clear ho)
             | (with_reducible refine (shows_walk _ _ _ N3 A0 A1' n0 c0 (m1 - k) (c1 - k) bs (l.drop k) HP.out.c (Kd.C_below hC0.out (below_of HP.out.o)) hn0.out hc0.out (Kd.C_below hd2.out (below_of HP.out.o)) hd4.out hd3.out hwd.out).mono ?_; rintro r w8 ⟨rfl, ho⟩; replace HP := Aside0.mk (HP.out.keep ho); clear ho))
          | (go_at_call 40; with_reducible refine (HP.out.join hsum.out l hsp.out).mono ?_; rintro r w9 ⟨rfl, H⟩; have HQ := Aside0.mk H; clear H HP)
            | (go_at_call 31; with_reducible refine (new_bad (bs := os) A2 n2 c2 (Kd.C_below hC2.out (below_of HQ.out.o)) hn2.out hc2.out hl2.out hoo.out).mono ?_; rintro r w10 ⟨rfl, ho⟩; replace HQ := Aside0.mk (HQ.out.keep ho); clear ho))
          go_ret
          exact ⟨by first | rfl | simp, below_of HQ.out.o⟩
  · have ht := Aside0.mk (decide_eq_false hok)
    replace hok := Aside0.mk hok
    go_enter Try.func14, Try.ntmps14
    go_wp2_with (first
      | (go_at_call 34; with_reducible refine (alive_walk _).mono ?_; rintro r w0 ⟨rfl, ho0⟩; replace ho0 := Aside0.mk ho0)
      | (go_at_call 31; with_reducible refine (new_bad (bs := bs) A0 n0 c0 (Kd.C_below hC0.out (below_of ho0.out)) hn0.out hc0.out hl0.out hok.out).mono ?_; rintro r w1 ⟨rfl, ho⟩; replace ho0 := Aside0.mk (ho0.out.trans ho); clear ho)
      | (go_at_call 30; with_reducible refine (right_walk _ A0 n0 c0 bs (Kd.C_below hC0.out (below_of ho0.out)) hn0.out hc0.out hl0.out false ht.out).mono ?_; rintro r w5 ⟨rfl, ho⟩; replace ho0 := Aside0.mk (ho0.out.trans ho); clear ho))
    go_ret
    exact ⟨by first | rfl | simp, below_of ho0.out⟩
end Go.Proofs.Ytdcbhakclhbdpaa.Hi
