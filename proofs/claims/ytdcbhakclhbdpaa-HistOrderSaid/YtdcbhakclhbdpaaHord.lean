/- The law HistOrder, walked. No conditions but bounds. -/
import Derived.Test.YtdcbhakclhbdpaaHa
import Derived.Test.YtdcbhakclhbdpaaPlain
namespace Go.Proofs.Ytdcbhakclhbdpaa.Hi
open Go.RowKit Go.Shelf Go.Proofs.YtdcbhakclhbdpaaW.PrintWords Go.Proofs.YtdcbhakclhbdpaaW.PrintLast
open Go.Proofs.Ytdcbhakclhbdpaa.Ob Go.Proofs.Ytdcbhakclhbdpaa.XH Go.Proofs.Ytdcbhakclhbdpaa.Plain
set_option linter.unusedSimpArgs false
set_option linter.unusedVariables false

theorem bucks_perm {bs l l' : List Nat} (h : l.Perm l') : bucks bs l = bucks bs l' := by
  unfold bucks
  exact List.map_congr_left fun i _ => by rw [h.countP_eq]
theorem IsH.perm {w : World} {lo hi N : Nat} {bs l l' : List Nat} (h : IsH w lo hi N bs l) (p : l.Perm l') : IsH w lo hi N bs l' := by
  obtain ⟨v0, b, k, hc⟩ := h.ev
  rw [bucks_perm p, p.length_eq, p.sum_nat] at hc
  exact ⟨⟨v0, b, k, hc⟩, by rw [← p.length_eq]; exact h.few, h.ok⟩
/-- The numbers as the second histogram gets them. -/
def other (l : List Nat) (q i : Nat) : List Nat := (List.range i).map fun j => l.getD (turn l.length q j) 0
theorem other_next (l : List Nat) (q i : Nat) : other l q i ++ [l.getD (turn l.length q i) 0] = other l q (i + 1) := by
  unfold other
  rw [List.range_succ, List.map_append]; rfl
theorem other_perm (l : List Nat) (q : Nat) : (other l q l.length).Perm l := by
  have h := (turn_perm l.length q).map (fun j => l.getD j 0)
  rw [List.map_map] at h
  have e : (List.range l.length).map (fun j => l.getD j 0) = l := by
    apply List.ext_getElem
    · simp
    · intro i h1 h2
      simp [List.getElem?_eq_getElem h2]
  rw [e] at h
  exact h
theorem zsum {α : Type} (l : List α) : (l.map fun _ => 0).sum = 0 := by
  induction l with
  | nil => rfl
  | cons x l ih => rw [List.map_cons, List.sum_cons, ih]
theorem all_in (bs : List Nat) : ∀ (l : List Nat), (cnts bs l).sum = l.length := by
  have key : ∀ (n x : Nat), x ≤ n → ((List.range (n + 1)).map fun i => if x = i then 1 else 0).sum = 1 := by
    intro n x
    induction n with
    | zero => intro h; have : x = 0 := by omega
              subst this; rfl
    | succ n ih =>
      intro h
      rw [List.range_succ, List.map_append, List.sum_append]
      by_cases e : x = n + 1
      · subst e
        have : ((List.range (n + 1)).map fun i => if n + 1 = i then 1 else 0).sum = 0 := by
          rw [show ((List.range (n + 1)).map fun i => if n + 1 = i then 1 else 0) = (List.range (n + 1)).map fun _ => 0 from List.map_congr_left fun i hi => by rw [List.mem_range] at hi; rw [if_neg (by omega)]]
          exact zsum _
        rw [this]; simp
      · rw [ih (by omega)]; simp [e]
  intro l
  induction l with
  | nil => unfold cnts; simp only [List.countP_nil]; exact zsum _
  | cons x l ih =>
    have hx := bk_le bs x
    have e : (cnts bs (x :: l)).sum = (cnts bs l).sum + ((List.range (bs.length + 1)).map fun i => if bk bs x = i then 1 else 0).sum := by
      unfold cnts
      generalize List.range (bs.length + 1) = R
      induction R with
      | nil => rfl
      | cons i R ihR =>
        simp only [List.map_cons, List.sum_cons, List.countP_cons, decide_eq_true_eq] at ihR ⊢
        rw [ihR]
        omega
    rw [e, ih, key _ _ hx, List.length_cons]
theorem part_sum (bs l : List Nat) (i : Nat) (h : i < bs.length + 1) : ((cnts bs l).take (i + 1)).sum = ((cnts bs l).take i).sum + (cnts bs l).getD i 0 := by
  have hi : i < (cnts bs l).length := by rw [cnts_length]; exact h
  rw [List.take_succ_eq_append_getElem hi, List.sum_append, getD_at _ i hi]
  simp
theorem part_le (bs l : List Nat) (i : Nat) : ((cnts bs l).take i).sum ≤ l.length := by
  have := all_in bs l
  have h := List.sum_append_nat (l₁ := (cnts bs l).take i) (l₂ := (cnts bs l).drop i)
  rw [List.take_append_drop] at h
  omega
/-- Two histograms within the law. -/
structure P2 (w W : World) (l1 h1 N1 l2 h2 N2 : Nat) (bs a b : List Nat) : Prop where
  a : IsH W l1 h1 N1 bs a
  b : IsH W l2 h2 N2 bs b
  o : Only (fun _ => False) w W
  e1 : w.heap.size ≤ l1
  e2 : h1 ≤ l2
  f1 : l1 ≤ h1
section
variable {w W W' : World} {l1 h1 N1 l2 h2 N2 : Nat} {bs a b : List Nat}
theorem P2.keep (h : P2 w W l1 h1 N1 l2 h2 N2 bs a b) (o : Only (fun _ => False) W W') : P2 w W' l1 h1 N1 l2 h2 N2 bs a b := ⟨h.a.keep o, h.b.keep o, h.o.trans o, h.e1, h.e2, h.f1⟩
theorem P2.putA (h : P2 w W l1 h1 N1 l2 h2 N2 bs a b) (x : Nat) (hl : a.length < 1000) : Calls Try.prog 32 #[.pointer (some ⟨N1, 0, none⟩), .int .u64 (x : Int)] W fun r w' => r = .returned (.int .i64 0) ∧ P2 w w' l1 h1 N1 l2 h2 N2 bs (a ++ [x]) b := by
  refine (put_h h.a x hl).mono ?_
  rintro r w' ⟨rfl, hh, ho⟩
  have := h.e1; have := h.e2; have := h.f1
  exact ⟨rfl, hh, h.b.only ho (fun j _ _ e => by omega), fresh h.o ho (fun j e => by omega), h.e1, h.e2, h.f1⟩
theorem P2.putB (h : P2 w W l1 h1 N1 l2 h2 N2 bs a b) (x : Nat) (hl : b.length < 1000) : Calls Try.prog 32 #[.pointer (some ⟨N2, 0, none⟩), .int .u64 (x : Int)] W fun r w' => r = .returned (.int .i64 0) ∧ P2 w w' l1 h1 N1 l2 h2 N2 bs a (b ++ [x]) := by
  refine (put_h h.b x hl).mono ?_
  rintro r w' ⟨rfl, hh, ho⟩
  have := h.e1; have := h.e2; have := h.f1
  exact ⟨rfl, h.a.only ho (fun j _ _ e => by omega), hh, fresh h.o ho (fun j e => by omega), h.e1, h.e2, h.f1⟩
end
theorem IsH.le2 {w : World} {lo hi N : Nat} {bs l : List Nat} (h : IsH w lo hi N bs l) : lo ≤ hi := by
  obtain ⟨v0, b, k, hc⟩ := h.ev
  have := hc.wn; omega
theorem C_of_bucks {W : World} {A : Option Addr} {n q : Nat} {Z : List (Nat × Bool)} {base : Nat} (h : Kd.R k26 26 W base (fun _ => True) (.slice A n q) (Z.map toS)) (hn : n = Z.length) : Kd.C k26 W A n (Z.map toS) := by
  obtain ⟨h1, _, h3⟩ := Kd.R_reads' h
  rw [h1]; exact h3
set_option maxHeartbeats 16000000 in
set_option maxRecDepth 1000000 in
theorem order_law (w : World) (A0 A1 : Option Addr) (n0 c0 m1 c1 : Nat) (bs l : List Nat) (by_ : Nat) (hC0 : Kd.C (Kd.int .u64) w A0 n0 (ofN bs)) (hn0 : n0 = bs.length) (hc0 : n0 ≤ c0) (hC1 : Kd.C (Kd.int .u64) w A1 m1 (ofN l)) (hm1 : m1 = l.length) (hc1 : m1 ≤ c1) (hby : by_ ≤ 255) :
    Calls Try.prog 11 #[.slice A0 n0 c0, .slice A1 m1 c1, .int .u8 (by_ : Int)] w fun r w' => r = .returned (.bool true) ∧ Below w.heap.size w w' := by
  replace hC0 := Aside0.mk hC0
  replace hC1 := Aside0.mk hC1
  replace hn0 := Aside0.mk hn0
  replace hm1 := Aside0.mk hm1
  replace hc0 := Aside0.mk hc0
  replace hc1 := Aside0.mk hc1
  have hfd := field_n
  by_cases g0 : (n0 : Int) > 40
  · go_enter Try.func11, Try.ntmps11
    go_wp2_with (go_at_call 34; refine (alive_walk _).mono ?_; rintro r w1 ⟨rfl, ho⟩)
    go_ret
    exact ⟨rfl, below_of ho⟩
  by_cases g1 : (m1 : Int) > 100
  · go_enter Try.func11, Try.ntmps11
    go_wp2_with (go_at_call 34; refine (alive_walk _).mono ?_; rintro r w1 ⟨rfl, ho⟩)
    go_ret
    exact ⟨rfl, below_of ho⟩
  have hl0 := Aside0.mk (show n0 ≤ 1000 by omega)
  by_cases hok : okB bs
  · replace hok := Aside0.mk hok
    go_enter Try.func11, Try.ntmps11
    go_wp2_with (first
      | (go_at_call 34; with_reducible refine (alive_walk _).mono ?_; rintro r w0 ⟨rfl, ho0⟩; replace ho0 := Aside0.mk ho0)
      | (go_at_call 31; first
         | (with_reducible refine (new_h (bs := bs) A0 n0 c0 (Kd.C_below hC0.out (below_of HA.out.2)) hn0.out hc0.out hok.out).mono ?_; rintro r w2 ⟨N2, rfl, H2, ho⟩; have HP := Aside0.mk (P2.mk (HA.out.1.keep ho) H2 (HA.out.2.trans ho) ho0.out.size HA.out.1.top HA.out.1.le2); clear ho H2 HA)
         | (with_reducible refine (new_h (bs := bs) A0 n0 c0 (Kd.C_below hC0.out (below_of ho0.out)) hn0.out hc0.out hok.out).mono ?_; rintro r w1 ⟨N1, rfl, H1, ho⟩; have HA := Aside0.mk (And.intro H1 (ho0.out.trans ho)); clear ho H1)))
    go_loopg [11] (m1 + 1) (fun kq v11 wr => ∃ i : Nat, v11 = .int .i64 (i : Int) ∧ i ≤ m1 ∧ m1 - i < kq ∧ Aside0 (P2 w wr _ _ N1 _ _ N2 bs (l.take i) (other l by_ i)))
    case atStart => exact ⟨0, rfl, by omega, by omega, ⟨by simpa [other] using HP.out⟩⟩
    case round =>
      clear HP
      obtain ⟨i, rfl, hi, hq, HP⟩ := hrel
      obtain ⟨k1, rfl⟩ : ∃ m, gk = m + 1 := ⟨gk - 1, by omega⟩
      by_cases him : i < m1
      · have himI : (i : Int) < (m1 : Int) := by omega
        have hi0 : (0 : Int) ≤ (i : Int) := by omega
        have hil : i < l.length := by rw [← hm1.out]; exact him
        obtain ⟨q, hqe, hqm⟩ : ∃ q : Nat, turn l.length by_ i = q ∧ q < m1 := ⟨_, rfl, by rw [hm1.out]; exact turn_lt hil⟩
        have hqI : ((m1 : Int) - 1 - (i : Int) + (by_ : Int)) % (m1 : Int) = (q : Int) := by
          rw [← hqe, ← hm1.out]
          unfold turn
          rw [show (m1 : Int) - 1 - (i : Int) + (by_ : Int) = ((m1 - 1 - i + by_ : Nat) : Int) by omega]
          rfl
        have hq0 : (0 : Int) ≤ (q : Int) := by omega
        have hqmI : (q : Int) < (m1 : Int) := by omega
        have hm0 : ¬ (m1 : Int) = 0 := by omega
        have hql : q < l.length := by rw [← hm1.out]; exact hqm
        obtain ⟨ad, rfl, hx⟩ := num_at (Kd.C_below hC1.out (below_of HP.out.o)) i hil
        have hcell := Aside0.mk (fun W (o : Only (fun _ => False) w W) => num_at (Kd.C_below hC1.out (below_of o)) q hql)
        have hlen := Aside0.mk (show (l.take i).length < 1000 by rw [List.length_take]; omega)
        have hlen2 := Aside0.mk (show (other l by_ i).length < 1000 by unfold other; simp; omega)
        have e1 := Aside0.mk (show l.take i ++ [l.getD i 0] = l.take (i + 1) by rw [List.take_succ_eq_append_getElem hil, getD_at l i hil])
        have e2 := Aside0.mk (other_next l by_ i)
        rw [hqe] at e2
        clear hqe
        generalize l.getD i 0 = x at hx e1
        generalize l.getD q 0 = y at e2 hcell
        go_wp2_with (go_at_call 32; first
          | (with_reducible refine (HP.out.putA x hlen.out).mono ?_; rintro r w6 ⟨rfl, H⟩; rw [e1.out] at H; have HP2 := Aside0.mk H; clear H HP hx; obtain ⟨ad', e', hx⟩ := hcell.out _ HP2.out.o; cases e')
          | (with_reducible refine (HP2.out.putB y hlen2.out).mono ?_; rintro r w7 ⟨rfl, H⟩; rw [e2.out] at H; have HP3 := Aside0.mk H; clear H HP2))
        go_roundg k1
        case measure => omega
        case rel => exact ⟨i + 1, by first | rfl | simp, by omega, by omega, HP3⟩
      · have himI : ¬ (i : Int) < (m1 : Int) := by omega
        obtain rfl : i = m1 := by omega
        have HQ := Aside0.mk (show P2 w wr _ _ N1 _ _ N2 bs l l from ⟨by have := HP.out.a; rwa [List.take_of_length_le (by rw [← hm1.out]; omega)] at this, by have := HP.out.b; rw [hm1.out] at this; exact this.perm (other_perm l by_), HP.out.o, HP.out.e1, HP.out.e2, HP.out.f1⟩)
        clear HP
        have hbl := Aside0.mk (show n0 + 1 = (bucks bs l).length by rw [bucks_length, hn0.out])
        go_wp2_with (go_at_call 33; first
          | (with_reducible refine (buckets_h HQ.out.a).mono ?_; rintro r w8 ⟨A8, q8, rfl, hR, ho⟩; rw [← hn0.out] at hR ⊢; have hC8 := Aside0.mk (C_of_bucks hR hbl.out); replace HQ := Aside0.mk (HQ.out.keep ho); clear ho hR)
          | (with_reducible refine (buckets_h HQ.out.b).mono ?_; rintro r w9 ⟨A9, q9, rfl, hR, ho⟩; rw [← hn0.out] at hR ⊢; have hC9 := Aside0.mk (C_of_bucks hR hbl.out); replace hC8 := Aside0.mk (Kd.C_below hC8.out (below_of ho)); replace HQ := Aside0.mk (HQ.out.keep ho); clear ho hR))
        go_loopg [14, 15] (n0 + 2) (fun kq v14 v15 wr => ∃ i : Nat, v14 = .int .u64 ((((cnts bs l).take i).sum : Nat) : Int) ∧ v15 = .int .i64 (i : Int) ∧ i ≤ n0 + 1 ∧ n0 + 1 - i < kq ∧ Aside0 (Only (fun _ => False) w9 wr))
        case atStart => exact ⟨0, by simp, rfl, by omega, by omega, ⟨Only.refl _ _⟩⟩
        case round =>
          obtain ⟨j, rfl, rfl, hj, hjk, HO⟩ := hrel
          obtain ⟨k1, rfl⟩ : ∃ m, gk = m + 1 := ⟨gk - 1, by omega⟩
          by_cases hjn : j < n0 + 1
          · have hjI : (j : Int) < (n0 : Int) + 1 := by omega
            have hj0 : (0 : Int) ≤ (j : Int) := by omega
            have hjb : j < (bucks bs l).length := by rw [← hbl.out]; exact hjn
            obtain ⟨ad8, rfl, hx8, hy8⟩ := clone_at (Kd.C_below hC8.out (below_of HO.out)) j hjb
            obtain ⟨ad9, rfl, hx9, hy9⟩ := clone_at (Kd.C_below hC9.out (below_of HO.out)) j hjb
            rw [bucks_cnts bs l j hjb] at hx8 hy8 hx9 hy9
            have hps := part_sum bs l j (by rw [← hn0.out]; exact hjn)
            have hpl := part_le bs l (j + 1)
            rw [hps, ← hm1.out] at hpl
            replace hps := Aside0.mk hps
            simp only at hx8 hy8 hx9 hy9
            generalize (cnts bs l).getD j 0 = y at hx8 hx9 hps hpl
            generalize ((cnts bs l).take j).sum = s at hps hpl ⊢
            go_wp2
            go_quiet (fail)
            go_wp2
            go_roundg k1
            case measure => omega
            case rel => exact ⟨j + 1, by rw [hps.out]; first | rfl | simp, by first | rfl | simp, by omega, by omega, ⟨HO.out.drewN _⟩⟩
          · have hjI : ¬ (j : Int) < (n0 : Int) + 1 := by omega
            have hall : ((cnts bs l).take j).sum = i := by
              rw [List.take_of_length_le (by rw [cnts_length, ← hn0.out]; omega), all_in, hm1.out]
            rw [hall]
            replace HQ := Aside0.mk (HQ.out.keep HO.out)
            have hcnt := Aside0.mk (fun W lo hi (hW : IsH W lo hi N1 bs l) => count_h hW)
            rw [← hm1.out] at hcnt
            clear hall
            go_wp2_with (first
              | (go_at_call 35; with_reducible refine (hcnt.out _ _ _ HQ.out.a).mono ?_; rintro r w10 ⟨rfl, ho⟩; replace HQ := Aside0.mk (HQ.out.keep ho); clear ho)
              | (go_at_call 36; first
                 | (with_reducible refine (sum_h HQ.out.a).mono ?_; rintro r w11 ⟨rfl, ho⟩; replace HQ := Aside0.mk (HQ.out.keep ho); clear ho)
                 | (with_reducible refine (sum_h HQ.out.b).mono ?_; rintro r w12 ⟨rfl, ho⟩; replace HQ := Aside0.mk (HQ.out.keep ho); clear ho)))
            go_ret
            exact ⟨by first | rfl | simp, below_of HQ.out.o⟩
  · replace hok := Aside0.mk hok
    go_enter Try.func11, Try.ntmps11
    go_wp2_with (first
      | (go_at_call 34; with_reducible refine (alive_walk _).mono ?_; rintro r w0 ⟨rfl, ho0⟩; replace ho0 := Aside0.mk ho0)
      | (go_at_call 31; with_reducible refine (new_bad (bs := bs) A0 n0 c0 (Kd.C_below hC0.out (below_of ho0.out)) hn0.out hc0.out hl0.out hok.out).mono ?_; rintro r w1 ⟨rfl, ho⟩; replace ho0 := Aside0.mk (ho0.out.trans ho); clear ho))
    go_ret
    exact ⟨by first | rfl | simp, below_of ho0.out⟩
end Go.Proofs.Ytdcbhakclhbdpaa.Hi
