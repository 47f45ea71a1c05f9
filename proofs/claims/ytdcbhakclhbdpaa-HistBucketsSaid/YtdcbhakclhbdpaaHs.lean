/- A histogram of some numbers in some bounds: the calls, told over its numbers; the laws' shows and alive. No conditions but bounds. -/
import Derived.Test.YtdcbhakclhbdpaaHm
import Derived.Test.YtdcbhakclhbdpaaHq
namespace Go.Proofs.Ytdcbhakclhbdpaa.Hi
open Go.RowKit Go.Shelf Go.Proofs.YtdcbhakclhbdpaaW.PrintWords Go.Proofs.YtdcbhakclhbdpaaW.PrintLast
open Go.Proofs.Ytdcbhakclhbdpaa.Ob Go.Proofs.Ytdcbhakclhbdpaa.XH
set_option linter.unusedSimpArgs false
set_option linter.unusedVariables false

/-- The histogram of the numbers l. -/
structure IsH (w : World) (lo hi N : Nat) (bs l : List Nat) : Prop where
  ev : ∃ v0 b k, Hc w lo hi N b k v0 bs (bucks bs l) (l.length, false) (satS l.sum)
  few : l.length ≤ 1000
  ok : okB bs
section
variable {w wr w' : World} {lo hi N lo' hi' N' : Nat} {bs l l' : List Nat}
theorem IsH.only (h : IsH w lo hi N bs l) {S : Nat → Prop} (o : Only S w w') (hS : ∀ j, lo ≤ j → j < hi → ¬ S j) : IsH w' lo hi N bs l := by
  obtain ⟨v0, b, k, hc⟩ := h.ev
  exact ⟨⟨v0, b, k, hc.only o hS⟩, h.few, h.ok⟩
theorem IsH.keep (h : IsH w lo hi N bs l) (o : Only (fun _ => False) w w') : IsH w' lo hi N bs l := h.only o (fun _ _ _ => id)
theorem IsH.top (h : IsH w lo hi N bs l) : hi ≤ w.heap.size := by
  obtain ⟨v0, b, k, hc⟩ := h.ev
  exact hc.top
theorem most_big : 1000 < most := by decide
theorem new_h (A : Option Addr) (n c : Nat) (hC : Kd.C (Kd.int .u64) wr A n (ofN bs)) (hn : n = bs.length) (hc : n ≤ c) (hok : okB bs) :
    Calls Try.prog 31 #[.slice A n c] wr fun r w' => ∃ N, r = .returned (.tuple #[.pointer (some ⟨N, 0, none⟩), .int .i64 0]) ∧ IsH w' wr.heap.size w'.heap.size N bs [] ∧ Only (fun _ => False) wr w' := by
  refine (new_walk wr A n c bs hC hn hc (by have := hok.1; omega)).mono ?_
  rintro r w' (⟨_, N, b, k, v0, rfl, hh, ho⟩ | ⟨h, _⟩)
  · exact ⟨N, rfl, ⟨⟨v0, b, k, hh⟩, by simp, hok⟩, ho⟩
  · exact absurd hok h
theorem new_bad (A : Option Addr) (n c : Nat) (hC : Kd.C (Kd.int .u64) wr A n (ofN bs)) (hn : n = bs.length) (hc : n ≤ c) (hl : n ≤ 1000) (hok : ¬ okB bs) :
    Calls Try.prog 31 #[.slice A n c] wr fun r w' => r = .returned (.tuple #[.pointer none, .int .i64 1]) ∧ Only (fun _ => False) wr w' := by
  refine (new_walk wr A n c bs hC hn hc hl).mono ?_
  rintro r w' (⟨h, _⟩ | ⟨_, h⟩)
  · exact absurd h hok
  · exact h
theorem put_h (h : IsH w lo hi N bs l) (x : Nat) (hl : l.length < 1000) : Calls Try.prog 32 #[.pointer (some ⟨N, 0, none⟩), .int .u64 (x : Int)] w fun r w' => r = .returned (.int .i64 0) ∧ IsH w' lo hi N bs (l ++ [x]) ∧ Only (fun j => lo ≤ j ∧ j < hi) w w' := by
  obtain ⟨v0, b, k, hc⟩ := h.ev
  have hm := most_big
  have hb := bk_le bs x
  have hi' : bk bs x < (bucks bs l).length := by rw [bucks_length]; omega
  have hget : (bucks bs l)[bk bs x] = (l.countP (fun y => decide (bk bs y = bk bs x)), false) := by
    have := bucks_get bs l (bk bs x) (by omega)
    rw [List.getElem?_eq_getElem hi'] at this
    exact Option.some.inj this
  have hle : l.countP (fun y => decide (bk bs y = bk bs x)) ≤ l.length := List.countP_le_length
  refine (put_walk w lo hi N b k v0 bs (bucks bs l) (l.length, false) (satS l.sum) x hc h.ok.1 (by show l.length ≤ most; omega) (satS_le _) (bk bs x) hi' rfl (by rw [hget]; show l.countP _ ≤ most; omega)).mono ?_
  rintro r w' ⟨rfl, hh, ho⟩
  rw [hget, bucks_put bs l x (by omega), show addC (l.length, false) 1 = ((l ++ [x]).length, false) by unfold addC; rw [if_neg (by simp; omega)]; simp, add_sat, show l.sum + x = (l ++ [x]).sum by simp] at hh
  refine ⟨rfl, ⟨⟨v0, b, k, hh⟩, by simp; omega, h.ok⟩, ho.mono ?_⟩
  rintro j (rfl | rfl)
  · exact hc.wn
  · exact hc.wb
theorem count_h (h : IsH w lo hi N bs l) : Calls Try.prog 35 #[.pointer (some ⟨N, 0, none⟩)] w fun r w' => r = .returned (.agg #[.int .u64 (l.length : Int), .bool false]) ∧ Only (fun _ => False) w w' := by
  obtain ⟨v0, b, k, hc⟩ := h.ev
  exact count_walk w lo hi N b k v0 bs _ _ _ hc
theorem sum_h (h : IsH w lo hi N bs l) : Calls Try.prog 36 #[.pointer (some ⟨N, 0, none⟩)] w fun r w' => r = .returned (.agg #[.int .u64 ((satS l.sum).1 : Int), .bool (satS l.sum).2]) ∧ Only (fun _ => False) w w' := by
  obtain ⟨v0, b, k, hc⟩ := h.ev
  exact sum_walk w lo hi N b k v0 bs _ _ _ hc
theorem buckets_h (h : IsH w lo hi N bs l) : Calls Try.prog 33 #[.pointer (some ⟨N, 0, none⟩)] w fun r w' => ∃ A q, r = .returned (.slice A (bs.length + 1) q) ∧ Kd.R k26 26 w' w.heap.size (fun _ => True) (.slice A (bs.length + 1) q) ((bucks bs l).map toS) ∧ Only (fun _ => False) w w' := by
  obtain ⟨v0, b, k, hc⟩ := h.ev
  exact buckets_walk w lo hi N b k v0 bs _ _ _ hc h.ok.1
theorem full_h (h : IsH w lo hi N bs l) : Calls Try.prog 41 #[.pointer (some ⟨N, 0, none⟩)] w fun r w' => r = .returned (.bool (satS l.sum).2) ∧ Only (fun _ => False) w w' := by
  obtain ⟨v0, b, k, hc⟩ := h.ev
  refine full_walk w lo hi N b k v0 bs _ _ _ hc h.ok.1 ?_
  intro x hx
  obtain ⟨i, _, rfl⟩ := List.mem_map.1 hx
  rfl
theorem join_h (h : IsH w lo hi N bs l) (o : IsH w lo' hi' N' bs l') (dj : hi ≤ lo' ∨ hi' ≤ lo) (hl : l.length + l'.length ≤ 1000) :
    Calls Try.prog 40 #[.pointer (some ⟨N, 0, none⟩), .pointer (some ⟨N', 0, none⟩)] w fun r w' => r = .returned (.int .i64 0) ∧ IsH w' lo hi N bs (l ++ l') ∧ Only (fun j => lo ≤ j ∧ j < hi) w w' := by
  obtain ⟨v0, b, k, hc⟩ := h.ev
  obtain ⟨v0', b', k', hc'⟩ := o.ev
  have hm := most_big
  refine (join_walk w lo hi N b k v0 lo' hi' N' b' k' v0' bs _ _ _ _ _ _ hc hc' dj h.ok.1 ?_ (by show l.length ≤ most; omega) (satS_le _) (bucks bs (l ++ l')) (bucks_length _ _) ?_).mono ?_
  · intro x hx
    obtain ⟨i, _, rfl⟩ := List.mem_map.1 hx
    have : l.countP (fun y => decide (bk bs y = i)) ≤ l.length := List.countP_le_length
    show l.countP _ ≤ most; omega
  · intro j h1 h2
    rw [bucks_length] at h1
    have e1 : ∀ m, (hj : j < (bucks bs m).length) → (bucks bs m)[j] = (m.countP (fun y => decide (bk bs y = j)), false) := fun m hj => by
      have := bucks_get bs m j h1
      rw [List.getElem?_eq_getElem hj] at this
      exact Option.some.inj this
    rw [bucks_get bs _ j h1, e1, e1, bucks_join bs l l' (by omega) j h1]
  · rintro r w' ⟨rfl, hj⟩
    have hh := hj.h
    rw [join_sat, show joinC (l.length, false) (l'.length, false) = ((l ++ l').length, false) by unfold joinC addC; rw [if_neg (by simp), if_neg (by simp; omega)]; simp, show l.sum + l'.sum = (l ++ l').sum by simp] at hh
    refine ⟨rfl, ⟨⟨v0, b, k, hh⟩, by simp; omega, h.ok⟩, hj.k.mono ?_⟩
    rintro j (rfl | rfl)
    · exact hc.wn
    · exact hc.wb
theorem joinlen_h {bs' : List Nat} (h : IsH w lo hi N bs l) (o : IsH w lo' hi' N' bs' l') (hne : bs.length ≠ bs'.length) :
    Calls Try.prog 40 #[.pointer (some ⟨N, 0, none⟩), .pointer (some ⟨N', 0, none⟩)] w fun r w' => r = .returned (.int .i64 1) ∧ Only (fun _ => False) w w' := by
  obtain ⟨v0, b, k, hc⟩ := h.ev
  obtain ⟨v0', b', k', hc'⟩ := o.ev
  exact joinlen_walk w lo hi N b k v0 lo' hi' N' b' k' v0' bs bs' _ _ _ _ _ _ hc hc' hne
end
theorem rhist_walk (w : World) (A A2 : Option Addr) (n c m c2 : Nat) (bs l : List Nat) (hC : Kd.C (Kd.int .u64) w A n (ofN bs)) (hn : n = bs.length) (hc : n ≤ c) (hC2 : Kd.C (Kd.int .u64) w A2 m (ofN l)) (hm : m = l.length) (hc2 : m ≤ c2) (hl : l.length ≤ 1000) (hb : bs.length ≤ 900) (hw : ∀ x ∈ l, x < 18446744073709551616) :
    Calls Try.prog 49 #[.slice A n c, .slice A2 m c2] w fun r w' => ∃ A3 c3, r = .returned (.tuple #[.slice A3 (n + 1) c3, .int .u64 ((satS l.sum).1 : Int), .bool (satS l.sum).2]) ∧ Kd.C (Kd.int .u64) w' A3 (n + 1) (ofN (cnts bs l)) ∧ Only (fun _ => False) w w' := by
  have e : n = (ofN bs).length := by rw [ofN_length, hn]
  have e2 : m = (ofN l).length := by rw [ofN_length, hm]
  subst e e2
  refine (tallyroomref11_Hist.calls 3000 A c (ofN bs) A2 c2 (ofN l) _ _ _ w hC hc hC2 hc2 (rhist_f bs l hl hb hw)).mono ?_
  rintro r w' ⟨v, rfl, hR, hB⟩
  obtain ⟨A3, m3, c3, rfl, hm3⟩ := R_sl hR
  obtain ⟨_, _, hC3⟩ := Kd.R_reads' hR
  have hm4 : m3 = (ofN bs).length + 1 := by rw [hm3, ofN_length, cnts_length, ofN_length]
  subst hm4
  rw [← hm3] at hC3
  exact ⟨A3, c3, rfl, hC3, Only.of_below hB (fun k hk _ => hk)⟩
theorem bucks_cnts (bs l : List Nat) (i : Nat) (hi : i < (bucks bs l).length) : (bucks bs l)[i] = ((cnts bs l).getD i 0, false) := by
  have hi' : i < bs.length + 1 := by rw [bucks_length] at hi; exact hi
  have := bucks_get bs l i hi'
  rw [List.getElem?_eq_getElem hi] at this
  rw [cnts_getD bs l i hi']
  exact Option.some.inj this
set_option maxHeartbeats 8000000 in
set_option maxRecDepth 1000000 in
theorem shows_walk (w : World) (lo hi N : Nat) (A A2 : Option Addr) (n c m c2 : Nat) (bs l : List Nat) (h : IsH w lo hi N bs l) (hC : Kd.C (Kd.int .u64) w A n (ofN bs)) (hn : n = bs.length) (hc : n ≤ c) (hC2 : Kd.C (Kd.int .u64) w A2 m (ofN l)) (hm : m = l.length) (hc2 : m ≤ c2) (hw : ∀ x ∈ l, x < 18446744073709551616) :
    Calls Try.prog 39 #[.pointer (some ⟨N, 0, none⟩), .slice A n c, .slice A2 m c2] w fun r w' => r = .returned (.bool true) ∧ Only (fun _ => False) w w' := by
  have hfew := h.few
  have h32 := h.ok.1
  have key := Aside0.mk (rhist_walk w A A2 n c m c2 bs l hC hn hc hC2 hm hc2 hfew (by omega) hw)
  have H := Aside0.mk (And.intro h (Only.refl (fun _ => False) w))
  clear h hC hC2 hw
  rw [← hn] at h32
  rw [← hm] at hfew
  replace hn := Aside0.mk hn
  replace hm := Aside0.mk hm
  have hsat := Aside0.mk (fun W (hW : IsH W lo hi N bs l) => And.intro (sum_h hW) (full_h hW))
  have hcnt := Aside0.mk (fun W (hW : IsH W lo hi N bs l) => count_h hW)
  rw [← hm.out] at hcnt
  generalize satS l.sum = sv at key hsat
  obtain ⟨s1, s2⟩ := sv
  simp only at key hsat
  go_enter Try.func39, Try.ntmps39
  go_wp2_with (first
    | (go_at_call 49; refine key.out.mono ?_; rintro r w1 ⟨A3, c3, rfl, hC3, ho⟩; replace H := Aside0.mk (And.intro (H.out.1.keep ho) (H.out.2.trans ho)); replace hC3 := Aside0.mk hC3; clear ho)
    | (go_at_call 33; refine (buckets_h H.out.1).mono ?_; rintro r w2 ⟨A4, q4, rfl, hR, ho⟩; obtain ⟨_, _, hC4⟩ := Kd.R_reads' hR; rw [show ((bucks bs l).map toS).length = n + 1 by rw [List.length_map, bucks_length, hn.out]] at hC4; rw [← hn.out]; replace hC4 := Aside0.mk hC4; replace H := Aside0.mk (And.intro (H.out.1.keep ho) (H.out.2.trans ho)); replace hC3 := Aside0.mk (Kd.C_below hC3.out (below_of ho)); clear ho hR))
  go_loopg [11] (n + 2) (fun kq v11 wr => ∃ i : Nat, v11 = .int .i64 (i : Int) ∧ i ≤ n + 1 ∧ n + 1 - i < kq ∧ Aside0 (Only (fun _ => False) w2 wr))
  case atStart => exact ⟨0, rfl, by omega, by omega, ⟨Only.refl _ w2⟩⟩
  case round =>
    obtain ⟨i, rfl, hi1, hk, HO⟩ := hrel
    obtain ⟨k1, rfl⟩ : ∃ m, gk = m + 1 := ⟨gk - 1, by omega⟩
    by_cases hin : i < n + 1
    · have hinI : (i : Int) < ((n : Int) + 1) := by omega
      have hi0 : (0 : Int) ≤ (i : Int) := by omega
      have hib : i < (bucks bs l).length := by rw [bucks_length, ← hn.out]; exact hin
      obtain ⟨ad, rfl, hx⟩ := num_at (Kd.C_below hC3.out (below_of HO.out)) i (by rw [cnts_length, ← hn.out]; exact hin)
      obtain ⟨ad4, rfl, hy, hz⟩ := clone_at (Kd.C_below hC4.out (below_of HO.out)) i hib
      rw [bucks_cnts bs l i hib] at hy hz
      generalize (cnts bs l).getD i 0 = x at hx hy hz
      simp only at hy hz
      go_wp2
      go_quiet (fail)
      go_wp2
      go_roundg k1
      case measure => omega
      case rel => exact ⟨i + 1, by first | rfl | simp, by omega, by omega, ⟨HO.out.drewN _⟩⟩
    · have hinI : ¬ (i : Int) < ((n : Int) + 1) := by omega
      replace H := Aside0.mk (And.intro (H.out.1.keep HO.out) (H.out.2.trans HO.out))
      go_wp2_with (first
        | (go_at_call 35; refine (hcnt.out _ H.out.1).mono ?_; rintro r w5 ⟨rfl, ho⟩; replace H := Aside0.mk (And.intro (H.out.1.keep ho) (H.out.2.trans ho)); clear ho)
        | (go_at_call 36; refine (hsat.out _ H.out.1).1.mono ?_; rintro r w6 ⟨rfl, ho⟩; replace H := Aside0.mk (And.intro (H.out.1.keep ho) (H.out.2.trans ho)); clear ho)
        | (go_at_call 41; refine (hsat.out _ H.out.1).2.mono ?_; rintro r w7 ⟨rfl, ho⟩; replace H := Aside0.mk (And.intro (H.out.1.keep ho) (H.out.2.trans ho)); clear ho))
      go_ret
      exact ⟨by first | rfl | simp, H.out.2⟩
end Go.Proofs.Ytdcbhakclhbdpaa.Hi
