/- What Join of two histograms does, and what no histogram answers. No conditions but bounds. -/
import Derived.Test.YtdcbhakclhbdpaaHk
namespace Go.Proofs.Ytdcbhakclhbdpaa.Hi
open Go.RowKit Go.Shelf Go.Proofs.YtdcbhakclhbdpaaW.PrintWords Go.Proofs.YtdcbhakclhbdpaaW.PrintLast
open Go.Proofs.Ytdcbhakclhbdpaa.Ob Go.Proofs.Ytdcbhakclhbdpaa.XH
set_option linter.unusedSimpArgs false
set_option linter.unusedVariables false

theorem join_walk1 (c d : Nat × Bool) (hc : c.1 ≤ most) (W : World) : Calls Try.prog 18 #[.agg #[.int .u64 (c.1 : Int), .bool c.2], .agg #[.int .u64 (d.1 : Int), .bool d.2]] W fun r w' => r = .returned (.agg #[.int .u64 ((joinC c d).1 : Int), .bool (joinC c d).2]) ∧ Only (fun _ => False) W w' := by
  refine (sat_Count_Join.calls _ _ _ _ _ _ W (join_f c d hc)).mono ?_
  rintro r w' ⟨rfl, hb⟩
  exact ⟨rfl, Only.of_below hb (fun k hk _ => hk)⟩
set_option maxHeartbeats 4000000 in
theorem put_nil (x : Int) (w : World) : Calls Try.prog 32 #[.pointer none, .int .u64 x] w fun r w' => r = .returned (.int .i64 3) ∧ w' = w := by
  go_enter Try.func32, Try.ntmps32
  go_wp2
  go_ret
  exact ⟨rfl, rfl⟩
set_option maxHeartbeats 4000000 in
theorem join_nil (p : Value) (w : World) : Calls Try.prog 40 #[.pointer none, p] w fun r w' => r = .returned (.int .i64 3) ∧ w' = w := by
  go_enter Try.func40, Try.ntmps40
  go_wp2
  go_ret
  exact ⟨rfl, rfl⟩
set_option maxHeartbeats 4000000 in
theorem join_nil2 (N : Nat) (w : World) : Calls Try.prog 40 #[.pointer (some ⟨N, 0, none⟩), .pointer none] w fun r w' => r = .returned (.int .i64 3) ∧ w' = w := by
  go_enter Try.func40, Try.ntmps40
  go_wp2
  go_ret
  exact ⟨rfl, rfl⟩
set_option maxHeartbeats 4000000 in
theorem buckets_nil (w : World) : Calls Try.prog 33 #[.pointer none] w fun r w' => r = .returned (.slice none 0 0) ∧ w' = w := by
  go_enter Try.func33, Try.ntmps33
  go_wp2
  go_ret
  exact ⟨rfl, rfl⟩
set_option maxHeartbeats 4000000 in
theorem full_nil (w : World) : Calls Try.prog 41 #[.pointer none] w fun r w' => r = .returned (.bool false) ∧ w' = w := by
  go_enter Try.func41, Try.ntmps41
  go_wp2
  go_ret
  exact ⟨by first | rfl | simp, rfl⟩
set_option maxHeartbeats 4000000 in
theorem count_nil (w : World) : Calls Try.prog 35 #[.pointer none] w fun r w' => r = .returned (.agg #[.int .u64 0, .bool false]) ∧ Only (fun _ => False) w w' := by
  go_enter Try.func35, Try.ntmps35
  go_wp2
  refine bodyPost_ret (results_cell_row rfl _ _ w.heap.size 26 #[.int .u64 0, .bool false] (0, 0) _ rfl (blk_new w _) Try.underlying26 rfl (by kernel_rfl)) rfl ?_
  exact ⟨rfl, (Only.refl _ w).alloc _⟩
set_option maxHeartbeats 4000000 in
theorem sum_nil (w : World) : Calls Try.prog 36 #[.pointer none] w fun r w' => r = .returned (.agg #[.int .u64 0, .bool false]) ∧ Only (fun _ => False) w w' := by
  go_enter Try.func36, Try.ntmps36
  go_wp2
  refine bodyPost_ret (results_cell_row rfl _ _ w.heap.size 26 #[.int .u64 0, .bool false] (0, 0) _ rfl (blk_new w _) Try.underlying26 rfl (by kernel_rfl)) rfl ?_
  exact ⟨rfl, (Only.refl _ w).alloc _⟩
theorem equal_loop (bs : List Nat) (hl : bs.length ≤ 1000) : ∀ (d i k : Nat), i + d = bs.length → d < k → slices_Equal_uint64_uint64.l0 k (ofN bs) (ofN bs) (bs.length : Int) (i : Int) = some true := by
  intro d
  induction d with
  | zero =>
    intro i k hi hk
    obtain ⟨k, rfl⟩ : ∃ m, k = m + 1 := ⟨k - 1, by omega⟩
    rw [slices_Equal_uint64_uint64.l0, if_neg (by omega)]
  | succ d ih =>
    intro i k hi hk
    obtain ⟨k, rfl⟩ : ∃ m, k = m + 1 := ⟨k - 1, by omega⟩
    rw [slices_Equal_uint64_uint64.l0, if_pos (by omega), if_pos (by omega), if_pos (by rw [ofN_length]; omega), if_pos (by rw [ofN_length]; omega), if_pos rfl, show wrap64 ((i : Int) + 1) = ((i + 1 : Nat) : Int) by rw [IntWalk.wrap64_in _ (by omega)]; omega]
    exact ih (i + 1) k (by omega) (by omega)
theorem equal_walk (W : World) (A A' : Option Addr) (n c c' : Nat) (bs : List Nat) (hC : Kd.C (Kd.int .u64) W A n (ofN bs)) (hC' : Kd.C (Kd.int .u64) W A' n (ofN bs)) (hn : n = bs.length) (hc : n ≤ c) (hc' : n ≤ c') (hl : n ≤ 1000) :
    Calls Try.prog 50 #[.slice A n c, .slice A' n c'] W fun r w' => r = .returned (.bool true) ∧ ∃ j, w' = W.drewN j := by
  have e : n = (ofN bs).length := by rw [ofN_length, hn]
  subst e
  refine (slices_Equal_uint64_uint64.calls (bs.length + 1) A c (ofN bs) A' c' (ofN bs) true W hC hc hC' hc' ?_).mono ?_
  · unfold slices_Equal_uint64_uint64.f
    rw [if_pos rfl, ofN_length]
    exact equal_loop bs (by rw [ofN_length] at hl; exact hl) bs.length 0 _ (by omega) (by omega)
  · rintro r w' ⟨rfl, j, rfl⟩
    exact ⟨rfl, j, rfl⟩
theorem differ_walk (W : World) (A A' : Option Addr) (n n' c c' : Nat) (bs bs' : List Nat) (hC : Kd.C (Kd.int .u64) W A n (ofN bs)) (hC' : Kd.C (Kd.int .u64) W A' n' (ofN bs')) (hn : n = bs.length) (hn' : n' = bs'.length) (hc : n ≤ c) (hc' : n' ≤ c') (hne : n ≠ n') :
    Calls Try.prog 50 #[.slice A n c, .slice A' n' c'] W fun r w' => r = .returned (.bool false) ∧ ∃ j, w' = W.drewN j := by
  have e : n = (ofN bs).length := by rw [ofN_length, hn]
  have e' : n' = (ofN bs').length := by rw [ofN_length, hn']
  subst e e'
  refine (slices_Equal_uint64_uint64.calls 1 A c (ofN bs) A' c' (ofN bs') false W hC hc hC' hc' ?_).mono ?_
  · unfold slices_Equal_uint64_uint64.f
    rw [if_neg (by omega)]
  · rintro r w' ⟨rfl, j, rfl⟩
    exact ⟨rfl, j, rfl⟩
/-- The two within Join. -/
structure Jn (w W : World) (lo hi N b k : Nat) (v0 : Value) (lo' hi' N' b' k' : Nat) (v0' : Value) (bs : List Nat) (cs cs' : List (Nat × Bool)) (c s c' s' : Nat × Bool) : Prop where
  h : Hc W lo hi N b k v0 bs cs c s
  o : Hc W lo' hi' N' b' k' v0' bs cs' c' s'
  k : Only (fun j => j = N ∨ j = b) w W
  dj : hi ≤ lo' ∨ hi' ≤ lo
section
variable {w W W' : World} {lo hi N b k lo' hi' N' b' k' : Nat} {v0 v0' : Value} {bs : List Nat} {cs cs' : List (Nat × Bool)} {c s c' s' : Nat × Bool}
theorem Jn.keep (h : Jn w W lo hi N b k v0 lo' hi' N' b' k' v0' bs cs cs' c s c' s') (o : Only (fun _ => False) W W') : Jn w W' lo hi N b k v0 lo' hi' N' b' k' v0' bs cs cs' c s c' s' :=
  ⟨h.h.keep o, h.o.keep o, h.k.trans (o.mono fun _ e => e.elim), h.dj⟩
theorem Jn.drew (h : Jn w W lo hi N b k v0 lo' hi' N' b' k' v0' bs cs cs' c s c' s') : Jn w W.drew lo hi N b k v0 lo' hi' N' b' k' v0' bs cs cs' c s c' s' := h.keep (Only.refl _ W).drew
theorem Jn.drewN (h : Jn w W lo hi N b k v0 lo' hi' N' b' k' v0' bs cs cs' c s c' s') (m : Nat) : Jn w (W.drewN m) lo hi N b k v0 lo' hi' N' b' k' v0' bs cs cs' c s c' s' := h.keep ((Only.refl _ W).drewN m)
theorem Jn.far (h : Jn w W lo hi N b k v0 lo' hi' N' b' k' v0' bs cs cs' c s c' s') : ∀ j, lo' ≤ j → j < hi' → ¬ (j = N ∨ j = b) := fun j h1 h2 e => by
  have := h.h.wn; have := h.h.wb; have := h.dj
  rcases e with rfl | rfl <;> omega
theorem Jn.setB (h : Jn w W lo hi N b k v0 lo' hi' N' b' k' v0' bs cs cs' c s c' s') (i : Nat) (d : Nat × Bool) (hlt : i < cs.length) : Jn w ((W.setCell ⟨b, i * 2, none⟩ (.int .u64 (d.1 : Int))).setCell ⟨b, i * 2 + 1, none⟩ (.bool d.2)) lo hi N b k v0 lo' hi' N' b' k' v0' bs (cs.set i d) cs' c s c' s' := by
  have o : Only (fun j => j = N ∨ j = b) W ((W.setCell ⟨b, i * 2, none⟩ (.int .u64 (d.1 : Int))).setCell ⟨b, i * 2 + 1, none⟩ (.bool d.2)) := ((Only.refl (fun j => j = N ∨ j = b) W).setCell ⟨b, i * 2, none⟩ _ (.inr rfl)).setCell ⟨b, i * 2 + 1, none⟩ _ (.inr rfl)
  exact ⟨h.h.setB i d hlt, h.o.only o h.far, h.k.trans o, h.dj⟩
theorem Jn.fin (h : Jn w W lo hi N b k v0 lo' hi' N' b' k' v0' bs cs cs' c s c' s') {x y : Nat × Bool} : Jn w ((((W.setCell ⟨N, 2, none⟩ (.int .u64 (x.1 : Int))).setCell ⟨N, 3, none⟩ (.bool x.2)).setCell ⟨N, 4, none⟩ (.int .u64 (y.1 : Int))).setCell ⟨N, 5, none⟩ (.bool y.2)) lo hi N b k v0 lo' hi' N' b' k' v0' bs cs cs' x y c' s' := by
  have o : Only (fun j => j = N ∨ j = b) W ((((W.setCell ⟨N, 2, none⟩ (.int .u64 (x.1 : Int))).setCell ⟨N, 3, none⟩ (.bool x.2)).setCell ⟨N, 4, none⟩ (.int .u64 (y.1 : Int))).setCell ⟨N, 5, none⟩ (.bool y.2)) := ((((Only.refl (fun j => j = N ∨ j = b) W).setCell ⟨N, 2, none⟩ _ (.inl rfl)).setCell ⟨N, 3, none⟩ _ (.inl rfl)).setCell ⟨N, 4, none⟩ _ (.inl rfl)).setCell ⟨N, 5, none⟩ _ (.inl rfl)
  exact ⟨(h.h.setC x).setS y, h.o.only o h.far, h.k.trans o, h.dj⟩
end
/-- The same words for the clones of the other one's buckets. -/
theorem R_away {W W' : World} {B lo hi N b k : Nat} {v0 v : Value} {bs : List Nat} {cs : List (Nat × Bool)} {c s : Nat × Bool} {Z : List S26} (h : Hc W lo hi N b k v0 bs cs c s) (hB : hi ≤ B) (hR : Kd.R k26 26 W B (fun _ => True) v Z) (o : Only (fun j => j = N ∨ j = b) W W') : Kd.R k26 26 W' B (fun _ => True) v Z :=
  R_only hR o (fun j _ hj _ e => by have := h.wn; have := h.wb; rcases e with rfl | rfl <;> omega)
set_option maxHeartbeats 8000000 in
set_option maxRecDepth 1000000 in
theorem joinlen_walk (w : World) (lo hi N b k : Nat) (v0 : Value) (lo' hi' N' b' k' : Nat) (v0' : Value) (bs bs' : List Nat) (cs cs' : List (Nat × Bool)) (c s c' s' : Nat × Bool) (h : Hc w lo hi N b k v0 bs cs c s) (o : Hc w lo' hi' N' b' k' v0' bs' cs' c' s') (hne : bs.length ≠ bs'.length) :
    Calls Try.prog 40 #[.pointer (some ⟨N, 0, none⟩), .pointer (some ⟨N', 0, none⟩)] w fun r w' => r = .returned (.int .i64 1) ∧ Only (fun _ => False) w w' := by
  obtain ⟨A, q, rfl, hq, hC⟩ := h.bounds
  obtain ⟨A', q', rfl, hq', hC'⟩ := o.bounds
  have c0 := h.cells.1.1
  have d0 := o.cells.1.1
  have key := Aside0.mk (fun m => differ_walk (w.drewN m) A A' bs.length bs'.length q q' bs bs' (Kd.C_drewN hC m) (Kd.C_drewN hC' m) rfl rfl hq hq' hne)
  clear h o hC hC'
  generalize bs.length = n at key c0 hne hq
  generalize bs'.length = n' at key d0 hne hq'
  go_enter Try.func40, Try.ntmps40
  go_wp2
  go_quiet (first | (go_at_call 50; exact Calls.quiet_of (key.out _)))
  go_wp2
  go_ret
  exact ⟨rfl, (Only.refl _ w).drewN _⟩
/-- A clone's cells. -/
theorem clone_at {W : World} {A : Option Addr} {m : Nat} {cs : List (Nat × Bool)} (hC : Kd.C k26 W A m (cs.map toS)) (i : Nat) (hi : i < cs.length) : ∃ ad, A = some ad ∧ W.cell? (ad.add (i * 2)) = some (.int .u64 ((cs[i]).1 : Int)) ∧ W.cell? ⟨(ad.add (i * 2)).block, (ad.add (i * 2)).off + 1, none⟩ = some (.bool (cs[i]).2) := by
  have hm : (cs.map toS).length = m := hC.1
  rw [List.length_map] at hm
  obtain ⟨ad, e, hx, hy⟩ := at_T26 hC (i : Int) (by omega) (by omega)
  have e2 : rd_T26 (cs.map toS) (i : Int) = toS cs[i] := by
    unfold rd_T26
    rw [Int.toNat_natCast, List.getD_eq_getElem?_getD, List.getElem?_map, List.getElem?_eq_getElem hi]; rfl
  rw [e2, Int.toNat_natCast] at hx hy
  exact ⟨ad, e, hx, hy⟩
/-- The buckets within Join: the first i are joined. -/
structure DD (n i : Nat) (D T cs : List (Nat × Bool)) : Prop where
  len : D.length = n + 1
  lo : ∀ j, j < i → D[j]? = T[j]?
  hi : ∀ j, i ≤ j → D[j]? = cs[j]?
theorem DD.next {n i : Nat} {D T cs : List (Nat × Bool)} {x : Nat × Bool} (h : DD n i D T cs) (hi : i < n + 1) (hx : T[i]? = some x) : DD n (i + 1) (D.set i x) T cs := by
  refine ⟨by rw [List.length_set]; exact h.len, fun j hj => ?_, fun j hj => ?_⟩
  · rw [List.getElem?_set]
    by_cases e : i = j
    · subst e; rw [if_pos rfl, if_pos (by rw [h.len]; exact hi), hx]
    · rw [if_neg e]; exact h.lo j (by omega)
  · rw [List.getElem?_set, if_neg (by omega)]; exact h.hi j (by omega)
theorem DD.all {n : Nat} {D T cs : List (Nat × Bool)} (h : DD n (n + 1) D T cs) (hT : T.length = n + 1) : D = T := by
  apply List.ext_getElem?
  intro j
  by_cases e : j < n + 1
  · exact h.lo j e
  · rw [List.getElem?_eq_none (by rw [h.len]; omega), List.getElem?_eq_none (by omega)]
set_option maxHeartbeats 16000000 in
set_option maxRecDepth 1000000 in
theorem join_walk (w : World) (lo hi N b k : Nat) (v0 : Value) (lo' hi' N' b' k' : Nat) (v0' : Value) (bs : List Nat) (cs cs' : List (Nat × Bool)) (c s c' s' : Nat × Bool) (h : Hc w lo hi N b k v0 bs cs c s) (o : Hc w lo' hi' N' b' k' v0' bs cs' c' s') (dj : hi ≤ lo' ∨ hi' ≤ lo) (hl : bs.length ≤ 32) (hcs : ∀ x ∈ cs, x.1 ≤ most) (hc : c.1 ≤ most) (hs : s.1 ≤ most) (T : List (Nat × Bool)) (hT : T.length = bs.length + 1) (hTj : ∀ j (h1 : j < cs.length) (h2 : j < cs'.length), T[j]? = some (joinC cs[j] cs'[j])) :
    Calls Try.prog 40 #[.pointer (some ⟨N, 0, none⟩), .pointer (some ⟨N', 0, none⟩)] w fun r w' => r = .returned (.int .i64 0) ∧ Jn w w' lo hi N b k v0 lo' hi' N' b' k' v0' bs T cs' (joinC c c') (joinC s s') c' s' := by
  obtain ⟨A, q, rfl, hq, hC⟩ := h.bounds
  obtain ⟨A', q', rfl, hq', hC'⟩ := o.bounds
  obtain ⟨⟨c0, c1⟩, c2, c3, c4, c5⟩ := h.cells
  have d0 := o.cells.1.1
  have htop := Aside0.mk h.top
  have hlc := h.len
  have hlc' := o.len
  have key := Aside0.mk (fun m => equal_walk (w.drewN m) A A' bs.length q q' bs (Kd.C_drewN hC m) (Kd.C_drewN hC' m) rfl hq hq' (by omega))
  have H := Aside0.mk (Jn.mk h o (Only.refl _ w) dj)
  have hbk := Aside0.mk (fun m => buckets_walk (w.drewN m) lo' hi' N' b' k' _ bs cs' c' s' (H.out.drewN m).o hl)
  clear h o hC hC'
  replace hcs := Aside0.mk hcs
  replace hc := Aside0.mk hc
  replace hs := Aside0.mk hs
  replace hT := Aside0.mk hT
  replace hTj := Aside0.mk hTj
  replace hlc := Aside0.mk hlc
  replace hlc' := Aside0.mk hlc'
  generalize hn : bs.length = n at key hbk c0 c1 d0 hq hq' H hlc hlc' hT hl
  replace hn := Aside0.mk hn
  go_enter Try.func40, Try.ntmps40
  go_wp2
  go_quiet (first | (go_at_call 50; exact Calls.quiet_of (key.out _)))
  go_wp2_with (go_at_call 33; refine (hbk.out _).mono ?_; rintro r w2 ⟨A2, q2, rfl, hR, ho⟩; have HR := Aside0.mk (show Kd.R k26 26 w2 w.heap.size (fun _ => True) (.slice A2 (n + 1) q2) (cs'.map toS) from hR); replace H := Aside0.mk ((H.out.drewN _).keep ho); clear hR ho c0 c1 c2 c3 c4 c5 d0 key hbk)
  go_loopg [28] (n + 2) (fun kq v28 wr => ∃ (i : Nat) (D : List (Nat × Bool)), v28 = .int .i64 (i : Int) ∧ i ≤ n + 1 ∧ n + 1 - i < kq ∧ Aside0 (DD n i D T cs) ∧ Aside0 (Jn w wr lo hi N b k (.slice A n q) lo' hi' N' b' k' (.slice A' n q') bs D cs' c s c' s') ∧ Aside0 (Kd.R k26 26 wr w.heap.size (fun _ => True) (.slice A2 (n + 1) q2) (cs'.map toS)))
  case atStart => exact ⟨0, cs, rfl, by omega, by omega, ⟨⟨by rw [hlc.out], fun j hj => by omega, fun j _ => rfl⟩⟩, H, HR⟩
  case round =>
    clear H HR
    obtain ⟨i, D, rfl, hi1, hk, HD, H, HR⟩ := hrel
    obtain ⟨k1, rfl⟩ : ∃ m, gk = m + 1 := ⟨gk - 1, by omega⟩
    by_cases hin : i < n + 1
    · have hinI : (i : Int) < ((n : Int) + 1) := by omega
      have hi0 : (0 : Int) ≤ (i : Int) := by omega
      have hic : i < cs.length := by rw [hlc.out]; exact hin
      have hic' : i < cs'.length := by rw [hlc'.out]; exact hin
      have hiD : i < D.length := by rw [HD.out.len]; exact hin
      have hDi : D[i] = cs[i] := by
        have := HD.out.hi i (Nat.le_refl _)
        rw [List.getElem?_eq_getElem hiD, List.getElem?_eq_getElem hic] at this
        exact Option.some.inj this
      obtain ⟨ad, rfl, hx, hy⟩ := clone_at (Kd.R_reads' HR.out).2.2 i hic'
      have hTi := Aside0.mk (hTj.out i hic hic')
      have hset := Aside0.mk (fun W (hW : Jn w W lo hi N b k (.slice A n q) lo' hi' N' b' k' (.slice A' n q') bs D cs' c s c' s') => hW.setB i (joinC cs[i] cs'[i]) hiD)
      have hat := Aside0.mk (fun W (hW : Jn w W lo hi N b k (.slice A n q) lo' hi' N' b' k' (.slice A' n q') bs D cs' c s c' s') => hW.h.at_ i hiD)
      rw [hDi] at hat
      have hdm := Aside0.mk (hcs.out _ (List.getElem_mem hic))
      have hnx := Aside0.mk (HD.out.next hin hTi.out)
      clear hDi hTi
      generalize cs[i] = d at hset hat hdm hnx
      generalize cs'[i] = e at hx hy hset hnx
      have HB := Aside0.mk (show ∀ W, Only (fun _ => False) (wr.alloc (.cells #[.int .u64 (e.1 : Int), .bool e.2] 26)) W → W.cell? ⟨wr.heap.size, 0, none⟩ = some (.int .u64 (e.1 : Int)) ∧ W.cell? ⟨wr.heap.size, 1, none⟩ = some (.bool e.2) from fun W hW => ⟨(((Row.new wr [.int .u64 (e.1 : Int), .bool e.2] 26).only hW id) 0 _ rfl).1, (((Row.new wr [.int .u64 (e.1 : Int), .bool e.2] 26).only hW id) 1 _ rfl).1⟩)
      have HN := Aside0.mk (H.out.keep ((Only.refl _ wr).alloc (.cells #[.int .u64 (e.1 : Int), .bool e.2] 26)))
      have HRN := Aside0.mk (R_away H.out.h htop.out HR.out ((Only.refl _ wr).alloc (.cells #[.int .u64 (e.1 : Int), .bool e.2] 26)))
      clear H HR
      go_wp2
      have c1 := HN.out.h.cells.1.2
      rw [hn.out] at c1
      obtain ⟨⟨b0, b0f⟩, b1, b1f⟩ := hat.out _ HN.out
      obtain ⟨x0, x1⟩ := HB.out _ (Only.refl _ _)
      have hS := (show (fun w' : World => w'.cell? ⟨N, 1, none⟩ = some (.slice (some ⟨b, 0, none⟩) (n + 1) k) ∧ w'.cell? ⟨b, i * 2, none⟩ = some (.int .u64 (d.1 : Int)) ∧ w'.cell? ⟨b, i * 2 + 1, none⟩ = some (.bool d.2) ∧ w'.cell? ⟨wr.heap.size, 0, none⟩ = some (.int .u64 (e.1 : Int)) ∧ w'.cell? ⟨wr.heap.size, 1, none⟩ = some (.bool e.2)) ((wr.alloc (.cells #[.int .u64 (e.1 : Int), .bool e.2] 26)).drew) from ⟨c1, b0, b1, x0, x1⟩)
      refine start_ (n := 16) (S := fun w' : World => w'.cell? ⟨N, 1, none⟩ = some (.slice (some ⟨b, 0, none⟩) (n + 1) k) ∧ w'.cell? ⟨b, i * 2, none⟩ = some (.int .u64 (d.1 : Int)) ∧ w'.cell? ⟨b, i * 2 + 1, none⟩ = some (.bool d.2) ∧ w'.cell? ⟨wr.heap.size, 0, none⟩ = some (.int .u64 (e.1 : Int)) ∧ w'.cell? ⟨wr.heap.size, 1, none⟩ = some (.bool e.2)) (ds := [15]) #[false, false, false, false, false, false, false, false, false, false, false, false, false, false, false, false] (by kernel_rfl) rfl rfl hS (fun hHeld => ?_)
      clear hS
      refine pure_ (i := 0) (N := some 33) (v := ?_) (a' := ?_) #[true, false, false, false, false, false, false, false, false, false, false, false, false, false, false, false] rfl rfl (by kernel_rfl) (fun _ _ _ h => h) (Or.inl ⟨by rfl, ?_⟩) ?_ ?_
      rotate_left
      · intro w'
        go_simp
        with_reducible rfl
      rotate_left
      · simp only [Act.put, List.setIfInBounds_toArray, List.set_cons_zero, List.set_cons_succ, i64_w, i32_w]
        rfl
      refine pure_ (i := 1) (N := some 34) (v := ?_) (a' := ?_) #[true, true, false, false, false, false, false, false, false, false, false, false, false, false, false, false] rfl rfl (by kernel_rfl) (fun _ _ _ h => h) (Or.inl ⟨by rfl, ?_⟩) ?_ ?_
      rotate_left
      · intro w'
        go_simp
        with_reducible rfl
      rotate_left
      · simp only [Act.put, List.setIfInBounds_toArray, List.set_cons_zero, List.set_cons_succ, i64_w, i32_w]
        rfl
      refine pure_ (i := 2) (N := some 35) (v := ?_) (a' := ?_) #[true, true, true, false, false, false, false, false, false, false, false, false, false, false, false, false] rfl rfl (by kernel_rfl) (fun _ _ _ h => h) (Or.inl ⟨by rfl, ?_⟩) ?_ ?_
      rotate_left
      · intro w'
        go_simp
        with_reducible rfl
      rotate_left
      · simp only [Act.put, List.setIfInBounds_toArray, List.set_cons_zero, List.set_cons_succ, i64_w, i32_w]
        rfl
      refine take_ (i := 3) (N := some 36) (v := ?_) (a' := ?_) #[true, true, true, true, false, false, false, false, false, false, false, false, false, false, false, false] rfl rfl (by kernel_rfl) (fun _ _ _ h => h) (Or.inl ⟨by rfl, ?_⟩) hHeld ?_ ?_
      rotate_left
      · rintro w' ⟨s0, s1, s2, s3, s4⟩
        go_simp
        with_reducible rfl
      rotate_left
      · simp only [Act.put, List.setIfInBounds_toArray, List.set_cons_zero, List.set_cons_succ, i64_w, i32_w]
        rfl
      refine pure_ (i := 4) (N := some 37) (v := ?_) (a' := ?_) #[true, true, true, true, true, false, false, false, false, false, false, false, false, false, false, false] rfl rfl (by kernel_rfl) (fun _ _ _ h => h) (Or.inl ⟨by rfl, ?_⟩) ?_ ?_
      rotate_left
      · intro w'
        go_simp
        with_reducible rfl
      rotate_left
      · simp only [Act.put, List.setIfInBounds_toArray, List.set_cons_zero, List.set_cons_succ, i64_w, i32_w]
        rfl
      refine pure_ (i := 5) (N := some 38) (v := ?_) (a' := ?_) #[true, true, true, true, true, true, false, false, false, false, false, false, false, false, false, false] rfl rfl (by kernel_rfl) (fun _ _ _ h => h) (Or.inl ⟨by rfl, ?_⟩) ?_ ?_
      rotate_left
      · intro w'
        go_simp
        with_reducible rfl
      rotate_left
      · simp only [Act.put, List.setIfInBounds_toArray, List.set_cons_zero, List.set_cons_succ, i64_w, i32_w]
        rfl
      refine pure_ (i := 6) (N := some 39) (v := ?_) (a' := ?_) #[true, true, true, true, true, true, true, false, false, false, false, false, false, false, false, false] rfl rfl (by kernel_rfl) (fun _ _ _ h => h) (Or.inl ⟨by rfl, ?_⟩) ?_ ?_
      rotate_left
      · intro w'
        go_simp
        with_reducible rfl
      rotate_left
      · simp only [Act.put, List.setIfInBounds_toArray, List.set_cons_zero, List.set_cons_succ, i64_w, i32_w]
        rfl
      refine pure_ (i := 7) (N := some 40) (v := ?_) (a' := ?_) #[true, true, true, true, true, true, true, true, false, false, false, false, false, false, false, false] rfl rfl (by kernel_rfl) (fun _ _ _ h => h) (Or.inl ⟨by rfl, ?_⟩) ?_ ?_
      rotate_left
      · intro w'
        go_simp
        with_reducible rfl
      rotate_left
      · simp only [Act.put, List.setIfInBounds_toArray, List.set_cons_zero, List.set_cons_succ, i64_w, i32_w]
        rfl
      refine take_ (i := 8) (N := some 41) (v := ?_) (a' := ?_) #[true, true, true, true, true, true, true, true, true, false, false, false, false, false, false, false] rfl rfl (by kernel_rfl) (fun _ _ _ h => h) (Or.inl ⟨by rfl, ?_⟩) hHeld ?_ ?_
      rotate_left
      · rintro w' ⟨s0, s1, s2, s3, s4⟩
        go_simp
        with_reducible rfl
      rotate_left
      · simp only [Act.put, List.setIfInBounds_toArray, List.set_cons_zero, List.set_cons_succ, i64_w, i32_w]
        rfl
      refine pure_ (i := 9) (N := some 42) (v := ?_) (a' := ?_) #[true, true, true, true, true, true, true, true, true, true, false, false, false, false, false, false] rfl rfl (by kernel_rfl) (fun _ _ _ h => h) (Or.inl ⟨by rfl, ?_⟩) ?_ ?_
      rotate_left
      · intro w'
        go_simp
        with_reducible rfl
      rotate_left
      · simp only [Act.put, List.setIfInBounds_toArray, List.set_cons_zero, List.set_cons_succ, i64_w, i32_w]
        rfl
      refine pure_ (i := 10) (N := some 43) (v := ?_) (a' := ?_) #[true, true, true, true, true, true, true, true, true, true, true, false, false, false, false, false] rfl rfl (by kernel_rfl) (fun _ _ _ h => h) (Or.inl ⟨by rfl, ?_⟩) ?_ ?_
      rotate_left
      · intro w'
        go_simp
        with_reducible rfl
      rotate_left
      · simp only [Act.put, List.setIfInBounds_toArray, List.set_cons_zero, List.set_cons_succ, i64_w, i32_w]
        rfl
      refine take_ (i := 11) (N := some 44) (v := ?_) (a' := ?_) #[true, true, true, true, true, true, true, true, true, true, true, true, false, false, false, false] rfl rfl (by kernel_rfl) (fun _ _ _ h => h) (Or.inl ⟨by rfl, ?_⟩) hHeld ?_ ?_
      rotate_left
      · rintro w' ⟨s0, s1, s2, s3, s4⟩
        go_simp
        with_reducible rfl
      rotate_left
      · simp only [Act.put, List.setIfInBounds_toArray, List.set_cons_zero, List.set_cons_succ, i64_w, i32_w]
        rfl
      refine take_ (i := 12) (N := some 45) (v := ?_) (a' := ?_) #[true, true, true, true, true, true, true, true, true, true, true, true, true, false, false, false] rfl rfl (by kernel_rfl) (fun _ _ _ h => h) (Or.inl ⟨by rfl, ?_⟩) hHeld ?_ ?_
      rotate_left
      · rintro w' ⟨s0, s1, s2, s3, s4⟩
        go_simp
        with_reducible rfl
      rotate_left
      · simp only [Act.put, List.setIfInBounds_toArray, List.set_cons_zero, List.set_cons_succ, i64_w, i32_w]
        rfl
      clear b0 b0f b1 b1f c1 x0 x1
      refine one_ (i := 13) (N := some 46) #[true, true, true, true, true, true, true, true, true, true, true, true, true, true, false, false] rfl rfl (by kernel_rfl) (by decide) (fun K hK => ?_)
      refine goes_ Try.func18 (by kernel_rfl) rfl #[.agg #[.int .u64 (d.1 : Int), .bool d.2], .agg #[.int .u64 (e.1 : Int), .bool e.2]] (by rfl) rfl rfl (by (try simp only [List.map_toArray, List.map_cons, List.map_nil]); first | done | rfl) ?_
      refine (join_walk1 d e hdm.out _).mono ?_
      rintro r w3 ⟨rfl, ho3⟩
      replace ho3 := Aside0.mk ((Only.refl _ _).drew.trans ho3 : Only (fun _ => False) (wr.alloc (.cells #[.int .u64 (e.1 : Int), .bool e.2] 26)) w3)
      replace HN := Aside0.mk (HN.out.keep ho3.out)
      refine ⟨_, rfl, ?_⟩
      obtain ⟨⟨b0, b0f⟩, b1, b1f⟩ := hat.out _ HN.out
      have c1 := HN.out.h.cells.1.2
      rw [hn.out] at c1
      obtain ⟨x0, x1⟩ := HB.out _ ho3.out
      refine hK.out _ _ (⟨c1, b0, b1, x0, x1⟩) (fun hHeld => ?_)
      clear hK K
      refine norm_ (a' := ?_) ?_ ?_
      rotate_left
      · show Act.put _ (some 46) _ = _
        simp only [Act.put, List.setIfInBounds_toArray, List.set_cons_zero, List.set_cons_succ, i64_w, i32_w]
        rfl
      refine pure_ (i := 14) (N := some 47) (v := ?_) (a' := ?_) #[true, true, true, true, true, true, true, true, true, true, true, true, true, true, true, false] rfl rfl (by kernel_rfl) (fun _ _ _ h => h) (Or.inl ⟨by rfl, ?_⟩) ?_ ?_
      rotate_left
      · intro w'
        go_simp
        with_reducible rfl
      rotate_left
      · simp only [Act.put, List.setIfInBounds_toArray, List.set_cons_zero, List.set_cons_succ, i64_w, i32_w]
        rfl
      refine last_ (i := 15) (N := none) #[true, true, true, true, true, true, true, true, true, true, true, true, true, true, true, true] rfl rfl (by kernel_rfl) (by decide) (fun K hK => ?_)
      refine skip_ (w1 := ?_) (by rfl) rfl ?_ ?_
      rotate_left
      · go_simp
        rfl
      refine hK.out _ _ ?_
      clear hK K
      refine done_ (by kernel_rfl) ?_
      have H2 := Aside0.mk (hset.out _ HN.out)
      have HR2 := Aside0.mk (R_away HN.out.h htop.out (R_only HRN.out ho3.out (fun _ _ _ _ e => e)) (((Only.refl (fun j => j = N ∨ j = b) w3).setCell ⟨b, i * 2, none⟩ (.int .u64 ((joinC d e).1 : Int)) (.inr rfl)).setCell ⟨b, i * 2 + 1, none⟩ (.bool (joinC d e).2) (.inr rfl)))
      clear b0 b0f b1 b1f c1 x0 x1 hat hset hHeld HB HN HRN ho3
      go_wp2
      go_roundg k1
      case measure => omega
      case rel => exact ⟨i + 1, D.set i (joinC d e), by first | rfl | simp, by omega, by omega, hnx, H2, HR2⟩
    · have hinI : ¬ (i : Int) < ((n : Int) + 1) := by omega
      obtain rfl : i = n + 1 := by omega
      obtain rfl := HD.out.all hT.out
      clear HD HR
      go_wp2
      obtain ⟨⟨c0, c1⟩, ⟨c2, c2f⟩, ⟨c3, c3f⟩, ⟨c4, c4f⟩, c5, c5f⟩ := H.out.h.cells
      obtain ⟨⟨d0, d1⟩, ⟨d2, d2f⟩, ⟨d3, d3f⟩, ⟨d4, d4f⟩, d5, d5f⟩ := H.out.o.cells
      have hS := (show (fun w' : World => (w'.cell? ⟨N, 2, none⟩ = some (.int .u64 (c.1 : Int)) ∧ w'.cell? ⟨N, 3, none⟩ = some (.bool c.2)) ∧ (w'.cell? ⟨N, 4, none⟩ = some (.int .u64 (s.1 : Int)) ∧ w'.cell? ⟨N, 5, none⟩ = some (.bool s.2)) ∧ (w'.cell? ⟨N', 2, none⟩ = some (.int .u64 (c'.1 : Int)) ∧ w'.cell? ⟨N', 3, none⟩ = some (.bool c'.2)) ∧ (w'.cell? ⟨N', 4, none⟩ = some (.int .u64 (s'.1 : Int)) ∧ w'.cell? ⟨N', 5, none⟩ = some (.bool s'.2))) (wr.drew) from ⟨⟨c2, c3⟩, ⟨c4, c5⟩, ⟨d2, d3⟩, d4, d5⟩)
      refine start_ (n := 26) (S := fun w' : World => (w'.cell? ⟨N, 2, none⟩ = some (.int .u64 (c.1 : Int)) ∧ w'.cell? ⟨N, 3, none⟩ = some (.bool c.2)) ∧ (w'.cell? ⟨N, 4, none⟩ = some (.int .u64 (s.1 : Int)) ∧ w'.cell? ⟨N, 5, none⟩ = some (.bool s.2)) ∧ (w'.cell? ⟨N', 2, none⟩ = some (.int .u64 (c'.1 : Int)) ∧ w'.cell? ⟨N', 3, none⟩ = some (.bool c'.2)) ∧ (w'.cell? ⟨N', 4, none⟩ = some (.int .u64 (s'.1 : Int)) ∧ w'.cell? ⟨N', 5, none⟩ = some (.bool s'.2))) (ds := [22, 25]) #[false, false, false, false, false, false, false, false, false, false, false, false, false, false, false, false, false, false, false, false, false, false, false, false, false, false] (by kernel_rfl) rfl rfl hS (fun hHeld => ?_)
      clear hS
      refine pure_ (i := 0) (N := some 49) (v := ?_) (a' := ?_) #[true, false, false, false, false, false, false, false, false, false, false, false, false, false, false, false, false, false, false, false, false, false, false, false, false, false] rfl rfl (by kernel_rfl) (fun _ _ _ h => h) (Or.inl ⟨by rfl, ?_⟩) ?_ ?_
      rotate_left
      · intro w'
        go_simp
        with_reducible rfl
      rotate_left
      · simp only [Act.put, List.setIfInBounds_toArray, List.set_cons_zero, List.set_cons_succ, i64_w, i32_w]
        rfl
      refine pure_ (i := 1) (N := some 50) (v := ?_) (a' := ?_) #[true, true, false, false, false, false, false, false, false, false, false, false, false, false, false, false, false, false, false, false, false, false, false, false, false, false] rfl rfl (by kernel_rfl) (fun _ _ _ h => h) (Or.inl ⟨by rfl, ?_⟩) ?_ ?_
      rotate_left
      · intro w'
        go_simp
        with_reducible rfl
      rotate_left
      · simp only [Act.put, List.setIfInBounds_toArray, List.set_cons_zero, List.set_cons_succ, i64_w, i32_w]
        rfl
      refine pure_ (i := 2) (N := some 51) (v := ?_) (a' := ?_) #[true, true, true, false, false, false, false, false, false, false, false, false, false, false, false, false, false, false, false, false, false, false, false, false, false, false] rfl rfl (by kernel_rfl) (fun _ _ _ h => h) (Or.inl ⟨by rfl, ?_⟩) ?_ ?_
      rotate_left
      · intro w'
        go_simp
        with_reducible rfl
      rotate_left
      · simp only [Act.put, List.setIfInBounds_toArray, List.set_cons_zero, List.set_cons_succ, i64_w, i32_w]
        rfl
      refine pure_ (i := 3) (N := some 52) (v := ?_) (a' := ?_) #[true, true, true, true, false, false, false, false, false, false, false, false, false, false, false, false, false, false, false, false, false, false, false, false, false, false] rfl rfl (by kernel_rfl) (fun _ _ _ h => h) (Or.inl ⟨by rfl, ?_⟩) ?_ ?_
      rotate_left
      · intro w'
        go_simp
        with_reducible rfl
      rotate_left
      · simp only [Act.put, List.setIfInBounds_toArray, List.set_cons_zero, List.set_cons_succ, i64_w, i32_w]
        rfl
      refine pure_ (i := 4) (N := some 53) (v := ?_) (a' := ?_) #[true, true, true, true, true, false, false, false, false, false, false, false, false, false, false, false, false, false, false, false, false, false, false, false, false, false] rfl rfl (by kernel_rfl) (fun _ _ _ h => h) (Or.inl ⟨by rfl, ?_⟩) ?_ ?_
      rotate_left
      · intro w'
        go_simp
        with_reducible rfl
      rotate_left
      · simp only [Act.put, List.setIfInBounds_toArray, List.set_cons_zero, List.set_cons_succ, i64_w, i32_w]
        rfl
      refine pure_ (i := 6) (N := some 55) (v := ?_) (a' := ?_) #[true, true, true, true, true, false, true, false, false, false, false, false, false, false, false, false, false, false, false, false, false, false, false, false, false, false] rfl rfl (by kernel_rfl) (fun _ _ _ h => h) (Or.inl ⟨by rfl, ?_⟩) ?_ ?_
      rotate_left
      · intro w'
        go_simp
        with_reducible rfl
      rotate_left
      · simp only [Act.put, List.setIfInBounds_toArray, List.set_cons_zero, List.set_cons_succ, i64_w, i32_w]
        rfl
      refine pure_ (i := 7) (N := some 56) (v := ?_) (a' := ?_) #[true, true, true, true, true, false, true, true, false, false, false, false, false, false, false, false, false, false, false, false, false, false, false, false, false, false] rfl rfl (by kernel_rfl) (fun _ _ _ h => h) (Or.inl ⟨by rfl, ?_⟩) ?_ ?_
      rotate_left
      · intro w'
        go_simp
        with_reducible rfl
      rotate_left
      · simp only [Act.put, List.setIfInBounds_toArray, List.set_cons_zero, List.set_cons_succ, i64_w, i32_w]
        rfl
      refine pure_ (i := 8) (N := some 57) (v := ?_) (a' := ?_) #[true, true, true, true, true, false, true, true, true, false, false, false, false, false, false, false, false, false, false, false, false, false, false, false, false, false] rfl rfl (by kernel_rfl) (fun _ _ _ h => h) (Or.inl ⟨by rfl, ?_⟩) ?_ ?_
      rotate_left
      · intro w'
        go_simp
        with_reducible rfl
      rotate_left
      · simp only [Act.put, List.setIfInBounds_toArray, List.set_cons_zero, List.set_cons_succ, i64_w, i32_w]
        rfl
      refine pure_ (i := 11) (N := some 60) (v := ?_) (a' := ?_) #[true, true, true, true, true, false, true, true, true, false, false, true, false, false, false, false, false, false, false, false, false, false, false, false, false, false] rfl rfl (by kernel_rfl) (fun _ _ _ h => h) (Or.inl ⟨by rfl, ?_⟩) ?_ ?_
      rotate_left
      · intro w'
        go_simp
        with_reducible rfl
      rotate_left
      · simp only [Act.put, List.setIfInBounds_toArray, List.set_cons_zero, List.set_cons_succ, i64_w, i32_w]
        rfl
      refine pure_ (i := 12) (N := some 61) (v := ?_) (a' := ?_) #[true, true, true, true, true, false, true, true, true, false, false, true, true, false, false, false, false, false, false, false, false, false, false, false, false, false] rfl rfl (by kernel_rfl) (fun _ _ _ h => h) (Or.inl ⟨by rfl, ?_⟩) ?_ ?_
      rotate_left
      · intro w'
        go_simp
        with_reducible rfl
      rotate_left
      · simp only [Act.put, List.setIfInBounds_toArray, List.set_cons_zero, List.set_cons_succ, i64_w, i32_w]
        rfl
      refine pure_ (i := 13) (N := some 62) (v := ?_) (a' := ?_) #[true, true, true, true, true, false, true, true, true, false, false, true, true, true, false, false, false, false, false, false, false, false, false, false, false, false] rfl rfl (by kernel_rfl) (fun _ _ _ h => h) (Or.inl ⟨by rfl, ?_⟩) ?_ ?_
      rotate_left
      · intro w'
        go_simp
        with_reducible rfl
      rotate_left
      · simp only [Act.put, List.setIfInBounds_toArray, List.set_cons_zero, List.set_cons_succ, i64_w, i32_w]
        rfl
      refine pure_ (i := 15) (N := some 64) (v := ?_) (a' := ?_) #[true, true, true, true, true, false, true, true, true, false, false, true, true, true, false, true, false, false, false, false, false, false, false, false, false, false] rfl rfl (by kernel_rfl) (fun _ _ _ h => h) (Or.inl ⟨by rfl, ?_⟩) ?_ ?_
      rotate_left
      · intro w'
        go_simp
        with_reducible rfl
      rotate_left
      · simp only [Act.put, List.setIfInBounds_toArray, List.set_cons_zero, List.set_cons_succ, i64_w, i32_w]
        rfl
      refine pure_ (i := 16) (N := some 65) (v := ?_) (a' := ?_) #[true, true, true, true, true, false, true, true, true, false, false, true, true, true, false, true, true, false, false, false, false, false, false, false, false, false] rfl rfl (by kernel_rfl) (fun _ _ _ h => h) (Or.inl ⟨by rfl, ?_⟩) ?_ ?_
      rotate_left
      · intro w'
        go_simp
        with_reducible rfl
      rotate_left
      · simp only [Act.put, List.setIfInBounds_toArray, List.set_cons_zero, List.set_cons_succ, i64_w, i32_w]
        rfl
      refine pure_ (i := 17) (N := some 66) (v := ?_) (a' := ?_) #[true, true, true, true, true, false, true, true, true, false, false, true, true, true, false, true, true, true, false, false, false, false, false, false, false, false] rfl rfl (by kernel_rfl) (fun _ _ _ h => h) (Or.inl ⟨by rfl, ?_⟩) ?_ ?_
      rotate_left
      · intro w'
        go_simp
        with_reducible rfl
      rotate_left
      · simp only [Act.put, List.setIfInBounds_toArray, List.set_cons_zero, List.set_cons_succ, i64_w, i32_w]
        rfl
      refine take_ (i := 5) (N := some 54) (v := ?_) (a' := ?_) #[true, true, true, true, true, true, true, true, true, false, false, true, true, true, false, true, true, true, false, false, false, false, false, false, false, false] rfl rfl (by kernel_rfl) (fun _ _ _ h => h) (Or.inl ⟨by rfl, ?_⟩) hHeld ?_ ?_
      rotate_left
      · rintro w' ⟨⟨s0, s1⟩, ⟨s2, s3⟩, ⟨s4, s5⟩, s6, s7⟩
        go_simp
        with_reducible rfl
      rotate_left
      · simp only [Act.put, List.setIfInBounds_toArray, List.set_cons_zero, List.set_cons_succ, i64_w, i32_w]
        rfl
      refine take_ (i := 9) (N := some 58) (v := ?_) (a' := ?_) #[true, true, true, true, true, true, true, true, true, true, false, true, true, true, false, true, true, true, false, false, false, false, false, false, false, false] rfl rfl (by kernel_rfl) (fun _ _ _ h => h) (Or.inl ⟨by rfl, ?_⟩) hHeld ?_ ?_
      rotate_left
      · rintro w' ⟨⟨s0, s1⟩, ⟨s2, s3⟩, ⟨s4, s5⟩, s6, s7⟩
        go_simp
        with_reducible rfl
      rotate_left
      · simp only [Act.put, List.setIfInBounds_toArray, List.set_cons_zero, List.set_cons_succ, i64_w, i32_w]
        rfl
      refine take_ (i := 14) (N := some 63) (v := ?_) (a' := ?_) #[true, true, true, true, true, true, true, true, true, true, false, true, true, true, true, true, true, true, false, false, false, false, false, false, false, false] rfl rfl (by kernel_rfl) (fun _ _ _ h => h) (Or.inl ⟨by rfl, ?_⟩) hHeld ?_ ?_
      rotate_left
      · rintro w' ⟨⟨s0, s1⟩, ⟨s2, s3⟩, ⟨s4, s5⟩, s6, s7⟩
        go_simp
        with_reducible rfl
      rotate_left
      · simp only [Act.put, List.setIfInBounds_toArray, List.set_cons_zero, List.set_cons_succ, i64_w, i32_w]
        rfl
      refine take_ (i := 18) (N := some 67) (v := ?_) (a' := ?_) #[true, true, true, true, true, true, true, true, true, true, false, true, true, true, true, true, true, true, true, false, false, false, false, false, false, false] rfl rfl (by kernel_rfl) (fun _ _ _ h => h) (Or.inl ⟨by rfl, ?_⟩) hHeld ?_ ?_
      rotate_left
      · rintro w' ⟨⟨s0, s1⟩, ⟨s2, s3⟩, ⟨s4, s5⟩, s6, s7⟩
        go_simp
        with_reducible rfl
      rotate_left
      · simp only [Act.put, List.setIfInBounds_toArray, List.set_cons_zero, List.set_cons_succ, i64_w, i32_w]
        rfl
      clear c0 c1 c2 c2f c3 c3f c4 c4f c5 c5f d0 d1 d2 d2f d3 d3f d4 d4f d5 d5f
      refine one_ (i := 10) (N := some 59) #[true, true, true, true, true, true, true, true, true, true, true, true, true, true, true, true, true, true, true, false, false, false, false, false, false, false] rfl rfl (by kernel_rfl) (by decide) (fun K hK => ?_)
      refine goes_ Try.func18 (by kernel_rfl) rfl #[.agg #[.int .u64 (c.1 : Int), .bool c.2], .agg #[.int .u64 (c'.1 : Int), .bool c'.2]] (by rfl) rfl rfl (by (try simp only [List.map_toArray, List.map_cons, List.map_nil]); first | done | rfl) ?_
      refine (join_walk1 c c' hc.out _).mono ?_
      rintro r w3 ⟨rfl, ho3⟩
      replace H := Aside0.mk (H.out.drew.keep ho3)
      clear ho3
      refine ⟨_, rfl, ?_⟩
      obtain ⟨⟨c0, c1⟩, ⟨c2, c2f⟩, ⟨c3, c3f⟩, ⟨c4, c4f⟩, c5, c5f⟩ := H.out.h.cells
      obtain ⟨⟨d0, d1⟩, ⟨d2, d2f⟩, ⟨d3, d3f⟩, ⟨d4, d4f⟩, d5, d5f⟩ := H.out.o.cells
      refine hK.out _ _ (⟨⟨c2, c3⟩, ⟨c4, c5⟩, ⟨d2, d3⟩, d4, d5⟩) (fun hHeld => ?_)
      clear hK K
      refine norm_ (a' := ?_) ?_ ?_
      rotate_left
      · show Act.put _ (some 59) _ = _
        simp only [Act.put, List.setIfInBounds_toArray, List.set_cons_zero, List.set_cons_succ, i64_w, i32_w]
        rfl
      clear c0 c1 c2 c2f c3 c3f c4 c4f c5 c5f d0 d1 d2 d2f d3 d3f d4 d4f d5 d5f
      refine one_ (i := 19) (N := some 68) #[true, true, true, true, true, true, true, true, true, true, true, true, true, true, true, true, true, true, true, true, false, false, false, false, false, false] rfl rfl (by kernel_rfl) (by decide) (fun K hK => ?_)
      refine goes_ Try.func18 (by kernel_rfl) rfl #[.agg #[.int .u64 (s.1 : Int), .bool s.2], .agg #[.int .u64 (s'.1 : Int), .bool s'.2]] (by rfl) rfl rfl (by (try simp only [List.map_toArray, List.map_cons, List.map_nil]); first | done | rfl) ?_
      refine (join_walk1 s s' hs.out _).mono ?_
      rintro r w4 ⟨rfl, ho4⟩
      replace H := Aside0.mk (H.out.keep ho4)
      clear ho4
      refine ⟨_, rfl, ?_⟩
      obtain ⟨⟨c0, c1⟩, ⟨c2, c2f⟩, ⟨c3, c3f⟩, ⟨c4, c4f⟩, c5, c5f⟩ := H.out.h.cells
      obtain ⟨⟨d0, d1⟩, ⟨d2, d2f⟩, ⟨d3, d3f⟩, ⟨d4, d4f⟩, d5, d5f⟩ := H.out.o.cells
      refine hK.out _ _ (⟨⟨c2, c3⟩, ⟨c4, c5⟩, ⟨d2, d3⟩, d4, d5⟩) (fun hHeld => ?_)
      clear hK K
      refine norm_ (a' := ?_) ?_ ?_
      rotate_left
      · show Act.put _ (some 68) _ = _
        simp only [Act.put, List.setIfInBounds_toArray, List.set_cons_zero, List.set_cons_succ, i64_w, i32_w]
        rfl
      refine pure_ (i := 20) (N := some 69) (v := ?_) (a' := ?_) #[true, true, true, true, true, true, true, true, true, true, true, true, true, true, true, true, true, true, true, true, true, false, false, false, false, false] rfl rfl (by kernel_rfl) (fun _ _ _ h => h) (Or.inl ⟨by rfl, ?_⟩) ?_ ?_
      rotate_left
      · intro w'
        go_simp
        with_reducible rfl
      rotate_left
      · simp only [Act.put, List.setIfInBounds_toArray, List.set_cons_zero, List.set_cons_succ, i64_w, i32_w]
        rfl
      refine pure_ (i := 21) (N := some 70) (v := ?_) (a' := ?_) #[true, true, true, true, true, true, true, true, true, true, true, true, true, true, true, true, true, true, true, true, true, true, false, false, false, false] rfl rfl (by kernel_rfl) (fun _ _ _ h => h) (Or.inl ⟨by rfl, ?_⟩) ?_ ?_
      rotate_left
      · intro w'
        go_simp
        with_reducible rfl
      rotate_left
      · simp only [Act.put, List.setIfInBounds_toArray, List.set_cons_zero, List.set_cons_succ, i64_w, i32_w]
        rfl
      refine last_ (i := 22) (N := none) #[true, true, true, true, true, true, true, true, true, true, true, true, true, true, true, true, true, true, true, true, true, true, true, false, false, false] rfl rfl (by kernel_rfl) (by decide) (fun K hK => ?_)
      refine skip_ (w1 := ?_) (by rfl) rfl ?_ ?_
      rotate_left
      · go_simp
        rfl
      refine hK.out _ _ ?_
      clear hK K
      refine pure_ (i := 23) (N := some 71) (v := ?_) (a' := ?_) #[true, true, true, true, true, true, true, true, true, true, true, true, true, true, true, true, true, true, true, true, true, true, true, true, false, false] rfl rfl (by kernel_rfl) (fun _ _ _ h => h) (Or.inl ⟨by rfl, ?_⟩) ?_ ?_
      rotate_left
      · intro w'
        go_simp
        with_reducible rfl
      rotate_left
      · simp only [Act.put, List.setIfInBounds_toArray, List.set_cons_zero, List.set_cons_succ, i64_w, i32_w]
        rfl
      refine pure_ (i := 24) (N := some 72) (v := ?_) (a' := ?_) #[true, true, true, true, true, true, true, true, true, true, true, true, true, true, true, true, true, true, true, true, true, true, true, true, true, false] rfl rfl (by kernel_rfl) (fun _ _ _ h => h) (Or.inl ⟨by rfl, ?_⟩) ?_ ?_
      rotate_left
      · intro w'
        go_simp
        with_reducible rfl
      rotate_left
      · simp only [Act.put, List.setIfInBounds_toArray, List.set_cons_zero, List.set_cons_succ, i64_w, i32_w]
        rfl
      refine last_ (i := 25) (N := none) #[true, true, true, true, true, true, true, true, true, true, true, true, true, true, true, true, true, true, true, true, true, true, true, true, true, true] rfl rfl (by kernel_rfl) (by decide) (fun K hK => ?_)
      refine skip_ (w1 := ?_) (by rfl) rfl ?_ ?_
      rotate_left
      · go_simp
        rfl
      refine hK.out _ _ ?_
      clear hK K
      refine done_ (by kernel_rfl) ?_
      clear c0 c1 c2 c2f c3 c3f c4 c4f c5 c5f d0 d1 d2 d2f d3 d3f d4 d4f d5 d5f
      go_wp2
      go_ret
      exact ⟨rfl, H.out.fin⟩
end Go.Proofs.Ytdcbhakclhbdpaa.Hi
