/- What Put, Count, Sum, Buckets of a histogram do. No conditions but bounds. -/
import Derived.Test.YtdcbhakclhbdpaaHi
namespace Go.Proofs.Ytdcbhakclhbdpaa.Hi
open Go.RowKit Go.Shelf Go.Proofs.YtdcbhakclhbdpaaW.PrintWords Go.Proofs.YtdcbhakclhbdpaaW.PrintLast
open Go.Proofs.Ytdcbhakclhbdpaa.Ob Go.Proofs.Ytdcbhakclhbdpaa.XH
set_option linter.unusedSimpArgs false
set_option linter.unusedVariables false

theorem add_walk (c : Nat × Bool) (n : Nat) (hc : c.1 ≤ most) (W : World) : Calls Try.prog 16 #[.agg #[.int .u64 (c.1 : Int), .bool c.2], .int .u64 (n : Int)] W fun r w' => r = .returned (.agg #[.int .u64 ((addC c n).1 : Int), .bool (addC c n).2]) ∧ Only (fun _ => False) W w' := by
  refine (sat_Count_Add.calls _ _ _ _ _ W (add_f c n hc)).mono ?_
  rintro r w' ⟨rfl, hb⟩
  exact ⟨rfl, Only.of_below hb (fun k hk _ => hk)⟩
theorem add1_walk (c : Nat × Bool) (hc : c.1 ≤ most) (W : World) : Calls Try.prog 16 #[.agg #[.int .u64 (c.1 : Int), .bool c.2], .int .u64 1] W fun r w' => r = .returned (.agg #[.int .u64 ((addC c 1).1 : Int), .bool (addC c 1).2]) ∧ Only (fun _ => False) W w' := add_walk c 1 hc W
theorem addC_le (c : Nat × Bool) (n : Nat) (hc : c.1 ≤ most) : (addC c n).1 ≤ most := by
  unfold addC
  split
  · exact Nat.le_refl _
  · rename_i h
    show c.1 + n ≤ most
    have : ¬ most < n + c.1 := fun e => h (.inr e)
    omega
theorem Hc.cells {W : World} {lo hi N b k : Nat} {v0 : Value} {bs : List Nat} {cs : List (Nat × Bool)} {c s : Nat × Bool} (h : Hc W lo hi N b k v0 bs cs c s) :
    (W.cell? ⟨N, 0, none⟩ = some v0 ∧ W.cell? ⟨N, 1, none⟩ = some (.slice (some ⟨b, 0, none⟩) (bs.length + 1) k)) ∧
    (W.cell? ⟨N, 2, none⟩ = some (.int .u64 (c.1 : Int)) ∧ W.frozen? ⟨N, 2, none⟩ = false) ∧ (W.cell? ⟨N, 3, none⟩ = some (.bool c.2) ∧ W.frozen? ⟨N, 3, none⟩ = false) ∧
    (W.cell? ⟨N, 4, none⟩ = some (.int .u64 (s.1 : Int)) ∧ W.frozen? ⟨N, 4, none⟩ = false) ∧ (W.cell? ⟨N, 5, none⟩ = some (.bool s.2) ∧ W.frozen? ⟨N, 5, none⟩ = false) :=
  ⟨⟨(h.row 0 _ rfl).1, (h.row 1 _ rfl).1⟩, h.row 2 _ rfl, h.row 3 _ rfl, h.row 4 _ rfl, h.row 5 _ rfl⟩
set_option maxHeartbeats 8000000 in
set_option maxRecDepth 1000000 in
theorem put_walk (w : World) (lo hi N b k : Nat) (v0 : Value) (bs : List Nat) (cs : List (Nat × Bool)) (c s : Nat × Bool) (x : Nat) (h : Hc w lo hi N b k v0 bs cs c s) (hl : bs.length ≤ 32) (hc : c.1 ≤ most) (hs : s.1 ≤ most) (i : Nat) (hi' : i < cs.length) (hbk : bk bs x = i) (hcs : (cs[i]).1 ≤ most) :
    Calls Try.prog 32 #[.pointer (some ⟨N, 0, none⟩), .int .u64 (x : Int)] w fun r w' => r = .returned (.int .i64 0) ∧ Hc w' lo hi N b k v0 bs (cs.set i (addC (cs[i]) 1)) (addC c 1) (addC s x) ∧ Only (fun j => j = N ∨ j = b) w w' := by
  obtain ⟨A, q, rfl, hq, hC⟩ := h.bounds
  have H := Aside0.mk h
  obtain ⟨⟨c0, c1⟩, c2, c3, c4, c5⟩ := h.cells
  replace hC := Aside0.mk hC
  replace hbk := Aside0.mk hbk
  have hib : i < bs.length + 1 := by rw [← h.len]; exact hi'
  have Hl := Aside0.mk (show bs.length ≤ 1000 by omega)
  have hset := Aside0.mk (show ∀ W, Hc W lo hi N b k (.slice A bs.length q) bs cs c s → Hc ((W.setCell ⟨b, i * 2, none⟩ (.int .u64 ((addC (cs[i]) 1).1 : Int))).setCell ⟨b, i * 2 + 1, none⟩ (.bool (addC (cs[i]) 1).2)) lo hi N b k (.slice A bs.length q) bs (cs.set i (addC (cs[i]) 1)) c s from fun W hW => hW.setB i _ hi')
  have hat := Aside0.mk (show ∀ W, Hc W lo hi N b k (.slice A bs.length q) bs cs c s → (W.cell? ⟨b, i * 2, none⟩ = some (.int .u64 ((cs[i]).1 : Int)) ∧ W.frozen? ⟨b, i * 2, none⟩ = false) ∧ (W.cell? ⟨b, i * 2 + 1, none⟩ = some (.bool (cs[i]).2) ∧ W.frozen? ⟨b, i * 2 + 1, none⟩ = false) from fun W hW => hW.at_ i hi')
  clear h
  generalize cs[i] = d at hcs hset hat ⊢
  replace hcs := Aside0.mk hcs
  replace hc := Aside0.mk hc
  replace hs := Aside0.mk hs
  generalize hn : bs.length = n at c0 c1 hC Hl hq hset hat H hib
  replace hn := Aside0.mk hn
  have hiI : (i : Int) < ((n : Int) + 1) := by omega
  have hi0 : (0 : Int) ≤ (i : Int) := by omega
  go_enter Try.func32, Try.ntmps32
  go_wp2_with (go_at_call 37; refine (bucket_walk _ A n q bs x hC.out hn.out.symm hq Hl.out).mono ?_; rintro r w1 ⟨rfl, ho⟩; rw [hbk.out]; replace H := Aside0.mk (And.intro (H.out.keep ho) (ho.mono (S := fun _ => False) (T := fun j => j = N ∨ j = b) fun _ e => e.elim)); clear c0 c1 c2 c3 c4 c5 ho hC)
  obtain ⟨⟨c0, c1⟩, c2, c3, c4, c5⟩ := H.out.1.cells
  rw [hn.out] at c1
  obtain ⟨⟨b0, b0f⟩, b1, b1f⟩ := hat.out _ H.out.1
  have hS := (show (fun w' : World => w'.cell? ⟨N, 1, none⟩ = some (.slice (some ⟨b, 0, none⟩) (n + 1) k) ∧ w'.cell? ⟨b, i * 2, none⟩ = some (.int .u64 (d.1 : Int)) ∧ w'.cell? ⟨b, i * 2 + 1, none⟩ = some (.bool d.2)) (w1.drew) from ⟨c1, b0, b1⟩)
  refine start_ (n := 15) (S := fun w' : World => w'.cell? ⟨N, 1, none⟩ = some (.slice (some ⟨b, 0, none⟩) (n + 1) k) ∧ w'.cell? ⟨b, i * 2, none⟩ = some (.int .u64 (d.1 : Int)) ∧ w'.cell? ⟨b, i * 2 + 1, none⟩ = some (.bool d.2)) (ds := [14]) #[false, false, false, false, false, false, false, false, false, false, false, false, false, false, false] (by kernel_rfl) rfl rfl hS (fun hHeld => ?_)
  clear hS
  refine pure_ (i := 0) (N := some 14) (v := ?_) (a' := ?_) #[true, false, false, false, false, false, false, false, false, false, false, false, false, false, false] rfl rfl (by kernel_rfl) (fun _ _ _ h => h) (Or.inl ⟨by rfl, ?_⟩) ?_ ?_
  rotate_left
  · intro w'
    go_simp
    with_reducible rfl
  rotate_left
  · simp only [Act.put, List.setIfInBounds_toArray, List.set_cons_zero, List.set_cons_succ, i64_w, i32_w]
    rfl
  refine pure_ (i := 1) (N := some 15) (v := ?_) (a' := ?_) #[true, true, false, false, false, false, false, false, false, false, false, false, false, false, false] rfl rfl (by kernel_rfl) (fun _ _ _ h => h) (Or.inl ⟨by rfl, ?_⟩) ?_ ?_
  rotate_left
  · intro w'
    go_simp
    with_reducible rfl
  rotate_left
  · simp only [Act.put, List.setIfInBounds_toArray, List.set_cons_zero, List.set_cons_succ, i64_w, i32_w]
    rfl
  refine pure_ (i := 2) (N := some 16) (v := ?_) (a' := ?_) #[true, true, true, false, false, false, false, false, false, false, false, false, false, false, false] rfl rfl (by kernel_rfl) (fun _ _ _ h => h) (Or.inl ⟨by rfl, ?_⟩) ?_ ?_
  rotate_left
  · intro w'
    go_simp
    with_reducible rfl
  rotate_left
  · simp only [Act.put, List.setIfInBounds_toArray, List.set_cons_zero, List.set_cons_succ, i64_w, i32_w]
    rfl
  refine take_ (i := 3) (N := some 17) (v := ?_) (a' := ?_) #[true, true, true, true, false, false, false, false, false, false, false, false, false, false, false] rfl rfl (by kernel_rfl) (fun _ _ _ h => h) (Or.inl ⟨by rfl, ?_⟩) hHeld ?_ ?_
  rotate_left
  · rintro w' ⟨s0, s1, s2⟩
    go_simp
    with_reducible rfl
  rotate_left
  · simp only [Act.put, List.setIfInBounds_toArray, List.set_cons_zero, List.set_cons_succ, i64_w, i32_w]
    rfl
  refine pure_ (i := 4) (N := some 18) (v := ?_) (a' := ?_) #[true, true, true, true, true, false, false, false, false, false, false, false, false, false, false] rfl rfl (by kernel_rfl) (fun _ _ _ h => h) (Or.inl ⟨by rfl, ?_⟩) ?_ ?_
  rotate_left
  · intro w'
    go_simp
    with_reducible rfl
  rotate_left
  · simp only [Act.put, List.setIfInBounds_toArray, List.set_cons_zero, List.set_cons_succ, i64_w, i32_w]
    rfl
  refine pure_ (i := 5) (N := some 19) (v := ?_) (a' := ?_) #[true, true, true, true, true, true, false, false, false, false, false, false, false, false, false] rfl rfl (by kernel_rfl) (fun _ _ _ h => h) (Or.inl ⟨by rfl, ?_⟩) ?_ ?_
  rotate_left
  · intro w'
    go_simp
    with_reducible rfl
  rotate_left
  · simp only [Act.put, List.setIfInBounds_toArray, List.set_cons_zero, List.set_cons_succ, i64_w, i32_w]
    rfl
  refine pure_ (i := 6) (N := some 20) (v := ?_) (a' := ?_) #[true, true, true, true, true, true, true, false, false, false, false, false, false, false, false] rfl rfl (by kernel_rfl) (fun _ _ _ h => h) (Or.inl ⟨by rfl, ?_⟩) ?_ ?_
  rotate_left
  · intro w'
    go_simp
    with_reducible rfl
  rotate_left
  · simp only [Act.put, List.setIfInBounds_toArray, List.set_cons_zero, List.set_cons_succ, i64_w, i32_w]
    rfl
  refine pure_ (i := 7) (N := some 21) (v := ?_) (a' := ?_) #[true, true, true, true, true, true, true, true, false, false, false, false, false, false, false] rfl rfl (by kernel_rfl) (fun _ _ _ h => h) (Or.inl ⟨by rfl, ?_⟩) ?_ ?_
  rotate_left
  · intro w'
    go_simp
    with_reducible rfl
  rotate_left
  · simp only [Act.put, List.setIfInBounds_toArray, List.set_cons_zero, List.set_cons_succ, i64_w, i32_w]
    rfl
  refine take_ (i := 8) (N := some 22) (v := ?_) (a' := ?_) #[true, true, true, true, true, true, true, true, true, false, false, false, false, false, false] rfl rfl (by kernel_rfl) (fun _ _ _ h => h) (Or.inl ⟨by rfl, ?_⟩) hHeld ?_ ?_
  rotate_left
  · rintro w' ⟨s0, s1, s2⟩
    go_simp
    with_reducible rfl
  rotate_left
  · simp only [Act.put, List.setIfInBounds_toArray, List.set_cons_zero, List.set_cons_succ, i64_w, i32_w]
    rfl
  refine pure_ (i := 9) (N := some 23) (v := ?_) (a' := ?_) #[true, true, true, true, true, true, true, true, true, true, false, false, false, false, false] rfl rfl (by kernel_rfl) (fun _ _ _ h => h) (Or.inl ⟨by rfl, ?_⟩) ?_ ?_
  rotate_left
  · intro w'
    go_simp
    with_reducible rfl
  rotate_left
  · simp only [Act.put, List.setIfInBounds_toArray, List.set_cons_zero, List.set_cons_succ, i64_w, i32_w]
    rfl
  refine pure_ (i := 10) (N := some 24) (v := ?_) (a' := ?_) #[true, true, true, true, true, true, true, true, true, true, true, false, false, false, false] rfl rfl (by kernel_rfl) (fun _ _ _ h => h) (Or.inl ⟨by rfl, ?_⟩) ?_ ?_
  rotate_left
  · intro w'
    go_simp
    with_reducible rfl
  rotate_left
  · simp only [Act.put, List.setIfInBounds_toArray, List.set_cons_zero, List.set_cons_succ, i64_w, i32_w]
    rfl
  refine take_ (i := 11) (N := some 25) (v := ?_) (a' := ?_) #[true, true, true, true, true, true, true, true, true, true, true, true, false, false, false] rfl rfl (by kernel_rfl) (fun _ _ _ h => h) (Or.inl ⟨by rfl, ?_⟩) hHeld ?_ ?_
  rotate_left
  · rintro w' ⟨s0, s1, s2⟩
    go_simp
    with_reducible rfl
  rotate_left
  · simp only [Act.put, List.setIfInBounds_toArray, List.set_cons_zero, List.set_cons_succ, i64_w, i32_w]
    rfl
  clear b0 b0f b1 b1f c0 c1 c2 c3 c4 c5
  refine one_ (i := 12) (N := some 26) #[true, true, true, true, true, true, true, true, true, true, true, true, true, false, false] rfl rfl (by kernel_rfl) (by decide) (fun K hK => ?_)
  refine goes_ Try.func16 (by kernel_rfl) rfl #[.agg #[.int .u64 (d.1 : Int), .bool d.2], .int .u64 1] (by rfl) rfl rfl (by (try simp only [List.map_toArray, List.map_cons, List.map_nil]); first | done | rfl) ?_
  refine (add1_walk d hcs.out _).mono ?_
  rintro r w2 ⟨rfl, ho2⟩
  replace H := Aside0.mk (And.intro (H.out.1.drew.keep ho2) (H.out.2.drew.trans (ho2.mono (S := fun _ => False) (T := fun j => j = N ∨ j = b) fun _ e => e.elim)))
  clear ho2
  refine ⟨_, rfl, ?_⟩
  obtain ⟨⟨b0, b0f⟩, b1, b1f⟩ := hat.out _ H.out.1
  have c1 := H.out.1.cells.1.2
  rw [hn.out] at c1
  refine hK.out _ _ (⟨c1, b0, b1⟩) (fun hHeld => ?_)
  clear hK K
  refine norm_ (a' := ?_) ?_ ?_
  rotate_left
  · show Act.put _ (some 26) _ = _
    simp only [Act.put, List.setIfInBounds_toArray, List.set_cons_zero, List.set_cons_succ, i64_w, i32_w]
    rfl
  refine pure_ (i := 13) (N := some 27) (v := ?_) (a' := ?_) #[true, true, true, true, true, true, true, true, true, true, true, true, true, true, false] rfl rfl (by kernel_rfl) (fun _ _ _ h => h) (Or.inl ⟨by rfl, ?_⟩) ?_ ?_
  rotate_left
  · intro w'
    go_simp
    with_reducible rfl
  rotate_left
  · simp only [Act.put, List.setIfInBounds_toArray, List.set_cons_zero, List.set_cons_succ, i64_w, i32_w]
    rfl
  refine last_ (i := 14) (N := none) #[true, true, true, true, true, true, true, true, true, true, true, true, true, true, true] rfl rfl (by kernel_rfl) (by decide) (fun K hK => ?_)
  refine skip_ (w1 := ?_) (by rfl) rfl ?_ ?_
  rotate_left
  · go_simp
    rfl
  refine hK.out _ _ ?_
  clear hK K
  refine done_ (by kernel_rfl) ?_
  replace H := Aside0.mk (And.intro (hset.out _ H.out.1) (show Only (fun j => j = N ∨ j = b) w _ from (H.out.2.setCell ⟨b, i * 2, none⟩ (.int .u64 ((addC d 1).1 : Int)) (.inr rfl)).setCell ⟨b, i * 2 + 1, none⟩ (.bool (addC d 1).2) (.inr rfl)))
  clear b0 b0f b1 b1f c1 hat hset hHeld
  have H3 := H
  clear H
  obtain ⟨⟨c0, c1⟩, ⟨c2, c2f⟩, ⟨c3, c3f⟩, ⟨c4, c4f⟩, c5, c5f⟩ := H3.out.1.cells
  go_wp2_with (go_at_call 16; first
    | (with_reducible refine (add1_walk c hc.out _).mono ?_; rintro r w4 ⟨rfl, ho4⟩; have H4 := Aside0.mk (And.intro (H3.out.1.keep ho4) (H3.out.2.trans (ho4.mono (S := fun _ => False) (T := fun j => j = N ∨ j = b) fun _ e => e.elim))); clear c0 c1 c2 c2f c3 c3f c4 c4f c5 c5f ho4 H3; obtain ⟨⟨c0, c1⟩, ⟨c2, c2f⟩, ⟨c3, c3f⟩, ⟨c4, c4f⟩, c5, c5f⟩ := H4.out.1.cells)
    | (with_reducible refine (add_walk s x hs.out _).mono ?_; rintro r w6 ⟨rfl, ho6⟩; have H6 := Aside0.mk (And.intro ((H4.out.1.setC (addC c 1)).keep ho6) ((((H4.out.2.setCell ⟨N, 2, none⟩ _ (.inl rfl)).setCell ⟨N, 3, none⟩ _ (.inl rfl))).trans (ho6.mono (S := fun _ => False) (T := fun j => j = N ∨ j = b) fun _ e => e.elim))); clear c0 c1 c2 c2f c3 c3f c4 c4f c5 c5f ho6 H4; obtain ⟨⟨c0, c1⟩, ⟨c2, c2f⟩, ⟨c3, c3f⟩, ⟨c4, c4f⟩, c5, c5f⟩ := H6.out.1.cells))
  go_ret
  exact ⟨rfl, H6.out.1.setS (addC s x), (H6.out.2.setCell ⟨N, 4, none⟩ _ (.inl rfl)).setCell ⟨N, 5, none⟩ _ (.inl rfl)⟩
end Go.Proofs.Ytdcbhakclhbdpaa.Hi
