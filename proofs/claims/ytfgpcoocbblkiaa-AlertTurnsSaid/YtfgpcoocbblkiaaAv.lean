/- AlertTurns, AlertCalm, walked. No conditions but bounds. -/
import Derived.Test.YtfgpcoocbblkiaaAu
namespace Go.Proofs.Ytfgpcoocbblkiaa.At
open Go.RowKit Go.Proofs.YtfgpcoocbblkiaaW.PrintWords Go.Proofs.YtfgpcoocbblkiaaW.PrintLast
open Go.Proofs.Ytfgpcoocbblkiaa.Ob Go.Proofs.Ytfgpcoocbblkiaa.XAl
set_option linter.unusedSimpArgs false
set_option linter.unusedVariables false

/-- The windows, as they stand in memory, whatever was made since. -/
def Thins (w : World) (A0 : Option Addr) (n0 : Nat) (P Q R : Nat → Int) : Prop := ∀ W, Below w.heap.size w W → ∀ i, i < n0 → ∃ ad, A0 = some ad ∧ W.cell? (ad.add (i * 3)) = some (.int .u64 (P i)) ∧ W.cell? ⟨(ad.add (i * 3)).block, (ad.add (i * 3)).off + 1, none⟩ = some (.int .u64 (Q i)) ∧ W.cell? ⟨(ad.add (i * 3)).block, (ad.add (i * 3)).off + 2, none⟩ = some (.int .u64 (R i))
theorem below_of {w wr : World} (h : Only (fun _ => False) w wr) : Below w.heap.size w wr := h.below (fun _ e => e.elim) (Nat.le_refl _)
/-- One window, whatever was made since. -/
theorem thin_at {w : World} {A0 : Option Addr} {n0 : Nat} {P Q R : Nat → Int} (h : Thins w A0 n0 P Q R) (hq : ∀ i, i < n0 → 0 ≤ Q i ∧ 0 ≤ R i) (i : Nat) (hi : i < n0) : ∃ ad, A0 = some ad ∧ ∃ (p : Int) (sp fa : Nat), Q i = (sp : Int) ∧ ∀ W, Only (fun _ => False) w W → W.cell? (ad.add (i * 3)) = some (.int .u64 p) ∧ W.cell? ⟨(ad.add (i * 3)).block, (ad.add (i * 3)).off + 1, none⟩ = some (.int .u64 (sp : Int)) ∧ W.cell? ⟨(ad.add (i * 3)).block, (ad.add (i * 3)).off + 2, none⟩ = some (.int .u64 (fa : Int)) := by
  obtain ⟨ad, e, _⟩ := h w (Below.refl _ _) i hi
  have := hq i hi
  refine ⟨ad, e, P i, (Q i).toNat, (R i).toNat, by omega, fun W hW => ?_⟩
  obtain ⟨ad', e', h1, h2, h3⟩ := h W (below_of hW) i hi
  rw [e] at e'
  cases e'
  rw [show (((Q i).toNat : Nat) : Int) = Q i by omega, show (((R i).toNat : Nat) : Int) = R i by omega]
  exact ⟨h1, h2, h3⟩
/-- Two watches. -/
structure Tb (w wr : World) (Na Nb : Nat) (ba bb : Option Nat) (nm : ByteArray) (ga gb : Wt) : Prop where
  a : IsW wr w.heap.size Na ba nm ga
  b : IsW wr w.heap.size Nb bb nm gb
  o : Only (fun _ => False) w wr
  ap : Apart Na ba Nb bb
theorem Tb.keep {w wr w' : World} {Na Nb : Nat} {ba bb : Option Nat} {nm : ByteArray} {ga gb : Wt} (h : Tb w wr Na Nb ba bb nm ga gb) (k : Only (fun _ => False) wr w') : Tb w w' Na Nb ba bb nm ga gb :=
  ⟨h.a.only k id (fun _ _ => id), h.b.only k id (fun _ _ => id), h.o.trans k, h.ap⟩
theorem Tb.drew {w wr : World} {Na Nb : Nat} {ba bb : Option Nat} {nm : ByteArray} {ga gb : Wt} (h : Tb w wr Na Nb ba bb nm ga gb) : Tb w wr.drew Na Nb ba bb nm ga gb := h.keep (Only.refl _ wr).drew
theorem Tb.swap {w wr : World} {Na Nb : Nat} {ba bb : Option Nat} {nm : ByteArray} {ga gb : Wt} (h : Tb w wr Na Nb ba bb nm ga gb) : Tb w wr Nb Na bb ba nm gb ga := ⟨h.b, h.a, h.o, h.ap.symm⟩
theorem tb_see {w wr : World} {Na Nb : Nat} {ba bb : Option Nat} {nm : ByteArray} {ga gb : Wt} (h : Tb w wr Na Nb ba bb nm ga gb) (window : Int) (A B C : Option Addr) (n1 c1 n2 c2 n3 c3 : Nat) (b1 b2 b3 b4 : Bool) (sp fa : Nat) (su : Int) (o : Option Nat) (ho : share sp fa = o) (hw : Wf ga) :
    Calls Try.prog 32 #[.pointer (some ⟨Na, 0, none⟩), .int .u64 window, .agg #[.slice A n1 c1, .bool b1, .int .u64 (sp : Int), .bool b2, .int .u64 (fa : Int), .bool b3, .int .u64 su, .bool b4, .slice B n2 c2, .slice C n3 c3]] wr fun r w' => r = .returned (.tuple #[.int .i64 ((see ga window o).st : Int), .int .i64 0]) ∧ ∃ ba', Tb w w' Na Nb ba' bb nm (see ga window o) gb := by
  refine (see_walk w.heap.size Na ba nm ga window A B C n1 c1 n2 c2 n3 c3 b1 b2 b3 b4 sp fa su wr o ho h.a hw h.o.size).mono ?_
  rintro r w' ⟨rfl, hs⟩
  have ho := hs.only h.a h.o rfl
  obtain ⟨⟨b', hb, hi⟩, hk⟩ := hs
  exact ⟨rfl, b', hi, h.b.beside h.ap hk, ho, Apart.next h.b h.ap hb⟩
theorem second_new {w w3 : World} {Na : Nat} {nm : ByteArray} {ga : Wt} {lim fo ca : Nat} {o : Obj} (ho : Only (fun _ => False) w w3) (hi : IsW w3 w.heap.size Na none nm ga) (h1 : lim ≤ 1000) (h2 : 1 ≤ fo ∧ fo ≤ 1000) (h3 : 1 ≤ ca ∧ ca ≤ 1000) :
    Calls Try.prog 31 #[.agg #[.string nm, .int .i64 (lim : Int), .int .i64 (fo : Int), .int .i64 (ca : Int)]] (w3.alloc o) fun r w4 => ∃ Nb, r = .returned (.tuple #[.pointer (some ⟨Nb, 0, none⟩), .int .i64 0]) ∧ Tb w w4 Na Nb none none nm ga ⟨lim, fo, ca, 0, 0, []⟩ := by
  have hal := (Only.refl (fun _ => False) w3).alloc o
  refine (new_walk w.heap.size nm lim fo ca _ h1 h2 h3 (ho.trans hal).size).mono ?_
  rintro r w4 ⟨Nb, rfl, hNb, hib, ho4⟩
  exact ⟨Nb, rfl, hi.only (hal.trans ho4) id (fun _ _ => id), hib, ho.trans (hal.trans ho4), (Apart.made (hi.only hal id (fun _ _ => id)) hNb).symm⟩
theorem right_walk (nm : ByteArray) (lim fo ca : Nat) (w : World) (h1 : lim ≤ 1000) (h2 : 1 ≤ fo ∧ fo ≤ 1000) (h3 : 1 ≤ ca ∧ ca ≤ 1000) :
    Calls Try.prog 30 #[.agg #[.string nm, .int .i64 (lim : Int), .int .i64 (fo : Int), .int .i64 (ca : Int)]] w fun r w' => r = .returned (.bool true) ∧ Only (fun _ => False) w w' := by
  have hf : tallyroomref35_Right.f nm (lim : Int) (fo : Int) (ca : Int) = some true := by
    unfold tallyroomref35_Right.f
    rw [if_pos (by omega), if_pos (by omega), if_pos (by omega), if_pos (by omega), if_pos (by omega), decide_eq_true (by omega)]
  exact (tallyroomref35_Right.calls nm lim fo ca true w hf).mono (by rintro r w' ⟨rfl, hb⟩; exact ⟨rfl, Only.of_below hb (fun k hk _ => hk)⟩)
theorem wrong_walk (nm : ByteArray) (lim fo ca : Int) (w : World) (h : ¬ ((0 ≤ lim ∧ lim ≤ 1000) ∧ (1 ≤ fo ∧ fo ≤ 1000) ∧ (1 ≤ ca ∧ ca ≤ 1000))) :
    Calls Try.prog 30 #[.agg #[.string nm, .int .i64 lim, .int .i64 fo, .int .i64 ca]] w fun r w' => r = .returned (.bool false) ∧ Only (fun _ => False) w w' := by
  have hf : tallyroomref35_Right.f nm lim fo ca = some false := by
    unfold tallyroomref35_Right.f
    repeat' split
    all_goals first | rfl | (rw [decide_eq_false (by omega)])
  exact (tallyroomref35_Right.calls nm lim fo ca false w hf).mono (by rintro r w' ⟨rfl, hb⟩; exact ⟨rfl, Only.of_below hb (fun k hk _ => hk)⟩)
/-- What holds of the plain watches behind i windows. -/
structure Ti (ga gb : Wt) (lim fo ca hl i : Nat) : Prop where
  wa : Wf ga
  wb : Wf gb
  ra : ga.row ≤ i
  rb : gb.row ≤ i
  la : ga.ev.length ≤ i
  lb : gb.ev.length ≤ i
  alt : Alt ga
  low : Lower ga gb
theorem Ti.next {ga gb : Wt} {lim fo ca hl i : Nat} (h : Ti ga gb lim fo ca hl i) (hi : i < 900) (window : Int) (o : Option Nat) : Ti (see ga window o) (see gb window o) lim fo ca hl (i + 1) := by
  have a := see_le ga window o
  have b := see_le gb window o
  have := h.ra; have := h.rb; have := h.la; have := h.lb
  exact ⟨see_wf h.wa _ _ (by omega) (by omega), see_wf h.wb _ _ (by omega) (by omega), by omega, by omega, by omega, by omega, alt_see _ h.alt _ _, lower_see h.low _ _⟩
set_option maxHeartbeats 16000000 in
set_option maxRecDepth 1000000 in
theorem turns_hi (nm : ByteArray) (lim fo ca more : Nat) (A0 : Option Addr) (c0 n0 : Nat) (P Q R : Nat → Int) (w : World) (h1 : lim ≤ 1000) (h2 : 1 ≤ fo ∧ fo ≤ 1000) (h3 : 1 ≤ ca ∧ ca ≤ 1000) (hmo : more ≤ 255) (h60 : n0 ≤ 60) (hm : 1000 < lim + more) (hr0 : Thins w A0 n0 P Q R) (hq0 : ∀ i, i < n0 → 0 ≤ Q i ∧ 0 ≤ R i) :
    Calls Try.prog 8 #[.agg #[.string nm, .int .i64 (lim : Int), .int .i64 (fo : Int), .int .i64 (ca : Int)], .slice A0 n0 c0, .int .u8 (more : Int)] w fun r w' => r = .returned (.bool true) ∧ Below w.heap.size w w' := by
  have HR0 := Aside0.mk (fun i hi => thin_at hr0 hq0 i hi)
  clear hr0 hq0
  have hmI : (1000 : Int) < (lim : Int) + (more : Int) := by omega
  have hle1 : 1000 ≤ 1000 := by omega
  have g1 : ¬ (n0 : Int) > 60 := by omega
  have hR0 := Aside0.mk (Row.new w [.string nm, .int .i64 (lim : Int), .int .i64 (fo : Int), .int .i64 (ca : Int)] 58)
  have hO0 := Aside0.mk ((Only.refl (fun _ => False) w).alloc (.cells #[.string nm, .int .i64 (lim : Int), .int .i64 (fo : Int), .int .i64 (ca : Int)] 58))
  obtain ⟨X, hX⟩ : ∃ X, w.heap.size = X := ⟨_, rfl⟩
  go_enter Try.func8, Try.ntmps8
  go_wp2_with (go_at_call 29; refine (alive_walk _).mono ?_; rintro r w1 ⟨rfl, ho⟩; have G := Aside0.mk (And.intro (hR0.out.only ho id) (hO0.out.trans ho)); rw [hX] at G; have x0 := (G.out.1 0 _ rfl).1; have x1 := (G.out.1 1 _ rfl).1; have x2 := (G.out.1 2 _ rfl).1; have x3 := (G.out.1 3 _ rfl).1; clear ho)
  go_wp2_with (go_at_call 30; refine (right_walk nm lim fo ca _ h1 h2 h3).mono ?_; rintro r w2 ⟨rfl, ho⟩; replace G := Aside0.mk (And.intro (G.out.1.only ho id) (G.out.2.trans ho)); have x0 := (G.out.1 0 _ rfl).1; have x1 := (G.out.1 1 _ rfl).1; have x2 := (G.out.1 2 _ rfl).1; have x3 := (G.out.1 3 _ rfl).1; clear ho)
  go_wp2_with (first
    | (go_at_call 31; refine (new_walk w.heap.size nm lim fo ca _ h1 h2 h3 G.out.2.size).mono ?_; rintro r w3 ⟨Na, rfl, hNa, hia, ho⟩; replace G := Aside0.mk (And.intro (G.out.1.only ho id) (And.intro (G.out.2.trans ho) hia)); have x0 := (G.out.1 0 _ rfl).1; have x1 := (G.out.1 1 _ rfl).1; have x2 := (G.out.1 2 _ rfl).1; have x3 := (G.out.1 3 _ rfl).1; have hXl : X < w3.heap.size := G.out.1.lt (by simp); clear ho hia)
    | (go_at_call 31; refine (second_new (ho := G.out.2.1) (hi := G.out.2.2) (h1 := hle1) (h2 := h2) (h3 := h3)).mono ?_; rintro r w4 ⟨Nb, rfl, T⟩; replace T := Aside0.mk T))
  have hTi := Aside0.mk (show Ti ⟨lim, fo, ca, 0, 0, []⟩ ⟨1000, fo, ca, 0, 0, []⟩ 0 0 0 0 0 from ⟨⟨h1, h2, h3, by simp, by simp, by simp⟩, ⟨by simp only; omega, h2, h3, by simp, by simp, by simp⟩, by simp, by simp, by simp, by simp, ⟨fun i h => absurd h (by simp), by simp⟩, ⟨by simp only; omega, rfl, h2.1, fun _ => ⟨rfl, by simp, by simp, Nat.le_refl _, by simp only; omega⟩⟩⟩)
  clear x0 x1 x2 x3 hXl hNa G hR0 hO0
  go_wp2
  go_loopg [12] (n0 + 1) (fun kq v12 wr => ∃ (i : Nat) (ba bb : Option Nat) (ga gb : Wt), v12 = .int .i64 (i : Int) ∧ i ≤ n0 ∧ n0 - i < kq ∧ Aside0 (Tb w wr Na Nb ba bb nm ga gb) ∧ Aside0 (Ti ga gb 0 0 0 0 i))
  case atStart => exact ⟨0, _, _, _, _, rfl, by omega, by omega, T, hTi⟩
  case round =>
    clear T hTi
    obtain ⟨i, ba, bb, ga, gb, rfl, hi, hk, HT, HI⟩ := hrel
    obtain ⟨k1, rfl⟩ : ∃ m, gk = m + 1 := ⟨gk - 1, by omega⟩
    by_cases hil : i < n0
    · have hil' : (i : Int) < (n0 : Int) := by omega
      have hi0 : (0 : Int) ≤ (i : Int) := by omega
      obtain ⟨ad, eA, p, sp, fa, hsp, hX3⟩ := HR0.out i hil
      cases eA
      have HX := Aside0.mk hX3
      clear hX3 hsp
      obtain ⟨o, hso⟩ : ∃ o, share sp fa = o := ⟨_, rfl⟩
      replace hso := Aside0.mk hso
      go_wp2
      have hS := HX.out _ HT.out.drew.o
      refine start_ (n := 12) (S := fun w' : World => w'.cell? (ad.add (i * 3)) = some (.int .u64 p) ∧ w'.cell? ⟨(ad.add (i * 3)).block, (ad.add (i * 3)).off + 1, none⟩ = some (.int .u64 (sp : Int)) ∧ w'.cell? ⟨(ad.add (i * 3)).block, (ad.add (i * 3)).off + 2, none⟩ = some (.int .u64 (fa : Int))) (ds := []) #[false, false, false, false, false, false, false, false, false, false, false, false] (by kernel_rfl) rfl rfl hS (fun hHeld => ?_)
      clear hS
      refine pure_ (i := 0) (N := some 54) (v := ?_) (a' := ?_) #[true, false, false, false, false, false, false, false, false, false, false, false] rfl rfl (by kernel_rfl) (fun _ _ _ h => h) (Or.inl ⟨by rfl, ?_⟩) ?_ ?_
      rotate_left
      · intro w'
        go_simp
        with_reducible rfl
      rotate_left
      · simp only [Act.put, List.setIfInBounds_toArray, List.set_cons_zero, List.set_cons_succ, i64_w, i32_w]
        rfl
      refine pure_ (i := 1) (N := some 55) (v := ?_) (a' := ?_) #[true, true, false, false, false, false, false, false, false, false, false, false] rfl rfl (by kernel_rfl) (fun _ _ _ h => h) (Or.inl ⟨by rfl, ?_⟩) ?_ ?_
      rotate_left
      · intro w'
        go_simp
        with_reducible rfl
      rotate_left
      · simp only [Act.put, List.setIfInBounds_toArray, List.set_cons_zero, List.set_cons_succ, i64_w, i32_w]
        rfl
      refine pure_ (i := 2) (N := some 56) (v := ?_) (a' := ?_) #[true, true, true, false, false, false, false, false, false, false, false, false] rfl rfl (by kernel_rfl) (fun _ _ _ h => h) (Or.inl ⟨by rfl, ?_⟩) ?_ ?_
      rotate_left
      · intro w'
        go_simp
        with_reducible rfl
      rotate_left
      · simp only [Act.put, List.setIfInBounds_toArray, List.set_cons_zero, List.set_cons_succ, i64_w, i32_w]
        rfl
      refine pure_ (i := 3) (N := some 57) (v := ?_) (a' := ?_) #[true, true, true, true, false, false, false, false, false, false, false, false] rfl rfl (by kernel_rfl) (fun _ _ _ h => h) (Or.inl ⟨by rfl, ?_⟩) ?_ ?_
      rotate_left
      · intro w'
        go_simp
        with_reducible rfl
      rotate_left
      · simp only [Act.put, List.setIfInBounds_toArray, List.set_cons_zero, List.set_cons_succ, i64_w, i32_w]
        rfl
      refine pure_ (i := 4) (N := some 58) (v := ?_) (a' := ?_) #[true, true, true, true, true, false, false, false, false, false, false, false] rfl rfl (by kernel_rfl) (fun _ _ _ h => h) (Or.inl ⟨by rfl, ?_⟩) ?_ ?_
      rotate_left
      · intro w'
        go_simp
        with_reducible rfl
      rotate_left
      · simp only [Act.put, List.setIfInBounds_toArray, List.set_cons_zero, List.set_cons_succ, i64_w, i32_w]
        rfl
      refine take_ (i := 5) (N := some 59) (v := ?_) (a' := ?_) #[true, true, true, true, true, true, false, false, false, false, false, false] rfl rfl (by kernel_rfl) (fun _ _ _ h => h) (Or.inl ⟨by rfl, ?_⟩) hHeld ?_ ?_
      rotate_left
      · rintro w' ⟨s0, s1, s2⟩
        go_simp
        with_reducible rfl
      rotate_left
      · simp only [Act.put, List.setIfInBounds_toArray, List.set_cons_zero, List.set_cons_succ, i64_w, i32_w]
        rfl
      refine pure_ (i := 6) (N := some 60) (v := ?_) (a' := ?_) #[true, true, true, true, true, true, true, false, false, false, false, false] rfl rfl (by kernel_rfl) (fun _ _ _ h => h) (Or.inl ⟨by rfl, ?_⟩) ?_ ?_
      rotate_left
      · intro w'
        go_simp
        with_reducible rfl
      rotate_left
      · simp only [Act.put, List.setIfInBounds_toArray, List.set_cons_zero, List.set_cons_succ, i64_w, i32_w]
        rfl
      refine pure_ (i := 7) (N := some 61) (v := ?_) (a' := ?_) #[true, true, true, true, true, true, true, true, false, false, false, false] rfl rfl (by kernel_rfl) (fun _ _ _ h => h) (Or.inl ⟨by rfl, ?_⟩) ?_ ?_
      rotate_left
      · intro w'
        go_simp
        with_reducible rfl
      rotate_left
      · simp only [Act.put, List.setIfInBounds_toArray, List.set_cons_zero, List.set_cons_succ, i64_w, i32_w]
        rfl
      refine pure_ (i := 8) (N := some 62) (v := ?_) (a' := ?_) #[true, true, true, true, true, true, true, true, true, false, false, false] rfl rfl (by kernel_rfl) (fun _ _ _ h => h) (Or.inl ⟨by rfl, ?_⟩) ?_ ?_
      rotate_left
      · intro w'
        go_simp
        with_reducible rfl
      rotate_left
      · simp only [Act.put, List.setIfInBounds_toArray, List.set_cons_zero, List.set_cons_succ, i64_w, i32_w]
        rfl
      refine take_ (i := 9) (N := some 63) (v := ?_) (a' := ?_) #[true, true, true, true, true, true, true, true, true, true, false, false] rfl rfl (by kernel_rfl) (fun _ _ _ h => h) (Or.inl ⟨by rfl, ?_⟩) hHeld ?_ ?_
      rotate_left
      · rintro w' ⟨s0, s1, s2⟩
        go_simp
        with_reducible rfl
      rotate_left
      · simp only [Act.put, List.setIfInBounds_toArray, List.set_cons_zero, List.set_cons_succ, i64_w, i32_w]
        rfl
      refine one_ (i := 10) (N := some 64) #[true, true, true, true, true, true, true, true, true, true, true, false] rfl rfl (by kernel_rfl) (by decide) (fun K hK => ?_)
      refine goes_ Try.func33 (by kernel_rfl) rfl #[.agg #[.int .u64 p, .int .u64 (sp : Int), .int .u64 (fa : Int)]] (by rfl) rfl rfl (by (try simp only [List.map_toArray, List.map_cons, List.map_nil]); first | done | rfl) ?_
      refine (row_walk p (sp : Int) (fa : Int) _).mono ?_
      rintro r w7 ⟨⟨RA, RB, RC, q1, q2, q3, rfl⟩, ho7⟩
      refine ⟨_, rfl, ?_⟩
      replace HT := Aside0.mk (HT.out.drew.keep ho7)
      clear ho7
      refine hK.out _ _ (HX.out _ HT.out.o) (fun hHeld => ?_)
      clear hK K
      refine norm_ (a' := ?_) ?_ ?_
      rotate_left
      · show Act.put _ (some 64) _ = _
        simp only [Act.put, List.setIfInBounds_toArray, List.set_cons_zero, List.set_cons_succ, i64_w, i32_w]
        rfl
      refine one_ (i := 11) (N := some 65) #[true, true, true, true, true, true, true, true, true, true, true, true] rfl rfl (by kernel_rfl) (by decide) (fun K hK => ?_)
      refine goes_ Try.func32 (by kernel_rfl) rfl #[.pointer (some ⟨Na, 0, none⟩), .int .u64 p, .agg #[.slice RA 0 q1, .bool false, .int .u64 (sp : Int), .bool false, .int .u64 (fa : Int), .bool false, .int .u64 0, .bool false, .slice RB 0 q2, .slice RC 0 q3]] (by rfl) rfl rfl (by (try simp only [List.map_toArray, List.map_cons, List.map_nil]); first | done | rfl) ?_
      refine (tb_see HT.out p RA RB RC 0 q1 0 q2 0 q3 false false false false sp fa 0 o hso.out HI.out.wa).mono ?_
      rintro r w8 ⟨rfl, ba', HT2⟩
      refine ⟨_, rfl, ?_⟩
      replace HT := Aside0.mk HT2
      clear HT2
      refine hK.out _ _ (HX.out _ HT.out.o) (fun hHeld => ?_)
      clear hK K
      refine norm_ (a' := ?_) ?_ ?_
      rotate_left
      · show Act.put _ (some 65) _ = _
        simp only [Act.put, List.setIfInBounds_toArray, List.set_cons_zero, List.set_cons_succ, i64_w, i32_w]
        rfl
      refine done_ (by kernel_rfl) ?_
      go_wp2
      have hS := HX.out _ HT.out.drew.o
      refine start_ (n := 12) (S := fun w' : World => w'.cell? (ad.add (i * 3)) = some (.int .u64 p) ∧ w'.cell? ⟨(ad.add (i * 3)).block, (ad.add (i * 3)).off + 1, none⟩ = some (.int .u64 (sp : Int)) ∧ w'.cell? ⟨(ad.add (i * 3)).block, (ad.add (i * 3)).off + 2, none⟩ = some (.int .u64 (fa : Int))) (ds := []) #[false, false, false, false, false, false, false, false, false, false, false, false] (by kernel_rfl) rfl rfl hS (fun hHeld => ?_)
      clear hS
      refine pure_ (i := 0) (N := some 66) (v := ?_) (a' := ?_) #[true, false, false, false, false, false, false, false, false, false, false, false] rfl rfl (by kernel_rfl) (fun _ _ _ h => h) (Or.inl ⟨by rfl, ?_⟩) ?_ ?_
      rotate_left
      · intro w'
        go_simp
        with_reducible rfl
      rotate_left
      · simp only [Act.put, List.setIfInBounds_toArray, List.set_cons_zero, List.set_cons_succ, i64_w, i32_w]
        rfl
      refine pure_ (i := 1) (N := some 67) (v := ?_) (a' := ?_) #[true, true, false, false, false, false, false, false, false, false, false, false] rfl rfl (by kernel_rfl) (fun _ _ _ h => h) (Or.inl ⟨by rfl, ?_⟩) ?_ ?_
      rotate_left
      · intro w'
        go_simp
        with_reducible rfl
      rotate_left
      · simp only [Act.put, List.setIfInBounds_toArray, List.set_cons_zero, List.set_cons_succ, i64_w, i32_w]
        rfl
      refine pure_ (i := 2) (N := some 68) (v := ?_) (a' := ?_) #[true, true, true, false, false, false, false, false, false, false, false, false] rfl rfl (by kernel_rfl) (fun _ _ _ h => h) (Or.inl ⟨by rfl, ?_⟩) ?_ ?_
      rotate_left
      · intro w'
        go_simp
        with_reducible rfl
      rotate_left
      · simp only [Act.put, List.setIfInBounds_toArray, List.set_cons_zero, List.set_cons_succ, i64_w, i32_w]
        rfl
      refine pure_ (i := 3) (N := some 69) (v := ?_) (a' := ?_) #[true, true, true, true, false, false, false, false, false, false, false, false] rfl rfl (by kernel_rfl) (fun _ _ _ h => h) (Or.inl ⟨by rfl, ?_⟩) ?_ ?_
      rotate_left
      · intro w'
        go_simp
        with_reducible rfl
      rotate_left
      · simp only [Act.put, List.setIfInBounds_toArray, List.set_cons_zero, List.set_cons_succ, i64_w, i32_w]
        rfl
      refine pure_ (i := 4) (N := some 70) (v := ?_) (a' := ?_) #[true, true, true, true, true, false, false, false, false, false, false, false] rfl rfl (by kernel_rfl) (fun _ _ _ h => h) (Or.inl ⟨by rfl, ?_⟩) ?_ ?_
      rotate_left
      · intro w'
        go_simp
        with_reducible rfl
      rotate_left
      · simp only [Act.put, List.setIfInBounds_toArray, List.set_cons_zero, List.set_cons_succ, i64_w, i32_w]
        rfl
      refine take_ (i := 5) (N := some 71) (v := ?_) (a' := ?_) #[true, true, true, true, true, true, false, false, false, false, false, false] rfl rfl (by kernel_rfl) (fun _ _ _ h => h) (Or.inl ⟨by rfl, ?_⟩) hHeld ?_ ?_
      rotate_left
      · rintro w' ⟨s0, s1, s2⟩
        go_simp
        with_reducible rfl
      rotate_left
      · simp only [Act.put, List.setIfInBounds_toArray, List.set_cons_zero, List.set_cons_succ, i64_w, i32_w]
        rfl
      refine pure_ (i := 6) (N := some 72) (v := ?_) (a' := ?_) #[true, true, true, true, true, true, true, false, false, false, false, false] rfl rfl (by kernel_rfl) (fun _ _ _ h => h) (Or.inl ⟨by rfl, ?_⟩) ?_ ?_
      rotate_left
      · intro w'
        go_simp
        with_reducible rfl
      rotate_left
      · simp only [Act.put, List.setIfInBounds_toArray, List.set_cons_zero, List.set_cons_succ, i64_w, i32_w]
        rfl
      refine pure_ (i := 7) (N := some 73) (v := ?_) (a' := ?_) #[true, true, true, true, true, true, true, true, false, false, false, false] rfl rfl (by kernel_rfl) (fun _ _ _ h => h) (Or.inl ⟨by rfl, ?_⟩) ?_ ?_
      rotate_left
      · intro w'
        go_simp
        with_reducible rfl
      rotate_left
      · simp only [Act.put, List.setIfInBounds_toArray, List.set_cons_zero, List.set_cons_succ, i64_w, i32_w]
        rfl
      refine pure_ (i := 8) (N := some 74) (v := ?_) (a' := ?_) #[true, true, true, true, true, true, true, true, true, false, false, false] rfl rfl (by kernel_rfl) (fun _ _ _ h => h) (Or.inl ⟨by rfl, ?_⟩) ?_ ?_
      rotate_left
      · intro w'
        go_simp
        with_reducible rfl
      rotate_left
      · simp only [Act.put, List.setIfInBounds_toArray, List.set_cons_zero, List.set_cons_succ, i64_w, i32_w]
        rfl
      refine take_ (i := 9) (N := some 75) (v := ?_) (a' := ?_) #[true, true, true, true, true, true, true, true, true, true, false, false] rfl rfl (by kernel_rfl) (fun _ _ _ h => h) (Or.inl ⟨by rfl, ?_⟩) hHeld ?_ ?_
      rotate_left
      · rintro w' ⟨s0, s1, s2⟩
        go_simp
        with_reducible rfl
      rotate_left
      · simp only [Act.put, List.setIfInBounds_toArray, List.set_cons_zero, List.set_cons_succ, i64_w, i32_w]
        rfl
      refine one_ (i := 10) (N := some 76) #[true, true, true, true, true, true, true, true, true, true, true, false] rfl rfl (by kernel_rfl) (by decide) (fun K hK => ?_)
      refine goes_ Try.func33 (by kernel_rfl) rfl #[.agg #[.int .u64 p, .int .u64 (sp : Int), .int .u64 (fa : Int)]] (by rfl) rfl rfl (by (try simp only [List.map_toArray, List.map_cons, List.map_nil]); first | done | rfl) ?_
      refine (row_walk p (sp : Int) (fa : Int) _).mono ?_
      rintro r w7 ⟨⟨RA, RB, RC, q1, q2, q3, rfl⟩, ho7⟩
      refine ⟨_, rfl, ?_⟩
      replace HT := Aside0.mk (HT.out.drew.keep ho7)
      clear ho7
      refine hK.out _ _ (HX.out _ HT.out.o) (fun hHeld => ?_)
      clear hK K
      refine norm_ (a' := ?_) ?_ ?_
      rotate_left
      · show Act.put _ (some 76) _ = _
        simp only [Act.put, List.setIfInBounds_toArray, List.set_cons_zero, List.set_cons_succ, i64_w, i32_w]
        rfl
      refine one_ (i := 11) (N := some 77) #[true, true, true, true, true, true, true, true, true, true, true, true] rfl rfl (by kernel_rfl) (by decide) (fun K hK => ?_)
      refine goes_ Try.func32 (by kernel_rfl) rfl #[.pointer (some ⟨Nb, 0, none⟩), .int .u64 p, .agg #[.slice RA 0 q1, .bool false, .int .u64 (sp : Int), .bool false, .int .u64 (fa : Int), .bool false, .int .u64 0, .bool false, .slice RB 0 q2, .slice RC 0 q3]] (by rfl) rfl rfl (by (try simp only [List.map_toArray, List.map_cons, List.map_nil]); first | done | rfl) ?_
      refine (tb_see HT.out.swap p RA RB RC 0 q1 0 q2 0 q3 false false false false sp fa 0 o hso.out HI.out.wb).mono ?_
      rintro r w8 ⟨rfl, bb', HT2⟩
      refine ⟨_, rfl, ?_⟩
      replace HT := Aside0.mk HT2.swap
      clear HT2
      refine hK.out _ _ (HX.out _ HT.out.o) (fun hHeld => ?_)
      clear hK K
      refine norm_ (a' := ?_) ?_ ?_
      rotate_left
      · show Act.put _ (some 77) _ = _
        simp only [Act.put, List.setIfInBounds_toArray, List.set_cons_zero, List.set_cons_succ, i64_w, i32_w]
        rfl
      refine done_ (by kernel_rfl) ?_
      replace HI := Aside0.mk (HI.out.next (by omega) p o)
      generalize see ga p o = ga2 at HT HI
      generalize see gb p o = gb2 at HT HI
      by_cases hev : gb2.ev = []
      · have hl0 : gb2.ev.length = 0 := by rw [hev]; rfl
        go_wp2_with (go_at_call 34; refine (events_walk w.heap.size Nb bb' nm gb2 _ HT.out.b (by omega)).mono ?_; rintro r w9 ⟨A, n, c, rfl, hn, _, ho⟩; have hnI : ¬ (0 : Int) < (n : Int) := (by omega); replace HT := Aside0.mk (HT.out.keep ho); clear ho)
        go_roundg k1
        case measure => omega
        case rel => exact ⟨i + 1, _, _, _, _, rfl, by omega, by omega, HT, HI⟩
      · have hl0 : 0 < gb2.ev.length := List.length_pos_iff.2 hev
        have hla : 0 < ga2.ev.length := List.length_pos_iff.2 (fun e => hev (HI.out.low.none e).1)
        have hlI : (0 : Int) < (gb2.ev.length : Int) := by omega
        have hlJ : ¬ (ga2.ev.length : Int) = 0 := by omega
        have hlJ2 : ¬ ga2.ev.length = 0 := by omega
        have hlK : ¬ ga2.ev = [] := fun e => hev (HI.out.low.none e).1
        go_wp2_with (first
          | (go_at_call 34; (with_reducible refine (events_walk w.heap.size Nb bb' nm gb2 _ HT.out.b (by have := HI.out.lb; omega)).mono ?_); rintro r w9 ⟨A, n, c, rfl, rfl, _, ho⟩; replace HT := Aside0.mk (HT.out.keep ho); clear ho)
          | (go_at_call 34; (with_reducible refine (events_walk w.heap.size Na ba' nm ga2 _ HT.out.a (by have := HI.out.la; omega)).mono ?_); rintro r w10 ⟨A, n, c, rfl, rfl, _, ho⟩; replace HT := Aside0.mk (HT.out.keep ho); clear ho))
        go_roundg k1
        case measure => omega
        case rel => exact ⟨i + 1, _, _, _, _, rfl, by omega, by omega, HT, HI⟩
    · go_wp2_with (go_at_call 34; refine (events_walk w.heap.size Na ba nm ga _ HT.out.a (by have := HI.out.la; omega)).mono ?_; rintro r w9 ⟨A, n, c, rfl, hn, hC, ho⟩; have F := Aside0.mk (And.intro hC (And.intro (HT.out.o.trans ho) HI.out.alt.1)); have hn2 : n ≤ 60 := (by have := HI.out.la; omega); clear hC ho HT HI)
      generalize ga.ev = ev at F hn
      go_loopg [14] (n + 1) (fun kq v14 wq => ∃ (j : Nat), v14 = .int .i64 (j : Int) ∧ j ≤ n ∧ n - j < kq ∧ wq = w9)
      case atStart => exact ⟨0, rfl, by omega, by omega, rfl⟩
      case round =>
        obtain ⟨j, rfl, hj, hk2, rfl⟩ := hrel
        obtain ⟨k2, rfl⟩ : ∃ z, gk = z + 1 := ⟨gk - 1, by omega⟩
        by_cases hjn : j < n
        · have hjI : (j : Int) < (n : Int) := by omega
          have hj0 : (0 : Int) ≤ (j : Int) := by omega
          obtain ⟨ad, e, _, y1⟩ := at_T78 F.out.1 (j : Int) hj0 hjI
          cases e
          have hr : (rd_T78 ev (j : Int)).f1 = decide (j % 2 = 0) := by
            have hjl : j < ev.length := by omega
            unfold rd_T78
            rw [Int.toNat_natCast, List.getD_eq_getElem?_getD, List.getElem?_eq_getElem hjl]
            exact F.out.2.2 j hjl
          rw [hr, Int.toNat_natCast] at y1
          have hm1 : (j : Int) % 2 = ((j % 2 : Nat) : Int) := by omega
          have hm2 : Int.tmod (j : Int) 2 = ((j % 2 : Nat) : Int) := by rw [Int.tmod_eq_emod_of_nonneg hj0]; omega
          rcases Nat.mod_two_eq_zero_or_one j with hz | hz
          · rw [hz] at y1 hm1 hm2
            rw [decide_eq_true rfl] at y1
            go_wp2
            go_roundg k2
            case measure => omega
            case rel => exact ⟨j + 1, rfl, by omega, by omega, rfl⟩
          · rw [hz] at y1 hm1 hm2
            rw [decide_eq_false (by decide)] at y1
            go_wp2
            go_roundg k2
            case measure => omega
            case rel => exact ⟨j + 1, rfl, by omega, by omega, rfl⟩
        · go_wp2_with (first
            | (go_at_call 32; refine (see_nil 1 none none none 0 0 0 0 0 0 false false false false 0 0 0 _).mono ?_; rintro r w10 ⟨rfl, ho⟩; replace F := Aside0.mk (F.out.2.1.trans ho); clear ho)
            | (go_at_call 34; refine (events_nil _).mono ?_; rintro r w11 ⟨rfl, rfl⟩))
          go_ret
          exact ⟨by first | rfl | simp, below_of F.out⟩
set_option maxHeartbeats 16000000 in
set_option maxRecDepth 1000000 in
theorem turns_lo (nm : ByteArray) (lim fo ca more : Nat) (A0 : Option Addr) (c0 n0 : Nat) (P Q R : Nat → Int) (w : World) (h1 : lim ≤ 1000) (h2 : 1 ≤ fo ∧ fo ≤ 1000) (h3 : 1 ≤ ca ∧ ca ≤ 1000) (hmo : more ≤ 255) (h60 : n0 ≤ 60) (hm : ¬ 1000 < lim + more) (hr0 : Thins w A0 n0 P Q R) (hq0 : ∀ i, i < n0 → 0 ≤ Q i ∧ 0 ≤ R i) :
    Calls Try.prog 8 #[.agg #[.string nm, .int .i64 (lim : Int), .int .i64 (fo : Int), .int .i64 (ca : Int)], .slice A0 n0 c0, .int .u8 (more : Int)] w fun r w' => r = .returned (.bool true) ∧ Below w.heap.size w w' := by
  have HR0 := Aside0.mk (fun i hi => thin_at hr0 hq0 i hi)
  clear hr0 hq0
  have hmI : ¬ (1000 : Int) < (lim : Int) + (more : Int) := by omega
  have hle1 : (lim + more) ≤ 1000 := by omega
  have g1 : ¬ (n0 : Int) > 60 := by omega
  have hR0 := Aside0.mk (Row.new w [.string nm, .int .i64 (lim : Int), .int .i64 (fo : Int), .int .i64 (ca : Int)] 58)
  have hO0 := Aside0.mk ((Only.refl (fun _ => False) w).alloc (.cells #[.string nm, .int .i64 (lim : Int), .int .i64 (fo : Int), .int .i64 (ca : Int)] 58))
  obtain ⟨X, hX⟩ : ∃ X, w.heap.size = X := ⟨_, rfl⟩
  go_enter Try.func8, Try.ntmps8
  go_wp2_with (go_at_call 29; refine (alive_walk _).mono ?_; rintro r w1 ⟨rfl, ho⟩; have G := Aside0.mk (And.intro (hR0.out.only ho id) (hO0.out.trans ho)); rw [hX] at G; have x0 := (G.out.1 0 _ rfl).1; have x1 := (G.out.1 1 _ rfl).1; have x2 := (G.out.1 2 _ rfl).1; have x3 := (G.out.1 3 _ rfl).1; clear ho)
  go_wp2_with (go_at_call 30; refine (right_walk nm lim fo ca _ h1 h2 h3).mono ?_; rintro r w2 ⟨rfl, ho⟩; replace G := Aside0.mk (And.intro (G.out.1.only ho id) (G.out.2.trans ho)); have x0 := (G.out.1 0 _ rfl).1; have x1 := (G.out.1 1 _ rfl).1; have x2 := (G.out.1 2 _ rfl).1; have x3 := (G.out.1 3 _ rfl).1; clear ho)
  go_wp2_with (first
    | (go_at_call 31; refine (new_walk w.heap.size nm lim fo ca _ h1 h2 h3 G.out.2.size).mono ?_; rintro r w3 ⟨Na, rfl, hNa, hia, ho⟩; replace G := Aside0.mk (And.intro (G.out.1.only ho id) (And.intro (G.out.2.trans ho) hia)); have x0 := (G.out.1 0 _ rfl).1; have x1 := (G.out.1 1 _ rfl).1; have x2 := (G.out.1 2 _ rfl).1; have x3 := (G.out.1 3 _ rfl).1; have hXl : X < w3.heap.size := G.out.1.lt (by simp); clear ho hia)
    | (go_at_call 31; refine (second_new (ho := G.out.2.1) (hi := G.out.2.2) (h1 := hle1) (h2 := h2) (h3 := h3)).mono ?_; rintro r w4 ⟨Nb, rfl, T⟩; replace T := Aside0.mk T))
  have hTi := Aside0.mk (show Ti ⟨lim, fo, ca, 0, 0, []⟩ ⟨(lim + more), fo, ca, 0, 0, []⟩ 0 0 0 0 0 from ⟨⟨h1, h2, h3, by simp, by simp, by simp⟩, ⟨by simp only; omega, h2, h3, by simp, by simp, by simp⟩, by simp, by simp, by simp, by simp, ⟨fun i h => absurd h (by simp), by simp⟩, ⟨by simp only; omega, rfl, h2.1, fun _ => ⟨rfl, by simp, by simp, Nat.le_refl _, by simp only; omega⟩⟩⟩)
  clear x0 x1 x2 x3 hXl hNa G hR0 hO0
  go_wp2
  go_loopg [12] (n0 + 1) (fun kq v12 wr => ∃ (i : Nat) (ba bb : Option Nat) (ga gb : Wt), v12 = .int .i64 (i : Int) ∧ i ≤ n0 ∧ n0 - i < kq ∧ Aside0 (Tb w wr Na Nb ba bb nm ga gb) ∧ Aside0 (Ti ga gb 0 0 0 0 i))
  case atStart => exact ⟨0, _, _, _, _, rfl, by omega, by omega, T, hTi⟩
  case round =>
    clear T hTi
    obtain ⟨i, ba, bb, ga, gb, rfl, hi, hk, HT, HI⟩ := hrel
    obtain ⟨k1, rfl⟩ : ∃ m, gk = m + 1 := ⟨gk - 1, by omega⟩
    by_cases hil : i < n0
    · have hil' : (i : Int) < (n0 : Int) := by omega
      have hi0 : (0 : Int) ≤ (i : Int) := by omega
      obtain ⟨ad, eA, p, sp, fa, hsp, hX3⟩ := HR0.out i hil
      cases eA
      have HX := Aside0.mk hX3
      clear hX3 hsp
      obtain ⟨o, hso⟩ : ∃ o, share sp fa = o := ⟨_, rfl⟩
      replace hso := Aside0.mk hso
      go_wp2
      have hS := HX.out _ HT.out.drew.o
      refine start_ (n := 12) (S := fun w' : World => w'.cell? (ad.add (i * 3)) = some (.int .u64 p) ∧ w'.cell? ⟨(ad.add (i * 3)).block, (ad.add (i * 3)).off + 1, none⟩ = some (.int .u64 (sp : Int)) ∧ w'.cell? ⟨(ad.add (i * 3)).block, (ad.add (i * 3)).off + 2, none⟩ = some (.int .u64 (fa : Int))) (ds := []) #[false, false, false, false, false, false, false, false, false, false, false, false] (by kernel_rfl) rfl rfl hS (fun hHeld => ?_)
      clear hS
      refine pure_ (i := 0) (N := some 54) (v := ?_) (a' := ?_) #[true, false, false, false, false, false, false, false, false, false, false, false] rfl rfl (by kernel_rfl) (fun _ _ _ h => h) (Or.inl ⟨by rfl, ?_⟩) ?_ ?_
      rotate_left
      · intro w'
        go_simp
        with_reducible rfl
      rotate_left
      · simp only [Act.put, List.setIfInBounds_toArray, List.set_cons_zero, List.set_cons_succ, i64_w, i32_w]
        rfl
      refine pure_ (i := 1) (N := some 55) (v := ?_) (a' := ?_) #[true, true, false, false, false, false, false, false, false, false, false, false] rfl rfl (by kernel_rfl) (fun _ _ _ h => h) (Or.inl ⟨by rfl, ?_⟩) ?_ ?_
      rotate_left
      · intro w'
        go_simp
        with_reducible rfl
      rotate_left
      · simp only [Act.put, List.setIfInBounds_toArray, List.set_cons_zero, List.set_cons_succ, i64_w, i32_w]
        rfl
      refine pure_ (i := 2) (N := some 56) (v := ?_) (a' := ?_) #[true, true, true, false, false, false, false, false, false, false, false, false] rfl rfl (by kernel_rfl) (fun _ _ _ h => h) (Or.inl ⟨by rfl, ?_⟩) ?_ ?_
      rotate_left
      · intro w'
        go_simp
        with_reducible rfl
      rotate_left
      · simp only [Act.put, List.setIfInBounds_toArray, List.set_cons_zero, List.set_cons_succ, i64_w, i32_w]
        rfl
      refine pure_ (i := 3) (N := some 57) (v := ?_) (a' := ?_) #[true, true, true, true, false, false, false, false, false, false, false, false] rfl rfl (by kernel_rfl) (fun _ _ _ h => h) (Or.inl ⟨by rfl, ?_⟩) ?_ ?_
      rotate_left
      · intro w'
        go_simp
        with_reducible rfl
      rotate_left
      · simp only [Act.put, List.setIfInBounds_toArray, List.set_cons_zero, List.set_cons_succ, i64_w, i32_w]
        rfl
      refine pure_ (i := 4) (N := some 58) (v := ?_) (a' := ?_) #[true, true, true, true, true, false, false, false, false, false, false, false] rfl rfl (by kernel_rfl) (fun _ _ _ h => h) (Or.inl ⟨by rfl, ?_⟩) ?_ ?_
      rotate_left
      · intro w'
        go_simp
        with_reducible rfl
      rotate_left
      · simp only [Act.put, List.setIfInBounds_toArray, List.set_cons_zero, List.set_cons_succ, i64_w, i32_w]
        rfl
      refine take_ (i := 5) (N := some 59) (v := ?_) (a' := ?_) #[true, true, true, true, true, true, false, false, false, false, false, false] rfl rfl (by kernel_rfl) (fun _ _ _ h => h) (Or.inl ⟨by rfl, ?_⟩) hHeld ?_ ?_
      rotate_left
      · rintro w' ⟨s0, s1, s2⟩
        go_simp
        with_reducible rfl
      rotate_left
      · simp only [Act.put, List.setIfInBounds_toArray, List.set_cons_zero, List.set_cons_succ, i64_w, i32_w]
        rfl
      refine pure_ (i := 6) (N := some 60) (v := ?_) (a' := ?_) #[true, true, true, true, true, true, true, false, false, false, false, false] rfl rfl (by kernel_rfl) (fun _ _ _ h => h) (Or.inl ⟨by rfl, ?_⟩) ?_ ?_
      rotate_left
      · intro w'
        go_simp
        with_reducible rfl
      rotate_left
      · simp only [Act.put, List.setIfInBounds_toArray, List.set_cons_zero, List.set_cons_succ, i64_w, i32_w]
        rfl
      refine pure_ (i := 7) (N := some 61) (v := ?_) (a' := ?_) #[true, true, true, true, true, true, true, true, false, false, false, false] rfl rfl (by kernel_rfl) (fun _ _ _ h => h) (Or.inl ⟨by rfl, ?_⟩) ?_ ?_
      rotate_left
      · intro w'
        go_simp
        with_reducible rfl
      rotate_left
      · simp only [Act.put, List.setIfInBounds_toArray, List.set_cons_zero, List.set_cons_succ, i64_w, i32_w]
        rfl
      refine pure_ (i := 8) (N := some 62) (v := ?_) (a' := ?_) #[true, true, true, true, true, true, true, true, true, false, false, false] rfl rfl (by kernel_rfl) (fun _ _ _ h => h) (Or.inl ⟨by rfl, ?_⟩) ?_ ?_
      rotate_left
      · intro w'
        go_simp
        with_reducible rfl
      rotate_left
      · simp only [Act.put, List.setIfInBounds_toArray, List.set_cons_zero, List.set_cons_succ, i64_w, i32_w]
        rfl
      refine take_ (i := 9) (N := some 63) (v := ?_) (a' := ?_) #[true, true, true, true, true, true, true, true, true, true, false, false] rfl rfl (by kernel_rfl) (fun _ _ _ h => h) (Or.inl ⟨by rfl, ?_⟩) hHeld ?_ ?_
      rotate_left
      · rintro w' ⟨s0, s1, s2⟩
        go_simp
        with_reducible rfl
      rotate_left
      · simp only [Act.put, List.setIfInBounds_toArray, List.set_cons_zero, List.set_cons_succ, i64_w, i32_w]
        rfl
      refine one_ (i := 10) (N := some 64) #[true, true, true, true, true, true, true, true, true, true, true, false] rfl rfl (by kernel_rfl) (by decide) (fun K hK => ?_)
      refine goes_ Try.func33 (by kernel_rfl) rfl #[.agg #[.int .u64 p, .int .u64 (sp : Int), .int .u64 (fa : Int)]] (by rfl) rfl rfl (by (try simp only [List.map_toArray, List.map_cons, List.map_nil]); first | done | rfl) ?_
      refine (row_walk p (sp : Int) (fa : Int) _).mono ?_
      rintro r w7 ⟨⟨RA, RB, RC, q1, q2, q3, rfl⟩, ho7⟩
      refine ⟨_, rfl, ?_⟩
      replace HT := Aside0.mk (HT.out.drew.keep ho7)
      clear ho7
      refine hK.out _ _ (HX.out _ HT.out.o) (fun hHeld => ?_)
      clear hK K
      refine norm_ (a' := ?_) ?_ ?_
      rotate_left
      · show Act.put _ (some 64) _ = _
        simp only [Act.put, List.setIfInBounds_toArray, List.set_cons_zero, List.set_cons_succ, i64_w, i32_w]
        rfl
      refine one_ (i := 11) (N := some 65) #[true, true, true, true, true, true, true, true, true, true, true, true] rfl rfl (by kernel_rfl) (by decide) (fun K hK => ?_)
      refine goes_ Try.func32 (by kernel_rfl) rfl #[.pointer (some ⟨Na, 0, none⟩), .int .u64 p, .agg #[.slice RA 0 q1, .bool false, .int .u64 (sp : Int), .bool false, .int .u64 (fa : Int), .bool false, .int .u64 0, .bool false, .slice RB 0 q2, .slice RC 0 q3]] (by rfl) rfl rfl (by (try simp only [List.map_toArray, List.map_cons, List.map_nil]); first | done | rfl) ?_
      refine (tb_see HT.out p RA RB RC 0 q1 0 q2 0 q3 false false false false sp fa 0 o hso.out HI.out.wa).mono ?_
      rintro r w8 ⟨rfl, ba', HT2⟩
      refine ⟨_, rfl, ?_⟩
      replace HT := Aside0.mk HT2
      clear HT2
      refine hK.out _ _ (HX.out _ HT.out.o) (fun hHeld => ?_)
      clear hK K
      refine norm_ (a' := ?_) ?_ ?_
      rotate_left
      · show Act.put _ (some 65) _ = _
        simp only [Act.put, List.setIfInBounds_toArray, List.set_cons_zero, List.set_cons_succ, i64_w, i32_w]
        rfl
      refine done_ (by kernel_rfl) ?_
      go_wp2
      have hS := HX.out _ HT.out.drew.o
      refine start_ (n := 12) (S := fun w' : World => w'.cell? (ad.add (i * 3)) = some (.int .u64 p) ∧ w'.cell? ⟨(ad.add (i * 3)).block, (ad.add (i * 3)).off + 1, none⟩ = some (.int .u64 (sp : Int)) ∧ w'.cell? ⟨(ad.add (i * 3)).block, (ad.add (i * 3)).off + 2, none⟩ = some (.int .u64 (fa : Int))) (ds := []) #[false, false, false, false, false, false, false, false, false, false, false, false] (by kernel_rfl) rfl rfl hS (fun hHeld => ?_)
      clear hS
      refine pure_ (i := 0) (N := some 66) (v := ?_) (a' := ?_) #[true, false, false, false, false, false, false, false, false, false, false, false] rfl rfl (by kernel_rfl) (fun _ _ _ h => h) (Or.inl ⟨by rfl, ?_⟩) ?_ ?_
      rotate_left
      · intro w'
        go_simp
        with_reducible rfl
      rotate_left
      · simp only [Act.put, List.setIfInBounds_toArray, List.set_cons_zero, List.set_cons_succ, i64_w, i32_w]
        rfl
      refine pure_ (i := 1) (N := some 67) (v := ?_) (a' := ?_) #[true, true, false, false, false, false, false, false, false, false, false, false] rfl rfl (by kernel_rfl) (fun _ _ _ h => h) (Or.inl ⟨by rfl, ?_⟩) ?_ ?_
      rotate_left
      · intro w'
        go_simp
        with_reducible rfl
      rotate_left
      · simp only [Act.put, List.setIfInBounds_toArray, List.set_cons_zero, List.set_cons_succ, i64_w, i32_w]
        rfl
      refine pure_ (i := 2) (N := some 68) (v := ?_) (a' := ?_) #[true, true, true, false, false, false, false, false, false, false, false, false] rfl rfl (by kernel_rfl) (fun _ _ _ h => h) (Or.inl ⟨by rfl, ?_⟩) ?_ ?_
      rotate_left
      · intro w'
        go_simp
        with_reducible rfl
      rotate_left
      · simp only [Act.put, List.setIfInBounds_toArray, List.set_cons_zero, List.set_cons_succ, i64_w, i32_w]
        rfl
      refine pure_ (i := 3) (N := some 69) (v := ?_) (a' := ?_) #[true, true, true, true, false, false, false, false, false, false, false, false] rfl rfl (by kernel_rfl) (fun _ _ _ h => h) (Or.inl ⟨by rfl, ?_⟩) ?_ ?_
      rotate_left
      · intro w'
        go_simp
        with_reducible rfl
      rotate_left
      · simp only [Act.put, List.setIfInBounds_toArray, List.set_cons_zero, List.set_cons_succ, i64_w, i32_w]
        rfl
      refine pure_ (i := 4) (N := some 70) (v := ?_) (a' := ?_) #[true, true, true, true, true, false, false, false, false, false, false, false] rfl rfl (by kernel_rfl) (fun _ _ _ h => h) (Or.inl ⟨by rfl, ?_⟩) ?_ ?_
      rotate_left
      · intro w'
        go_simp
        with_reducible rfl
      rotate_left
      · simp only [Act.put, List.setIfInBounds_toArray, List.set_cons_zero, List.set_cons_succ, i64_w, i32_w]
        rfl
      refine take_ (i := 5) (N := some 71) (v := ?_) (a' := ?_) #[true, true, true, true, true, true, false, false, false, false, false, false] rfl rfl (by kernel_rfl) (fun _ _ _ h => h) (Or.inl ⟨by rfl, ?_⟩) hHeld ?_ ?_
      rotate_left
      · rintro w' ⟨s0, s1, s2⟩
        go_simp
        with_reducible rfl
      rotate_left
      · simp only [Act.put, List.setIfInBounds_toArray, List.set_cons_zero, List.set_cons_succ, i64_w, i32_w]
        rfl
      refine pure_ (i := 6) (N := some 72) (v := ?_) (a' := ?_) #[true, true, true, true, true, true, true, false, false, false, false, false] rfl rfl (by kernel_rfl) (fun _ _ _ h => h) (Or.inl ⟨by rfl, ?_⟩) ?_ ?_
      rotate_left
      · intro w'
        go_simp
        with_reducible rfl
      rotate_left
      · simp only [Act.put, List.setIfInBounds_toArray, List.set_cons_zero, List.set_cons_succ, i64_w, i32_w]
        rfl
      refine pure_ (i := 7) (N := some 73) (v := ?_) (a' := ?_) #[true, true, true, true, true, true, true, true, false, false, false, false] rfl rfl (by kernel_rfl) (fun _ _ _ h => h) (Or.inl ⟨by rfl, ?_⟩) ?_ ?_
      rotate_left
      · intro w'
        go_simp
        with_reducible rfl
      rotate_left
      · simp only [Act.put, List.setIfInBounds_toArray, List.set_cons_zero, List.set_cons_succ, i64_w, i32_w]
        rfl
      refine pure_ (i := 8) (N := some 74) (v := ?_) (a' := ?_) #[true, true, true, true, true, true, true, true, true, false, false, false] rfl rfl (by kernel_rfl) (fun _ _ _ h => h) (Or.inl ⟨by rfl, ?_⟩) ?_ ?_
      rotate_left
      · intro w'
        go_simp
        with_reducible rfl
      rotate_left
      · simp only [Act.put, List.setIfInBounds_toArray, List.set_cons_zero, List.set_cons_succ, i64_w, i32_w]
        rfl
      refine take_ (i := 9) (N := some 75) (v := ?_) (a' := ?_) #[true, true, true, true, true, true, true, true, true, true, false, false] rfl rfl (by kernel_rfl) (fun _ _ _ h => h) (Or.inl ⟨by rfl, ?_⟩) hHeld ?_ ?_
      rotate_left
      · rintro w' ⟨s0, s1, s2⟩
        go_simp
        with_reducible rfl
      rotate_left
      · simp only [Act.put, List.setIfInBounds_toArray, List.set_cons_zero, List.set_cons_succ, i64_w, i32_w]
        rfl
      refine one_ (i := 10) (N := some 76) #[true, true, true, true, true, true, true, true, true, true, true, false] rfl rfl (by kernel_rfl) (by decide) (fun K hK => ?_)
      refine goes_ Try.func33 (by kernel_rfl) rfl #[.agg #[.int .u64 p, .int .u64 (sp : Int), .int .u64 (fa : Int)]] (by rfl) rfl rfl (by (try simp only [List.map_toArray, List.map_cons, List.map_nil]); first | done | rfl) ?_
      refine (row_walk p (sp : Int) (fa : Int) _).mono ?_
      rintro r w7 ⟨⟨RA, RB, RC, q1, q2, q3, rfl⟩, ho7⟩
      refine ⟨_, rfl, ?_⟩
      replace HT := Aside0.mk (HT.out.drew.keep ho7)
      clear ho7
      refine hK.out _ _ (HX.out _ HT.out.o) (fun hHeld => ?_)
      clear hK K
      refine norm_ (a' := ?_) ?_ ?_
      rotate_left
      · show Act.put _ (some 76) _ = _
        simp only [Act.put, List.setIfInBounds_toArray, List.set_cons_zero, List.set_cons_succ, i64_w, i32_w]
        rfl
      refine one_ (i := 11) (N := some 77) #[true, true, true, true, true, true, true, true, true, true, true, true] rfl rfl (by kernel_rfl) (by decide) (fun K hK => ?_)
      refine goes_ Try.func32 (by kernel_rfl) rfl #[.pointer (some ⟨Nb, 0, none⟩), .int .u64 p, .agg #[.slice RA 0 q1, .bool false, .int .u64 (sp : Int), .bool false, .int .u64 (fa : Int), .bool false, .int .u64 0, .bool false, .slice RB 0 q2, .slice RC 0 q3]] (by rfl) rfl rfl (by (try simp only [List.map_toArray, List.map_cons, List.map_nil]); first | done | rfl) ?_
      refine (tb_see HT.out.swap p RA RB RC 0 q1 0 q2 0 q3 false false false false sp fa 0 o hso.out HI.out.wb).mono ?_
      rintro r w8 ⟨rfl, bb', HT2⟩
      refine ⟨_, rfl, ?_⟩
      replace HT := Aside0.mk HT2.swap
      clear HT2
      refine hK.out _ _ (HX.out _ HT.out.o) (fun hHeld => ?_)
      clear hK K
      refine norm_ (a' := ?_) ?_ ?_
      rotate_left
      · show Act.put _ (some 77) _ = _
        simp only [Act.put, List.setIfInBounds_toArray, List.set_cons_zero, List.set_cons_succ, i64_w, i32_w]
        rfl
      refine done_ (by kernel_rfl) ?_
      replace HI := Aside0.mk (HI.out.next (by omega) p o)
      generalize see ga p o = ga2 at HT HI
      generalize see gb p o = gb2 at HT HI
      by_cases hev : gb2.ev = []
      · have hl0 : gb2.ev.length = 0 := by rw [hev]; rfl
        go_wp2_with (go_at_call 34; refine (events_walk w.heap.size Nb bb' nm gb2 _ HT.out.b (by omega)).mono ?_; rintro r w9 ⟨A, n, c, rfl, hn, _, ho⟩; have hnI : ¬ (0 : Int) < (n : Int) := (by omega); replace HT := Aside0.mk (HT.out.keep ho); clear ho)
        go_roundg k1
        case measure => omega
        case rel => exact ⟨i + 1, _, _, _, _, rfl, by omega, by omega, HT, HI⟩
      · have hl0 : 0 < gb2.ev.length := List.length_pos_iff.2 hev
        have hla : 0 < ga2.ev.length := List.length_pos_iff.2 (fun e => hev (HI.out.low.none e).1)
        have hlI : (0 : Int) < (gb2.ev.length : Int) := by omega
        have hlJ : ¬ (ga2.ev.length : Int) = 0 := by omega
        have hlJ2 : ¬ ga2.ev.length = 0 := by omega
        have hlK : ¬ ga2.ev = [] := fun e => hev (HI.out.low.none e).1
        go_wp2_with (first
          | (go_at_call 34; (with_reducible refine (events_walk w.heap.size Nb bb' nm gb2 _ HT.out.b (by have := HI.out.lb; omega)).mono ?_); rintro r w9 ⟨A, n, c, rfl, rfl, _, ho⟩; replace HT := Aside0.mk (HT.out.keep ho); clear ho)
          | (go_at_call 34; (with_reducible refine (events_walk w.heap.size Na ba' nm ga2 _ HT.out.a (by have := HI.out.la; omega)).mono ?_); rintro r w10 ⟨A, n, c, rfl, rfl, _, ho⟩; replace HT := Aside0.mk (HT.out.keep ho); clear ho))
        go_roundg k1
        case measure => omega
        case rel => exact ⟨i + 1, _, _, _, _, rfl, by omega, by omega, HT, HI⟩
    · go_wp2_with (go_at_call 34; refine (events_walk w.heap.size Na ba nm ga _ HT.out.a (by have := HI.out.la; omega)).mono ?_; rintro r w9 ⟨A, n, c, rfl, hn, hC, ho⟩; have F := Aside0.mk (And.intro hC (And.intro (HT.out.o.trans ho) HI.out.alt.1)); have hn2 : n ≤ 60 := (by have := HI.out.la; omega); clear hC ho HT HI)
      generalize ga.ev = ev at F hn
      go_loopg [14] (n + 1) (fun kq v14 wq => ∃ (j : Nat), v14 = .int .i64 (j : Int) ∧ j ≤ n ∧ n - j < kq ∧ wq = w9)
      case atStart => exact ⟨0, rfl, by omega, by omega, rfl⟩
      case round =>
        obtain ⟨j, rfl, hj, hk2, rfl⟩ := hrel
        obtain ⟨k2, rfl⟩ : ∃ z, gk = z + 1 := ⟨gk - 1, by omega⟩
        by_cases hjn : j < n
        · have hjI : (j : Int) < (n : Int) := by omega
          have hj0 : (0 : Int) ≤ (j : Int) := by omega
          obtain ⟨ad, e, _, y1⟩ := at_T78 F.out.1 (j : Int) hj0 hjI
          cases e
          have hr : (rd_T78 ev (j : Int)).f1 = decide (j % 2 = 0) := by
            have hjl : j < ev.length := by omega
            unfold rd_T78
            rw [Int.toNat_natCast, List.getD_eq_getElem?_getD, List.getElem?_eq_getElem hjl]
            exact F.out.2.2 j hjl
          rw [hr, Int.toNat_natCast] at y1
          have hm1 : (j : Int) % 2 = ((j % 2 : Nat) : Int) := by omega
          have hm2 : Int.tmod (j : Int) 2 = ((j % 2 : Nat) : Int) := by rw [Int.tmod_eq_emod_of_nonneg hj0]; omega
          rcases Nat.mod_two_eq_zero_or_one j with hz | hz
          · rw [hz] at y1 hm1 hm2
            rw [decide_eq_true rfl] at y1
            go_wp2
            go_roundg k2
            case measure => omega
            case rel => exact ⟨j + 1, rfl, by omega, by omega, rfl⟩
          · rw [hz] at y1 hm1 hm2
            rw [decide_eq_false (by decide)] at y1
            go_wp2
            go_roundg k2
            case measure => omega
            case rel => exact ⟨j + 1, rfl, by omega, by omega, rfl⟩
        · go_wp2_with (first
            | (go_at_call 32; refine (see_nil 1 none none none 0 0 0 0 0 0 false false false false 0 0 0 _).mono ?_; rintro r w10 ⟨rfl, ho⟩; replace F := Aside0.mk (F.out.2.1.trans ho); clear ho)
            | (go_at_call 34; refine (events_nil _).mono ?_; rintro r w11 ⟨rfl, rfl⟩))
          go_ret
          exact ⟨by first | rfl | simp, below_of F.out⟩
theorem turns_far (nm : ByteArray) (lim fo ca more : Int) (A0 : Option Addr) (c0 n0 : Nat) (w : World) (h : 60 < n0) :
    Calls Try.prog 8 #[.agg #[.string nm, .int .i64 lim, .int .i64 fo, .int .i64 ca], .slice A0 n0 c0, .int .u8 more] w fun r w' => r = .returned (.bool true) ∧ Below w.heap.size w w' := by
  have g1 : (n0 : Int) > 60 := by omega
  have hO0 := Aside0.mk ((Only.refl (fun _ => False) w).alloc (.cells #[.string nm, .int .i64 lim, .int .i64 fo, .int .i64 ca] 58))
  go_enter Try.func8, Try.ntmps8
  go_wp2_with (go_at_call 29; refine (alive_walk _).mono ?_; rintro r w1 ⟨rfl, ho⟩; have G := Aside0.mk (hO0.out.trans ho); clear ho)
  go_ret
  exact ⟨rfl, below_of G.out⟩
set_option maxHeartbeats 4000000 in
set_option maxRecDepth 1000000 in
theorem turns_wrong (nm : ByteArray) (lim fo ca more : Int) (A0 : Option Addr) (c0 n0 : Nat) (w : World) (h60 : n0 ≤ 60) (hn : ¬ ((0 ≤ lim ∧ lim ≤ 1000) ∧ (1 ≤ fo ∧ fo ≤ 1000) ∧ (1 ≤ ca ∧ ca ≤ 1000))) :
    Calls Try.prog 8 #[.agg #[.string nm, .int .i64 lim, .int .i64 fo, .int .i64 ca], .slice A0 n0 c0, .int .u8 more] w fun r w' => r = .returned (.bool true) ∧ Below w.heap.size w w' := by
  have hN := Aside0.mk hn
  clear hn
  have g1 : ¬ (n0 : Int) > 60 := by omega
  have hR0 := Aside0.mk (Row.new w [.string nm, .int .i64 lim, .int .i64 fo, .int .i64 ca] 58)
  have hO0 := Aside0.mk ((Only.refl (fun _ => False) w).alloc (.cells #[.string nm, .int .i64 lim, .int .i64 fo, .int .i64 ca] 58))
  obtain ⟨X, hX⟩ : ∃ X, w.heap.size = X := ⟨_, rfl⟩
  go_enter Try.func8, Try.ntmps8
  go_wp2_with (go_at_call 29; refine (alive_walk _).mono ?_; rintro r w1 ⟨rfl, ho⟩; have G := Aside0.mk (And.intro (hR0.out.only ho id) (hO0.out.trans ho)); rw [hX] at G; have x0 := (G.out.1 0 _ rfl).1; have x1 := (G.out.1 1 _ rfl).1; have x2 := (G.out.1 2 _ rfl).1; have x3 := (G.out.1 3 _ rfl).1; clear ho)
  go_wp2_with (go_at_call 30; refine (wrong_walk nm lim fo ca _ hN.out).mono ?_; rintro r w2 ⟨rfl, ho⟩; replace G := Aside0.mk (And.intro (G.out.1.only ho id) (G.out.2.trans ho)); clear ho)
  go_ret
  exact ⟨rfl, below_of G.out.2⟩
end Go.Proofs.Ytfgpcoocbblkiaa.At
