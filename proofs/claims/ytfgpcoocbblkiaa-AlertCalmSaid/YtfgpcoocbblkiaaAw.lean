/- AlertTurns, AlertCalm, walked. No conditions but bounds. -/
import Derived.Test.YtfgpcoocbblkiaaAu
namespace Go.Proofs.Ytfgpcoocbblkiaa.At
open Go.RowKit Go.Proofs.YtfgpcoocbblkiaaW.PrintWords Go.Proofs.YtfgpcoocbblkiaaW.PrintLast
open Go.Proofs.Ytfgpcoocbblkiaa.Ob Go.Proofs.Ytfgpcoocbblkiaa.XAl
set_option linter.unusedSimpArgs false
set_option linter.unusedVariables false

/-- The windows, as they stand in memory, whatever was made since. -/
def Thins (w : World) (A0 : Option Addr) (n0 : Nat) (P Q R : Nat → Int) : Prop := ∀ W, Below w.heap.size w W → ∀ i, i < n0 → ∃ ad, A0 = some ad ∧ W.cell? (ad.add (i * 3)) = some (.int .u64 (P i)) ∧ W.cell? ⟨(ad.add (i * 3)).block, (ad.add (i * 3)).off + 1, none⟩ = some (.int .u64 (Q i)) ∧ W.cell? ⟨(ad.add (i * 3)).block, (ad.add (i * 3)).off + 2, none⟩ = some (.int .u64 (R i))
theorem below_of {w wr : World} (h : Only (fun _ => False) w wr) : Below w.heap.size w wr := h.below (fun _ e => e.elim) (Nat.le_refl _)
/-- One window, whatever was made since. -/
theorem thin_at {w : World} {A0 : Option Addr} {n0 : Nat} {P Q R : Nat → Int} (h : Thins w A0 n0 P Q R) (hq : ∀ i, i < n0 → 0 ≤ Q i ∧ 0 ≤ R i) (i : Nat) (hi : i < n0) : ∃ ad, A0 = some ad ∧ ∃ (p : Int) (sp fa : Nat), Q i = (sp : Int) ∧ ∀ W, Only (fun _ => False) w W → W.cell? (ad.add (i * 3)) = some (.int .u64 p) ∧ W.cell? ⟨(ad.add (i * 3)).block, (ad.add (i * 3)).off + 1, none⟩ = some (.int .u64 (sp : Int)) ∧ W.cell? ⟨(ad.add (i * 3)).block, (ad.add (i * 3)).off + 2, none⟩ = some (.int .u64 (fa : Int)) := by
  obtain ⟨ad, e, _⟩ := h w (Below.refl _ _) i hi
  have := hq i hi
  refine ⟨ad, e, P i, (Q i).toNat, (R i).toNat, by omega, fun W hW => ?_⟩
  obtain ⟨ad', e', h1, h2, h3⟩ := h W (below_of hW) i hi
  rw [e] at e'
  cases e'
  rw [show (((Q i).toNat : Nat) : Int) = Q i by omega, show (((R i).toNat : Nat) : Int) = R i by omega]
  exact ⟨h1, h2, h3⟩
/-- Two watches. -/
structure Tb (w wr : World) (Na Nb : Nat) (ba bb : Option Nat) (nm : ByteArray) (ga gb : Wt) : Prop where
  a : IsW wr w.heap.size Na ba nm ga
  b : IsW wr w.heap.size Nb bb nm gb
  o : Only (fun _ => False) w wr
  ap : Apart Na ba Nb bb
theorem Tb.keep {w wr w' : World} {Na Nb : Nat} {ba bb : Option Nat} {nm : ByteArray} {ga gb : Wt} (h : Tb w wr Na Nb ba bb nm ga gb) (k : Only (fun _ => False) wr w') : Tb w w' Na Nb ba bb nm ga gb :=
  ⟨h.a.only k id (fun _ _ => id), h.b.only k id (fun _ _ => id), h.o.trans k, h.ap⟩
theorem Tb.drew {w wr : World} {Na Nb : Nat} {ba bb : Option Nat} {nm : ByteArray} {ga gb : Wt} (h : Tb w wr Na Nb ba bb nm ga gb) : Tb w wr.drew Na Nb ba bb nm ga gb := h.keep (Only.refl _ wr).drew
theorem Tb.swap {w wr : World} {Na Nb : Nat} {ba bb : Option Nat} {nm : ByteArray} {ga gb : Wt} (h : Tb w wr Na Nb ba bb nm ga gb) : Tb w wr Nb Na bb ba nm gb ga := ⟨h.b, h.a, h.o, h.ap.symm⟩
theorem tb_see {w wr : World} {Na Nb : Nat} {ba bb : Option Nat} {nm : ByteArray} {ga gb : Wt} (h : Tb w wr Na Nb ba bb nm ga gb) (window : Int) (A B C : Option Addr) (n1 c1 n2 c2 n3 c3 : Nat) (b1 b2 b3 b4 : Bool) (sp fa : Nat) (su : Int) (o : Option Nat) (ho : share sp fa = o) (hw : Wf ga) :
    Calls Try.prog 32 #[.pointer (some ⟨Na, 0, none⟩), .int .u64 window, .agg #[.slice A n1 c1, .bool b1, .int .u64 (sp : Int), .bool b2, .int .u64 (fa : Int), .bool b3, .int .u64 su, .bool b4, .slice B n2 c2, .slice C n3 c3]] wr fun r w' => r = .returned (.tuple #[.int .i64 ((see ga window o).st : Int), .int .i64 0]) ∧ ∃ ba', Tb w w' Na Nb ba' bb nm (see ga window o) gb := by
  refine (see_walk w.heap.size Na ba nm ga window A B C n1 c1 n2 c2 n3 c3 b1 b2 b3 b4 sp fa su wr o ho h.a hw h.o.size).mono ?_
  rintro r w' ⟨rfl, hs⟩
  have ho := hs.only h.a h.o rfl
  obtain ⟨⟨b', hb, hi⟩, hk⟩ := hs
  exact ⟨rfl, b', hi, h.b.beside h.ap hk, ho, Apart.next h.b h.ap hb⟩
theorem second_new {w w3 : World} {Na : Nat} {nm : ByteArray} {ga : Wt} {lim fo ca : Nat} {o : Obj} (ho : Only (fun _ => False) w w3) (hi : IsW w3 w.heap.size Na none nm ga) (h1 : lim ≤ 1000) (h2 : 1 ≤ fo ∧ fo ≤ 1000) (h3 : 1 ≤ ca ∧ ca ≤ 1000) :
    Calls Try.prog 31 #[.agg #[.string nm, .int .i64 (lim : Int), .int .i64 (fo : Int), .int .i64 (ca : Int)]] (w3.alloc o) fun r w4 => ∃ Nb, r = .returned (.tuple #[.pointer (some ⟨Nb, 0, none⟩), .int .i64 0]) ∧ Tb w w4 Na Nb none none nm ga ⟨lim, fo, ca, 0, 0, []⟩ := by
  have hal := (Only.refl (fun _ => False) w3).alloc o
  refine (new_walk w.heap.size nm lim fo ca _ h1 h2 h3 (ho.trans hal).size).mono ?_
  rintro r w4 ⟨Nb, rfl, hNb, hib, ho4⟩
  exact ⟨Nb, rfl, hi.only (hal.trans ho4) id (fun _ _ => id), hib, ho.trans (hal.trans ho4), (Apart.made (hi.only hal id (fun _ _ => id)) hNb).symm⟩
theorem right_walk (nm : ByteArray) (lim fo ca : Nat) (w : World) (h1 : lim ≤ 1000) (h2 : 1 ≤ fo ∧ fo ≤ 1000) (h3 : 1 ≤ ca ∧ ca ≤ 1000) :
    Calls Try.prog 30 #[.agg #[.string nm, .int .i64 (lim : Int), .int .i64 (fo : Int), .int .i64 (ca : Int)]] w fun r w' => r = .returned (.bool true) ∧ Only (fun _ => False) w w' := by
  have hf : tallyroomref35_Right.f nm (lim : Int) (fo : Int) (ca : Int) = some true := by
    unfold tallyroomref35_Right.f
    rw [if_pos (by omega), if_pos (by omega), if_pos (by omega), if_pos (by omega), if_pos (by omega), decide_eq_true (by omega)]
  exact (tallyroomref35_Right.calls nm lim fo ca true w hf).mono (by rintro r w' ⟨rfl, hb⟩; exact ⟨rfl, Only.of_below hb (fun k hk _ => hk)⟩)
theorem wrong_walk (nm : ByteArray) (lim fo ca : Int) (w : World) (h : ¬ ((0 ≤ lim ∧ lim ≤ 1000) ∧ (1 ≤ fo ∧ fo ≤ 1000) ∧ (1 ≤ ca ∧ ca ≤ 1000))) :
    Calls Try.prog 30 #[.agg #[.string nm, .int .i64 lim, .int .i64 fo, .int .i64 ca]] w fun r w' => r = .returned (.bool false) ∧ Only (fun _ => False) w w' := by
  have hf : tallyroomref35_Right.f nm lim fo ca = some false := by
    unfold tallyroomref35_Right.f
    repeat' split
    all_goals first | rfl | (rw [decide_eq_false (by omega)])
  exact (tallyroomref35_Right.calls nm lim fo ca false w hf).mono (by rintro r w' ⟨rfl, hb⟩; exact ⟨rfl, Only.of_below hb (fun k hk _ => hk)⟩)
/-- What holds of the plain watches behind i windows. -/
structure Ti (ga gb : Wt) (lim fo ca hl i : Nat) : Prop where
  wa : Wf ga
  wb : Wf gb
  ra : ga.row ≤ i
  rb : gb.row ≤ i
  la : ga.ev.length ≤ i
  lb : gb.ev.length ≤ i
  alt : Alt ga
  low : Lower ga gb
theorem Ti.next {ga gb : Wt} {lim fo ca hl i : Nat} (h : Ti ga gb lim fo ca hl i) (hi : i < 900) (window : Int) (o : Option Nat) : Ti (see ga window o) (see gb window o) lim fo ca hl (i + 1) := by
  have a := see_le ga window o
  have b := see_le gb window o
  have := h.ra; have := h.rb; have := h.la; have := h.lb
  exact ⟨see_wf h.wa _ _ (by omega) (by omega), see_wf h.wb _ _ (by omega) (by omega), by omega, by omega, by omega, by omega, alt_see _ h.alt _ _, lower_see h.low _ _⟩

theorem Saw.only' {w w' : World} {base N : Nat} {b : Option Nat} {nm : ByteArray} {g g' : Wt} {w0 : World} (h : Saw w w' base N b nm g') (hg : IsW w base N b nm g) (ho : Only (fun _ => False) w0 w) (hb : w0.heap.size ≤ base) : Only (fun _ => False) w0 w' := by
  refine Only.fresh ho h.2 (fun i e => ?_)
  rcases e with rfl | e
  · exact Nat.le_trans hb hg.wn
  · exact Nat.le_trans hb (hg.lt.2 i e.symm).2.1
/-- Three watches, and the rule's box. -/
structure Tr (w wr : World) (X Na Nb Nc : Nat) (ba bb bc : Option Nat) (nm : ByteArray) (cs : List Value) (ga gb gc : Wt) : Prop where
  a : IsW wr (X + 1) Na ba nm ga
  b : IsW wr (X + 1) Nb bb nm gb
  c : IsW wr (X + 1) Nc bc nm gc
  o : Only (fun _ => False) w wr
  ab : Apart Na ba Nb bb
  ac : Apart Na ba Nc bc
  bc : Apart Nb bb Nc bc
  rx : Row wr X cs
  wx : w.heap.size ≤ X
section
variable {w wr w' : World} {X Na Nb Nc : Nat} {ba bb bc : Option Nat} {nm : ByteArray} {cs : List Value} {ga gb gc : Wt}
theorem Tr.keep (h : Tr w wr X Na Nb Nc ba bb bc nm cs ga gb gc) (k : Only (fun _ => False) wr w') : Tr w w' X Na Nb Nc ba bb bc nm cs ga gb gc :=
  ⟨h.a.only k id (fun _ _ => id), h.b.only k id (fun _ _ => id), h.c.only k id (fun _ _ => id), h.o.trans k, h.ab, h.ac, h.bc, h.rx.only k id, h.wx⟩
theorem Tr.drew (h : Tr w wr X Na Nb Nc ba bb bc nm cs ga gb gc) : Tr w wr.drew X Na Nb Nc ba bb bc nm cs ga gb gc := h.keep (Only.refl _ wr).drew
theorem Tr.swap (h : Tr w wr X Na Nb Nc ba bb bc nm cs ga gb gc) : Tr w wr X Nb Na Nc bb ba bc nm cs gb ga gc := ⟨h.b, h.a, h.c, h.o, h.ab.symm, h.bc, h.ac, h.rx, h.wx⟩
theorem Tr.turn (h : Tr w wr X Na Nb Nc ba bb bc nm cs ga gb gc) : Tr w wr X Nc Na Nb bc ba bb nm cs gc ga gb := ⟨h.c, h.a, h.b, h.o, h.ac.symm, h.bc.symm, h.ab, h.rx, h.wx⟩
theorem tr_see (h : Tr w wr X Na Nb Nc ba bb bc nm cs ga gb gc) (window : Int) (A B C : Option Addr) (n1 c1 n2 c2 n3 c3 : Nat) (b1 b2 b3 b4 : Bool) (sp fa : Nat) (su : Int) (o : Option Nat) (ho : share sp fa = o) (hw : Wf ga) :
    Calls Try.prog 32 #[.pointer (some ⟨Na, 0, none⟩), .int .u64 window, .agg #[.slice A n1 c1, .bool b1, .int .u64 (sp : Int), .bool b2, .int .u64 (fa : Int), .bool b3, .int .u64 su, .bool b4, .slice B n2 c2, .slice C n3 c3]] wr fun r w' => r = .returned (.tuple #[.int .i64 ((see ga window o).st : Int), .int .i64 0]) ∧ ∃ ba', Tr w w' X Na Nb Nc ba' bb bc nm cs (see ga window o) gb gc := by
  have hX : X + 1 ≤ wr.heap.size := by have := h.a.lt.1; have := h.a.wn; omega
  refine (see_walk (X + 1) Na ba nm ga window A B C n1 c1 n2 c2 n3 c3 b1 b2 b3 b4 sp fa su wr o ho h.a hw hX).mono ?_
  rintro r w' ⟨rfl, hs⟩
  have ho := hs.only' h.a h.o (Nat.le_succ_of_le h.wx)
  obtain ⟨⟨b', hb, hi⟩, hk⟩ := hs
  refine ⟨rfl, b', hi, h.b.beside h.ab hk, h.c.beside h.ac hk, ho, Apart.next h.b h.ab hb, Apart.next h.c h.ac hb, h.bc, h.rx.only hk (fun e => ?_), h.wx⟩
  rcases e with e | e
  · have := h.a.wn; omega
  · have := (h.a.lt.2 X e.symm).2.1; omega
theorem tr_none (h : Tr w wr X Na Nb Nc ba bb bc nm cs ga gb gc) (window : Int) (A B C : Option Addr) (n1 c1 n2 c2 n3 c3 : Nat) (b1 b2 b3 b4 : Bool) (sp fa : Nat) (su : Int) (ho : share sp fa = none) (hw : Wf ga) :
    Calls Try.prog 32 #[.pointer (some ⟨Na, 0, none⟩), .int .u64 window, .agg #[.slice A n1 c1, .bool b1, .int .u64 (sp : Int), .bool b2, .int .u64 (fa : Int), .bool b3, .int .u64 su, .bool b4, .slice B n2 c2, .slice C n3 c3]] wr fun r w' => r = .returned (.tuple #[.int .i64 (ga.st : Int), .int .i64 0]) ∧ ∃ ba', Tr w w' X Na Nb Nc ba' bb bc nm cs ga gb gc :=
  tr_see h window A B C n1 c1 n2 c2 n3 c3 b1 b2 b3 b4 sp fa su none ho hw
end
theorem first_new {w w3 : World} {X : Nat} {nm : ByteArray} {lim fo ca : Nat} {cs : List Value} (ho : Only (fun _ => False) w w3) (hr : Row w3 X cs) (hc : 0 < cs.length) (h1 : lim ≤ 1000) (h2 : 1 ≤ fo ∧ fo ≤ 1000) (h3 : 1 ≤ ca ∧ ca ≤ 1000) :
    Calls Try.prog 31 #[.agg #[.string nm, .int .i64 (lim : Int), .int .i64 (fo : Int), .int .i64 (ca : Int)]] w3 fun r w4 => ∃ Na, r = .returned (.tuple #[.pointer (some ⟨Na, 0, none⟩), .int .i64 0]) ∧ IsW w4 (X + 1) Na none nm ⟨lim, fo, ca, 0, 0, []⟩ ∧ Only (fun _ => False) w w4 ∧ Row w4 X cs := by
  have := hr.lt hc
  refine (new_walk (X + 1) nm lim fo ca _ h1 h2 h3 (by omega)).mono ?_
  rintro r w4 ⟨Nb, rfl, hNb, hib, ho4⟩
  exact ⟨Nb, rfl, hib, ho.trans ho4, hr.only ho4 id⟩
theorem next_new {w w3 : World} {X Na : Nat} {nm : ByteArray} {lim fo ca : Nat} {ga : Wt} {cs : List Value} (ho : Only (fun _ => False) w w3) (hr : Row w3 X cs) (hc : 0 < cs.length) (hi : IsW w3 (X + 1) Na none nm ga) (h1 : lim ≤ 1000) (h2 : 1 ≤ fo ∧ fo ≤ 1000) (h3 : 1 ≤ ca ∧ ca ≤ 1000) :
    Calls Try.prog 31 #[.agg #[.string nm, .int .i64 (lim : Int), .int .i64 (fo : Int), .int .i64 (ca : Int)]] w3 fun r w4 => ∃ Nb, r = .returned (.tuple #[.pointer (some ⟨Nb, 0, none⟩), .int .i64 0]) ∧ IsW w4 (X + 1) Nb none nm ⟨lim, fo, ca, 0, 0, []⟩ ∧ IsW w4 (X + 1) Na none nm ga ∧ Apart Na none Nb none ∧ Only (fun _ => False) w w4 ∧ Row w4 X cs := by
  have := hr.lt hc
  refine (new_walk (X + 1) nm lim fo ca _ h1 h2 h3 (by omega)).mono ?_
  rintro r w4 ⟨Nb, rfl, hNb, hib, ho4⟩
  exact ⟨Nb, rfl, hib, hi.only ho4 id (fun _ _ => id), (Apart.made hi hNb).symm, ho.trans ho4, hr.only ho4 id⟩
theorem last_new {w w3 : World} {X Na Nb : Nat} {nm : ByteArray} {lim fo ca : Nat} {ga gb : Wt} {cs : List Value} (ho : Only (fun _ => False) w w3) (hr : Row w3 X cs) (hc : 0 < cs.length) (hX : w.heap.size ≤ X) (hi : IsW w3 (X + 1) Na none nm ga) (hj : IsW w3 (X + 1) Nb none nm gb) (hp : Apart Na none Nb none) (h1 : lim ≤ 1000) (h2 : 1 ≤ fo ∧ fo ≤ 1000) (h3 : 1 ≤ ca ∧ ca ≤ 1000) :
    Calls Try.prog 31 #[.agg #[.string nm, .int .i64 (lim : Int), .int .i64 (fo : Int), .int .i64 (ca : Int)]] w3 fun r w4 => ∃ Nc, r = .returned (.tuple #[.pointer (some ⟨Nc, 0, none⟩), .int .i64 0]) ∧ Tr w w4 X Na Nb Nc none none none nm cs ga gb ⟨lim, fo, ca, 0, 0, []⟩ := by
  have := hr.lt hc
  refine (new_walk (X + 1) nm lim fo ca _ h1 h2 h3 (by omega)).mono ?_
  rintro r w4 ⟨Nc, rfl, hNb, hib, ho4⟩
  exact ⟨Nc, rfl, hi.only ho4 id (fun _ _ => id), hj.only ho4 id (fun _ _ => id), hib, ho.trans ho4, hp, (Apart.made hi hNb).symm, (Apart.made hj hNb).symm, hr.only ho4 id, hX⟩
/-- What holds of the plain watches behind i windows. -/
structure Ci (g gc : Wt) (lim i : Nat) : Prop where
  wa : Wf g
  wc : Wf gc
  ra : g.row ≤ i
  rc : gc.row ≤ i
  la : g.ev.length ≤ i
  lc : gc.ev.length ≤ i
  hlim : gc.lim = lim
  low : 0 < lim → gc.ev = [] ∧ gc.st ≠ 2
theorem Ci.next {g gc : Wt} {lim i : Nat} (h : Ci g gc lim i) (hi : i < 900) (window : Int) (o : Option Nat) : Ci (see g window o) (see gc window (some 0)) lim (i + 1) := by
  have a := see_le g window o
  have b := see_le gc window (some 0)
  have := h.ra; have := h.rc; have := h.la; have := h.lc
  refine ⟨see_wf h.wa _ _ (by omega) (by omega), see_wf h.wc _ _ (by omega) (by omega), by omega, by omega, by omega, by omega, by rw [(see_same gc window (some 0)).1]; exact h.hlim, fun hl => low_see window (some 0) (fun n e => ?_) (h.low hl)⟩
  cases e
  rw [h.hlim]; exact hl
set_option maxHeartbeats 16000000 in
set_option maxRecDepth 1000000 in
theorem calm_law (nm : ByteArray) (lim fo ca : Nat) (A0 : Option Addr) (c0 n0 : Nat) (P Q R : Nat → Int) (w : World) (h1 : lim ≤ 1000) (h2 : 1 ≤ fo ∧ fo ≤ 1000) (h3 : 1 ≤ ca ∧ ca ≤ 1000) (h60 : n0 ≤ 60) (hr0 : Thins w A0 n0 P Q R) (hq0 : ∀ i, i < n0 → 0 ≤ Q i ∧ 0 ≤ R i) :
    Calls Try.prog 9 #[.agg #[.string nm, .int .i64 (lim : Int), .int .i64 (fo : Int), .int .i64 (ca : Int)], .slice A0 n0 c0] w fun r w' => r = .returned (.bool true) ∧ Below w.heap.size w w' := by
  have HR0 := Aside0.mk (fun i hi => thin_at hr0 hq0 i hi)
  clear hr0 hq0
  have g1 : ¬ (n0 : Int) > 60 := by omega
  have hR0 := Aside0.mk (Row.new w [.string nm, .int .i64 (lim : Int), .int .i64 (fo : Int), .int .i64 (ca : Int)] 58)
  have hO0 := Aside0.mk ((Only.refl (fun _ => False) w).alloc (.cells #[.string nm, .int .i64 (lim : Int), .int .i64 (fo : Int), .int .i64 (ca : Int)] 58))
  obtain ⟨X, hX⟩ : ∃ X, w.heap.size = X := ⟨_, rfl⟩
  go_enter Try.func9, Try.ntmps9
  go_wp2_with (go_at_call 29; refine (alive_walk _).mono ?_; rintro r w1 ⟨rfl, ho⟩; have G := Aside0.mk (And.intro (hR0.out.only ho id) (hO0.out.trans ho)); rw [hX] at G; have x0 := (G.out.1 0 _ rfl).1; have x1 := (G.out.1 1 _ rfl).1; have x2 := (G.out.1 2 _ rfl).1; have x3 := (G.out.1 3 _ rfl).1; clear ho)
  go_wp2_with (go_at_call 30; refine (right_walk nm lim fo ca _ h1 h2 h3).mono ?_; rintro r w2 ⟨rfl, ho⟩; replace G := Aside0.mk (And.intro (G.out.1.only ho id) (G.out.2.trans ho)); have x0 := (G.out.1 0 _ rfl).1; have x1 := (G.out.1 1 _ rfl).1; have x2 := (G.out.1 2 _ rfl).1; have x3 := (G.out.1 3 _ rfl).1; clear ho)
  go_wp2_with (go_at_call 31; refine (first_new (ho := G.out.2) (hr := G.out.1) (hc := by simp) (h1 := h1) (h2 := h2) (h3 := h3)).mono ?_; rintro r w3 ⟨Na, rfl, hia, ho, hr⟩; replace G := Aside0.mk (And.intro hr (And.intro ho hia)); have x0 := (G.out.1 0 _ rfl).1; have x1 := (G.out.1 1 _ rfl).1; have x2 := (G.out.1 2 _ rfl).1; have x3 := (G.out.1 3 _ rfl).1; clear ho hia hr)
  go_wp2_with (go_at_call 31; refine (next_new (ho := G.out.2.1) (hr := G.out.1) (hc := by simp) (hi := G.out.2.2) (h1 := h1) (h2 := h2) (h3 := h3)).mono ?_; rintro r w4 ⟨Nb, rfl, hib, hia, hp, ho, hr⟩; replace G := Aside0.mk (And.intro hr (And.intro ho (And.intro hia (And.intro hib hp)))); have x0 := (G.out.1 0 _ rfl).1; have x1 := (G.out.1 1 _ rfl).1; have x2 := (G.out.1 2 _ rfl).1; have x3 := (G.out.1 3 _ rfl).1; clear ho hia hib hp hr)
  go_wp2_with (go_at_call 31; refine (last_new (ho := G.out.2.1) (hr := G.out.1) (hc := by simp) (hX := Nat.le_of_eq hX) (hi := G.out.2.2.1) (hj := G.out.2.2.2.1) (hp := G.out.2.2.2.2) (h1 := h1) (h2 := h2) (h3 := h3)).mono ?_; rintro r w5 ⟨Nc, rfl, T⟩; replace T := Aside0.mk T; clear G x0 x1 x2 x3)
  have hTi := Aside0.mk (show Ci ⟨lim, fo, ca, 0, 0, []⟩ ⟨lim, fo, ca, 0, 0, []⟩ lim 0 from ⟨⟨h1, h2, h3, by simp, by simp, by simp⟩, ⟨h1, h2, h3, by simp, by simp, by simp⟩, by simp, by simp, by simp, by simp, rfl, fun _ => ⟨rfl, by simp⟩⟩)
  clear hR0 hO0
  go_wp2
  go_loopg [11] (n0 + 1) (fun kq v11 wr => ∃ (i : Nat) (ba bb bc : Option Nat) (g gc : Wt), v11 = .int .i64 (i : Int) ∧ i ≤ n0 ∧ n0 - i < kq ∧ Aside0 (Tr w wr X Na Nb Nc ba bb bc nm [.string nm, .int .i64 (lim : Int), .int .i64 (fo : Int), .int .i64 (ca : Int)] g g gc) ∧ Aside0 (Ci g gc lim i))
  case atStart => exact ⟨0, _, _, _, _, _, rfl, by omega, by omega, T, hTi⟩
  case round =>
    clear T hTi
    obtain ⟨i, ba, bb, bc, g, gc, rfl, hi, hk, HT, HI⟩ := hrel
    obtain ⟨k1, rfl⟩ : ∃ m, gk = m + 1 := ⟨gk - 1, by omega⟩
    by_cases hil : i < n0
    · have hil' : (i : Int) < (n0 : Int) := by omega
      have hi0 : (0 : Int) ≤ (i : Int) := by omega
      obtain ⟨ad, eA, p, sp, fa, hsp, hX3⟩ := HR0.out i hil
      cases eA
      have HX := Aside0.mk hX3
      clear hX3 hsp
      obtain ⟨o, hso⟩ : ∃ o, share sp fa = o := ⟨_, rfl⟩
      replace hso := Aside0.mk hso
      obtain ⟨sm, hsm⟩ : ∃ sm, sp % 1000 = sm := ⟨_, rfl⟩
      have hsm1 : (sp : Int) % 1000 = (sm : Int) := by omega
      have hsm2 : Int.tmod (sp : Int) 1000 = (sm : Int) := by rw [Int.tmod_eq_emod_of_nonneg (by omega)]; omega
      have hsm4 : sm < 1000 := by omega
      obtain ⟨sq, hsq⟩ : ∃ sq, 1 + sm = sq := ⟨_, rfl⟩
      have hsm3 : 1 + (sm : Int) = (sq : Int) := by omega
      have hsm5 : IntKind.u64.wrap (sq : Int) = (sq : Int) := IntWalk.u64_in _ (by omega)
      have hsh0 := Aside0.mk (show share sq 0 = some 0 by unfold share; rw [if_neg (by omega), if_neg (by omega)]; simp)
      clear hsm hsq
      go_wp2
      have hS := HX.out _ HT.out.drew.o
      refine start_ (n := 17) (S := fun w' : World => w'.cell? (ad.add (i * 3)) = some (.int .u64 p) ∧ w'.cell? ⟨(ad.add (i * 3)).block, (ad.add (i * 3)).off + 1, none⟩ = some (.int .u64 (sp : Int)) ∧ w'.cell? ⟨(ad.add (i * 3)).block, (ad.add (i * 3)).off + 2, none⟩ = some (.int .u64 (fa : Int))) (ds := []) #[false, false, false, false, false, false, false, false, false, false, false, false, false, false, false, false, false] (by kernel_rfl) rfl rfl hS (fun hHeld => ?_)
      clear hS
      refine pure_ (i := 0) (N := some 59) (v := ?_) (a' := ?_) #[true, false, false, false, false, false, false, false, false, false, false, false, false, false, false, false, false] rfl rfl (by kernel_rfl) (fun _ _ _ h => h) (Or.inl ⟨by rfl, ?_⟩) ?_ ?_
      rotate_left
      · intro w'
        go_simp
        with_reducible rfl
      rotate_left
      · simp only [Act.put, List.setIfInBounds_toArray, List.set_cons_zero, List.set_cons_succ, i64_w, i32_w]
        rfl
      refine pure_ (i := 1) (N := some 60) (v := ?_) (a' := ?_) #[true, true, false, false, false, false, false, false, false, false, false, false, false, false, false, false, false] rfl rfl (by kernel_rfl) (fun _ _ _ h => h) (Or.inl ⟨by rfl, ?_⟩) ?_ ?_
      rotate_left
      · intro w'
        go_simp
        with_reducible rfl
      rotate_left
      · simp only [Act.put, List.setIfInBounds_toArray, List.set_cons_zero, List.set_cons_succ, i64_w, i32_w]
        rfl
      refine pure_ (i := 2) (N := some 61) (v := ?_) (a' := ?_) #[true, true, true, false, false, false, false, false, false, false, false, false, false, false, false, false, false] rfl rfl (by kernel_rfl) (fun _ _ _ h => h) (Or.inl ⟨by rfl, ?_⟩) ?_ ?_
      rotate_left
      · intro w'
        go_simp
        with_reducible rfl
      rotate_left
      · simp only [Act.put, List.setIfInBounds_toArray, List.set_cons_zero, List.set_cons_succ, i64_w, i32_w]
        rfl
      refine pure_ (i := 3) (N := some 62) (v := ?_) (a' := ?_) #[true, true, true, true, false, false, false, false, false, false, false, false, false, false, false, false, false] rfl rfl (by kernel_rfl) (fun _ _ _ h => h) (Or.inl ⟨by rfl, ?_⟩) ?_ ?_
      rotate_left
      · intro w'
        go_simp
        with_reducible rfl
      rotate_left
      · simp only [Act.put, List.setIfInBounds_toArray, List.set_cons_zero, List.set_cons_succ, i64_w, i32_w]
        rfl
      refine pure_ (i := 4) (N := some 63) (v := ?_) (a' := ?_) #[true, true, true, true, true, false, false, false, false, false, false, false, false, false, false, false, false] rfl rfl (by kernel_rfl) (fun _ _ _ h => h) (Or.inl ⟨by rfl, ?_⟩) ?_ ?_
      rotate_left
      · intro w'
        go_simp
        with_reducible rfl
      rotate_left
      · simp only [Act.put, List.setIfInBounds_toArray, List.set_cons_zero, List.set_cons_succ, i64_w, i32_w]
        rfl
      refine take_ (i := 5) (N := some 64) (v := ?_) (a' := ?_) #[true, true, true, true, true, true, false, false, false, false, false, false, false, false, false, false, false] rfl rfl (by kernel_rfl) (fun _ _ _ h => h) (Or.inl ⟨by rfl, ?_⟩) hHeld ?_ ?_
      rotate_left
      · rintro w' ⟨s0, s1, s2⟩
        go_simp
        with_reducible rfl
      rotate_left
      · simp only [Act.put, List.setIfInBounds_toArray, List.set_cons_zero, List.set_cons_succ, i64_w, i32_w]
        rfl
      refine pure_ (i := 6) (N := some 65) (v := ?_) (a' := ?_) #[true, true, true, true, true, true, true, false, false, false, false, false, false, false, false, false, false] rfl rfl (by kernel_rfl) (fun _ _ _ h => h) (Or.inl ⟨by rfl, ?_⟩) ?_ ?_
      rotate_left
      · intro w'
        go_simp
        with_reducible rfl
      rotate_left
      · simp only [Act.put, List.setIfInBounds_toArray, List.set_cons_zero, List.set_cons_succ, i64_w, i32_w]
        rfl
      refine pure_ (i := 7) (N := some 66) (v := ?_) (a' := ?_) #[true, true, true, true, true, true, true, true, false, false, false, false, false, false, false, false, false] rfl rfl (by kernel_rfl) (fun _ _ _ h => h) (Or.inl ⟨by rfl, ?_⟩) ?_ ?_
      rotate_left
      · intro w'
        go_simp
        with_reducible rfl
      rotate_left
      · simp only [Act.put, List.setIfInBounds_toArray, List.set_cons_zero, List.set_cons_succ, i64_w, i32_w]
        rfl
      refine pure_ (i := 8) (N := some 67) (v := ?_) (a' := ?_) #[true, true, true, true, true, true, true, true, true, false, false, false, false, false, false, false, false] rfl rfl (by kernel_rfl) (fun _ _ _ h => h) (Or.inl ⟨by rfl, ?_⟩) ?_ ?_
      rotate_left
      · intro w'
        go_simp
        with_reducible rfl
      rotate_left
      · simp only [Act.put, List.setIfInBounds_toArray, List.set_cons_zero, List.set_cons_succ, i64_w, i32_w]
        rfl
      refine take_ (i := 9) (N := some 68) (v := ?_) (a' := ?_) #[true, true, true, true, true, true, true, true, true, true, false, false, false, false, false, false, false] rfl rfl (by kernel_rfl) (fun _ _ _ h => h) (Or.inl ⟨by rfl, ?_⟩) hHeld ?_ ?_
      rotate_left
      · rintro w' ⟨s0, s1, s2⟩
        go_simp
        with_reducible rfl
      rotate_left
      · simp only [Act.put, List.setIfInBounds_toArray, List.set_cons_zero, List.set_cons_succ, i64_w, i32_w]
        rfl
      refine one_ (i := 10) (N := some 69) #[true, true, true, true, true, true, true, true, true, true, true, false, false, false, false, false, false] rfl rfl (by kernel_rfl) (by decide) (fun K hK => ?_)
      refine goes_ Try.func33 (by kernel_rfl) rfl #[.agg #[.int .u64 p, .int .u64 (sp : Int), .int .u64 (fa : Int)]] (by rfl) rfl rfl (by (try simp only [List.map_toArray, List.map_cons, List.map_nil]); first | done | rfl) ?_
      refine (row_walk p (sp : Int) (fa : Int) _).mono ?_
      rintro r w7 ⟨⟨RA, RB, RC, q1, q2, q3, rfl⟩, ho7⟩
      refine ⟨_, rfl, ?_⟩
      replace HT := Aside0.mk (HT.out.drew.keep ho7)
      clear ho7
      refine hK.out _ _ (HX.out _ HT.out.o) (fun hHeld => ?_)
      clear hK K
      refine norm_ (a' := ?_) ?_ ?_
      rotate_left
      · show Act.put _ (some 69) _ = _
        simp only [Act.put, List.setIfInBounds_toArray, List.set_cons_zero, List.set_cons_succ, i64_w, i32_w]
        rfl
      refine one_ (i := 11) (N := some 70) #[true, true, true, true, true, true, true, true, true, true, true, true, false, false, false, false, false] rfl rfl (by kernel_rfl) (by decide) (fun K hK => ?_)
      refine goes_ Try.func32 (by kernel_rfl) rfl #[.pointer (some ⟨Na, 0, none⟩), .int .u64 p, .agg #[.slice RA 0 q1, .bool false, .int .u64 (sp : Int), .bool false, .int .u64 (fa : Int), .bool false, .int .u64 0, .bool false, .slice RB 0 q2, .slice RC 0 q3]] (by rfl) rfl rfl (by (try simp only [List.map_toArray, List.map_cons, List.map_nil]); first | done | rfl) ?_
      refine (tr_see HT.out p RA RB RC 0 q1 0 q2 0 q3 false false false false sp fa 0 o hso.out HI.out.wa).mono ?_
      rintro r w8 ⟨rfl, ba', HT2⟩
      refine ⟨_, rfl, ?_⟩
      replace HT := Aside0.mk HT2
      clear HT2
      refine hK.out _ _ (HX.out _ HT.out.o) (fun hHeld => ?_)
      clear hK K
      refine norm_ (a' := ?_) ?_ ?_
      rotate_left
      · show Act.put _ (some 70) _ = _
        simp only [Act.put, List.setIfInBounds_toArray, List.set_cons_zero, List.set_cons_succ, i64_w, i32_w]
        rfl
      refine pure_ (i := 12) (N := some 58) (v := ?_) (a' := ?_) #[true, true, true, true, true, true, true, true, true, true, true, true, true, false, false, false, false] rfl rfl (by kernel_rfl) (fun _ _ _ h => h) (Or.inl ⟨by rfl, ?_⟩) ?_ ?_
      rotate_left
      · intro w'
        go_simp
        with_reducible rfl
      rotate_left
      · simp only [Act.put, List.setIfInBounds_toArray, List.set_cons_zero, List.set_cons_succ, i64_w, i32_w]
        rfl
      refine pure_ (i := 13) (N := some 71) (v := ?_) (a' := ?_) #[true, true, true, true, true, true, true, true, true, true, true, true, true, true, false, false, false] rfl rfl (by kernel_rfl) (fun _ _ _ h => h) (Or.inl ⟨by rfl, ?_⟩) ?_ ?_
      rotate_left
      · intro w'
        go_simp
        with_reducible rfl
      rotate_left
      · simp only [Act.put, List.setIfInBounds_toArray, List.set_cons_zero, List.set_cons_succ, i64_w, i32_w]
        rfl
      refine pure_ (i := 14) (N := some 72) (v := ?_) (a' := ?_) #[true, true, true, true, true, true, true, true, true, true, true, true, true, true, true, false, false] rfl rfl (by kernel_rfl) (fun _ _ _ h => h) (Or.inl ⟨by rfl, ?_⟩) ?_ ?_
      rotate_left
      · intro w'
        go_simp
        with_reducible rfl
      rotate_left
      · simp only [Act.put, List.setIfInBounds_toArray, List.set_cons_zero, List.set_cons_succ, i64_w, i32_w]
        rfl
      refine pure_ (i := 15) (N := some 12) (v := ?_) (a' := ?_) #[true, true, true, true, true, true, true, true, true, true, true, true, true, true, true, true, false] rfl rfl (by kernel_rfl) (fun _ _ _ h => h) (Or.inl ⟨by rfl, ?_⟩) ?_ ?_
      rotate_left
      · intro w'
        go_simp
        with_reducible rfl
      rotate_left
      · simp only [Act.put, List.setIfInBounds_toArray, List.set_cons_zero, List.set_cons_succ, i64_w, i32_w]
        rfl
      refine pure_ (i := 16) (N := some 13) (v := ?_) (a' := ?_) #[true, true, true, true, true, true, true, true, true, true, true, true, true, true, true, true, true] rfl rfl (by kernel_rfl) (fun _ _ _ h => h) (Or.inl ⟨by rfl, ?_⟩) ?_ ?_
      rotate_left
      · intro w'
        go_simp
        with_reducible rfl
      rotate_left
      · simp only [Act.put, List.setIfInBounds_toArray, List.set_cons_zero, List.set_cons_succ, i64_w, i32_w]
        rfl
      refine done_ (by kernel_rfl) ?_
      go_wp2_with (go_at_call 32; refine (tr_none HT.out.swap 7 none none none 0 0 0 0 0 0 false false false false 0 0 0 rfl HI.out.wa).mono ?_; rintro r w9 ⟨rfl, bb1, HT2⟩; replace HT := Aside0.mk HT2.swap; clear HT2)
      have hS := HX.out _ HT.out.drew.o
      refine start_ (n := 17) (S := fun w' : World => w'.cell? (ad.add (i * 3)) = some (.int .u64 p) ∧ w'.cell? ⟨(ad.add (i * 3)).block, (ad.add (i * 3)).off + 1, none⟩ = some (.int .u64 (sp : Int)) ∧ w'.cell? ⟨(ad.add (i * 3)).block, (ad.add (i * 3)).off + 2, none⟩ = some (.int .u64 (fa : Int))) (ds := []) #[false, false, false, false, false, false, false, false, false, false, false, false, false, false, false, false, false] (by kernel_rfl) rfl rfl hS (fun hHeld => ?_)
      clear hS
      refine pure_ (i := 0) (N := some 77) (v := ?_) (a' := ?_) #[true, false, false, false, false, false, false, false, false, false, false, false, false, false, false, false, false] rfl rfl (by kernel_rfl) (fun _ _ _ h => h) (Or.inl ⟨by rfl, ?_⟩) ?_ ?_
      rotate_left
      · intro w'
        go_simp
        with_reducible rfl
      rotate_left
      · simp only [Act.put, List.setIfInBounds_toArray, List.set_cons_zero, List.set_cons_succ, i64_w, i32_w]
        rfl
      refine pure_ (i := 1) (N := some 78) (v := ?_) (a' := ?_) #[true, true, false, false, false, false, false, false, false, false, false, false, false, false, false, false, false] rfl rfl (by kernel_rfl) (fun _ _ _ h => h) (Or.inl ⟨by rfl, ?_⟩) ?_ ?_
      rotate_left
      · intro w'
        go_simp
        with_reducible rfl
      rotate_left
      · simp only [Act.put, List.setIfInBounds_toArray, List.set_cons_zero, List.set_cons_succ, i64_w, i32_w]
        rfl
      refine pure_ (i := 2) (N := some 79) (v := ?_) (a' := ?_) #[true, true, true, false, false, false, false, false, false, false, false, false, false, false, false, false, false] rfl rfl (by kernel_rfl) (fun _ _ _ h => h) (Or.inl ⟨by rfl, ?_⟩) ?_ ?_
      rotate_left
      · intro w'
        go_simp
        with_reducible rfl
      rotate_left
      · simp only [Act.put, List.setIfInBounds_toArray, List.set_cons_zero, List.set_cons_succ, i64_w, i32_w]
        rfl
      refine pure_ (i := 3) (N := some 80) (v := ?_) (a' := ?_) #[true, true, true, true, false, false, false, false, false, false, false, false, false, false, false, false, false] rfl rfl (by kernel_rfl) (fun _ _ _ h => h) (Or.inl ⟨by rfl, ?_⟩) ?_ ?_
      rotate_left
      · intro w'
        go_simp
        with_reducible rfl
      rotate_left
      · simp only [Act.put, List.setIfInBounds_toArray, List.set_cons_zero, List.set_cons_succ, i64_w, i32_w]
        rfl
      refine pure_ (i := 4) (N := some 81) (v := ?_) (a' := ?_) #[true, true, true, true, true, false, false, false, false, false, false, false, false, false, false, false, false] rfl rfl (by kernel_rfl) (fun _ _ _ h => h) (Or.inl ⟨by rfl, ?_⟩) ?_ ?_
      rotate_left
      · intro w'
        go_simp
        with_reducible rfl
      rotate_left
      · simp only [Act.put, List.setIfInBounds_toArray, List.set_cons_zero, List.set_cons_succ, i64_w, i32_w]
        rfl
      refine take_ (i := 5) (N := some 82) (v := ?_) (a' := ?_) #[true, true, true, true, true, true, false, false, false, false, false, false, false, false, false, false, false] rfl rfl (by kernel_rfl) (fun _ _ _ h => h) (Or.inl ⟨by rfl, ?_⟩) hHeld ?_ ?_
      rotate_left
      · rintro w' ⟨s0, s1, s2⟩
        go_simp
        with_reducible rfl
      rotate_left
      · simp only [Act.put, List.setIfInBounds_toArray, List.set_cons_zero, List.set_cons_succ, i64_w, i32_w]
        rfl
      refine pure_ (i := 6) (N := some 83) (v := ?_) (a' := ?_) #[true, true, true, true, true, true, true, false, false, false, false, false, false, false, false, false, false] rfl rfl (by kernel_rfl) (fun _ _ _ h => h) (Or.inl ⟨by rfl, ?_⟩) ?_ ?_
      rotate_left
      · intro w'
        go_simp
        with_reducible rfl
      rotate_left
      · simp only [Act.put, List.setIfInBounds_toArray, List.set_cons_zero, List.set_cons_succ, i64_w, i32_w]
        rfl
      refine pure_ (i := 7) (N := some 84) (v := ?_) (a' := ?_) #[true, true, true, true, true, true, true, true, false, false, false, false, false, false, false, false, false] rfl rfl (by kernel_rfl) (fun _ _ _ h => h) (Or.inl ⟨by rfl, ?_⟩) ?_ ?_
      rotate_left
      · intro w'
        go_simp
        with_reducible rfl
      rotate_left
      · simp only [Act.put, List.setIfInBounds_toArray, List.set_cons_zero, List.set_cons_succ, i64_w, i32_w]
        rfl
      refine pure_ (i := 8) (N := some 85) (v := ?_) (a' := ?_) #[true, true, true, true, true, true, true, true, true, false, false, false, false, false, false, false, false] rfl rfl (by kernel_rfl) (fun _ _ _ h => h) (Or.inl ⟨by rfl, ?_⟩) ?_ ?_
      rotate_left
      · intro w'
        go_simp
        with_reducible rfl
      rotate_left
      · simp only [Act.put, List.setIfInBounds_toArray, List.set_cons_zero, List.set_cons_succ, i64_w, i32_w]
        rfl
      refine take_ (i := 9) (N := some 86) (v := ?_) (a' := ?_) #[true, true, true, true, true, true, true, true, true, true, false, false, false, false, false, false, false] rfl rfl (by kernel_rfl) (fun _ _ _ h => h) (Or.inl ⟨by rfl, ?_⟩) hHeld ?_ ?_
      rotate_left
      · rintro w' ⟨s0, s1, s2⟩
        go_simp
        with_reducible rfl
      rotate_left
      · simp only [Act.put, List.setIfInBounds_toArray, List.set_cons_zero, List.set_cons_succ, i64_w, i32_w]
        rfl
      refine one_ (i := 10) (N := some 87) #[true, true, true, true, true, true, true, true, true, true, true, false, false, false, false, false, false] rfl rfl (by kernel_rfl) (by decide) (fun K hK => ?_)
      refine goes_ Try.func33 (by kernel_rfl) rfl #[.agg #[.int .u64 p, .int .u64 (sp : Int), .int .u64 (fa : Int)]] (by rfl) rfl rfl (by (try simp only [List.map_toArray, List.map_cons, List.map_nil]); first | done | rfl) ?_
      refine (row_walk p (sp : Int) (fa : Int) _).mono ?_
      rintro r w7 ⟨⟨RA, RB, RC, q1, q2, q3, rfl⟩, ho7⟩
      refine ⟨_, rfl, ?_⟩
      replace HT := Aside0.mk (HT.out.drew.keep ho7)
      clear ho7
      refine hK.out _ _ (HX.out _ HT.out.o) (fun hHeld => ?_)
      clear hK K
      refine norm_ (a' := ?_) ?_ ?_
      rotate_left
      · show Act.put _ (some 87) _ = _
        simp only [Act.put, List.setIfInBounds_toArray, List.set_cons_zero, List.set_cons_succ, i64_w, i32_w]
        rfl
      refine one_ (i := 11) (N := some 88) #[true, true, true, true, true, true, true, true, true, true, true, true, false, false, false, false, false] rfl rfl (by kernel_rfl) (by decide) (fun K hK => ?_)
      refine goes_ Try.func32 (by kernel_rfl) rfl #[.pointer (some ⟨Nb, 0, none⟩), .int .u64 p, .agg #[.slice RA 0 q1, .bool false, .int .u64 (sp : Int), .bool false, .int .u64 (fa : Int), .bool false, .int .u64 0, .bool false, .slice RB 0 q2, .slice RC 0 q3]] (by rfl) rfl rfl (by (try simp only [List.map_toArray, List.map_cons, List.map_nil]); first | done | rfl) ?_
      refine (tr_see HT.out.swap p RA RB RC 0 q1 0 q2 0 q3 false false false false sp fa 0 o hso.out HI.out.wa).mono ?_
      rintro r w8 ⟨rfl, bb2, HT2⟩
      refine ⟨_, rfl, ?_⟩
      replace HT := Aside0.mk HT2.swap
      clear HT2
      refine hK.out _ _ (HX.out _ HT.out.o) (fun hHeld => ?_)
      clear hK K
      refine norm_ (a' := ?_) ?_ ?_
      rotate_left
      · show Act.put _ (some 88) _ = _
        simp only [Act.put, List.setIfInBounds_toArray, List.set_cons_zero, List.set_cons_succ, i64_w, i32_w]
        rfl
      refine pure_ (i := 12) (N := some 76) (v := ?_) (a' := ?_) #[true, true, true, true, true, true, true, true, true, true, true, true, true, false, false, false, false] rfl rfl (by kernel_rfl) (fun _ _ _ h => h) (Or.inl ⟨by rfl, ?_⟩) ?_ ?_
      rotate_left
      · intro w'
        go_simp
        with_reducible rfl
      rotate_left
      · simp only [Act.put, List.setIfInBounds_toArray, List.set_cons_zero, List.set_cons_succ, i64_w, i32_w]
        rfl
      refine pure_ (i := 13) (N := some 89) (v := ?_) (a' := ?_) #[true, true, true, true, true, true, true, true, true, true, true, true, true, true, false, false, false] rfl rfl (by kernel_rfl) (fun _ _ _ h => h) (Or.inl ⟨by rfl, ?_⟩) ?_ ?_
      rotate_left
      · intro w'
        go_simp
        with_reducible rfl
      rotate_left
      · simp only [Act.put, List.setIfInBounds_toArray, List.set_cons_zero, List.set_cons_succ, i64_w, i32_w]
        rfl
      refine pure_ (i := 14) (N := some 90) (v := ?_) (a' := ?_) #[true, true, true, true, true, true, true, true, true, true, true, true, true, true, true, false, false] rfl rfl (by kernel_rfl) (fun _ _ _ h => h) (Or.inl ⟨by rfl, ?_⟩) ?_ ?_
      rotate_left
      · intro w'
        go_simp
        with_reducible rfl
      rotate_left
      · simp only [Act.put, List.setIfInBounds_toArray, List.set_cons_zero, List.set_cons_succ, i64_w, i32_w]
        rfl
      refine pure_ (i := 15) (N := some 14) (v := ?_) (a' := ?_) #[true, true, true, true, true, true, true, true, true, true, true, true, true, true, true, true, false] rfl rfl (by kernel_rfl) (fun _ _ _ h => h) (Or.inl ⟨by rfl, ?_⟩) ?_ ?_
      rotate_left
      · intro w'
        go_simp
        with_reducible rfl
      rotate_left
      · simp only [Act.put, List.setIfInBounds_toArray, List.set_cons_zero, List.set_cons_succ, i64_w, i32_w]
        rfl
      refine pure_ (i := 16) (N := some 15) (v := ?_) (a' := ?_) #[true, true, true, true, true, true, true, true, true, true, true, true, true, true, true, true, true] rfl rfl (by kernel_rfl) (fun _ _ _ h => h) (Or.inl ⟨by rfl, ?_⟩) ?_ ?_
      rotate_left
      · intro w'
        go_simp
        with_reducible rfl
      rotate_left
      · simp only [Act.put, List.setIfInBounds_toArray, List.set_cons_zero, List.set_cons_succ, i64_w, i32_w]
        rfl
      refine done_ (by kernel_rfl) ?_
      have hwf2 := Aside0.mk (see_wf HI.out.wa p o (by have := HI.out.ra; omega) (by have := HI.out.la; omega))
      go_wp2_with (go_at_call 32; refine (tr_none HT.out.swap 9 none none none 0 0 0 0 0 0 false false false false 0 0 5 rfl hwf2.out).mono ?_; rintro r w9 ⟨rfl, bb3, HT2⟩; replace HT := Aside0.mk HT2.swap; clear HT2)
      have hS := HX.out _ HT.out.drew.o
      refine start_ (n := 16) (S := fun w' : World => w'.cell? (ad.add (i * 3)) = some (.int .u64 p) ∧ w'.cell? ⟨(ad.add (i * 3)).block, (ad.add (i * 3)).off + 1, none⟩ = some (.int .u64 (sp : Int)) ∧ w'.cell? ⟨(ad.add (i * 3)).block, (ad.add (i * 3)).off + 2, none⟩ = some (.int .u64 (fa : Int))) (ds := []) #[false, false, false, false, false, false, false, false, false, false, false, false, false, false, false, false] (by kernel_rfl) rfl rfl hS (fun hHeld => ?_)
      clear hS
      refine pure_ (i := 0) (N := some 106) (v := ?_) (a' := ?_) #[true, false, false, false, false, false, false, false, false, false, false, false, false, false, false, false] rfl rfl (by kernel_rfl) (fun _ _ _ h => h) (Or.inl ⟨by rfl, ?_⟩) ?_ ?_
      rotate_left
      · intro w'
        go_simp
        with_reducible rfl
      rotate_left
      · simp only [Act.put, List.setIfInBounds_toArray, List.set_cons_zero, List.set_cons_succ, i64_w, i32_w]
        rfl
      refine pure_ (i := 1) (N := some 107) (v := ?_) (a' := ?_) #[true, true, false, false, false, false, false, false, false, false, false, false, false, false, false, false] rfl rfl (by kernel_rfl) (fun _ _ _ h => h) (Or.inl ⟨by rfl, ?_⟩) ?_ ?_
      rotate_left
      · intro w'
        go_simp
        with_reducible rfl
      rotate_left
      · simp only [Act.put, List.setIfInBounds_toArray, List.set_cons_zero, List.set_cons_succ, i64_w, i32_w]
        rfl
      refine pure_ (i := 2) (N := some 108) (v := ?_) (a' := ?_) #[true, true, true, false, false, false, false, false, false, false, false, false, false, false, false, false] rfl rfl (by kernel_rfl) (fun _ _ _ h => h) (Or.inl ⟨by rfl, ?_⟩) ?_ ?_
      rotate_left
      · intro w'
        go_simp
        with_reducible rfl
      rotate_left
      · simp only [Act.put, List.setIfInBounds_toArray, List.set_cons_zero, List.set_cons_succ, i64_w, i32_w]
        rfl
      refine pure_ (i := 3) (N := some 109) (v := ?_) (a' := ?_) #[true, true, true, true, false, false, false, false, false, false, false, false, false, false, false, false] rfl rfl (by kernel_rfl) (fun _ _ _ h => h) (Or.inl ⟨by rfl, ?_⟩) ?_ ?_
      rotate_left
      · intro w'
        go_simp
        with_reducible rfl
      rotate_left
      · simp only [Act.put, List.setIfInBounds_toArray, List.set_cons_zero, List.set_cons_succ, i64_w, i32_w]
        rfl
      refine pure_ (i := 4) (N := some 110) (v := ?_) (a' := ?_) #[true, true, true, true, true, false, false, false, false, false, false, false, false, false, false, false] rfl rfl (by kernel_rfl) (fun _ _ _ h => h) (Or.inl ⟨by rfl, ?_⟩) ?_ ?_
      rotate_left
      · intro w'
        go_simp
        with_reducible rfl
      rotate_left
      · simp only [Act.put, List.setIfInBounds_toArray, List.set_cons_zero, List.set_cons_succ, i64_w, i32_w]
        rfl
      refine take_ (i := 5) (N := some 111) (v := ?_) (a' := ?_) #[true, true, true, true, true, true, false, false, false, false, false, false, false, false, false, false] rfl rfl (by kernel_rfl) (fun _ _ _ h => h) (Or.inl ⟨by rfl, ?_⟩) hHeld ?_ ?_
      rotate_left
      · rintro w' ⟨s0, s1, s2⟩
        go_simp
        with_reducible rfl
      rotate_left
      · simp only [Act.put, List.setIfInBounds_toArray, List.set_cons_zero, List.set_cons_succ, i64_w, i32_w]
        rfl
      refine pure_ (i := 6) (N := some 112) (v := ?_) (a' := ?_) #[true, true, true, true, true, true, true, false, false, false, false, false, false, false, false, false] rfl rfl (by kernel_rfl) (fun _ _ _ h => h) (Or.inl ⟨by rfl, ?_⟩) ?_ ?_
      rotate_left
      · intro w'
        go_simp
        with_reducible rfl
      rotate_left
      · simp only [Act.put, List.setIfInBounds_toArray, List.set_cons_zero, List.set_cons_succ, i64_w, i32_w]
        rfl
      refine pure_ (i := 7) (N := some 113) (v := ?_) (a' := ?_) #[true, true, true, true, true, true, true, true, false, false, false, false, false, false, false, false] rfl rfl (by kernel_rfl) (fun _ _ _ h => h) (Or.inl ⟨by rfl, ?_⟩) ?_ ?_
      rotate_left
      · intro w'
        go_simp
        with_reducible rfl
      rotate_left
      · simp only [Act.put, List.setIfInBounds_toArray, List.set_cons_zero, List.set_cons_succ, i64_w, i32_w]
        rfl
      refine pure_ (i := 8) (N := some 114) (v := ?_) (a' := ?_) #[true, true, true, true, true, true, true, true, true, false, false, false, false, false, false, false] rfl rfl (by kernel_rfl) (fun _ _ _ h => h) (Or.inl ⟨by rfl, ?_⟩) ?_ ?_
      rotate_left
      · intro w'
        go_simp
        with_reducible rfl
      rotate_left
      · simp only [Act.put, List.setIfInBounds_toArray, List.set_cons_zero, List.set_cons_succ, i64_w, i32_w]
        rfl
      refine pure_ (i := 9) (N := some 115) (v := ?_) (a' := ?_) #[true, true, true, true, true, true, true, true, true, true, false, false, false, false, false, false] rfl rfl (by kernel_rfl) (fun _ _ _ h => h) (Or.inl ⟨by rfl, ?_⟩) ?_ ?_
      rotate_left
      · intro w'
        go_simp
        with_reducible rfl
      rotate_left
      · simp only [Act.put, List.setIfInBounds_toArray, List.set_cons_zero, List.set_cons_succ, i64_w, i32_w]
        rfl
      refine take_ (i := 10) (N := some 116) (v := ?_) (a' := ?_) #[true, true, true, true, true, true, true, true, true, true, true, false, false, false, false, false] rfl rfl (by kernel_rfl) (fun _ _ _ h => h) (Or.inl ⟨by rfl, ?_⟩) hHeld ?_ ?_
      rotate_left
      · rintro w' ⟨s0, s1, s2⟩
        go_simp
        with_reducible rfl
      rotate_left
      · simp only [Act.put, List.setIfInBounds_toArray, List.set_cons_zero, List.set_cons_succ, i64_w, i32_w]
        rfl
      refine pure_ (i := 11) (N := some 117) (v := ?_) (a' := ?_) #[true, true, true, true, true, true, true, true, true, true, true, true, false, false, false, false] rfl rfl (by kernel_rfl) (fun _ _ _ h => h) (Or.inl ⟨by rfl, ?_⟩) ?_ ?_
      rotate_left
      · intro w'
        go_simp
        with_reducible rfl
      rotate_left
      · simp only [Act.put, List.setIfInBounds_toArray, List.set_cons_zero, List.set_cons_succ, i64_w, i32_w]
        rfl
      refine pure_ (i := 12) (N := some 118) (v := ?_) (a' := ?_) #[true, true, true, true, true, true, true, true, true, true, true, true, true, false, false, false] rfl rfl (by kernel_rfl) (fun _ _ _ h => h) (Or.inl ⟨by rfl, ?_⟩) ?_ ?_
      rotate_left
      · intro w'
        go_simp
        with_reducible rfl
      rotate_left
      · simp only [Act.put, List.setIfInBounds_toArray, List.set_cons_zero, List.set_cons_succ, i64_w, i32_w]
        rfl
      refine pure_ (i := 13) (N := some 119) (v := ?_) (a' := ?_) #[true, true, true, true, true, true, true, true, true, true, true, true, true, true, false, false] rfl rfl (by kernel_rfl) (fun _ _ _ h => h) (Or.inl ⟨by rfl, ?_⟩) ?_ ?_
      rotate_left
      · intro w'
        go_simp
        with_reducible rfl
      rotate_left
      · simp only [Act.put, List.setIfInBounds_toArray, List.set_cons_zero, List.set_cons_succ, i64_w, i32_w]
        rfl
      refine pure_ (i := 14) (N := some 120) (v := ?_) (a' := ?_) #[true, true, true, true, true, true, true, true, true, true, true, true, true, true, true, false] rfl rfl (by kernel_rfl) (fun _ _ _ h => h) (Or.inl ⟨by rfl, ?_⟩) ?_ ?_
      rotate_left
      · intro w'
        go_simp
        with_reducible rfl
      rotate_left
      · simp only [Act.put, List.setIfInBounds_toArray, List.set_cons_zero, List.set_cons_succ, i64_w, i32_w]
        rfl
      refine one_ (i := 15) (N := some 121) #[true, true, true, true, true, true, true, true, true, true, true, true, true, true, true, true] rfl rfl (by kernel_rfl) (by decide) (fun K hK => ?_)
      refine goes_ Try.func32 (by kernel_rfl) rfl #[.pointer (some ⟨Nc, 0, none⟩), .int .u64 p, .agg #[.slice none 0 0, .bool false, .int .u64 (sq : Int), .bool false, .int .u64 0, .bool false, .int .u64 0, .bool false, .slice none 0 0, .slice none 0 0]] (by rfl) rfl rfl (by (try simp only [List.map_toArray, List.map_cons, List.map_nil]); first | done | rfl) ?_
      refine (tr_see HT.out.drew.turn p none none none 0 0 0 0 0 0 false false false false sq 0 0 (some 0) hsh0.out HI.out.wc).mono ?_
      rintro r w8 ⟨rfl, bc1, HT2⟩
      refine ⟨_, rfl, ?_⟩
      replace HT := Aside0.mk HT2.turn.turn
      clear HT2
      refine hK.out _ _ (HX.out _ HT.out.o) (fun hHeld => ?_)
      clear hK K
      refine norm_ (a' := ?_) ?_ ?_
      rotate_left
      · show Act.put _ (some 121) _ = _
        simp only [Act.put, List.setIfInBounds_toArray, List.set_cons_zero, List.set_cons_succ, i64_w, i32_w]
        rfl
      refine done_ (by kernel_rfl) ?_
      go_wp2
      go_roundg k1
      case measure => omega
      case rel => exact ⟨i + 1, _, _, _, _, _, rfl, by omega, by omega, HT, ⟨HI.out.next (by omega) p o⟩⟩
    · go_wp2_with (first
        | (go_at_call 34; (with_reducible refine (events_walk (X + 1) Na ba nm g _ HT.out.a (by have := HI.out.la; omega)).mono ?_); rintro r w9 ⟨A, n, c, rfl, hn, hC, ho⟩; have F := Aside0.mk (And.intro hC hn); replace HT := Aside0.mk (HT.out.keep ho); clear ho hC hn)
        | (go_at_call 34; (with_reducible refine (events_walk (X + 1) Nb bb nm g _ HT.out.b (by have := HI.out.la; omega)).mono ?_); rintro r w10 ⟨A2, n2, c2, rfl, hn, hC, ho⟩; replace F := Aside0.mk (And.intro (Kd.C_below F.out.1 (below_of ho)) F.out.2); have F2 := Aside0.mk hC; obtain rfl : n2 = n := (hn.trans F.out.2.symm); replace HT := Aside0.mk (HT.out.keep ho); clear ho hC hn))
      have hn2 : n2 ≤ 60 := (by have := HI.out.la; have := F.out.2; omega)
      go_wp2
      go_loopg [20] (n2 + 1) (fun kq v20 wq => ∃ (j nd : Nat), v20 = .int .i64 (j : Int) ∧ j ≤ n2 ∧ n2 - j < kq ∧ wq = w10.drewN nd)
      case atStart => exact ⟨0, 0, rfl, by omega, by omega, rfl⟩
      case round =>
        obtain ⟨j, nd, rfl, hj, hk2, rfl⟩ := hrel
        obtain ⟨k2, rfl⟩ : ∃ z, gk = z + 1 := ⟨gk - 1, by omega⟩
        by_cases hjn : j < n2
        · have hjI : (j : Int) < (n2 : Int) := by omega
          have hj0 : (0 : Int) ≤ (j : Int) := by omega
          obtain ⟨ad, e, y0, y1⟩ := at_T78 F.out.1 (j : Int) hj0 hjI
          cases e
          obtain ⟨ad2, e, z0, z1⟩ := at_T78 F2.out (j : Int) hj0 hjI
          cases e
          rw [Int.toNat_natCast] at y0 y1 z0 z1
          generalize (rd_T78 g.ev (j : Int)).f0 = q0 at y0 z0
          generalize (rd_T78 g.ev (j : Int)).f1 = q1 at y1 z1
          go_wp2
          go_quiet (fail)
          go_wp2
          go_roundg k2
          case measure => omega
          case rel => exact ⟨j + 1, _, rfl, by omega, by omega, by first | rfl | rw [World.drewN_drewN]⟩
        · have x1 := ((HT.out.keep ((Only.refl _ w10).drewN nd)).rx 1 _ rfl).1
          by_cases hl0 : lim = 0
          · subst hl0
            go_wp2
            go_ret
            exact ⟨by first | rfl | simp, below_of (HT.out.o.drewN _)⟩
          · have hlI : ¬ (lim : Int) = 0 := by omega
            have hlow := (HI.out.low (by omega)).1
            go_wp2_with (go_at_call 34; refine (events_walk (X + 1) Nc bc nm gc _ (HT.out.keep ((Only.refl _ w10).drewN nd)).c (by have := HI.out.lc; omega)).mono ?_; rintro r w11 ⟨A3, n3, c3, rfl, hn3, _, ho3⟩; have hn30 : (n3 : Int) = 0 := (by rw [hn3, hlow]; rfl); have F3 := Aside0.mk ((HT.out.o.drewN nd).trans ho3); clear ho3 hn3)
            go_ret
            exact ⟨by first | rfl | simp, below_of F3.out⟩
theorem calm_far (nm : ByteArray) (lim fo ca : Int) (A0 : Option Addr) (c0 n0 : Nat) (w : World) (h : 60 < n0) :
    Calls Try.prog 9 #[.agg #[.string nm, .int .i64 lim, .int .i64 fo, .int .i64 ca], .slice A0 n0 c0] w fun r w' => r = .returned (.bool true) ∧ Below w.heap.size w w' := by
  have g1 : (n0 : Int) > 60 := by omega
  have hO0 := Aside0.mk ((Only.refl (fun _ => False) w).alloc (.cells #[.string nm, .int .i64 lim, .int .i64 fo, .int .i64 ca] 58))
  go_enter Try.func9, Try.ntmps9
  go_wp2_with (go_at_call 29; refine (alive_walk _).mono ?_; rintro r w1 ⟨rfl, ho⟩; have G := Aside0.mk (hO0.out.trans ho); clear ho)
  go_ret
  exact ⟨rfl, below_of G.out⟩
set_option maxHeartbeats 4000000 in
set_option maxRecDepth 1000000 in
theorem calm_wrong (nm : ByteArray) (lim fo ca : Int) (A0 : Option Addr) (c0 n0 : Nat) (w : World) (h60 : n0 ≤ 60) (hn : ¬ ((0 ≤ lim ∧ lim ≤ 1000) ∧ (1 ≤ fo ∧ fo ≤ 1000) ∧ (1 ≤ ca ∧ ca ≤ 1000))) :
    Calls Try.prog 9 #[.agg #[.string nm, .int .i64 lim, .int .i64 fo, .int .i64 ca], .slice A0 n0 c0] w fun r w' => r = .returned (.bool true) ∧ Below w.heap.size w w' := by
  have hN := Aside0.mk hn
  clear hn
  have g1 : ¬ (n0 : Int) > 60 := by omega
  have hR0 := Aside0.mk (Row.new w [.string nm, .int .i64 lim, .int .i64 fo, .int .i64 ca] 58)
  have hO0 := Aside0.mk ((Only.refl (fun _ => False) w).alloc (.cells #[.string nm, .int .i64 lim, .int .i64 fo, .int .i64 ca] 58))
  obtain ⟨X, hX⟩ : ∃ X, w.heap.size = X := ⟨_, rfl⟩
  go_enter Try.func9, Try.ntmps9
  go_wp2_with (go_at_call 29; refine (alive_walk _).mono ?_; rintro r w1 ⟨rfl, ho⟩; have G := Aside0.mk (And.intro (hR0.out.only ho id) (hO0.out.trans ho)); rw [hX] at G; have x0 := (G.out.1 0 _ rfl).1; have x1 := (G.out.1 1 _ rfl).1; have x2 := (G.out.1 2 _ rfl).1; have x3 := (G.out.1 3 _ rfl).1; clear ho)
  go_wp2_with (go_at_call 30; refine (wrong_walk nm lim fo ca _ hN.out).mono ?_; rintro r w2 ⟨rfl, ho⟩; replace G := Aside0.mk (And.intro (G.out.1.only ho id) (G.out.2.trans ho)); clear ho)
  go_ret
  exact ⟨rfl, below_of G.out.2⟩
end Go.Proofs.Ytfgpcoocbblkiaa.At
