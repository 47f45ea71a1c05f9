/- The sampler laws' small calls, and their example. No conditions but bounds. -/
import Derived.Test.YtgpkihnihmbomaaSm
import Derived.Test.YtgpkihnihmbomaaSb
import Derived.Test.YtgpkihnihmbomaaPl
import Derived.Test.YtgpkihnihmbomaaWNEv
namespace Go.Proofs.Ytgpkihnihmbomaa.Sl
open Go.RowKit Go.Proofs.YtgpkihnihmbomaaW.PrintWords Go.Proofs.YtgpkihnihmbomaaW.PrintLast
open Go.Proofs.Ytgpkihnihmbomaa.Ob Go.Proofs.Ytgpkihnihmbomaa.Two Go.Proofs.Ytgpkihnihmbomaa.Bx Go.Proofs.Ytgpkihnihmbomaa.Ra Go.Proofs.Ytgpkihnihmbomaa.Sm Go.Proofs.Ytgpkihnihmbomaa.XSs Go.Proofs.Ytgpkihnihmbomaa.Sb
set_option linter.unusedSimpArgs false
set_option linter.unusedVariables false
theorem C_of_raw {α : Type} {d : Kd α} {W : World} {A : Option Addr} {n : Nat} {rows : List (List Value)} {xs : List α} (h : (Kd.raw d.sz).C W A n rows) (hl : rows.length = xs.length) (hK : ∀ (j : Nat) (x : α) (c : List Value), xs[j]? = some x → rows[j]? = some c → d.K W x c) : d.C W A n xs := by
  refine ⟨hl ▸ h.1, h.2.1, fun hp => ?_⟩
  obtain ⟨ad, e, hj⟩ := h.2.2 hp
  refine ⟨ad, e, fun j x hx => ?_⟩
  have hjl : j < rows.length := by rw [hl]; exact (List.getElem?_eq_some_iff.1 hx).1
  obtain ⟨cs, h1, h2, h3⟩ := hj j _ (List.getElem?_eq_getElem hjl)
  have e2 : cs = rows[j] := h2.1
  exact ⟨cs, h1, hK j x cs hx (by rw [e2]; exact List.getElem?_eq_getElem hjl), h3⟩
theorem raw_of_C {α : Type} {d : Kd α} {W : World} {A : Option Addr} {n : Nat} {xs : List α} (h : d.C W A n xs) :
    ∃ rows : List (List Value), rows.length = xs.length ∧ (Kd.raw d.sz).C W A n rows ∧ ∀ (j : Nat) (x : α) (c : List Value), xs[j]? = some x → rows[j]? = some c → d.K W x c :=
  Kd.reads_raw h (fun x c hk => ⟨d.K_len hk, d.K_one hk⟩)
theorem C_single {α : Type} {d : Kd α} {W : World} {b : Nat} {x : α} {cs : List Value} (hK : d.K W x cs) (h : Row W b cs) : d.C W (some ⟨b, 0, none⟩) 1 [x] := by
  refine ⟨rfl, by omega, fun _ => ⟨_, rfl, fun j y hy => ?_⟩⟩
  have hj : j = 0 := by
    have := (List.getElem?_eq_some_iff.1 hy).1
    simp at this; exact this
  subst hj
  obtain rfl : x = y := Option.some.inj hy
  exact ⟨cs, d.K_len hK, hK, fun i u hu => by
    have := (h i u hu).1
    rw [Nat.zero_mul, Nat.zero_add]
    unfold Addr.add
    split
    · rename_i h0; rw [h0] at this; exact this
    · simpa using this⟩
theorem S_only {α : Type} {d : Kd α} {e base : Nat} {ok T : Nat → Prop} {w w1 : World} {v : Value} {xs : List α} (h : Kd.S d e w base ok v xs) (k : Only T w w1) (hT : ∀ j, T j → j < base) : Kd.S d e w1 base ok v xs :=
  Kd.S_mono (Kd.S_step (Kd.S_bound h) (fun j hj hlt => k.block j hlt (fun ht => by have := hT j ht; omega))) (fun _ hk => hk.1)
/-- The program's spans, in blocks of their own. -/
def Sp (w : World) (base : Nat) (A : Option Addr) (n c : Nat) (l : List S70) : Prop := n = l.length ∧ n ≤ c ∧ Kd.S k70 70 w base (fun _ => True) (.slice A n c) l
theorem Sp.C {w : World} {base n c : Nat} {A : Option Addr} {l : List S70} (h : Sp w base A n c l) : Kd.C k70 w A n l := by
  obtain ⟨rfl, hc, hS⟩ := h
  exact (Kd.S_reads' hS).2.2
theorem Sp.only {w w1 : World} {base n c : Nat} {A : Option Addr} {l : List S70} {T : Nat → Prop} (h : Sp w base A n c l) (k : Only T w w1) (hT : ∀ j, T j → j < base) : Sp w1 base A n c l := ⟨h.1, h.2.1, S_only h.2.2 k hT⟩
theorem Sp.below {w w1 : World} {base n c : Nat} {A : Option Addr} {l : List S70} (h : Sp w base A n c l) (k : Below w.heap.size w w1) : Sp w1 base A n c l := ⟨h.1, h.2.1, Kd.S_below h.2.2 k⟩
theorem ofs_w (A : Option Addr) (n c : Nat) (l : List S99) (w : World) (hn : l.length = n) (hl : Near l) (hC : Kd.C k99 w A n l) (hc : n ≤ c) :
    Calls Try.prog 28 #[.slice A n c] w fun e w' => ∃ A' c', e = .returned (.slice A' n c') ∧ Sp w' w.heap.size A' n c' (l.map ofS) ∧ Below w.heap.size w w' := by
  subst hn
  refine (tallyroomlaw06_Ofs.calls 2000 A c l _ w hC hc (ofs_f l hl)).mono ?_
  rintro e w' ⟨v, rfl, hS, hb⟩
  obtain ⟨A', c', rfl, h1, h2⟩ := Kd.S_reads hS
  have e : (l.map ofS).length = l.length := List.length_map _
  rw [e] at h1 hS
  exact ⟨A', c', by rw [e], ⟨e.symm, h1, hS⟩, hb⟩
theorem win_w (A : Option Addr) (n c : Nat) (l : List S70) (width : Nat) (win0 : Int) (w : World) (hn : l.length = n) (hl : n ≤ 1000) (hw : 0 < width) (h : ∀ s ∈ l, s.f8 < 18446744073709551616) (hC : Kd.C k70 w A n l) (hc : n ≤ c) (hwin : win l (width : Int) = win0) :
    Calls Try.prog 31 #[.slice A n c, .int .u64 (width : Int)] w fun e w' => e = .returned (.int .u64 win0) ∧ Below w.heap.size w w' := by
  subst hn hwin
  exact sampler_Window.calls 2000 A c l (width : Int) _ w hC hc (win_f l (width : Int) (by omega) hl h)
def one (A : Option Addr) (c : Nat) : List Value := [.int .u64 7, .int .u64 1, .int .u64 0, .string ⟨#[119, 101, 98]⟩, .string ⟨#[103, 101, 116]⟩, .int .i64 1, .int .i64 0, .int .u64 5, .int .u64 9, .slice A 0 c]
theorem one_w (w : World) : Calls Try.prog 44 #[] w fun e w' => ∃ A c, e = .returned (.agg #[.int .u64 7, .int .u64 1, .int .u64 0, .string ⟨#[119, 101, 98]⟩, .string ⟨#[103, 101, 116]⟩, .int .i64 1, .int .i64 0, .int .u64 5, .int .u64 9, .slice A 0 c]) ∧ Kd.C k120 w' A 0 [] ∧ Below w.heap.size w w' := by
  refine (tallyroomlaw06_One.calls 7 1 0 ⟨#[119, 101, 98]⟩ ⟨#[103, 101, 116]⟩ 1 0 5 9 [] w rfl).mono ?_
  rintro e w' ⟨v, rfl, hR, hb⟩
  obtain ⟨A, c, rfl, h1, h2⟩ := Kd.R_reads hR
  exact ⟨A, c, rfl, h2, hb⟩
abbrev pAll : Po := ⟨⟨#[97, 108, 108]⟩, ⟨#[]⟩, 0, 0, ⟨#[]⟩, 0, none, 0, 0⟩
abbrev pNone : Po := ⟨⟨#[]⟩, ⟨#[]⟩, 0, 0, ⟨#[]⟩, 0, none, 0, 0⟩
def sOne : S99 := ⟨7, 1, 0, ⟨#[119, 101, 98]⟩, ⟨#[103, 101, 116]⟩, 1, 0, 5, 9, []⟩
theorem near_one : Near [sOne] := ⟨by simp, fun s hs => by rw [List.mem_singleton.1 hs]; simp [sOne]⟩
theorem win_one : win ([sOne].map ofS) ((10 : Nat) : Int) = ((0 : Nat) : Int) := by decide
theorem end_one : ∀ s ∈ [sOne].map ofS, s.f8 < 18446744073709551616 := fun s hs => by
  rw [List.map_singleton, List.mem_singleton] at hs; subst hs; decide
/-- A sampler behind the windows that passed its policy. -/
def Sw (w : World) (S N B : Nat) (p : Po) (width most : Nat) (Ws : List Nat) : Prop := IsSm w S N B p width most Ws.length (fun k => min (Ws.count k) most) (fun k => decide (k ∈ Ws))
theorem Sw.below {w w' : World} {S N B : Nat} {p : Po} {width most : Nat} {Ws : List Nat} (h : Sw w S N B p width most Ws) (k : Below w.heap.size w w') : Sw w' S N B p width most Ws := IsSm.below h k
theorem Sw.start {w : World} {S N B : Nat} {p : Po} {width most : Nat} (h : IsSm w S N B p width most 0 (fun _ => 0) (fun _ => false)) : Sw w S N B p width most [] := by
  unfold Sw
  have e1 : (fun k : Nat => min (([] : List Nat).count k) most) = fun _ => 0 := by funext k; simp
  have e2 : (fun k : Nat => decide (k ∈ ([] : List Nat))) = fun _ => false := by funext k; simp
  rw [e1, e2]; exact h
theorem ask_sw (S N B : Nat) (p : Po) (width most : Nat) (Ws : List Nat) (A : Option Addr) (n c : Nat) (wn q : Nat) (ft : Int) (l : List S70) (w : World) (hs : Sw w S N B p width most Ws) (hn : 0 < n) (hw : 0 < width) (hm : most ≤ 65536) (hWs : Ws.length < 100000)
    (hl : l.length = n) (hn2 : n ≤ 1000) (he : ∀ s ∈ l, s.f8 < 18446744073709551616) (hC : Kd.C k70 w A n l) (hc : n ≤ c) (hwin : win l (width : Int) = (wn : Int)) (hq : Ws.count wn = q) (hft : (if q < most then (1 : Int) else 2) = ft)
    (hH : Aside0 (∀ W, Below w.heap.size w W → Calls Try.prog 32 #[p.val, .slice A n c] W fun e w' => e = .returned (.bool true) ∧ Below W.heap.size W w')) :
    Calls Try.prog 27 #[.pointer (some ⟨S, 0, none⟩), .slice A n c] w fun e w' => e = .returned (.tuple #[.int .i64 ft, .int .u64 (wn : Int), .int .i64 0]) ∧ Sw w' S N B p width most (Ws ++ [wn]) ∧ Only (fun j => j = B) w w' := by
  have hr := win_range l (width : Int) (by omega) he
  rw [hwin] at hr
  refine (ask_gate S N B p width most Ws.length _ _ A n c wn w hn hs (by omega) hm (by omega) ⟨win_w A n c l width (wn : Int) w hl hn2 hw he hC hc hwin⟩ hH).mono ?_
  rintro e w' ⟨rfl, h1, h2⟩
  refine ⟨?_, ?_, h2⟩
  · rw [← hft, hq]
    by_cases h : q < most
    · rw [if_pos h, if_pos (by omega)]
    · rw [if_neg h, if_neg (by omega)]
  · unfold Sw
    have e1 : (fun k : Nat => min ((Ws ++ [wn]).count k) most) = at' (fun k => min (Ws.count k) most) wn (if min (Ws.count wn) most < most then min (Ws.count wn) most + 1 else min (Ws.count wn) most) := by
      funext k
      unfold at'
      rw [List.count_append, List.count_singleton]
      by_cases e : k = wn
      · subst e
        rw [if_pos rfl]
        simp only [beq_self_eq_true, if_true]
        split <;> omega
      · rw [if_neg e]
        have : (wn == k) = false := by rw [beq_eq_false_iff_ne]; exact fun h => e h.symm
        rw [this]; simp
    have e2 : (fun k : Nat => decide (k ∈ Ws ++ [wn])) = at' (fun k => decide (k ∈ Ws)) wn true := by
      funext k
      unfold at'
      by_cases e : k = wn
      · subst e; simp
      · rw [if_neg e]; simp [e]
    rw [e1, e2, List.length_append]
    exact h1
set_option maxHeartbeats 8000000 in
set_option maxRecDepth 1000000 in
theorem alive_w (w : World) : Calls Try.prog 21 #[] w fun e w' => e = .returned (.bool true) ∧ Below w.heap.size w w' := by
  have HB := Aside0.mk (Below.refl w.heap.size w)
  go_enter Try.func21, Try.ntmps21
  go_wp2_with (go_at_call 24; refine (new_gate pAll 10 1 _ (by omega) (by omega) (by omega) ⟨fun W _ => Pl.check_all W⟩).mono ?_)
  rintro e w1 ⟨S, N, B, rfl, hS, hN, hB, hS1, hN1, hB1, hs, hb1⟩
  replace HB := Aside0.mk (HB.out.trans (hb1.mono HB.out.size))
  have hs0 := Aside0.mk (And.intro hb1.size hB1)
  replace hs := Aside0.mk (And.intro (Sw.start hs) hB)
  clear hb1 hS hN hB hS1 hN1 hB1
  go_wp2_with (go_at_call 44; refine (one_w _).mono ?_; rintro e w2 ⟨A0, c0, rfl, hA0, hb2⟩)
  replace HB := Aside0.mk ((HB.out.trans (hb2.mono HB.out.size)).alloc (Nat.le_trans HB.out.size hb2.size) (.cells #[.int .u64 7, .int .u64 1, .int .u64 0, .string ⟨#[119, 101, 98]⟩, .string ⟨#[103, 101, 116]⟩, .int .i64 1, .int .i64 0, .int .u64 5, .int .u64 9, .slice A0 0 c0] 99))
  replace hs := Aside0.mk (And.intro ((hs.out.1.below hb2).below ((Below.refl _ w2).alloc (Nat.le_refl _) (.cells #[.int .u64 7, .int .u64 1, .int .u64 0, .string ⟨#[119, 101, 98]⟩, .string ⟨#[103, 101, 116]⟩, .int .i64 1, .int .i64 0, .int .u64 5, .int .u64 9, .slice A0 0 c0] 99))) hs.out.2)
  replace hs0 := Aside0.mk (show True ∧ B < (w2.alloc (.cells #[.int .u64 7, .int .u64 1, .int .u64 0, .string ⟨#[119, 101, 98]⟩, .string ⟨#[103, 101, 116]⟩, .int .i64 1, .int .i64 0, .int .u64 5, .int .u64 9, .slice A0 0 c0] 99)).heap.size from ⟨trivial, by have := hb2.size; have := hs0.out.2; rw [size_alloc]; omega⟩)
  have hX := Aside0.mk (C_single (k99_mk (w2.alloc (.cells #[.int .u64 7, .int .u64 1, .int .u64 0, .string ⟨#[119, 101, 98]⟩, .string ⟨#[103, 101, 116]⟩, .int .i64 1, .int .i64 0, .int .u64 5, .int .u64 9, .slice A0 0 c0] 99)) sOne (A9 := A0) (c9 := c0) (Nat.zero_le _) (Kd.C_alloc hA0 _)) (Row.new w2 (one A0 c0) 99))
  clear hb2 hA0
  generalize (w2.alloc (.cells #[.int .u64 7, .int .u64 1, .int .u64 0, .string ⟨#[119, 101, 98]⟩, .string ⟨#[103, 101, 116]⟩, .int .i64 1, .int .i64 0, .int .u64 5, .int .u64 9, .slice A0 0 c0] 99)) = w3 at *
  generalize w2.heap.size = b2 at *
  go_wp2_with (first
    | (go_at_call 28; refine (ofs_w _ 1 1 [sOne] _ rfl near_one hX.out (Nat.le_refl _)).mono ?_; rintro e w4 ⟨A1, c1, rfl, hY, hb4⟩; replace HB := Aside0.mk (HB.out.trans (hb4.mono HB.out.size)); replace hs := Aside0.mk (And.intro (hs.out.1.below hb4) hs.out.2); replace hY := Aside0.mk hY; have hBs := Aside0.mk (show B < w3.heap.size from by have := hs0.out.2; omega); clear hX hb4)
    | (go_at_call 27; refine (ask_sw S N B pAll 10 1 [0] A1 1 c1 0 1 2 _ _ hs2.out.1 (by omega) (by omega) (by omega) (by simp) rfl (by omega) end_one hY2.out.C hY2.out.2.1 win_one rfl rfl ⟨fun W _ => Pl.Holds_all _ _ _ W⟩).mono ?_; rintro e w6 ⟨rfl, hs3, ho6⟩; replace HB := Aside0.mk (HB.out.trans (ho6.below (B := w.heap.size) (fun k e => by have e : k = B := e; subst e; exact hs2.out.2) HB.out.size)); clear hs3)
    | (go_at_call 27; refine (ask_sw S N B pAll 10 1 [] A1 1 c1 0 0 1 _ _ hs.out.1 (by omega) (by omega) (by omega) (by simp) rfl (by omega) end_one hY.out.C hY.out.2.1 win_one rfl rfl ⟨fun W _ => Pl.Holds_all _ _ _ W⟩).mono ?_; rintro e w5 ⟨rfl, hs2, ho5⟩; replace HB := Aside0.mk (HB.out.trans (ho5.below (B := w.heap.size) (fun k e => by have e : k = B := e; subst e; exact hs.out.2) HB.out.size)); replace hs2 := Aside0.mk (And.intro hs2 hs.out.2); have hY2 := Aside0.mk (hY.out.only ho5 (fun j e => by have e : j = B := e; subst e; exact hBs.out)); clear hs)
    | (go_at_call 24; refine (new_wrong pNone 10 1 1 _ (by omega) ⟨fun W _ => Pl.check_none W⟩).mono ?_; rintro e w7 ⟨rfl, hb7⟩; replace HB := Aside0.mk (HB.out.trans (hb7.mono HB.out.size)); clear hb7))
  go_ret
  exact ⟨rfl, HB.out⟩
end Go.Proofs.Ytgpkihnihmbomaa.Sl
