/- The law SamplerWindows, walked. No conditions but bounds. -/
import Derived.Test.YtgpkihnihmbomaaSl
namespace Go.Proofs.Ytgpkihnihmbomaa.Sl
open Go.RowKit Go.Proofs.YtgpkihnihmbomaaW.PrintWords Go.Proofs.YtgpkihnihmbomaaW.PrintLast Go.Proofs.YtgpkihnihmbomaaW.PrintMore
open Go.Proofs.Ytgpkihnihmbomaa.Ob Go.Proofs.Ytgpkihnihmbomaa.Two Go.Proofs.Ytgpkihnihmbomaa.Bx Go.Proofs.Ytgpkihnihmbomaa.Ra Go.Proofs.Ytgpkihnihmbomaa.Sm Go.Proofs.Ytgpkihnihmbomaa.XSs Go.Proofs.Ytgpkihnihmbomaa.Sb
set_option linter.unusedSimpArgs false
set_option linter.unusedVariables false
theorem info22' : (Try.prog.info? 22).map (fun i => (i.zero, i.size, i.bytes)) = some (some (.int .u64 0), 1, 8) := by kernel_rfl
theorem info56' : (Try.prog.info? 56).map (fun i => (i.zero, i.size, i.bytes)) = some (some (.int .i64 0), 1, 8) := by kernel_rfl
theorem info70' : (Try.prog.info? 70).map (fun i => (i.zero, i.size, i.bytes)) = some (some (.agg #[.int .u64 0, .int .u64 0, .int .u64 0, .string ⟨#[]⟩, .string ⟨#[]⟩, .int .i64 0, .int .i64 0, .int .u64 0, .int .u64 0, .slice none 0 0]), 10, 112) := by kernel_rfl
theorem R_only {α : Type} {d : Kd α} {e base : Nat} {ok S : Nat → Prop} {w w1 : World} {v : Value} {xs : List α} (h : d.R e w base ok v xs) (k : Only S w w1) (hs : ∀ k, ok k → k < w.heap.size → ¬ S k) : d.R e w1 base ok v xs :=
  Kd.R_step h (fun i hi hlt => k.block i hlt (hs i hi hlt))
theorem only_of_grown {W w1 : World} {row : Option Nat} (hg : W.grownBy w1 row) : Only (fun k => some k = row) W w1 := ⟨hg.os, hg.tape, hg.output, hg.size, fun k hk hs => hg.block k hk hs⟩
theorem raw_empty {α : Type} {d : Kd α} {e base : Nat} {ok : Nat → Prop} {w : World} {v : Value} (h : d.R e w base ok v []) : (Kd.raw d.sz).R e w base ok v [] := by
  obtain ⟨h0, inner, hown, hr⟩ := h
  exact ⟨h0, inner, hown, ⟨hr.1, fun j p hj => by simp at hj⟩⟩
theorem ty_ne {k : IntKind} {a b : Nat} (h : a ≠ b) : ∀ q, q ∈ a :: (Kd.int k).E → q ≠ b := by
  intro q hq
  rcases List.mem_cons.1 hq with rfl | hq
  · exact h
  · cases hq
def ints (l : List Nat) : List Int := l.map fun (n : Nat) => (n : Int)
theorem sliceV {e base : Nat} {ok : Nat → Prop} {w : World} {v : Value} {k : IntKind} {l : List Nat} (h : Kd.R (Kd.int k) e w base ok v (ints l)) : ∃ A c, v = .slice A l.length c := by
  obtain ⟨A, c, e⟩ := Kd.R_slice h
  exact ⟨A, c, by rw [e]; unfold ints; rw [List.length_map]⟩
/-- The sampler and the law's two lists. -/
structure Wd (w W : World) (S N B width most : Nat) (Gs Vs : List Nat) (Fs : List Int) (V F : Value) : Prop where
  sm : Sw W S N B pAll width most Gs
  b : Below w.heap.size w W
  s0 : w.heap.size ≤ S
  n0 : w.heap.size ≤ N
  b0 : w.heap.size ≤ B
  b1 : B < W.heap.size
  rv : Kd.R (Kd.int .u64) 22 W w.heap.size (fun k => k ≠ S ∧ k ≠ N ∧ k ≠ B) V (ints Vs)
  rf : Kd.R (Kd.int .i64) 56 W w.heap.size (fun k => k ≠ S ∧ k ≠ N ∧ k ≠ B) F Fs
section
variable {w W W' : World} {S N B width most : Nat} {Gs Vs : List Nat} {Fs : List Int} {V F V' F' : Value}
theorem Wd.keep (h : Wd w W S N B width most Gs Vs Fs V F) (k : Below W.heap.size W W') : Wd w W' S N B width most Gs Vs Fs V F :=
  ⟨h.sm.below k, h.b.trans (k.mono h.b.size), h.s0, h.n0, h.b0, Nat.lt_of_lt_of_le h.b1 k.size, Kd.R_below h.rv k, Kd.R_below h.rf k⟩
theorem Wd.asked {Gs' : List Nat} (h : Wd w W S N B width most Gs Vs Fs V F) (hs : Sw W' S N B pAll width most Gs') (k : Only (fun j => j = B) W W') : Wd w W' S N B width most Gs' Vs Fs V F :=
  ⟨hs, h.b.trans (k.below (fun j e => by have e : j = B := e; subst e; exact h.b0) h.b.size), h.s0, h.n0, h.b0, Nat.lt_of_lt_of_le h.b1 k.size, R_only h.rv k (fun j hj _ e => hj.2.2 e), R_only h.rf k (fun j hj _ e => hj.2.2 e)⟩
theorem Wd.putV {x : Nat} (h : Wd w W S N B width most Gs Vs Fs V F) (hr : Kd.R (Kd.int .u64) 22 W' w.heap.size (fun k => k ≠ S ∧ k ≠ N ∧ k ≠ B) V' (ints Vs ++ [(x : Int)])) (hg : W.grownBy W' V.ownBlock) : Wd w W' S N B width most Gs (Vs ++ [x]) Fs V' F := by
  have k := only_of_grown hg
  have hv := Kd.R_bound h.rv
  have hne : ∀ j, some j = V.ownBlock → j ≠ S ∧ j ≠ N ∧ j ≠ B := fun j e => (hv.1 _ e.symm).1
  exact ⟨IsSm.keep h.sm k (fun e => (hne _ e).1 rfl) (fun e => (hne _ e).2.1 rfl) (fun e => (hne _ e).2.2 rfl), h.b.trans (k.below (fun j e => (hv.1 _ e.symm).2.1) h.b.size), h.s0, h.n0, h.b0, Nat.lt_of_lt_of_le h.b1 k.size, by
    have e : ints (Vs ++ [x]) = ints Vs ++ [(x : Int)] := by simp [ints]
    rw [e]; exact hr, Kd.R_over h.rf h.rv (ty_ne (by decide)) hg⟩
theorem Wd.putF {x : Int} (h : Wd w W S N B width most Gs Vs Fs V F) (hr : Kd.R (Kd.int .i64) 56 W' w.heap.size (fun k => k ≠ S ∧ k ≠ N ∧ k ≠ B) F' (Fs ++ [x])) (hg : W.grownBy W' F.ownBlock) : Wd w W' S N B width most Gs Vs (Fs ++ [x]) V F' := by
  have k := only_of_grown hg
  have hv := Kd.R_bound h.rf
  have hne : ∀ j, some j = F.ownBlock → j ≠ S ∧ j ≠ N ∧ j ≠ B := fun j e => (hv.1 _ e.symm).1
  exact ⟨IsSm.keep h.sm k (fun e => (hne _ e).1 rfl) (fun e => (hne _ e).2.1 rfl) (fun e => (hne _ e).2.2 rfl), h.b.trans (k.below (fun j e => (hv.1 _ e.symm).2.1) h.b.size), h.s0, h.n0, h.b0, Nat.lt_of_lt_of_le h.b1 k.size, Kd.R_over h.rv h.rf (ty_ne (by decide)) hg, hr⟩
theorem Wd.fresh (h : Wd w W S N B width most Gs Vs Fs V F) : ∀ k, W.heap.size ≤ k → k ≠ S ∧ k ≠ N ∧ k ≠ B := by
  intro k hk
  have h1 := h.sm.head.lt (by simp)
  have h2 := h.sm.g.head.lt (by simp)
  have h3 := h.b1
  omega
end
theorem add_zero' (a : Addr) : a.add 0 = a := by
  unfold Addr.add; split <;> simp_all
/-- How the fates are told of the windows. -/
def Told (most : Nat) (Ws : List Nat) (Fs : List Int) : Prop := Fs.length = Ws.length ∧ ∀ i, ∀ h : i < Ws.length, Fs[i]? = some (if (Ws.take i).count Ws[i] < most then 1 else 2)
theorem Told.nil (most : Nat) : Told most [] [] := ⟨rfl, fun i h => absurd h (by simp)⟩
theorem Told.snoc {most : Nat} {Ws : List Nat} {Fs : List Int} (h : Told most Ws Fs) (x : Nat) : Told most (Ws ++ [x]) (Fs ++ [if Ws.count x < most then 1 else 2]) := by
  obtain ⟨h1, h2⟩ := h
  refine ⟨by rw [List.length_append, List.length_append, h1]; rfl, fun i hi => ?_⟩
  rw [List.length_append, List.length_singleton] at hi
  by_cases e : i < Ws.length
  · rw [List.getElem?_append_left (by omega), h2 i e, List.take_append_of_le_length (by omega), List.getElem_append_left e]
  · obtain rfl : i = Ws.length := by omega
    rw [List.getElem?_append_right (by omega), h1, Nat.sub_self, List.getElem_append_right (by omega)]
    simp
theorem last_reverse (l : List S70) (h : ∀ s ∈ l, 0 ≤ s.f8) : last l.reverse = last l := by
  induction l with
  | nil => rfl
  | cons s r ih =>
    rw [List.reverse_cons, last_snoc, last_cons s r (h s (List.mem_cons_self ..)), ih (fun x hx => h x (List.mem_cons_of_mem _ hx)), Int.max_comm]
theorem last_drop (l : List S70) (i : Nat) (hi : i < l.length) (h : ∀ s ∈ l, 0 ≤ s.f8) : last (l.drop i) = max (l[i]).f8 (last (l.drop (i + 1))) := by
  rw [List.drop_eq_getElem_cons hi, last_cons _ _ (h _ (List.getElem_mem hi))]
theorem last_ge (l : List S70) (i : Nat) (hi : i < l.length) (h : ∀ s ∈ l, 0 ≤ s.f8) : (l[i]).f8 ≤ last l := by
  induction l generalizing i with
  | nil => simp at hi
  | cons s r ih =>
    rw [last_cons s r (h s (List.mem_cons_self ..))]
    rcases i with _ | i
    · exact Int.le_max_left _ _
    · exact Int.le_trans (ih i (by simpa using hi) (fun x hx => h x (List.mem_cons_of_mem _ hx))) (Int.le_max_right _ _)
theorem at_int {kk : IntKind} {w : World} {A : Option Addr} {n : Nat} {xs : List Int} (h : Kd.C (Kd.int kk) w A n xs) (i : Nat) (hi : i < n) : ∃ ad, A = some ad ∧ w.cell? (ad.add i) = some (.int kk (xs.getD i 0)) := by
  obtain ⟨ad, c, e, _, hK, hc⟩ := Kd.C_get h (0 : Int) (i : Int) (by omega) (by omega)
  rw [Int.toNat_natCast] at hc hK
  refine ⟨ad, e, ?_⟩
  have hK' : c = [.int kk (xs.getD i 0)] := hK
  have := hc 0 _ (by rw [hK']; rfl)
  rwa [show i * (Kd.int kk).sz + 0 = i from Nat.mul_one i] at this
theorem at_ints {kk : IntKind} {w : World} {A : Option Addr} {n : Nat} {l : List Nat} (h : Kd.C (Kd.int kk) w A n (ints l)) (i : Nat) (hil : i < l.length) (hi : i < n) : ∃ ad, A = some ad ∧ w.cell? (ad.add i) = some (.int kk ((l[i] : Nat) : Int)) := by
  obtain ⟨ad, e, hc⟩ := at_int h i hi
  have : (ints l).getD i 0 = ((l[i] : Nat) : Int) := by
    unfold ints
    rw [List.getD_eq_getElem?_getD, List.getElem?_map, List.getElem?_eq_getElem hil]; rfl
  rw [this] at hc
  exact ⟨ad, e, hc⟩
theorem C_back {W3 W : World} {A : Option Addr} {n : Nat} {rows : List (List Value)} {ys : List S70} (hl : rows.length = ys.length) (hR : (Kd.raw 10).C W A n rows.reverse) (hK : ∀ (j : Nat) (x : S70) (c : List Value), ys[j]? = some x → rows[j]? = some c → k70.K W3 x c) (hb : Below W3.heap.size W3 W) : Kd.C k70 W A n ys.reverse := by
  refine C_of_raw (d := k70) hR (by rw [List.length_reverse, List.length_reverse, hl]) (fun j x c hx hc => ?_)
  have hj : j < ys.length := by have := (List.getElem?_eq_some_iff.1 hx).1; rwa [List.length_reverse] at this
  rw [List.getElem?_reverse hj] at hx
  rw [List.getElem?_reverse (by omega), hl] at hc
  exact k70.K_below hb (hK _ x c hx hc)
attribute [local go_sem] max2_int min2_int max_two min_two
set_option maxHeartbeats 16000000 in
set_option maxRecDepth 1000000 in
theorem windows_law (w : World) (A0 : Option Addr) (c0 : Nat) (l : List (List S99)) (wd most : Nat) (hwd : wd ≤ 65535) (hmost : most ≤ 255) (he : ∀ x ∈ l, ∀ s ∈ x, 0 ≤ s.f8 ∧ s.f8 < 18446744073709551616) (hC : Kd.C (Kd.slice 99 k99) w A0 l.length l) (hc : l.length ≤ c0) :
    Calls Try.prog 7 #[.slice A0 l.length c0, .int .u16 (wd : Int), .int .u8 (most : Int)] w fun e w' => e = .returned (.bool true) ∧ Below w.heap.size w w' := by
  replace hC := Aside0.mk hC
  replace hc := Aside0.mk hc
  replace he := Aside0.mk he
  obtain ⟨r, hf, hn⟩ := far_f l
  replace hf := Aside0.mk hf
  have HB := Aside0.mk (Below.refl w.heap.size w)
  cases r with
  | true =>
    clear hn
    go_enter Try.func7, Try.ntmps7
    go_wp2_with (first
      | (go_at_call 21; refine (alive_w _).mono ?_; rintro e wa ⟨rfl, hb1⟩; replace HB := Aside0.mk (HB.out.trans (hb1.mono HB.out.size)); clear hb1)
      | (go_at_call 23; refine (tallyroomlaw24_far.calls 1000 A0 c0 l _ _ (Kd.C_below hC.out HB.out) hc.out hf.out).mono ?_; rintro e wf ⟨rfl, hb1⟩; replace HB := Aside0.mk (HB.out.trans (hb1.mono HB.out.size)); clear hb1))
    go_ret
    exact ⟨by first | rfl | simp, HB.out⟩
  | false =>
  obtain ⟨hl20, hnear⟩ := hn rfl
  replace hnear := Aside0.mk hnear
  clear hn
  obtain ⟨nn, hnn⟩ : ∃ nn : Nat, nn = 1 + wd := ⟨_, rfl⟩
  have hnI : (1 : Int) + (wd : Int) = (nn : Int) := by omega
  have hnb : nn ≤ 65536 := by omega
  have hn1 : 1 ≤ nn := by omega
  clear hnn
  go_enter Try.func7, Try.ntmps7
  go_wp2_with (first
    | (go_at_call 21; refine (alive_w _).mono ?_; rintro e wa ⟨rfl, hb1⟩; replace HB := Aside0.mk (HB.out.trans (hb1.mono HB.out.size)); clear hb1)
    | (go_at_call 23; refine (tallyroomlaw24_far.calls 1000 A0 c0 l _ _ (Kd.C_below hC.out HB.out) hc.out hf.out).mono ?_; rintro e wf ⟨rfl, hb1⟩; replace HB := Aside0.mk (HB.out.trans (hb1.mono HB.out.size)); clear hb1)
    | (go_at_call 24; refine (new_gate pAll nn most _ hn1 (by omega) (by omega) ⟨fun W _ => Pl.check_all W⟩).mono ?_))
  rintro e w1 ⟨S, N, B, rfl, hS, hN, hB, hS1, hN1, hB1, hs, hb1⟩
  have HW := Aside0.mk (show Wd w w1 S N B nn most [] [] [] (.slice none 0 0) (.slice none 0 0) from by
    have h0 := HB.out.size
    exact ⟨Sw.start hs, HB.out.trans (hb1.mono h0), by omega, by omega, by omega, hB1, Kd.R_nil _ _ _ _ _, Kd.R_nil _ _ _ _ _⟩)
  clear hS hN hB hS1 hN1 hB1 hs hb1 HB
  clear hnI
  obtain ⟨n0, hn0⟩ : ∃ n0, l.length = n0 := ⟨_, rfl⟩
  rw [hn0] at hC hc hl20 ⊢
  go_wp2
  go_loopg [10, 11, 12] (n0 + 1) (fun kq v10 v11 v12 wr => ∃ (i : Nat) (Ws : List Nat) (Fs : List Int) (Av Af : Option Addr) (cv cf : Nat), v10 = .slice Av Ws.length cv ∧ v11 = .slice Af Fs.length cf ∧ v12 = .int .i64 (i : Int) ∧ i ≤ n0 ∧ n0 - i < kq ∧ Ws.length ≤ i ∧ Aside0 (Wd w wr S N B nn most Ws Ws Fs v10 v11) ∧ Aside0 (Told most Ws Fs))
  case atStart => exact ⟨0, [], [], none, none, 0, 0, rfl, rfl, rfl, Nat.zero_le _, by omega, Nat.zero_le _, HW, ⟨Told.nil most⟩⟩
  case round =>
    clear HW
    obtain ⟨i, Ws, Fs, Av, Af, cv, cf, rfl, rfl, rfl, hi, hk, hWs, HW, HT⟩ := hrel
    obtain ⟨k1, rfl⟩ : ∃ m, gk = m + 1 := ⟨gk - 1, by omega⟩
    have hi0 : (0 : Int) ≤ (i : Int) := by omega
    by_cases hin : i < n0
    · have hinI : (i : Int) < (n0 : Int) := by omega
      have hil : i < l.length := by omega
      obtain ⟨ad, A1, c1, rfl, x0, hc1, hX⟩ := at_L11 (Kd.C_below hC.out HW.out.b) (i : Int) hi0 (by exact hinI)
      rw [rdL11 l i hil, Int.toNat_natCast] at x0
      rw [rdL11 l i hil] at hc1 hX
      have hxn := Aside0.mk (hnear.out _ (List.getElem_mem hil))
      have hxe := Aside0.mk (he.out _ (List.getElem_mem hil))
      obtain ⟨xs, hxs⟩ : ∃ xs, l[i] = xs := ⟨_, rfl⟩
      rw [hxs] at x0 hc1 hX hxn hxe
      clear hxs
      obtain ⟨n, hn⟩ : ∃ n, xs.length = n := ⟨_, rfl⟩
      rw [hn] at x0 hc1 hX
      have hn20 : n ≤ 20 := by rw [← hn]; exact hxn.out.1
      replace hX := Aside0.mk hX
      have hWsz := Aside0.mk HW.out.b1
      go_wp2_with (go_at_call 28; refine (ofs_w A1 n c1 xs _ hn hxn.out hX.out hc1).mono ?_)
      rintro e w2 ⟨A2, c2, rfl, hY, hb2⟩
      replace hY := Aside0.mk hY
      replace HW := Aside0.mk (HW.out.keep hb2)
      clear hb2
      rcases Nat.eq_zero_or_pos n with hn00 | hnp
      · subst hn00
        go_wp2_with (go_at_call 27; refine (ask_empty ⟨S, 0, none⟩ A2 c2 _).mono ?_; rintro e w3 ⟨rfl, rfl⟩)
        go_roundg k1
        case measure => omega
        case rel => exact ⟨i + 1, Ws, Fs, Av, Af, cv, cf, rfl, rfl, rfl, by omega, by omega, by omega, HW, HT⟩
      · have hz : ((n : Int) == 0) = false := by rw [beq_eq_false_iff_ne]; omega
        have hnI0 : (0 : Int) < (n : Int) := by omega
        obtain ⟨ys, hys⟩ : ∃ ys, xs.map ofS = ys := ⟨_, rfl⟩
        have hyl : ys.length = n := by rw [← hys, List.length_map]; exact hn
        have hye : ∀ s ∈ ys, 0 ≤ s.f8 ∧ s.f8 < 18446744073709551616 := by
          intro s hs
          rw [← hys] at hs
          obtain ⟨x, hx, rfl⟩ := List.mem_map.1 hs
          exact hxe.out x hx
        have hye0 : ∀ s ∈ ys, 0 ≤ s.f8 := fun s hs => (hye s hs).1
        have hye1 : ∀ s ∈ ys, s.f8 < 18446744073709551616 := fun s hs => (hye s hs).2
        rw [hys] at hY
        clear hys hX hxn hxe hn x0 hc1
        have hwr := win_range ys (nn : Int) (by omega) hye1
        obtain ⟨wn, hwn⟩ : ∃ wn : Nat, win ys (nn : Int) = (wn : Int) := ⟨(win ys (nn : Int)).toNat, by omega⟩
        have hwb : wn < 18446744073709551616 := by omega
        obtain ⟨ft, hft⟩ : ∃ ft : Int, (if Ws.count wn < most then (1 : Int) else 2) = ft := ⟨_, rfl⟩
        have hft0 : (ft == 0) = false := by rw [beq_eq_false_iff_ne, ← hft]; split <;> decide
        replace HT := Aside0.mk (And.intro HT.out (And.intro (hft ▸ Told.snoc HT.out wn) hft))
        have hYe := Aside0.mk (And.intro hye0 (And.intro hye1 hwn))
        clear hye hye0 hye1 hwr
        go_wp2_with (go_at_call 27; refine (ask_sw S N B pAll nn most Ws A2 n c2 wn _ ft ys _ HW.out.sm hnp hn1 (by omega) (by omega) hyl (by omega) hYe.out.2.1 hY.out.C hY.out.2.1 hwn rfl hft ⟨fun W _ => Pl.Holds_all _ _ _ W⟩).mono ?_)
        rintro e w3 ⟨rfl, hs3, ho3⟩
        replace hY := Aside0.mk (hY.out.only ho3 (fun j e => by have e : j = B := e; subst e; exact hWsz.out))
        replace HW := Aside0.mk (HW.out.asked hs3 ho3)
        clear hs3 ho3 hft hwn hWsz
        obtain ⟨f0, hf0⟩ : ∃ f0 : Int, (ys[0]'(by omega)).f8 = f0 := ⟨_, rfl⟩
        obtain ⟨ad2, rfl, y8⟩ : ∃ ad2, A2 = some ad2 ∧ w3.cell? ⟨ad2.block, ad2.off + 8, none⟩ = some (.int .u64 f0) := by
          obtain ⟨ad2, A9, c9, e, _, _, _, _, _, _, _, _, h8, _⟩ := at_T70 hY.out.C (0 : Int) (by omega) (by omega)
          have e0 := rd70 ys 0 (by omega)
          rw [show ((0 : Nat) : Int) = 0 from rfl] at e0
          rw [e0, hf0, show ((0 : Int).toNat * 10) = 0 from rfl, add_zero'] at h8
          exact ⟨ad2, e, h8⟩
        go_wp2_with (go_at_call 28; refine (ofs_w none 0 0 [] _ rfl ⟨by simp, fun s hs => by cases hs⟩ (Kd.C_nil _ _) (Nat.le_refl _)).mono ?_)
        rintro e w4 ⟨A4, c4, rfl, hZ, hb4⟩
        have hZ2 := Aside0.mk (raw_empty (Kd.S_R hZ.2.2))
        have hb4' := Aside0.mk hb4
        obtain ⟨rows, hrl, hrC, hrK⟩ := raw_of_C hY.out.C
        have hf0L : Aside0 (f0 = max f0 (last (ys.drop n))) := ⟨by rw [List.drop_of_length_le (by omega)]; have := hYe.out.1 _ (List.getElem_mem (show 0 < ys.length by omega)); rw [hf0] at this; show f0 = max f0 0; omega⟩
        have hf0r : 0 ≤ f0 ∧ f0 < 18446744073709551616 := by rw [← hf0]; exact ⟨hYe.out.1 _ (List.getElem_mem _), hYe.out.2.1 _ (List.getElem_mem _)⟩
        obtain ⟨hf0a, hf0b⟩ := hf0r
        replace hf0 := Aside0.mk hf0
        replace hrC := Aside0.mk hrC
        replace hrK := Aside0.mk hrK
        clear hZ hb4 y8
        go_wp2
        go_loopg [17, 18, 19] (n + 2) (fun kq v17 v18 v19 wr2 => ∃ (m q : Nat) (z L : Int) (Ab : Option Addr) (cb : Nat), v17 = .int .u64 L ∧ v18 = .slice Ab q cb ∧ v19 = .int .i64 z ∧ z = (m : Int) - 1 ∧ q + m = n ∧ m < kq ∧ 0 ≤ L ∧ L < 18446744073709551616 ∧ Aside0 (L = max f0 (last (ys.drop m))) ∧ Aside0 (Below w3.heap.size w3 wr2) ∧ Aside0 (Kd.R (Kd.raw 10) 70 wr2 w3.heap.size (fun _ => True) v18 (rows.drop m).reverse))
        case atStart => exact ⟨n, 0, _, f0, A4, c4, rfl, rfl, rfl, rfl, by omega, by omega, hf0a, hf0b, hf0L, hb4', ⟨by rw [List.drop_of_length_le (by omega)]; exact hZ2.out⟩⟩
        case round =>
          clear hb4' hZ2 hf0L hf0a hf0b
          obtain ⟨m, q, z, L, Ab, cb, rfl, rfl, rfl, hz1, hqm, hk2, hL0, hL1, hL, hBk, hR⟩ := hrel
          obtain ⟨k2, rfl⟩ : ∃ m, gk = m + 1 := ⟨gk - 1, by omega⟩
          rcases m with _ | k
          · obtain rfl : z = -1 := by omega
            obtain rfl : q = n := by omega
            clear hz1
            have hLe : L = last ys := by
              have h1 := hL.out
              have h2 := last_ge ys 0 (by omega) hYe.out.1
              rw [List.drop_zero] at h1
              have h3 := hf0.out
              rw [h3] at h2
              omega
            have hR2 := hR.out
            rw [List.drop_zero] at hR2
            obtain ⟨hql, hqc, hRC⟩ := Kd.R_reads' hR2
            rw [← hql] at hRC
            have hBC := Aside0.mk (C_back hrl hRC hrK.out hBk.out)
            have hBw := Aside0.mk (show win ys.reverse (nn : Int) = (wn : Int) by rw [← hYe.out.2.2]; unfold win; rw [last_reverse ys hYe.out.1])
            have hBe := Aside0.mk (show ∀ s ∈ ys.reverse, s.f8 < 18446744073709551616 from fun s hs => hYe.out.2.1 s (List.mem_reverse.1 hs))
            have hBl : ys.reverse.length = q := by rw [List.length_reverse]; exact hyl
            have hdiv : L / (nn : Int) = (wn : Int) := by
              have h1 := hYe.out.2.2
              unfold win at h1
              rw [← hLe] at h1
              exact h1
            have hnz : ((nn : Int) == 0) = false := by rw [beq_eq_false_iff_ne]; omega
            have hww : ((wn : Int) == (wn : Int)) = true := by simp
            replace hLe := Aside0.mk hLe
            clear hww
            replace HW := Aside0.mk (HW.out.keep hBk.out)
            clear hql hRC hR2 hR hBk hL hf0 hrK hrC
            have hWl := Aside0.mk (show ((ints Ws).length + 1) * 8 ≤ 140737488355328 ∧ (Fs.length + 1) * 8 ≤ 140737488355328 by have h1 := HT.out.1.1; unfold ints; rw [List.length_map, h1]; omega)
            go_wp2_with (first
              | (go_at_call 31; refine (win_w Ab q cb ys.reverse nn (wn : Int) _ hBl (by omega) hn1 hBe.out hBC.out hqc hBw.out).mono ?_; rintro e w6 ⟨rfl, hb6⟩; replace HW := Aside0.mk (HW.out.keep hb6); clear hb6)
              | ((with_reducible refine gate_builtin (b := .append) (xs := #[.tmp 109, .tmp 111]) rfl ?_); at_builtin; refine Kd.R_append (Kd.int .u64) (w0 := w) w.heap.size rfl (.tmp 109) (.tmp 111) 66 22 _ 8 rfl Try.underlying66 info22' rfl (by decide) (by decide) _ (ints Ws) (wn : Int) [.int .u64 (wn : Int)] (fun k => k ≠ S ∧ k ≠ N ∧ k ≠ B) (fun _ => False) rfl rfl rfl (fun _ h => h.elim) HW.out.fresh HW.out.rv HW.out.b HW.out.b.size hWl.out.1 ?_; intro v1 w7 hr hb hg hat; replace HW := Aside0.mk (HW.out.putV hr hg); clear hr hb hg hat; obtain ⟨Av2, cv2, rfl⟩ := sliceV HW.out.rv)
              | ((with_reducible refine gate_builtin (b := .append) (xs := #[.tmp 113, .tmp 115]) rfl ?_); at_builtin; refine Kd.R_append (Kd.int .i64) (w0 := w) w.heap.size rfl (.tmp 113) (.tmp 115) 67 56 _ 8 rfl Try.underlying67 info56' rfl (by decide) (by decide) _ Fs ft [.int .i64 ft] (fun k => k ≠ S ∧ k ≠ N ∧ k ≠ B) (fun _ => False) rfl rfl rfl (fun _ h => h.elim) HW.out.fresh HW.out.rf HW.out.b HW.out.b.size hWl.out.2 ?_; intro v1 w8 hr hb hg hat; replace HW := Aside0.mk (HW.out.putF hr hg); clear hr hb hg hat; obtain ⟨Af2, cf2, rfl⟩ := Kd.R_slice HW.out.rf))
            rw [show (Ws ++ [wn]).length = Ws.length + 1 from by simp, show (Fs ++ [ft]).length = Fs.length + 1 from by simp] at HW
            go_roundg k1
            case measure => omega
            case rel => exact ⟨i + 1, Ws ++ [wn], Fs ++ [ft], Av2, Af2, cv2, cf2, by rw [List.length_append]; rfl, by rw [List.length_append]; rfl, rfl, by omega, by omega, by rw [List.length_append, List.length_singleton]; omega, HW, ⟨HT.out.2.1⟩⟩
          · obtain rfl : z = (k : Int) := by omega
            have hkn : k < n := by omega
            have hk0 : (0 : Int) ≤ (k : Int) := by omega
            have hknI : (k : Int) < (n : Int) := by omega
            have hky : k < ys.length := by omega
            have hkr : k < rows.length := by omega
            have hone := Aside0.mk (k70.K_one (hrK.out k _ _ (List.getElem?_eq_getElem hky) (List.getElem?_eq_getElem hkr)))
            obtain ⟨A9, c9, hrow, h9, hC9⟩ := k70_open (hrK.out k _ _ (List.getElem?_eq_getElem hky) (List.getElem?_eq_getElem hkr))
            obtain ⟨ad3, cs, e3, hcl, hcK, hcc⟩ := Kd.C_get (Kd.C_below hrC.out hBk.out) [] (k : Int) hk0 hknI
            obtain rfl := Option.some.inj e3
            rw [Int.toNat_natCast] at hcc hcK
            have hcs : cs = rows[k] := by
              have := hcK.1
              rw [List.getD_eq_getElem?_getD, List.getElem?_eq_getElem hkr] at this
              exact this
            rw [hrow] at hcs
            subst hcs
            have hc' : ∀ j u, _ → wr.cell? (ad2.add (k * 10 + j)) = some u := hcc
            have z0 := hc' 0 _ rfl
            rw [Nat.add_zero] at z0
            have z1 := hc' 1 _ rfl
            have z2 := hc' 2 _ rfl
            have z3 := hc' 3 _ rfl
            have z4 := hc' 4 _ rfl
            have z5 := hc' 5 _ rfl
            have z6 := hc' 6 _ rfl
            have z7 := hc' 7 _ rfl
            have z8 := hc' 8 _ rfl
            have z9 := hc' 9 _ rfl
            rw [add_field _ _ _ (by omega)] at z1 z2 z3 z4 z5 z6 z7 z8 z9
            clear hc' hcc hcK hcl hC9
            have hLs := last_drop ys k hky hYe.out.1
            have hy8 : 0 ≤ (ys[k]).f8 ∧ (ys[k]).f8 < 18446744073709551616 := ⟨hYe.out.1 _ (List.getElem_mem hky), hYe.out.2.1 _ (List.getElem_mem hky)⟩
            generalize ys[k] = y at *
            obtain ⟨hy8a, hy8b⟩ := hy8
            replace hLs := Aside0.mk hLs
            replace hz1 := Aside0.mk hz1
            replace h9 := Aside0.mk h9
            replace hone := Aside0.mk (hrow ▸ hone.out)
            have hnext := Aside0.mk (show (rows.drop k).reverse = (rows.drop (k + 1)).reverse ++ [[.int .u64 y.f0, .int .u64 y.f1, .int .u64 y.f2, .string y.f3, .string y.f4, .int .i64 y.f5, .int .i64 y.f6, .int .u64 y.f7, .int .u64 y.f8, .slice A9 y.f9.length c9]] by rw [List.drop_eq_getElem_cons hkr, List.reverse_cons, hrow])
            have hrln := Aside0.mk (show ((rows.drop (k + 1)).reverse.length + 1) * 112 ≤ 140737488355328 by rw [List.length_reverse, List.length_drop, hrl, hyl]; omega)
            clear hrow
            by_cases hmx : L < y.f8
            · go_wp2_with (first
                | ((with_reducible refine gate_builtin (b := .append) (xs := #[.tmp 86, .tmp 91]) rfl ?_); at_builtin; refine Kd.R_append (Kd.raw 10) (w0 := w3) w3.heap.size rfl (.tmp 86) (.tmp 91) 59 70 _ 112 rfl Try.underlying59 info70' rfl (by decide) (by decide) _ (rows.drop (k + 1)).reverse [.int .u64 y.f0, .int .u64 y.f1, .int .u64 y.f2, .string y.f3, .string y.f4, .int .i64 y.f5, .int .i64 y.f6, .int .u64 y.f7, .int .u64 y.f8, .slice A9 y.f9.length c9] [.int .u64 y.f0, .int .u64 y.f1, .int .u64 y.f2, .string y.f3, .string y.f4, .int .i64 y.f5, .int .i64 y.f6, .int .u64 y.f7, .int .u64 y.f8, .slice A9 y.f9.length c9] (fun _ => True) (fun _ => False) rfl rfl ⟨rfl, rfl, hone.out⟩ (fun _ h => h.elim) (fun _ _ => trivial) hR.out hBk.out hBk.out.size hrln.out ?_; intro v1 w5 hr hb hg hat; clear hg hat; rw [← hnext.out] at hr; obtain ⟨Ab2, cb2, rfl⟩ := Kd.R_slice hr; replace hr := Aside0.mk hr; replace hb := Aside0.mk hb))
              go_roundg k2
              case measure => omega
              case rel => exact ⟨k, n - k, _, y.f8, Ab2, cb2, rfl, rfl, rfl, rfl, by omega, by omega, by omega, by omega, ⟨by have := hL.out; have := hLs.out; omega⟩, hb, ⟨by have := hr.out; rwa [show (List.drop k rows).reverse.length = n - k by rw [List.length_reverse, List.length_drop, hrl, hyl]] at this⟩⟩
            · go_wp2_with (first
                | ((with_reducible refine gate_builtin (b := .append) (xs := #[.tmp 86, .tmp 91]) rfl ?_); at_builtin; refine Kd.R_append (Kd.raw 10) (w0 := w3) w3.heap.size rfl (.tmp 86) (.tmp 91) 59 70 _ 112 rfl Try.underlying59 info70' rfl (by decide) (by decide) _ (rows.drop (k + 1)).reverse [.int .u64 y.f0, .int .u64 y.f1, .int .u64 y.f2, .string y.f3, .string y.f4, .int .i64 y.f5, .int .i64 y.f6, .int .u64 y.f7, .int .u64 y.f8, .slice A9 y.f9.length c9] [.int .u64 y.f0, .int .u64 y.f1, .int .u64 y.f2, .string y.f3, .string y.f4, .int .i64 y.f5, .int .i64 y.f6, .int .u64 y.f7, .int .u64 y.f8, .slice A9 y.f9.length c9] (fun _ => True) (fun _ => False) rfl rfl ⟨rfl, rfl, hone.out⟩ (fun _ h => h.elim) (fun _ _ => trivial) hR.out hBk.out hBk.out.size hrln.out ?_; intro v1 w5 hr hb hg hat; clear hg hat; rw [← hnext.out] at hr; obtain ⟨Ab2, cb2, rfl⟩ := Kd.R_slice hr; replace hr := Aside0.mk hr; replace hb := Aside0.mk hb))
              go_roundg k2
              case measure => omega
              case rel => exact ⟨k, n - k, _, L, Ab2, cb2, rfl, rfl, rfl, rfl, by omega, by omega, by omega, by omega, ⟨by have := hL.out; have := hLs.out; omega⟩, hb, ⟨by have := hr.out; rwa [show (List.drop k rows).reverse.length = n - k by rw [List.length_reverse, List.length_drop, hrl, hyl]] at this⟩⟩
    · obtain rfl : i = n0 := by omega
      clear hk
      have hWW := Aside0.mk (And.intro HT.out.1 trivial)
      obtain ⟨nW, hnW⟩ : ∃ nW, Ws.length = nW := ⟨_, rfl⟩
      have hFl : Fs.length = nW := by rw [← hnW]; exact HT.out.1
      have hVC := Aside0.mk (Kd.R_reads' HW.out.rv).2.2
      have hFC := Aside0.mk (Kd.R_reads' HW.out.rf).2.2
      have hHW := Aside0.mk HW.out.b
      rw [hnW, hFl]
      rw [hnW] at hWs
      rw [show (ints Ws).length = nW from by unfold ints; rw [List.length_map]; exact hnW] at hVC
      rw [hFl] at hFC
      replace hFl := Aside0.mk hFl
      replace hnW := Aside0.mk hnW
      clear HW hWW
      have hin' : ¬ (i : Int) < (i : Int) := by omega
      go_wp2
      have hAll := Aside0.mk (And.intro hHW.out (And.intro hVC.out hFC.out))
      clear hHW hVC hFC
      go_loopg [20] (nW + 1) (fun kq v20 wq => ∃ (j : Nat), v20 = .int .i64 (j : Int) ∧ j ≤ nW ∧ nW - j < kq ∧ Aside0 (Below w.heap.size w wq ∧ Kd.C (Kd.int .u64) wq Av nW (ints Ws) ∧ Kd.C (Kd.int .i64) wq Af nW Fs))
      case atStart => exact ⟨0, rfl, Nat.zero_le _, by omega, hAll⟩
      case round =>
        clear hAll
        obtain ⟨j, rfl, hj, hk, hAll⟩ := hrel
        obtain ⟨k2, rfl⟩ : ∃ m, gk = m + 1 := ⟨gk - 1, by omega⟩
        have hj0 : (0 : Int) ≤ (j : Int) := by omega
        by_cases hjn : j < nW
        · have hjnI : (j : Int) < (nW : Int) := by omega
          have hjW : j < Ws.length := by rw [hnW.out]; exact hjn
          obtain ⟨wj, hwj⟩ : ∃ wj, Ws[j] = wj := ⟨_, rfl⟩
          obtain ⟨cnt, hcnt⟩ : ∃ cnt, (Ws.take j).count wj = cnt := ⟨_, rfl⟩
          have hcb : cnt ≤ j := by rw [← hcnt]; exact Nat.le_trans List.count_le_length (by rw [List.length_take]; omega)
          have hF0 := HT.out.2 j hjW
          rw [hwj, hcnt] at hF0
          replace hcnt := Aside0.mk hcnt
          replace hwj := Aside0.mk hwj
          replace hF0 := Aside0.mk hF0
          go_wp2
          go_loopg [21, 22] (j + 1) (fun kq v21 v22 wq => ∃ (k c : Nat), v21 = .int .i64 (c : Int) ∧ v22 = .int .i64 (k : Int) ∧ k ≤ j ∧ c ≤ k ∧ j - k < kq ∧ Aside0 ((Ws.take k).count wj = c) ∧ Aside0 (Below w.heap.size w wq ∧ Kd.C (Kd.int .u64) wq Av nW (ints Ws) ∧ Kd.C (Kd.int .i64) wq Af nW Fs))
          case atStart => exact ⟨0, 0, rfl, rfl, Nat.zero_le _, Nat.le_refl _, by omega, ⟨by simp⟩, hAll⟩
          case round =>
            clear hAll
            obtain ⟨k, c, rfl, rfl, hkj, hck, hk3, hc, hAll⟩ := hrel
            obtain ⟨k3, rfl⟩ : ∃ m, gk = m + 1 := ⟨gk - 1, by omega⟩
            have hk0 : (0 : Int) ≤ (k : Int) := by omega
            by_cases hkl : k < j
            · have hklI : (k : Int) < (j : Int) := by omega
              have hkn : k < nW := by omega
              have hknI : (k : Int) < (nW : Int) := by omega
              have hkW : k < Ws.length := by omega
              obtain ⟨wk, hwk⟩ : ∃ wk, Ws[k] = wk := ⟨_, rfl⟩
              have hst := Aside0.mk (show (Ws.take (k + 1)).count wj = c + if wk = wj then 1 else 0 by
                rw [List.take_succ_eq_append_getElem hkW, List.count_append, hc.out, List.count_singleton, hwk]
                by_cases e : wk = wj
                · subst e; simp
                · rw [if_neg e, beq_eq_false_iff_ne.2 e]; simp)
              obtain ⟨ad4, rfl, y1⟩ := at_ints hAll.out.2.1 k hkW hkn
              obtain ⟨ad5, e5, y2⟩ := at_ints hAll.out.2.1 j hjW hjn
              obtain rfl := Option.some.inj e5
              rw [hwk] at y1
              rw [hwj.out] at y2
              replace hwk := Aside0.mk hwk
              have hcI : (c : Int) < 1000 := by omega
              by_cases e : wk = wj
              · subst e
                replace hst := Aside0.mk (show (Ws.take (k + 1)).count wk = c + 1 by rw [hst.out, if_pos rfl])
                go_wp2
                go_quiet (fail)
                go_wp2
                go_roundg k3
                case measure => omega
                case rel => exact ⟨k + 1, c + 1, rfl, rfl, by omega, by omega, by omega, hst, ⟨pw_below_drewN hAll.out.1 _, Kd.C_drewN hAll.out.2.1 _, Kd.C_drewN hAll.out.2.2 _⟩⟩
              · have hab : ((wk : Int) == (wj : Int)) = false := by rw [beq_eq_false_iff_ne]; omega
                replace hst := Aside0.mk (show (Ws.take (k + 1)).count wj = c by rw [hst.out, if_neg e]; rfl)
                clear e
                go_wp2
                go_quiet (fail)
                go_wp2
                go_roundg k3
                case measure => omega
                case rel => exact ⟨k + 1, c, rfl, rfl, by omega, by omega, by omega, hst, ⟨pw_below_drewN hAll.out.1 _, Kd.C_drewN hAll.out.2.1 _, Kd.C_drewN hAll.out.2.2 _⟩⟩
            · obtain rfl : k = j := by omega
              obtain rfl : c = cnt := by rw [← hc.out, ← hcnt.out]
              obtain ⟨ad5, rfl, y3⟩ := at_int hAll.out.2.2 k hjn
              by_cases hlt : c < most
              · have hltI : (c : Int) < (most : Int) := by omega
                have e1 : Fs.getD k 0 = 1 := by rw [List.getD_eq_getElem?_getD, hF0.out, if_pos hlt]; rfl
                rw [e1] at y3
                clear e1
                go_wp2
                go_roundg k2
                case measure => omega
                case rel => exact ⟨k + 1, rfl, by omega, by omega, hAll⟩
              · have hltI : ¬ (c : Int) < (most : Int) := by omega
                have e1 : Fs.getD k 0 = 2 := by rw [List.getD_eq_getElem?_getD, hF0.out, if_neg hlt]; rfl
                rw [e1] at y3
                clear e1
                go_wp2
                go_roundg k2
                case measure => omega
                case rel => exact ⟨k + 1, rfl, by omega, by omega, hAll⟩
        · obtain rfl : j = nW := by omega
          go_wp2
          go_ret
          exact ⟨rfl, hAll.out.1⟩
end Go.Proofs.Ytgpkihnihmbomaa.Sl
