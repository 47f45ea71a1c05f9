/- The law HistBuckets, walked. No conditions but bounds. -/
import Derived.Test.YtdcbhakclhbdpaaHa
namespace Go.Proofs.Ytdcbhakclhbdpaa.Hi
open Go.RowKit Go.Shelf Go.Proofs.YtdcbhakclhbdpaaW.PrintWords Go.Proofs.YtdcbhakclhbdpaaW.PrintLast
open Go.Proofs.Ytdcbhakclhbdpaa.Ob Go.Proofs.Ytdcbhakclhbdpaa.XH
set_option linter.unusedSimpArgs false
set_option linter.unusedVariables false

theorem C_one2 (W W' : World) (x n : Nat) (hn : W.heap.size = n) (o : Only (fun _ => False) (W.alloc (.cells #[.int .u64 (x : Int)] 24)) W') : Kd.C (Kd.int .u64) W' (some ⟨n, 0, none⟩) 1 (ofN [x]) := by
  subst hn
  exact Kd.C_below (C_nums (l := [x]) (Row.new W [.int .u64 (x : Int)] 24) (by show 1 ≤ 1000; omega)) (below_of o)
/-- An own row of numbers, as cells. -/
theorem Row_of_nums {W : World} {base : Nat} {ok : Nat → Prop} {v : Value} {l : List Nat} (h : Kd.R (Kd.int .u64) 24 W base ok v (ofN l)) : ∃ A b c, v = .slice A l.length c ∧ l.length ≤ c ∧ (0 < l.length → A = some ⟨b, 0, none⟩ ∧ base ≤ b ∧ b < W.heap.size) ∧ Row W b ((ofN l).map (Value.int .u64)) := by
  obtain ⟨h0, inner, ho, hr⟩ := h
  have hin : inner = (ofN l).map (Value.int .u64) := by
    have hl : inner.length = (ofN l).length * 1 := hr.1
    apply List.ext_getElem?
    intro q
    by_cases hq : q < inner.length
    · have hj : q < (ofN l).length := by omega
      have hm : (inner.drop (q * 1)).take 1 = [.int .u64 (ofN l)[q]] := hr.2 q _ (List.getElem?_eq_getElem hj)
      have : inner[q]? = some (.int .u64 (ofN l)[q]) := by
        have h2 : ((inner.drop (q * 1)).take 1)[0]? = [Value.int .u64 (ofN l)[q]][0]? := by rw [hm]
        rw [List.getElem?_take_of_lt (by omega), List.getElem?_drop, Nat.mul_one, Nat.add_zero] at h2
        exact h2
      rw [this, List.getElem?_map, List.getElem?_eq_getElem hj]; rfl
    · rw [List.getElem?_eq_none (by omega), List.getElem?_eq_none (by rw [List.length_map]; omega)]
  subst hin
  have hll := ofN_length l
  obtain ⟨hl, h1 | ⟨g, cap, cur, rfl, hg, hh, hc1, hc2, hc3, hc4⟩⟩ := ho
  · have : l = [] := List.eq_nil_of_length_eq_zero (by rw [← hll]; exact h1.2)
    subst this
    exact ⟨none, 0, 0, h1.1, Nat.le_refl _, fun h => absurd h (by simp), fun i v hv => by simp [ofN] at hv⟩
  · rw [hll] at hc1
    refine ⟨_, g, cap, by rw [hll], hc1, fun _ => ⟨rfl, hg, (Array.getElem?_eq_some_iff.1 hh).1⟩, fun i v hv => ?_⟩
    have hk : (Kd.int .u64).sz = 1 := rfl
    rw [← hc4, hk] at hv
    have hi : i < (ofN l).length * 1 := by
      have := (List.getElem?_eq_some_iff.1 hv).1
      rw [List.length_take] at this
      exact Nat.lt_of_lt_of_le this (Nat.min_le_left _ _)
    rw [List.getElem?_take_of_lt hi] at hv
    unfold World.cell? World.frozen?
    simp only [hh]
    exact ⟨by simpa using hv, by simp⟩
theorem R_nums0 (W : World) (base : Nat) (hb : base ≤ W.heap.size) : Kd.R (Kd.int .u64) 24 (W.alloc (.cells #[] 24)) base (fun _ => True) (.slice (some ⟨W.heap.size, 0, none⟩) 0 0) [] := by
  refine ⟨fun _ _ => trivial, [], ?_, Reps.none _ _⟩
  exact World.ownsRow_lit (base := base) (e := 24) (size := 1) W #[] 0 hb (by decide) rfl
theorem rbk_walk (W : World) (A : Option Addr) (n c : Nat) (bs : List Nat) (x : Nat) (hC : Kd.C (Kd.int .u64) W A n (ofN bs)) (hn : n = bs.length) (hc : n ≤ c) (hl : n ≤ 1000) :
    Calls Try.prog 38 #[.slice A n c, .int .u64 (x : Int)] W fun r w' => r = .returned (.int .i64 ((bk bs x : Nat) : Int)) ∧ Only (fun _ => False) W w' := by
  have e : n = (ofN bs).length := by rw [ofN_length, hn]
  subst e
  refine (tallyroomref11_Bucket.calls (bs.length + 1) A c (ofN bs) x _ W hC hc (rbk_f bs x (by rw [ofN_length] at hl; exact hl) _ (by omega))).mono ?_
  rintro r w' ⟨rfl, j, rfl⟩
  exact ⟨rfl, (Only.refl _ W).drewN j⟩
/-- What stands within the law: the histogram, and the clone of the bounds. -/
structure Hy (w W : World) (lo hi N b : Nat) (bs l : List Nat) (m : Nat) : Prop where
  h : IsH W lo hi N bs l
  o : Only (fun _ => False) w W
  lt : 0 < m → w.heap.size ≤ b ∧ b < lo ∧ ∃ cs : List Nat, cs.length = m ∧ Row W b ((ofN cs).map (Value.int .u64))
  le : w.heap.size ≤ lo
theorem Hy.keep {w W W' : World} {lo hi N b : Nat} {bs l : List Nat} {m : Nat} (h : Hy w W lo hi N b bs l m) (o : Only (fun _ => False) W W') : Hy w W' lo hi N b bs l m :=
  ⟨h.h.keep o, h.o.trans o, fun hm => by obtain ⟨h1, h2, cs, h3, h4⟩ := h.lt hm; exact ⟨h1, h2, cs, h3, h4.only o id⟩, h.le⟩
theorem Hy.cell {w W : World} {lo hi N b : Nat} {bs l : List Nat} {m : Nat} (h : Hy w W lo hi N b bs l m) (i : Nat) (hi' : i < m) : ∃ x : Int, W.cell? ⟨b, i, none⟩ = some (.int .u64 x) ∧ W.frozen? ⟨b, i, none⟩ = false := by
  obtain ⟨h1, h2, cs, h3, h4⟩ := h.lt (by omega)
  have hl := ofN_length cs
  obtain ⟨a, b⟩ := h4 i (.int .u64 ((ofN cs)[i])) (by rw [List.getElem?_map, List.getElem?_eq_getElem (by omega)]; rfl)
  exact ⟨_, a, b⟩
theorem Hy.zero {w W : World} {lo hi N b : Nat} {bs l : List Nat} {m : Nat} (h : Hy w W lo hi N b bs l m) (i : Nat) (hi' : i < m) : Hy w (W.setCell ⟨b, i, none⟩ (.int .u64 0)) lo hi N b bs l m := by
  obtain ⟨h1, h2, cs, h3, h4⟩ := h.lt (by omega)
  have o : Only (fun j => j = b) W (W.setCell ⟨b, i, none⟩ (.int .u64 0)) := (Only.refl (fun j => j = b) W).setCell ⟨b, i, none⟩ _ rfl
  refine ⟨h.h.only o (fun j hj _ e => by omega), fresh h.o o (fun j e => by omega), fun _ => ⟨h1, h2, cs.set i 0, by rw [List.length_set]; exact h3, ?_⟩, h.le⟩
  have := h4.set i (.int .u64 0)
  have e : ((ofN cs).map (Value.int .u64)).set i (.int .u64 0) = (ofN (cs.set i 0)).map (Value.int .u64) := by
    unfold ofN
    rw [List.map_set, List.map_set]; rfl
  rw [← e]
  exact this
theorem C_one (W W' : World) (x : Nat) (o : Only (fun _ => False) (W.alloc (.cells #[.int .u64 (x : Int)] 24)) W') : Kd.C (Kd.int .u64) W' (some ⟨W.heap.size, 0, none⟩) 1 (ofN [x]) :=
  Kd.C_below (C_nums (l := [x]) (Row.new W [.int .u64 (x : Int)] 24) (by show 1 ≤ 1000; omega)) (below_of o)
theorem Hy.put {w W : World} {lo hi N b : Nat} {bs l : List Nat} {m : Nat} (h : Hy w W lo hi N b bs l m) (x : Nat) (hl : l.length < 1000) : Calls Try.prog 32 #[.pointer (some ⟨N, 0, none⟩), .int .u64 (x : Int)] W fun r w' => r = .returned (.int .i64 0) ∧ Hy w w' lo hi N b bs (l ++ [x]) m := by
  refine (put_h h.h x hl).mono ?_
  rintro r w' ⟨rfl, hh, ho⟩
  have := h.le
  exact ⟨rfl, hh, fresh h.o ho (fun j e => by omega), fun hm => by obtain ⟨h1, h2, cs, h3, h4⟩ := h.lt hm; exact ⟨h1, h2, cs, h3, h4.only ho (fun e => by omega)⟩, h.le⟩
theorem head_of {W : World} {base q : Nat} {A : Option Addr} {bs l : List Nat} (hR : Kd.R k26 26 W base (fun _ => True) (.slice A (bs.length + 1) q) ((bucks bs l).map toS)) :
    ∃ b, A = some ⟨b, 0, none⟩ ∧ base ≤ b ∧ (∃ y : Int, W.cell? ⟨b, 0, none⟩ = some (.int .u64 y) ∧ W.frozen? ⟨b, 0, none⟩ = false) ∧ ∃ y : Bool, W.cell? ⟨b, 1, none⟩ = some (.bool y) ∧ W.frozen? ⟨b, 1, none⟩ = false := by
  obtain ⟨A7, b7, c7, e7, hc7, h7, hrow7⟩ := Row_of_R hR
  have hl : ((bucks bs l).map toS).length = bs.length + 1 := by rw [List.length_map, bucks_length]
  obtain ⟨e8, h7a, _, _⟩ := h7 (by omega)
  have hz := zc_at ((bucks bs l).map toS) 0 (by omega)
  have h0 := hrow7 0 _ hz.1
  have h1 := hrow7 1 _ hz.2
  obtain ⟨rfl, _, _⟩ := Value.slice.inj e7
  exact ⟨b7, e8, h7a, ⟨_, h0⟩, ⟨_, h1⟩⟩
/-- The clone of the buckets, one of which is written. -/
theorem Hy.told {w W W' : World} {lo hi N b b3 : Nat} {bs l : List Nat} {m : Nat} (h : Hy w W lo hi N b bs l m) (o : Only (fun _ => False) W W') (h3 : W.heap.size ≤ b3) {x y : Value} : IsH ((W'.setCell ⟨b3, 0, none⟩ x).setCell ⟨b3, 1, none⟩ y) lo hi N bs l ∧ Only (fun _ => False) w ((W'.setCell ⟨b3, 0, none⟩ x).setCell ⟨b3, 1, none⟩ y) := by
  have ho : Only (fun j => j = b3) W' ((W'.setCell ⟨b3, 0, none⟩ x).setCell ⟨b3, 1, none⟩ y) := ((Only.refl (fun j => j = b3) W').setCell ⟨b3, 0, none⟩ _ rfl).setCell ⟨b3, 1, none⟩ _ rfl
  have h2 := h.keep o
  have ht := h.h.top
  have hs := h.o.size
  exact ⟨h2.h.only ho (fun j _ hj e => by omega), fresh h2.o ho (fun j e => by omega)⟩
set_option maxHeartbeats 16000000 in
set_option maxRecDepth 1000000 in
theorem buckets_law (w : World) (A0 : Option Addr) (n0 c0 : Nat) (bs : List Nat) (x : Nat) (hC0 : Kd.C (Kd.int .u64) w A0 n0 (ofN bs)) (hn0 : n0 = bs.length) (hc0 : n0 ≤ c0) (hx : x < 18446744073709551616) :
    Calls Try.prog 12 #[.slice A0 n0 c0, .int .u64 (x : Int)] w fun r w' => r = .returned (.bool true) ∧ Below w.heap.size w w' := by
  replace hC0 := Aside0.mk hC0
  replace hn0 := Aside0.mk hn0
  replace hc0 := Aside0.mk hc0
  replace hx := Aside0.mk (show ∀ y ∈ [x], y < 18446744073709551616 from fun y hy => by rw [List.mem_singleton.1 hy]; exact hx)
  by_cases g0 : (n0 : Int) > 60
  · go_enter Try.func12, Try.ntmps12
    go_wp2_with (go_at_call 34; refine (alive_walk _).mono ?_; rintro r w1 ⟨rfl, ho⟩)
    go_ret
    exact ⟨rfl, below_of ho⟩
  have hl0 := Aside0.mk (show n0 ≤ 1000 by omega)
  have g0A := Aside0.mk g0
  go_enter Try.func12, Try.ntmps12
  go_wp2_with (first
    | (go_at_call 34; with_reducible refine (alive_walk _).mono ?_; rintro r w0 ⟨rfl, ho0⟩; replace ho0 := Aside0.mk ho0)
    | (go_at_call 37; with_reducible refine (bucket_walk _ A0 n0 c0 bs x (Kd.C_below hC0.out (below_of ho0.out)) hn0.out hc0.out hl0.out).mono ?_; rintro r w1 ⟨rfl, ho⟩; replace ho0 := Aside0.mk (ho0.out.trans ho); clear ho)
    | (go_at_call 38; with_reducible refine (rbk_walk _ A0 n0 c0 bs x (Kd.C_below hC0.out (below_of ho0.out)) hn0.out hc0.out hl0.out).mono ?_; rintro r w2 ⟨rfl, ho⟩; replace ho0 := Aside0.mk (ho0.out.trans ho); clear ho)
    | ((with_reducible refine gate_builtin (b := .append) (xs := #[.tmp 22, .tmp 23]) rfl ?_); at_builtin; refine Kd.R_append_rows (Kd.int .u64) (w0 := w) w.heap.size rfl (.tmp 22) (.tmp 23) 22 24 (.int .u64 0) 8 rfl Try.underlying22 (by kernel_rfl) rfl (by decide) (by omega) _ [] (ofN bs) _ _ _ (fun _ => True) (fun _ => False) rfl rfl (R_nums0 w2 w.heap.size ho0.out.size) (Kd.C_below hC0.out (below_of (ho0.out.alloc _))) (fun _ _ h => h) (fun _ h => h.elim) (fun _ _ => trivial) (below_of (ho0.out.alloc _)) (ho0.out.alloc _).size (by have := g0A.out; simp; omega) ?_; intro v3 w3 hr3 hb3 _ _; rw [List.nil_append] at hr3; obtain ⟨A3, b3, c3, rfl, hc3, hb3', hrow3⟩ := Row_of_nums hr3; have hC3 := (Kd.R_reads' hr3).2.2; rw [ofN_length, ← hn0.out] at hC3; replace hC3 := Aside0.mk hC3; rw [← hn0.out]; rw [← hn0.out] at hc3 hb3'; have G := Aside0.mk (And.intro (Only.of_below hb3 (fun k hk _ => hk) : Only (fun _ => False) w w3) (And.intro hb3' hrow3)); replace hc3 := Aside0.mk hc3; clear hr3 hb3 hb3' hrow3))
  by_cases hok : okB bs
  · replace hok := Aside0.mk hok
    go_wp2_with (go_at_call 31; with_reducible refine (new_h (bs := bs) A3 n0 c3 hC3.out hn0.out hc3.out hok.out).mono ?_; rintro r w4 ⟨N, rfl, H, ho⟩; have HY := Aside0.mk (show Hy w w4 _ _ N b3 bs [] n0 from ⟨H, G.out.1.trans ho, fun hm => ⟨(G.out.2.1 hm).2.1, (G.out.2.1 hm).2.2, bs, hn0.out.symm, G.out.2.2.only ho id⟩, G.out.1.size⟩); clear H ho)
    have hA := Aside0.mk (fun h => (G.out.2.1 h).1)
    clear G hC3
    go_loopg [8] (n0 + 1) (fun kq v8 wr => ∃ i : Nat, v8 = .int .i64 (i : Int) ∧ i ≤ n0 ∧ n0 - i < kq ∧ Aside0 (Hy w wr _ _ N b3 bs [] n0))
    case atStart => exact ⟨0, rfl, by omega, by omega, HY⟩
    case round =>
      clear HY
      obtain ⟨i, rfl, hi, hk, HY⟩ := hrel
      obtain ⟨k1, rfl⟩ : ∃ m, gk = m + 1 := ⟨gk - 1, by omega⟩
      by_cases hin : i < n0
      · have hinI : (i : Int) < (n0 : Int) := by omega
        have hi0 : (0 : Int) ≤ (i : Int) := by omega
        obtain rfl := hA.out (by omega)
        obtain ⟨y, hy, hyf⟩ := HY.out.cell i hin
        go_wp2
        go_roundg k1
        case measure => omega
        case rel => exact ⟨i + 1, by first | rfl | simp, by omega, by omega, ⟨HY.out.zero i hin⟩⟩
      · have hinI : ¬ (i : Int) < (n0 : Int) := by omega
        clear hA
        go_wp2_with (first
          | (go_at_call 32; with_reducible refine (HY.out.put x (by decide)).mono ?_; rintro r w5 ⟨rfl, H⟩; rw [List.nil_append] at H; have HZ := Aside0.mk H; clear H HY)
          | (go_at_call 33; with_reducible refine (buckets_h HZ.out.h).mono ?_; rintro r w6 ⟨A6, q6, rfl, hR, ho⟩; obtain ⟨b7, rfl, h7a, ⟨y0, r0, r0f⟩, y1, r1, r1f⟩ := head_of hR; rw [← hn0.out]; have HT := Aside0.mk (HZ.out.told ho h7a (x := .int .u64 77) (y := .bool false)); clear hR ho))
        go_wp2_with (go_at_call 39; with_reducible refine (shows_walk _ _ _ N A0 (some ⟨w6.heap.size, 0, none⟩) n0 c0 1 1 bs [x] (HT.out.1.keep ((Only.refl _ _).alloc _)) (Kd.C_below hC0.out (below_of (HT.out.2.alloc _))) hn0.out hc0.out (C_one2 _ _ x _ (by simp [World.setCell]) (Only.refl _ _)) rfl (Nat.le_refl _) hx.out).mono ?_; rintro r w9 ⟨rfl, ho⟩)
        go_ret
        exact ⟨rfl, below_of ((HT.out.2.alloc _).trans ho)⟩
  · replace hok := Aside0.mk hok
    go_wp2_with (go_at_call 31; with_reducible refine (new_bad (bs := bs) A3 n0 c3 hC3.out hn0.out hc3.out hl0.out hok.out).mono ?_; rintro r w4 ⟨rfl, ho⟩)
    go_ret
    exact ⟨by first | rfl | simp, below_of (G.out.1.trans ho)⟩
end Go.Proofs.Ytdcbhakclhbdpaa.Hi
