/- What the document's clock (ref13) tells is what a clock tells behind the same acts: in plain words. No conditions but bounds. -/
import Derived.Test.YtgpkihnihmbomaaWm
import Derived.Test.YtgpkihnihmbomaaXWpx12
namespace Go.Proofs.Ytgpkihnihmbomaa.Wm
open Go.RowKit Go.Proofs.YtgpkihnihmbomaaW.PrintWords Go.Proofs.YtgpkihnihmbomaaW.PrintLast
open Go.Proofs.Ytgpkihnihmbomaa.Ob Go.Proofs.Ytgpkihnihmbomaa.XWp

theorem rd80 (l : List S80) (i : Nat) (h : i < l.length) : rd_T80 l (i : Int) = l[i] := by
  unfold rd_T80
  rw [Int.toNat_natCast, List.getD_eq_getElem?_getD, List.getElem?_eq_getElem h]
  rfl
def qstep (s q : Int) (a : S80) : Int := if a.f0 < 0 then q + 1 else if a.f0 = s then 0 else q
def estep (s e : Int) (a : S80) : Int := if a.f0 = s then (if a.f1 > e then a.f1 else e) else e
theorem idle_eq (l : List S80) (s d : Int) (hl : l.length < 1000000) : ∀ m k i (q : Int), i ≤ l.length → l.length - i = m → m < k → 0 ≤ q → q + m < 1000000 →
    tallyroomref13_Idle.l0 k l s d q (i : Int) = some (decide (0 < d) && decide (d ≤ (l.drop i).foldl (qstep s) q)) := by
  intro m
  induction m with
  | zero =>
    intro k i q hi hm hk hq hb
    obtain ⟨k, rfl⟩ : ∃ j, k = j + 1 := ⟨k - 1, by omega⟩
    have hi' : i = l.length := by omega
    subst hi'
    rw [tallyroomref13_Idle.l0, if_neg (by omega), List.drop_length]
    by_cases hd : d > 0
    · rw [if_pos hd, decide_eq_true (show 0 < d from hd)]; rfl
    · rw [if_neg hd, decide_eq_false (show ¬ 0 < d from hd)]; rfl
  | succ m ih =>
    intro k i q hi hm hk hq hb
    obtain ⟨k, rfl⟩ : ∃ j, k = j + 1 := ⟨k - 1, by omega⟩
    have hil : i < l.length := by omega
    rw [tallyroomref13_Idle.l0, if_pos (by omega), if_pos (by omega), rd80 l i hil, List.drop_eq_getElem_cons hil, List.foldl_cons]
    have hw : wrap64 ((i : Int) + 1) = ((i + 1 : Nat) : Int) := by rw [IntWalk.wrap64_in _ (by omega)]; rfl
    rw [hw]
    by_cases h1 : (l[i]).f0 < 0
    · rw [if_pos h1, IntWalk.u64_in _ (by omega), ih k (i + 1) (q + 1) (by omega) (by omega) (by omega) (by omega) (by omega)]
      simp only [qstep, if_pos h1]
    · rw [if_neg h1]
      by_cases h2 : (l[i]).f0 = s
      · rw [if_pos h2, ih k (i + 1) 0 (by omega) (by omega) (by omega) (by omega) (by omega)]
        simp only [qstep, if_neg h1, if_pos h2]
      · rw [if_neg h2, ih k (i + 1) q (by omega) (by omega) (by omega) (by omega) (by omega)]
        simp only [qstep, if_neg h1, if_neg h2]
theorem mark_eq (l : List S80) (s d : Int) (hl : l.length < 1000000) (hd : 0 ≤ d) (hf : ∀ a ∈ l, 0 ≤ a.f1 ∧ a.f1 < 18446744073709551616) : ∀ m k i (q : Int), i ≤ l.length → l.length - i = m → m < k → 0 ≤ q → q < 18446744073709551616 →
    tallyroomref13_Mark.l0 k l s d q (i : Int) = some (if (l.drop i).foldl (estep s) q < d then 0 else (l.drop i).foldl (estep s) q - d) := by
  intro m
  induction m with
  | zero =>
    intro k i q hi hm hk hq hb
    obtain ⟨k, rfl⟩ : ∃ j, k = j + 1 := ⟨k - 1, by omega⟩
    have hi' : i = l.length := by omega
    subst hi'
    rw [tallyroomref13_Mark.l0, if_neg (by omega), List.drop_length]
    show _ = some (if q < d then 0 else q - d)
    by_cases hd : q < d
    · rw [if_pos hd, if_pos hd]
    · rw [if_neg hd, if_neg hd, IntWalk.u64_in _ (by omega)]
  | succ m ih =>
    intro k i q hi hm hk hq hb
    obtain ⟨k, rfl⟩ : ∃ j, k = j + 1 := ⟨k - 1, by omega⟩
    have hil : i < l.length := by omega
    rw [tallyroomref13_Mark.l0, if_pos (by omega), if_pos (by omega), rd80 l i hil, List.drop_eq_getElem_cons hil, List.foldl_cons]
    have hw : wrap64 ((i : Int) + 1) = ((i + 1 : Nat) : Int) := by rw [IntWalk.wrap64_in _ (by omega)]; rfl
    rw [hw]
    have hm1 := hf _ (List.getElem_mem hil)
    by_cases h1 : (l[i]).f0 = s
    · rw [if_pos h1]
      by_cases h2 : (l[i]).f1 > q
      · rw [if_pos h2, ih k (i + 1) _ (by omega) (by omega) (by omega) hm1.1 hm1.2]
        simp only [estep, if_pos h1, if_pos h2]
      · rw [if_neg h2, ih k (i + 1) q (by omega) (by omega) (by omega) (by omega) (by omega)]
        simp only [estep, if_pos h1, if_neg h2]
    · rw [if_neg h1, ih k (i + 1) q (by omega) (by omega) (by omega) (by omega) (by omega)]
      simp only [estep, if_neg h1]

/-- An act, as it is put down. -/
def GoodA (n : Nat) (a : S80) : Prop := (a.f0 = -1 ∧ 0 ≤ a.f1 ∧ a.f1 < 18446744073709551616) ∨ (0 ≤ a.f0 ∧ a.f0 < (n : Int) ∧ 0 ≤ a.f1 ∧ a.f1 ≤ 4611686018427387904)
def pre (g : Ck) (a : S80) : Ck := if a.f0 < 0 then ticked g else saw g a.f0.toNat a.f1.toNat
def act (g : Ck) (a : S80) : Ck := Wm.move (pre g a)
def runs (n late idle : Nat) (l : List S80) : Ck := l.foldl act ⟨List.replicate n (0, 0), late, idle, 0, 0⟩
theorem runs_snoc (n late idle : Nat) (l : List S80) (a : S80) : runs n late idle (l ++ [a]) = act (runs n late idle l) a := by simp [runs, List.foldl_append]
theorem move_same (g : Ck) : (Wm.move g).l = g.l ∧ (Wm.move g).late = g.late ∧ (Wm.move g).idle = g.idle ∧ (Wm.move g).now = g.now := by
  unfold Wm.move; split <;> exact ⟨rfl, rfl, rfl, rfl⟩
theorem least_move (g : Ck) : least (Wm.move g) = least g := by
  obtain ⟨h1, h2, h3, h4⟩ := move_same g
  unfold least; rw [h1, h2, h3, h4]
/-- What a clock knows of each source is what the acts say. -/
structure Knows (n late idle : Nat) (l : List S80) (g : Ck) : Prop where
  len : g.l.length = n
  late : g.late = late
  idle : g.idle = idle
  now : g.now ≤ l.length
  said : ∀ s, s < n → (g.l.getD s (0, 0)).2 ≤ g.now ∧ l.foldl (qstep (s : Int)) 0 = ((g.now - (g.l.getD s (0, 0)).2 : Nat) : Int)
  ends : ∀ s, s < n → l.foldl (estep (s : Int)) 0 = ((g.l.getD s (0, 0)).1 : Int)
theorem knows_start (n late idle : Nat) : Knows n late idle [] ⟨List.replicate n (0, 0), late, idle, 0, 0⟩ := by
  refine ⟨by simp, rfl, rfl, by simp, fun s hs => ?_, fun s hs => ?_⟩
  · simp [List.getD_eq_getElem?_getD, hs]
  · simp [List.getD_eq_getElem?_getD, hs]
theorem Knows.same {n late idle : Nat} {l : List S80} {g : Ck} (h : Knows n late idle l g) : Knows n late idle l (Wm.move g) := by
  obtain ⟨h1, h2, h3, h4⟩ := move_same g
  exact ⟨by rw [h1]; exact h.len, by rw [h2]; exact h.late, by rw [h3]; exact h.idle, by rw [h4]; exact h.now, by rw [h1, h4]; exact h.said, by rw [h1]; exact h.ends⟩
theorem Knows.pre {n late idle : Nat} {l : List S80} {g : Ck} (h : Knows n late idle l g) {a : S80} (ha : GoodA n a) : Knows n late idle (l ++ [a]) (pre g a) := by
  rcases ha with ⟨h0, _, _⟩ | ⟨h0, h1, h2, h3⟩
  · have e : Wm.pre g a = ticked g := by unfold Wm.pre; rw [if_pos (by omega)]
    rw [e]
    refine ⟨h.len, h.late, h.idle, by have := h.now; simp [ticked]; omega, fun s hs => ?_, fun s hs => ?_⟩
    · have := h.said s hs
      refine ⟨by simp only [ticked]; omega, ?_⟩
      rw [List.foldl_append, List.foldl_cons, List.foldl_nil, this.2, qstep, if_pos (by omega)]
      simp only [ticked]; omega
    · have := h.ends s hs
      rw [List.foldl_append, List.foldl_cons, List.foldl_nil, this, estep, if_neg (by omega)]
      rfl
  · obtain ⟨t, ht⟩ : ∃ t : Nat, a.f0 = (t : Int) := ⟨a.f0.toNat, by omega⟩
    obtain ⟨e, he⟩ : ∃ e : Nat, a.f1 = (e : Int) := ⟨a.f1.toNat, by omega⟩
    have e1 : Wm.pre g a = saw g t e := by unfold Wm.pre; rw [if_neg (by omega), ht, he]; rfl
    rw [e1]
    have htn : t < n := by omega
    have hset : ∀ s, s < n → (saw g t e).l.getD s (0, 0) = if t = s then (max (g.l.getD t (0, 0)).1 e, g.now) else g.l.getD s (0, 0) := fun s hs => by
      simp only [saw, List.getD_eq_getElem?_getD, List.getElem?_set]
      split
      · rename_i h1; subst h1; rw [if_pos (by rw [h.len]; exact htn)]; rfl
      · rfl
    refine ⟨by simp [saw, h.len], h.late, h.idle, by have := h.now; simp only [saw, List.length_append]; omega, fun s hs => ?_, fun s hs => ?_⟩
    · rw [hset s hs]
      have := h.said s hs
      rw [List.foldl_append, List.foldl_cons, List.foldl_nil, this.2, qstep, if_neg (show ¬ a.f0 < 0 by omega)]
      by_cases hts : t = s
      · rw [if_pos hts, if_pos (by omega)]
        simp [saw]
      · rw [if_neg hts, if_neg (by omega)]
        exact ⟨this.1, rfl⟩
    · rw [hset s hs]
      have := h.ends s hs
      rw [List.foldl_append, List.foldl_cons, List.foldl_nil, this, estep]
      by_cases hts : t = s
      · subst hts
        rw [if_pos rfl, if_pos (by omega)]
        simp only
        split <;> omega
      · rw [if_neg hts, if_neg (by omega)]
theorem knows_runs (n late idle : Nat) (l : List S80) (hl : ∀ a ∈ l, GoodA n a) : Knows n late idle l (runs n late idle l) := by
  generalize hm : l.length = m
  induction m generalizing l with
  | zero => rw [List.eq_nil_of_length_eq_zero hm]; exact knows_start n late idle
  | succ m ih =>
    rcases List.eq_nil_or_concat l with rfl | ⟨r, a, rfl⟩
    · cases hm
    · rw [List.concat_eq_append] at hl hm ⊢
      rw [runs_snoc]
      exact ((ih r (fun x hx => hl x (List.mem_append_left _ hx)) (by simpa using hm)).pre (hl a (by simp))).same
theorem good_f1 {n : Nat} {a : S80} (h : GoodA n a) : 0 ≤ a.f1 ∧ a.f1 < 18446744073709551616 := by
  rcases h with h | h
  · exact ⟨h.2.1, h.2.2⟩
  · exact ⟨h.2.2.1, by omega⟩
theorem idle_f {n late idle : Nat} {l : List S80} {g : Ck} (h : Knows n late idle l g) (hl : l.length < 1000000) (s : Nat) (hs : s < n) (k : Nat) (hk : l.length < k) :
    tallyroomref13_Idle.f k l (s : Int) (idle : Int) = some (rests g.idle g.now (g.l.getD s (0, 0)).2) := by
  have := idle_eq l s idle hl l.length k 0 0 (Nat.zero_le _) rfl hk (Int.le_refl _) (by omega)
  unfold tallyroomref13_Idle.f
  refine this.trans ?_
  have h2 := (h.said s hs).2
  rw [List.drop_zero, h2, h.idle, rests]
  congr 1
  congr 1
  · exact decide_eq_decide.mpr (by omega)
  · exact decide_eq_decide.mpr (by omega)
theorem mark_f {n late idle : Nat} {l : List S80} {g : Ck} (h : Knows n late idle l g) (hg : ∀ a ∈ l, GoodA n a) (hl : l.length < 1000000) (s : Nat) (hs : s < n) (k : Nat) (hk : l.length < k) :
    tallyroomref13_Mark.f k l (s : Int) (late : Int) = some (((g.l.getD s (0, 0)).1 - min (g.l.getD s (0, 0)).1 late : Nat) : Int) := by
  have := mark_eq l s late hl (by omega) (fun a ha => good_f1 (hg a ha)) l.length k 0 0 (Nat.zero_le _) rfl hk (Int.le_refl _) (by omega)
  unfold tallyroomref13_Mark.f
  refine this.trans ?_
  rw [List.drop_zero, h.ends s hs]
  congr 1
  split <;> omega
theorem least_eq {n late idle : Nat} {l : List S80} {g : Ck} (h : Knows n late idle l g) (hg : ∀ a ∈ l, GoodA n a) (hl : l.length < 1000000) (hn : n < 1000000) : ∀ m k s (x : Nat) (b : Bool), s ≤ n → n - s = m → m + l.length + 1 < k →
    tallyroomref13_Least.l0 k l (n : Int) (late : Int) (idle : Int) (x : Int) b (s : Int) = some ((((g.l.drop s).foldl (step g.late g.idle g.now) (x, b)).1 : Int), ((g.l.drop s).foldl (step g.late g.idle g.now) (x, b)).2) := by
  intro m
  induction m with
  | zero =>
    intro k s x b hs hm hk
    obtain ⟨k, rfl⟩ : ∃ j, k = j + 1 := ⟨k - 1, by omega⟩
    rw [tallyroomref13_Least.l0, if_neg (by omega), List.drop_eq_nil_of_le (by rw [h.len]; omega)]
    rfl
  | succ m ih =>
    intro k s x b hs hm hk
    obtain ⟨k, rfl⟩ : ∃ j, k = j + 1 := ⟨k - 1, by omega⟩
    have hsn : s < n := by omega
    have hsl : s < g.l.length := by rw [h.len]; exact hsn
    have hw : wrap64 ((s : Int) + 1) = ((s + 1 : Nat) : Int) := by rw [IntWalk.wrap64_in _ (by omega)]; rfl
    have hgd : g.l.getD s (0, 0) = g.l[s] := by rw [List.getD_eq_getElem?_getD, List.getElem?_eq_getElem hsl]; rfl
    have i1 := idle_f h hl s hsn k (by omega)
    have m1 := mark_f h hg hl s hsn k (by omega)
    rw [hgd] at i1 m1
    rw [tallyroomref13_Least.l0, if_pos (by omega), i1, Option.bind_some, hw, List.drop_eq_getElem_cons hsl, List.foldl_cons]
    cases hr : rests g.idle g.now (g.l[s]).2 with
    | true =>
      rw [if_pos rfl, ih k (s + 1) x b (by omega) (by omega) (by omega)]
      rw [show step g.late g.idle g.now (x, b) (g.l[s]) = (x, b) by rw [step, if_pos hr]]
    | false =>
      rw [if_neg (by simp), m1, Option.bind_some]
      have hst : step g.late g.idle g.now (x, b) (g.l[s]) = if b = false ∨ (g.l[s]).1 - min (g.l[s]).1 late < x then ((g.l[s]).1 - min (g.l[s]).1 late, true) else (x, b) := by rw [step, hr, if_neg (by simp), h.late]
      rw [hst]
      cases b with
      | true =>
        rw [if_pos rfl]
        by_cases hx : (g.l[s]).1 - min (g.l[s]).1 late < x
        · rw [if_pos (by omega), if_pos (.inr hx), ih k (s + 1) _ true (by omega) (by omega) (by omega)]
        · rw [if_neg (by omega), if_neg (by simp; omega), ih k (s + 1) _ true (by omega) (by omega) (by omega)]
      | false =>
        rw [if_neg (by simp), if_pos (.inl rfl), ih k (s + 1) _ true (by omega) (by omega) (by omega)]
theorem least_f {n late idle : Nat} {l : List S80} {g : Ck} (h : Knows n late idle l g) (hg : ∀ a ∈ l, GoodA n a) (hl : l.length < 1000000) (hn : n < 1000000) (k : Nat) (hk : n + l.length + 1 < k) :
    tallyroomref13_Least.f k l (n : Int) (late : Int) (idle : Int) = some (((least g).1 : Int), (least g).2) := by
  have := least_eq h hg hl hn n k 0 0 false (Nat.zero_le _) rfl hk
  rw [List.drop_zero] at this
  exact this
theorem global_eq (n late idle : Nat) (l : List S80) (hg : ∀ a ∈ l, GoodA n a) (hl : l.length < 1000000) (hn : n < 1000000) : ∀ m k i, i ≤ l.length → l.length - i = m → m + n + l.length + 2 < k →
    tallyroomref13_Global.l0 k l (n : Int) (late : Int) (idle : Int) ((runs n late idle (l.take i)).mark : Int) ((i + 1 : Nat) : Int) = some ((runs n late idle l).mark : Int) := by
  intro m
  induction m with
  | zero =>
    intro k i hi hm hk
    obtain ⟨k, rfl⟩ : ∃ j, k = j + 1 := ⟨k - 1, by omega⟩
    rw [tallyroomref13_Global.l0, if_neg (by omega), List.take_of_length_le (by omega)]
  | succ m ih =>
    intro k i hi hm hk
    obtain ⟨k, rfl⟩ : ∃ j, k = j + 1 := ⟨k - 1, by omega⟩
    have hil : i < l.length := by omega
    have hw : wrap64 (((i + 1 : Nat) : Int) + 1) = ((i + 1 + 1 : Nat) : Int) := by rw [IntWalk.wrap64_in _ (by omega)]; rfl
    have hg2 : ∀ a ∈ l.take (i + 1), GoodA n a := fun a ha => hg a (List.mem_of_mem_take ha)
    have hkn := knows_runs n late idle (l.take (i + 1)) hg2
    have hlt : (l.take (i + 1)).length ≤ l.length := by rw [List.length_take]; omega
    have hlf := least_f hkn hg2 (by omega) hn k (by omega)
    have hrun : runs n late idle (l.take (i + 1)) = act (runs n late idle (l.take i)) (l[i]) := by rw [List.take_succ_eq_append_getElem hil, runs_snoc]
    have hmk : (pre (runs n late idle (l.take i)) (l[i])).mark = (runs n late idle (l.take i)).mark := by unfold pre; split <;> rfl
    have hle : least (runs n late idle (l.take (i + 1))) = least (pre (runs n late idle (l.take i)) (l[i])) := by rw [hrun]; exact least_move _
    have hmk2 : (runs n late idle (l.take (i + 1))).mark = if (least (runs n late idle (l.take (i + 1)))).2 then max (runs n late idle (l.take i)).mark (least (runs n late idle (l.take (i + 1)))).1 else (runs n late idle (l.take i)).mark := by
      rw [hle, ← hmk, hrun]
      unfold act Wm.move
      split <;> rfl
    have ihk := ih k (i + 1) (by omega) (by omega) (by omega)
    rw [tallyroomref13_Global.l0, if_pos (by omega), if_pos (by omega), Int.toNat_natCast, hlf, Option.bind_some, hw]
    generalize least (runs n late idle (l.take (i + 1))) = y at hmk2
    obtain ⟨y1, y2⟩ := y
    cases y2 with
    | true =>
      rw [if_pos rfl] at hmk2
      simp only [if_true]
      by_cases hy : (y1 : Int) > ((runs n late idle (l.take i)).mark : Int)
      · rw [if_pos hy, show (y1 : Int) = ((runs n late idle (l.take (i + 1))).mark : Int) by rw [hmk2]; simp only; omega]
        exact ihk
      · rw [if_neg hy, show ((runs n late idle (l.take i)).mark : Int) = ((runs n late idle (l.take (i + 1))).mark : Int) by rw [hmk2]; simp only; omega]
        exact ihk
    | false =>
      rw [if_neg (by simp)] at hmk2
      simp only [Bool.false_eq_true, if_false]
      rw [← hmk2]
      exact ihk
theorem global_f (n late idle : Nat) (l : List S80) (hg : ∀ a ∈ l, GoodA n a) (hl : l.length < 1000000) (hn : n < 1000000) (k : Nat) (hk : n + 2 * l.length + 2 < k) :
    tallyroomref13_Global.f k l (n : Int) (late : Int) (idle : Int) = some ((runs n late idle l).mark : Int) :=
  global_eq n late idle l hg hl hn l.length k 0 (Nat.zero_le _) rfl (by omega)
end Go.Proofs.Ytgpkihnihmbomaa.Wm
