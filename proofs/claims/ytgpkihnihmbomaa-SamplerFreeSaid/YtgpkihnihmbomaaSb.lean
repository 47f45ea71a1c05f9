/- Spans in lists, what Far says, a trace's window: in plain words. No conditions but bounds. -/
import Derived.Test.YtgpkihnihmbomaaXSsx1
import Derived.Test.YtgpkihnihmbomaaXSsx2
import Derived.Test.YtgpkihnihmbomaaXSsx3
namespace Go.Proofs.Ytgpkihnihmbomaa.Sb
open Go.RowKit Go.Proofs.YtgpkihnihmbomaaW.PrintWords Go.Proofs.YtgpkihnihmbomaaW.PrintLast Go.Proofs.YtgpkihnihmbomaaW.PrintMore Go.Proofs.Ytgpkihnihmbomaa.XSs
set_option linter.unusedSimpArgs false
set_option linter.unusedVariables false
theorem rd99 (l : List S99) (i : Nat) (h : i < l.length) : rd_T99 l (i : Int) = l[i] := by
  unfold rd_T99
  rw [Int.toNat_natCast, List.getD_eq_getElem?_getD, List.getElem?_eq_getElem h]; rfl
theorem rd70 (l : List S70) (i : Nat) (h : i < l.length) : rd_T70 l (i : Int) = l[i] := by
  unfold rd_T70
  rw [Int.toNat_natCast, List.getD_eq_getElem?_getD, List.getElem?_eq_getElem h]; rfl
theorem rd120 (l : List S120) (i : Nat) (h : i < l.length) : rd_T120 l (i : Int) = l[i] := by
  unfold rd_T120
  rw [Int.toNat_natCast, List.getD_eq_getElem?_getD, List.getElem?_eq_getElem h]; rfl
theorem rdL11 (l : List (List S99)) (i : Nat) (h : i < l.length) : rd_L11 l (i : Int) = l[i] := by
  unfold rd_L11
  rw [Int.toNat_natCast, List.getD_eq_getElem?_getD, List.getElem?_eq_getElem h]; rfl
def oa (x : S120) : S126 := ⟨x.f0, ⟨x.f1.f0, x.f1.f1, x.f1.f2⟩⟩
def ofS (s : S99) : S70 := ⟨s.f0, s.f1, s.f2, s.f3, s.f4, s.f5, s.f6, s.f7, s.f8, s.f9.map oa⟩
theorem of_loop (x0 x1 x2 : Int) (x3 x4 : ByteArray) (x5 x6 x7 x8 : Int) (l : List S120) (hl : l.length ≤ 1000) : ∀ (d i k : Nat), i + d = l.length → d < k →
    tallyroomlaw06_Of.l0 k (i : Int) x0 x1 x2 x3 x4 x5 x6 x7 x8 l x0 x1 x2 x3 x4 x5 x6 x7 x8 ((l.take i).map oa) = some (x0, x1, x2, x3, x4, x5, x6, x7, x8, l.map oa) := by
  intro d
  induction d with
  | zero =>
    intro i k hi hk
    obtain ⟨k, rfl⟩ : ∃ m, k = m + 1 := ⟨k - 1, by omega⟩
    rw [tallyroomlaw06_Of.l0, if_neg (by omega), List.take_of_length_le (by omega)]
  | succ d ih =>
    intro i k hi hk
    obtain ⟨k, rfl⟩ : ∃ m, k = m + 1 := ⟨k - 1, by omega⟩
    have hlt : i < l.length := by omega
    rw [tallyroomlaw06_Of.l0, if_pos (by omega), if_pos (by omega), if_pos (by rw [List.length_map, List.length_take]; omega), rd120 l i hlt, IntWalk.wrap64_in _ (by omega), show (i : Int) + 1 = ((i + 1 : Nat) : Int) by omega]
    have := ih (i + 1) k (by omega) (by omega)
    rw [List.take_succ_eq_append_getElem hlt, List.map_append] at this
    exact this
theorem of_f (k : Nat) (hk : 1000 < k) (x0 x1 x2 : Int) (x3 x4 : ByteArray) (x5 x6 x7 x8 : Int) (l : List S120) (hl : l.length ≤ 40) : tallyroomlaw06_Of.f k x0 x1 x2 x3 x4 x5 x6 x7 x8 l = some (x0, x1, x2, x3, x4, x5, x6, x7, x8, l.map oa) :=
  of_loop x0 x1 x2 x3 x4 x5 x6 x7 x8 l (by omega) l.length 0 k (by omega) (by omega)
/-- Spans that are looked at. -/
def Near (l : List S99) : Prop := l.length ≤ 20 ∧ ∀ s ∈ l, s.f9.length ≤ 40
theorem ofs_loop (l : List S99) (hl : Near l) : ∀ (d i k : Nat), i + d = l.length → d + 1001 < k →
    tallyroomlaw06_Ofs.l0 k l ((l.take i).map ofS) (i : Int) = some (l.map ofS) := by
  obtain ⟨hl, hs⟩ := hl
  intro d
  induction d with
  | zero =>
    intro i k hi hk
    obtain ⟨k, rfl⟩ : ∃ m, k = m + 1 := ⟨k - 1, by omega⟩
    rw [tallyroomlaw06_Ofs.l0, if_neg (by omega), List.take_of_length_le (by omega)]
  | succ d ih =>
    intro i k hi hk
    obtain ⟨k, rfl⟩ : ∃ m, k = m + 1 := ⟨k - 1, by omega⟩
    have hlt : i < l.length := by omega
    rw [tallyroomlaw06_Ofs.l0, if_pos (by omega), if_pos (by omega), rd99 l i hlt, of_f k (by omega) _ _ _ _ _ _ _ _ _ _ (hs _ (List.getElem_mem hlt)), Option.bind_some, if_pos (by rw [List.length_map, List.length_take]; omega), IntWalk.wrap64_in _ (by omega), show (i : Int) + 1 = ((i + 1 : Nat) : Int) by omega]
    have := ih (i + 1) k (by omega) (by omega)
    rw [List.take_succ_eq_append_getElem hlt, List.map_append] at this
    exact this
theorem ofs_f (l : List S99) (hl : Near l) : tallyroomlaw06_Ofs.f 2000 l = some (l.map ofS) :=
  ofs_loop l hl l.length 0 2000 (by omega) (by have := hl.1; omega)
/-! ### what Far says -/
theorem far1_loop (x0 x1 x2 : Int) (x3 x4 : ByteArray) (x5 x6 x7 x8 : Int) (l : List S120) (hl : l.length ≤ 40) : ∀ (d i k : Nat), i + d = l.length → d < k → ∃ r, tallyroomlaw06_Far.l0 k (i : Int) x0 x1 x2 x3 x4 x5 x6 x7 x8 l = some r := by
  intro d
  induction d with
  | zero =>
    intro i k hi hk
    obtain ⟨k, rfl⟩ : ∃ m, k = m + 1 := ⟨k - 1, by omega⟩
    exact ⟨false, by rw [tallyroomlaw06_Far.l0, if_neg (by omega)]⟩
  | succ d ih =>
    intro i k hi hk
    obtain ⟨k, rfl⟩ : ∃ m, k = m + 1 := ⟨k - 1, by omega⟩
    have hlt : i < l.length := by omega
    rw [tallyroomlaw06_Far.l0, if_pos (by omega), if_pos (by omega), rd120 l i hlt]
    by_cases h1 : ((l[i].f0).size : Int) > 300
    · exact ⟨true, by rw [if_pos h1]⟩
    · by_cases h2 : ((l[i].f1.f2).size : Int) > 5000
      · exact ⟨true, by rw [if_neg h1, if_pos h2]⟩
      · obtain ⟨r, e⟩ := ih (i + 1) k (by omega) (by omega)
        exact ⟨r, by rw [if_neg h1, if_neg h2, IntWalk.wrap64_in _ (by omega), show (i : Int) + 1 = ((i + 1 : Nat) : Int) by omega]; exact e⟩
theorem far1_f (k : Nat) (hk : 60 ≤ k) (x0 x1 x2 : Int) (x3 x4 : ByteArray) (x5 x6 x7 x8 : Int) (l : List S120) : ∃ r, tallyroomlaw06_Far.f k x0 x1 x2 x3 x4 x5 x6 x7 x8 l = some r ∧ (r = false → l.length ≤ 40) := by
  obtain ⟨k, rfl⟩ : ∃ m, k = m + 1 := ⟨k - 1, by omega⟩
  have hT : tallyroomlaw06_Far.j0 (k + 1) true x0 x1 x2 x3 x4 x5 x6 x7 x8 l = some true := by rw [tallyroomlaw06_Far.j0, if_pos rfl]
  unfold tallyroomlaw06_Far.f
  by_cases h1 : (x3.size : Int) > 5000
  · exact ⟨true, by rw [if_pos h1, hT], fun h => by cases h⟩
  · by_cases h2 : (x4.size : Int) > 5000
    · exact ⟨true, by rw [if_neg h1, if_pos h2, hT], fun h => by cases h⟩
    · by_cases h3 : (l.length : Int) > 40
      · exact ⟨true, by rw [if_neg h1, if_neg h2, decide_eq_true h3, hT], fun h => by cases h⟩
      · obtain ⟨r, hr⟩ := far1_loop x0 x1 x2 x3 x4 x5 x6 x7 x8 l (by omega) l.length 0 k (by omega) (by omega)
        exact ⟨r, by rw [if_neg h1, if_neg h2, decide_eq_false h3, tallyroomlaw06_Far.j0, if_neg (by simp)]; exact hr, fun _ => by omega⟩
theorem far_l1 (l : List (List S99)) (i K : Nat) (hi : i < l.length) (hx : (l[i]).length ≤ 20) (hK : 60 ≤ K) (hL : l.length ≤ 20)
    (R : ∀ k, K ≤ k → ∃ r, tallyroomlaw24_far.l0 k l ((i + 1 : Nat) : Int) = some r ∧ (r = false → ∀ j, i + 1 ≤ j → ∀ h : j < l.length, Near l[j])) : ∀ (d j k : Nat), j + d = (l[i]).length → K + d < k →
    ∃ r, tallyroomlaw24_far.l1 k l (i : Int) (j : Int) = some r ∧ (r = false → (∀ q, j ≤ q → ∀ h : q < (l[i]).length, ((l[i])[q]).f9.length ≤ 40) ∧ ∀ j, i + 1 ≤ j → ∀ h : j < l.length, Near l[j]) := by
  intro d
  induction d with
  | zero =>
    intro j k hj hk
    obtain ⟨k, rfl⟩ : ∃ m, k = m + 1 := ⟨k - 1, by omega⟩
    obtain ⟨r, e, hr⟩ := R k (by omega)
    refine ⟨r, ?_, fun h => ⟨fun q h1 h2 => absurd h2 (by omega), hr h⟩⟩
    rw [tallyroomlaw24_far.l1, if_pos (by omega), if_pos (by omega), rdL11 l i hi, if_neg (by omega), IntWalk.wrap64_in _ (by omega)]
    exact e
  | succ d ih =>
    intro j k hj hk
    obtain ⟨k, rfl⟩ : ∃ m, k = m + 1 := ⟨k - 1, by omega⟩
    have hlt : j < (l[i]).length := by omega
    obtain ⟨q, hq, hq2⟩ := far1_f k (by omega) ((l[i])[j]).f0 ((l[i])[j]).f1 ((l[i])[j]).f2 ((l[i])[j]).f3 ((l[i])[j]).f4 ((l[i])[j]).f5 ((l[i])[j]).f6 ((l[i])[j]).f7 ((l[i])[j]).f8 ((l[i])[j]).f9
    rw [tallyroomlaw24_far.l1, if_pos (by omega), if_pos (by omega), rdL11 l i hi, if_pos (by omega), if_pos (by omega), rd99 _ j hlt, hq, Option.bind_some]
    cases q with
    | true => exact ⟨true, by rw [if_pos rfl], fun h => by cases h⟩
    | false =>
      obtain ⟨r, e, hr⟩ := ih (j + 1) k (by omega) (by omega)
      refine ⟨r, by rw [if_neg (by simp), IntWalk.wrap64_in _ (by omega)]; exact e, fun h => ⟨fun p h1 h2 => ?_, (hr h).2⟩⟩
      by_cases e : p = j
      · subst e; exact hq2 rfl
      · exact (hr h).1 p (by omega) h2
theorem far_l0 (l : List (List S99)) (hL : l.length ≤ 20) : ∀ (d i k : Nat), i + d = l.length → 61 + 22 * d < k →
    ∃ r, tallyroomlaw24_far.l0 k l (i : Int) = some r ∧ (r = false → ∀ j, i ≤ j → ∀ h : j < l.length, Near l[j]) := by
  intro d
  induction d with
  | zero =>
    intro i k hi hk
    obtain ⟨k, rfl⟩ : ∃ m, k = m + 1 := ⟨k - 1, by omega⟩
    exact ⟨false, by rw [tallyroomlaw24_far.l0, if_neg (by omega)], fun _ j h1 h2 => absurd h2 (by omega)⟩
  | succ d ih =>
    intro i k hi hk
    obtain ⟨k, rfl⟩ : ∃ m, k = m + 1 := ⟨k - 1, by omega⟩
    have hlt : i < l.length := by omega
    rw [tallyroomlaw24_far.l0, if_pos (by omega), if_pos (by omega), rdL11 l i hlt]
    by_cases h1 : ((l[i]).length : Int) > 20
    · exact ⟨true, by rw [if_pos h1], fun h => by cases h⟩
    · obtain ⟨r, e, hr⟩ := far_l1 l i (62 + 22 * d) hlt (by omega) (by omega) hL (fun k hk => ih (i + 1) k (by omega) (by omega)) (l[i]).length 0 k (by omega) (by omega)
      refine ⟨r, by rw [if_neg h1]; exact e, fun h j hj hjl => ?_⟩
      by_cases e : j = i
      · subst e
        refine ⟨by omega, fun s hs => ?_⟩
        obtain ⟨q, hq, rfl⟩ := List.getElem_of_mem hs
        exact (hr h).1 q (by omega) hq
      · exact (hr h).2 j (by omega) hjl
theorem far_f (l : List (List S99)) : ∃ r, tallyroomlaw24_far.f 1000 l = some r ∧ (r = false → l.length ≤ 20 ∧ ∀ x ∈ l, Near x) := by
  unfold tallyroomlaw24_far.f
  by_cases h : (l.length : Int) > 20
  · exact ⟨true, by rw [if_pos h], fun h => by cases h⟩
  · obtain ⟨r, e, hr⟩ := far_l0 l (by omega) l.length 0 1000 (by omega) (by omega)
    refine ⟨r, by rw [if_neg h]; exact e, fun h2 => ⟨by omega, fun x hx => ?_⟩⟩
    obtain ⟨q, hq, rfl⟩ := List.getElem_of_mem hx
    exact hr h2 q (by omega) hq
/-! ### a trace's window -/
/-- The last end. -/
def last (l : List S70) : Int := l.foldl (fun m s => mx m s.f8) 0
theorem mx_of (a b : Int) : mx a b = max a b := by unfold mx; rw [Int.max_def]; split <;> split <;> omega
theorem fold_mx (l : List S70) (a : Int) : l.foldl (fun m s => mx m s.f8) a = max a (l.foldl (fun m s => mx m s.f8) 0) ∨ a < 0 := by
  by_cases h : a < 0
  · exact .inr h
  refine .inl ?_
  have : ∀ (l : List S70) (a b : Int), l.foldl (fun m s => mx m s.f8) (max a b) = max a (l.foldl (fun m s => mx m s.f8) b) := by
    intro l
    induction l with
    | nil => intro a b; rfl
    | cons s r ih => intro a b; rw [List.foldl_cons, List.foldl_cons, mx_of, mx_of, Int.max_assoc, ih]
  have h2 := this l a 0
  rwa [Int.max_eq_left (by omega)] at h2
theorem last_nonneg (l : List S70) : 0 ≤ last l := by
  unfold last
  have : ∀ (l : List S70) (a : Int), 0 ≤ a → 0 ≤ l.foldl (fun m s => mx m s.f8) a := by
    intro l
    induction l with
    | nil => intro a h; exact h
    | cons s r ih => intro a h; rw [List.foldl_cons]; refine ih _ ?_; rw [mx_of]; omega
  exact this l 0 (Int.le_refl 0)
theorem last_lt (l : List S70) (h : ∀ s ∈ l, s.f8 < 18446744073709551616) : last l < 18446744073709551616 := by
  unfold last
  have : ∀ (l : List S70) (a : Int), (∀ s ∈ l, s.f8 < 18446744073709551616) → a < 18446744073709551616 → l.foldl (fun m s => mx m s.f8) a < 18446744073709551616 := by
    intro l
    induction l with
    | nil => intro a _ h; exact h
    | cons s r ih =>
      intro a hs h
      rw [List.foldl_cons]
      refine ih _ (fun x hx => hs x (List.mem_cons_of_mem _ hx)) ?_
      rw [mx_of]
      have := hs s (List.mem_cons_self ..)
      omega
  exact this l 0 h (by omega)
theorem last_cons (s : S70) (l : List S70) (h : 0 ≤ s.f8) : last (s :: l) = max s.f8 (last l) := by
  unfold last
  rw [List.foldl_cons, mx_of, Int.max_eq_right h]
  rcases fold_mx l s.f8 with e | e
  · exact e
  · omega
theorem last_snoc (s : S70) (l : List S70) : last (l ++ [s]) = max (last l) s.f8 := by
  unfold last
  rw [List.foldl_append, List.foldl_cons, List.foldl_nil, mx_of]
/-- The window: of spans, for a width from 1 on. -/
def win (l : List S70) (n : Int) : Int := last l / n
theorem wrap_u (x : Int) (h0 : 0 ≤ x) (h1 : x < 18446744073709551616) : IntKind.u64.wrap x = x := by
  simp only [IntKind.wrap, IntKind.signed, IntKind.bits]
  simp; omega
theorem win_range (l : List S70) (n : Int) (hn : 0 < n) (h : ∀ s ∈ l, s.f8 < 18446744073709551616) : 0 ≤ win l n ∧ win l n < 18446744073709551616 := by
  have h0 := last_nonneg l
  have h1 := last_lt l h
  refine ⟨Int.ediv_nonneg h0 (by omega), ?_⟩
  exact Int.lt_of_le_of_lt (Int.ediv_le_self _ h0) h1
theorem winof_f (x n : Int) (hn : 0 < n) (h0 : 0 ≤ x) (h1 : x < 18446744073709551616) : window_Of.f x n = some (x / n) := by
  unfold window_Of.f
  rw [if_neg (by omega), Int.tdiv_eq_ediv_of_nonneg h0, wrap_u _ (Int.ediv_nonneg h0 (by omega)) (Int.lt_of_le_of_lt (Int.ediv_le_self _ h0) h1)]
theorem win_loop (l : List S70) (n : Int) (hn : 0 < n) (hl : l.length ≤ 1000) (h : ∀ s ∈ l, s.f8 < 18446744073709551616) : ∀ (d i k : Nat), i + d = l.length → d < k →
    sampler_Window.l0 k n (last (l.take i)) l (l.length : Int) (i : Int) = some (win l n) := by
  intro d
  induction d with
  | zero =>
    intro i k hi hk
    obtain ⟨k, rfl⟩ : ∃ m, k = m + 1 := ⟨k - 1, by omega⟩
    rw [sampler_Window.l0, if_neg (by omega), List.take_of_length_le (by omega), winof_f _ n hn (last_nonneg l) (last_lt l h)]
    rfl
  | succ d ih =>
    intro i k hi hk
    obtain ⟨k, rfl⟩ : ∃ m, k = m + 1 := ⟨k - 1, by omega⟩
    have hlt : i < l.length := by omega
    rw [sampler_Window.l0, if_pos (by omega), if_pos (by omega), if_pos (by omega), rd70 l i hlt, mx_of, ← last_snoc, IntWalk.wrap64_in _ (by omega), show (i : Int) + 1 = ((i + 1 : Nat) : Int) by omega]
    have := ih (i + 1) k (by omega) (by omega)
    rw [List.take_succ_eq_append_getElem hlt] at this
    exact this
theorem win_f (l : List S70) (n : Int) (hn : 0 < n) (hl : l.length ≤ 1000) (h : ∀ s ∈ l, s.f8 < 18446744073709551616) : sampler_Window.f 2000 l n = some (win l n) :=
  win_loop l n hn hl h l.length 0 2000 (by omega) (by omega)
end Go.Proofs.Ytgpkihnihmbomaa.Sb
