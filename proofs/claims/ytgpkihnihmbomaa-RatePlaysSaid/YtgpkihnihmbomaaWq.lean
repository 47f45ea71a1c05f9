/- The least mark where nobody is idle: plain laws. No conditions. -/
import Derived.Test.YtgpkihnihmbomaaWa
namespace Go.Proofs.Ytgpkihnihmbomaa.Wm
open Go.RowKit

/-- An end less the lateness. -/
def less (late e : Nat) : Nat := e - min e late
theorem less_mono (late : Nat) {a b : Nat} (h : a ≤ b) : less late a ≤ less late b := by unfold less; omega
/-- A number that is one of some, and none of them is less. -/
def IsLo (m : Nat) (L : List Nat) : Prop := (∀ x ∈ L, m ≤ x) ∧ m ∈ L
theorem IsLo.one {m k : Nat} {L : List Nat} (h : IsLo m L) (h' : IsLo k L) : m = k := Nat.le_antisymm (h.1 k h'.2) (h'.1 m h.2)
theorem IsLo.mono {m k : Nat} {L K : List Nat} (h : IsLo m L) (h' : IsLo k K) (hl : L.length = K.length) (hp : ∀ i (h1 : i < L.length) (h2 : i < K.length), L[i] ≤ K[i]) : m ≤ k := by
  obtain ⟨i, hi, e⟩ := List.getElem_of_mem h'.2
  have h1 : i < L.length := by omega
  have := h.1 _ (List.getElem_mem h1)
  have := hp i h1 hi
  omega
theorem IsLo.less (late : Nat) {m : Nat} {L : List Nat} (h : IsLo m L) : IsLo (less late m) (L.map (less late)) :=
  ⟨fun x hx => by obtain ⟨y, hy, rfl⟩ := List.mem_map.1 hx; exact less_mono late (h.1 y hy), List.mem_map.2 ⟨m, h.2, rfl⟩⟩
theorem rests_zero (now s : Nat) : rests 0 now s = false := by unfold rests; rfl
theorem fold_lo (late now : Nat) (l : List (Nat × Nat)) : ∀ a : Nat × Bool, (a.2 = true ∨ l ≠ []) →
    (l.foldl (step late 0 now) a).2 = true ∧ IsLo (l.foldl (step late 0 now) a).1 ((if a.2 then [a.1] else []) ++ l.map fun p => less late p.1) := by
  induction l with
  | nil =>
    intro a h
    have ha : a.2 = true := h.resolve_right (fun e => e rfl)
    rw [List.foldl_nil, if_pos ha]
    exact ⟨ha, by simp [IsLo]⟩
  | cons p r ih =>
    intro a _
    rw [List.foldl_cons]
    by_cases hc : a.2 = false ∨ p.1 - min p.1 late < a.1
    · have e : step late 0 now a p = (less late p.1, true) := by unfold step; rw [rests_zero, if_neg (by simp), if_pos hc]; rfl
      rw [e]
      obtain ⟨h1, h2, h3⟩ := ih (less late p.1, true) (.inl rfl)
      rw [if_pos rfl] at h2 h3
      refine ⟨h1, fun x hx => ?_, ?_⟩
      · rcases List.mem_append.1 hx with hx | hx
        · have ha : a.2 = true := by
            cases hb : a.2 with
            | true => rfl
            | false => rw [hb] at hx; simp at hx
          rw [if_pos ha] at hx
          rw [List.mem_singleton.1 hx]
          have h4 := h2 (less late p.1) (by simp)
          have h5 : less late p.1 < a.1 := hc.resolve_left (by rw [ha]; simp)
          omega
        · exact h2 x (by rw [List.map_cons] at hx; exact hx)
      · rw [List.map_cons]; exact List.mem_append_right _ h3
    · have e : step late 0 now a p = a := by unfold step; rw [rests_zero, if_neg (by simp), if_neg hc]
      have ha : a.2 = true := by
        cases hb : a.2 with
        | true => rfl
        | false => exact absurd (.inl hb) hc
      rw [e]
      obtain ⟨h1, h2, h3⟩ := ih a (.inl ha)
      rw [if_pos ha] at h2 h3 ⊢
      refine ⟨h1, fun x hx => ?_, ?_⟩
      · rw [List.map_cons] at hx
        rcases List.mem_append.1 hx with hx | hx
        · exact h2 x (List.mem_append_left _ hx)
        · rcases List.mem_cons.1 hx with rfl | hx
          · have h4 := h2 a.1 (by simp)
            have h5 : ¬ (p.1 - min p.1 late < a.1) := fun h => hc (.inr h)
            unfold less; omega
          · exact h2 x (List.mem_append_right _ hx)
      · rcases List.mem_append.1 h3 with h | h
        · exact List.mem_append_left _ h
        · rw [List.map_cons]; exact List.mem_append_right _ (List.mem_cons_of_mem _ h)
/-- The ends that the sources said. -/
def endsOf (g : Ck) : List Nat := g.l.map (·.1)
theorem least_lo (g : Ck) (h0 : g.idle = 0) (hne : 0 < g.l.length) : (least g).2 = true ∧ IsLo (least g).1 ((endsOf g).map (less g.late)) := by
  have := fold_lo g.late g.now g.l (0, false) (.inr (List.length_pos_iff.1 hne))
  unfold least endsOf
  rw [h0, List.map_map]
  exact ⟨this.1, this.2⟩
theorem move_l (g : Ck) : (move g).l = g.l ∧ (move g).late = g.late ∧ (move g).idle = g.idle ∧ (move g).now = g.now ∧ g.mark ≤ (move g).mark := by
  unfold move
  split
  · exact ⟨rfl, rfl, rfl, rfl, by simp only; omega⟩
  · exact ⟨rfl, rfl, rfl, rfl, Nat.le_refl _⟩
/-- Where nobody is idle the mark is the least of all. -/
def Even (g : Ck) : Prop := g.idle = 0 → IsLo g.mark ((endsOf g).map (less g.late))
theorem move_even {g : Ck} {m0 : Nat} {L : List Nat} (hne : 0 < g.l.length) (h : g.idle = 0 → IsLo m0 (L.map (less g.late)) ∧ g.mark = m0) (hl : L.length = g.l.length) (hp : ∀ i (h1 : i < L.length) (h2 : i < (endsOf g).length), L[i] ≤ (endsOf g)[i]) : Even (move g) := by
  intro h0
  have hm := move_l g
  rw [hm.2.2.1] at h0
  obtain ⟨a, b⟩ := least_lo g h0 hne
  obtain ⟨c, d⟩ := h h0
  have hle : g.mark ≤ (least g).1 := by
    rw [d]
    refine c.mono b (by simp [endsOf, hl]) fun i h1 h2 => ?_
    simp only [List.getElem_map]
    exact less_mono _ (hp i (by simpa using h1) (by simpa using h2))
  have e : (move g).mark = (least g).1 := by unfold move; rw [if_pos a]; simp only; omega
  have e2 : endsOf (move g) = endsOf g := by unfold endsOf; rw [hm.1]
  rw [e, e2, hm.2.1]
  exact b
theorem tick_even {g : Ck} (hne : 0 < g.l.length) (h : Even g) : Even (tick g) :=
  move_even (g := ticked g) (m0 := g.mark) (L := endsOf g) hne (fun h0 => ⟨h h0, rfl⟩) (by simp [endsOf, ticked]) (fun i _ _ => Nat.le_refl _)
theorem endsOf_saw (g : Ck) (i e : Nat) : endsOf (saw g i e) = (endsOf g).set i (max ((endsOf g).getD i 0) e) := by
  unfold endsOf saw
  rw [List.map_set]
  congr 2
  simp only [List.getD_eq_getElem?_getD, List.getElem?_map]
  cases g.l[i]? <;> rfl
theorem see_even {g : Ck} (hne : 0 < g.l.length) (h : Even g) (i e : Nat) : Even (see g i e) := by
  refine move_even (g := saw g i e) (m0 := g.mark) (L := endsOf g) (by simpa [saw] using hne) (fun h0 => ⟨h h0, rfl⟩) (by simp [endsOf, saw]) (fun j h1 h2 => ?_)
  simp only [endsOf_saw, List.getElem_set]
  split
  · rename_i hij
    subst hij
    rw [List.getD_eq_getElem?_getD, List.getElem?_eq_getElem h1]
    simp only [Option.getD_some]; omega
  · exact Nat.le_refl _
theorem see_same {g : Ck} (hne : 0 < g.l.length) (h : Even g) (i e : Nat) (hi : i < g.l.length) (h0 : g.idle = 0) (he : e ≤ (endsOf g).getD i 0) : (see g i e).mark = g.mark := by
  have h1 := see_even hne h i e
  have hm := move_l (saw g i e)
  have e2 : endsOf (see g i e) = endsOf g := by
    show endsOf (move (saw g i e)) = _
    have : endsOf (move (saw g i e)) = endsOf (saw g i e) := by unfold endsOf; rw [hm.1]
    rw [this, endsOf_saw, show max ((endsOf g).getD i 0) e = (endsOf g).getD i 0 by omega]
    have hi' : i < (endsOf g).length := by simpa [endsOf] using hi
    rw [List.getD_eq_getElem?_getD, List.getElem?_eq_getElem hi']
    simp
  have h2 := h1 (by show (move (saw g i e)).idle = 0; rw [hm.2.2.1]; exact h0)
  rw [e2] at h2
  have e3 : (see g i e).late = g.late := hm.2.1
  rw [e3] at h2
  exact h2.one (h h0)
end Go.Proofs.Ytgpkihnihmbomaa.Wm
