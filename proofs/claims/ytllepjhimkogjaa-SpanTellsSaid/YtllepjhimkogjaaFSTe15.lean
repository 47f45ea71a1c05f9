/- The law's proof, part 15: the text Txt of this session, or words printed for this seat; what the theorem doesn't use is left out. No conditions. -/
import Derived.Lib.MapLaws
namespace Go.Proofs.Ytllepjhimkogjaa.Txt
open Go.Lib
theorem getD_app (a b : List UInt8) (i : Nat) (h : i < a.length) : (a ++ b).getD i 0 = a.getD i 0 := by
  simp only [List.getD_eq_getElem?_getD]; rw [List.getElem?_append_left h]
theorem getD_tk (a : List UInt8) (i n : Nat) (h : i < n) : (a.take n).getD i 0 = a.getD i 0 := by
  simp only [List.getD_eq_getElem?_getD]; rw [List.getElem?_take_of_lt h]
theorem dec_app (a b : List UInt8) (hne : a ≠ []) (hv : ¬ ((decodeL a).1 = 65533 ∧ (decodeL a).2 = 1)) : decodeL (a ++ b) = decodeL a := by
  have hl : 0 < a.length := List.length_pos_iff.2 hne
  have hlen : (a ++ b).length = a.length + b.length := List.length_append
  rw [decodeL_N] at hv
  rw [decodeL_N, decodeL_N, getD_app a b 0 hl]
  rcases decodeN_shape a.length (a.getD 0 0).toNat (a.getD 1 0).toNat (a.getD 2 0).toNat (a.getD 3 0).toNat with ⟨c, e⟩ | ⟨c1, c2, c3, cv, e⟩ | ⟨c1, c2, c3, c4, cv, cs, e⟩ | ⟨c1, c2, c3, c4, c5, cv, cw, e⟩ | e
  · rw [e]; unfold decodeN; rw [if_pos c]
  · rw [e, getD_app a b 1 (by omega)]; unfold decodeN
    rw [if_neg (by omega), if_pos ⟨c1, by omega, c3⟩, if_pos cv]
  · rw [e, getD_app a b 1 (by omega), getD_app a b 2 (by omega)]; unfold decodeN
    rw [if_neg (by omega), if_neg (by omega), if_pos ⟨c1, ⟨by omega, c3⟩, by omega, c4⟩, if_pos ⟨cv, by omega⟩]
  · rw [e, getD_app a b 1 (by omega), getD_app a b 2 (by omega), getD_app a b 3 (by omega)]; unfold decodeN
    rw [if_neg (by omega), if_neg (by omega), if_neg (by omega), if_pos ⟨c1, ⟨by omega, c3⟩, ⟨by omega, c4⟩, by omega, c5⟩, if_pos ⟨cv, by omega⟩]
  · rw [e] at hv; exact absurd ⟨rfl, rfl⟩ hv
theorem dec_take (l : List UInt8) (hne : l ≠ []) (hv : ¬ ((decodeL l).1 = 65533 ∧ (decodeL l).2 = 1)) : decodeL (l.take (decodeL l).2) = decodeL l := by
  have hl : 0 < l.length := List.length_pos_iff.2 hne
  rw [decodeL_N] at hv
  rw [decodeL_N, decodeL_N l]
  rcases decodeN_shape l.length (l.getD 0 0).toNat (l.getD 1 0).toNat (l.getD 2 0).toNat (l.getD 3 0).toNat with ⟨c, e⟩ | ⟨c1, c2, c3, cv, e⟩ | ⟨c1, c2, c3, c4, cv, cs, e⟩ | ⟨c1, c2, c3, c4, c5, cv, cw, e⟩ | e
  · rw [e]; simp only; rw [getD_tk _ 0 1 (by omega)]; unfold decodeN; rw [if_pos c]
  · rw [e]; simp only; rw [getD_tk _ 0 2 (by omega), getD_tk _ 1 2 (by omega), List.length_take]; unfold decodeN
    rw [if_neg (by omega), if_pos ⟨c1, by omega, c3⟩, if_pos cv]
  · rw [e]; simp only; rw [getD_tk _ 0 3 (by omega), getD_tk _ 1 3 (by omega), getD_tk _ 2 3 (by omega), List.length_take]; unfold decodeN
    rw [if_neg (by omega), if_neg (by omega), if_pos ⟨c1, ⟨by omega, c3⟩, by omega, c4⟩, if_pos ⟨cv, by omega⟩]
  · rw [e]; simp only; rw [getD_tk _ 0 4 (by omega), getD_tk _ 1 4 (by omega), getD_tk _ 2 4 (by omega), getD_tk _ 3 4 (by omega), List.length_take]; unfold decodeN
    rw [if_neg (by omega), if_neg (by omega), if_neg (by omega), if_pos ⟨c1, ⟨by omega, c3⟩, ⟨by omega, c4⟩, by omega, c5⟩, if_pos ⟨cv, by omega⟩]
  · rw [e] at hv; exact absurd ⟨rfl, rfl⟩ hv
theorem dec_pre (l : List UInt8) (m : Nat) (hne : l ≠ []) (hm : (decodeL l).2 ≤ m) : decodeL (l.take m) = decodeL l := by
  have hl : 0 < l.length := List.length_pos_iff.2 hne
  have hw := decodeL_width l
  have hne2 : l.take m ≠ [] := by
    intro h
    have := congrArg List.length h
    rw [List.length_take, List.length_nil] at this; omega
  by_cases hv : (decodeL l).1 = 65533 ∧ (decodeL l).2 = 1
  · by_cases hv2 : (decodeL (l.take m)).1 = 65533 ∧ (decodeL (l.take m)).2 = 1
    · exact Prod.ext (hv2.1.trans hv.1.symm) (hv2.2.trans hv.2.symm)
    · have := dec_app (l.take m) (l.drop m) hne2 hv2
      rw [List.take_append_drop] at this
      exact this.symm
  · have h1 := dec_take l hne hv
    have hne3 : l.take (decodeL l).2 ≠ [] := by
      intro h
      have := congrArg List.length h
      rw [List.length_take, List.length_nil] at this; omega
    have h2 := dec_app (l.take (decodeL l).2) ((l.take m).drop (decodeL l).2) hne3 (by rw [h1]; exact hv)
    have h3 : l.take (decodeL l).2 ++ (l.take m).drop (decodeL l).2 = l.take m := by
      have : l.take (decodeL l).2 = (l.take m).take (decodeL l).2 := by rw [List.take_take, Nat.min_eq_left hm]
      rw [this, List.take_append_drop]
    rw [h3] at h2
    exact h2.trans h1
def units : Nat → List UInt8 → List (Nat × List UInt8)
  | 0, _ => []
  | f + 1, l => if l = [] then [] else ((decodeL l).1, l.take (decodeL l).2) :: units f (l.drop (decodeL l).2)
theorem units_more : ∀ (f g : Nat) (l : List UInt8), l.length ≤ f → l.length ≤ g → units f l = units g l := by
  intro f
  induction f with
  | zero =>
    intro g l h _
    obtain rfl : l = [] := List.length_eq_zero_iff.1 (by omega)
    cases g <;> simp [units]
  | succ f ih =>
    intro g l h h'
    by_cases hn : l = []
    · subst hn; cases g <;> simp [units]
    · have hl : 0 < l.length := List.length_pos_iff.2 hn
      have hw := decodeL_width l
      obtain ⟨g, rfl⟩ : ∃ m, g = m + 1 := ⟨g - 1, by omega⟩
      rw [units, units, if_neg hn, if_neg hn, ih g (l.drop (decodeL l).2) (by rw [List.length_drop]; omega) (by rw [List.length_drop]; omega)]
def us (l : List UInt8) : List (Nat × List UInt8) := units l.length l
theorem us_nil : us [] = [] := rfl
theorem us_step {l : List UInt8} (h : l ≠ []) : us l = ((decodeL l).1, l.take (decodeL l).2) :: us (l.drop (decodeL l).2) := by
  have hl : 0 < l.length := List.length_pos_iff.2 h
  have hw := decodeL_width l
  obtain ⟨n, hn⟩ : ∃ m, l.length = m + 1 := ⟨l.length - 1, by omega⟩
  unfold us
  rw [hn, units, if_neg h, units_more n _ (l.drop (decodeL l).2) (by rw [List.length_drop]; omega) (Nat.le_refl _)]
theorem by_units (p : List UInt8 → Prop) (h0 : p []) (h1 : ∀ l, l ≠ [] → p (l.drop (decodeL l).2) → p l) (l : List UInt8) : p l := by
  have : ∀ n l, l.length ≤ n → p l := by
    intro n
    induction n with
    | zero =>
      intro l h
      obtain rfl : l = [] := List.length_eq_zero_iff.1 (by omega)
      exact h0
    | succ n ih =>
      intro l h
      by_cases hn : l = []
      · subst hn; exact h0
      · have hl : 0 < l.length := List.length_pos_iff.2 hn
        have hw := decodeL_width l
        exact h1 l hn (ih _ (by rw [List.length_drop]; omega))
  exact this l.length l (Nat.le_refl _)
def join (L : List (Nat × List UInt8)) : List UInt8 := L.flatMap (·.2)
theorem join_nil : join [] = [] := rfl
theorem join_cons (u : Nat × List UInt8) (L : List (Nat × List UInt8)) : join (u :: L) = u.2 ++ join L := by simp [join]
theorem us_join (l : List UInt8) : join (us l) = l := by
  refine by_units (fun l => join (us l) = l) rfl (fun l hn ih => ?_) l
  show join (us l) = l
  rw [us_step hn, join_cons, ih, List.take_append_drop]
def bad (u : Nat × List UInt8) : Bool := decide (u.1 = 65533 ∧ u.2.length = 1)
theorem us_len (l : List UInt8) : ∀ u ∈ us l, 1 ≤ u.2.length := by
  refine by_units (fun l => ∀ u ∈ us l, 1 ≤ u.2.length) (by simp [us_nil]) (fun l hn ih => ?_) l
  intro u hu
  rw [us_step hn] at hu
  rcases List.mem_cons.1 hu with rfl | hu
  · have hle := decodeL_le l hn
    have hw := decodeL_width l
    simp only [List.length_take]; omega
  · exact ih u hu
def right (l : List UInt8) : Bool := (us l).all fun u => !bad u
def count (l : List UInt8) : Nat := (us l).length
def plain (r : Nat) : Bool := !(decide (r < 32) || decide (127 ≤ r ∧ r < 160) || decide (r = 8232) || decide (r = 8233) || decide (r = 65533))
def cl (u : Nat × List UInt8) : Nat × List UInt8 := if plain u.1 then u else (95, [95])
def clean (l : List UInt8) : List UInt8 := join ((us l).map cl)
def cutU : Nat → List (Nat × List UInt8) → List (Nat × List UInt8)
  | _, [] => []
  | n, u :: r => if u.2.length ≤ n then u :: cutU (n - u.2.length) r else []
def cut (n : Nat) (l : List UInt8) : List UInt8 := join (cutU n (us l))
theorem plain_ne {r : Nat} (h : plain r = true) : r ≠ 65533 := by
  intro e; subst e; simp [plain] at h
theorem cutU_pre (n : Nat) (L : List (Nat × List UInt8)) : ∃ j, cutU n L = L.take j ∧ j ≤ L.length := by
  induction L generalizing n with
  | nil => exact ⟨0, rfl, Nat.le_refl _⟩
  | cons u r ih =>
    rw [cutU]
    by_cases h : u.2.length ≤ n
    · obtain ⟨j, e, hj⟩ := ih (n - u.2.length)
      exact ⟨j + 1, by rw [if_pos h, e, List.take_succ_cons], by simp; omega⟩
    · exact ⟨0, by rw [if_neg h]; rfl, Nat.zero_le _⟩
theorem cutU_len (n : Nat) (L : List (Nat × List UInt8)) : (join (cutU n L)).length ≤ n := by
  induction L generalizing n with
  | nil => exact Nat.zero_le _
  | cons u r ih =>
    by_cases h : u.2.length ≤ n
    · rw [cutU, if_pos h, join_cons, List.length_append]
      have := ih (n - u.2.length); omega
    · rw [cutU, if_neg h]; exact Nat.zero_le _
theorem us_take (l : List UInt8) : ∀ j, us (join ((us l).take j)) = (us l).take j ∧ us (l.drop (join ((us l).take j)).length) = (us l).drop j ∧ join ((us l).take j) = l.take (join ((us l).take j)).length := by
  refine by_units (fun l => ∀ j, us (join ((us l).take j)) = (us l).take j ∧ us (l.drop (join ((us l).take j)).length) = (us l).drop j ∧ join ((us l).take j) = l.take (join ((us l).take j)).length) ?_ (fun l hn ih => ?_) l
  · intro j; simp [us_nil, join]
  · intro j
    cases j with
    | zero => simp [join, us_nil]
    | succ j =>
      obtain ⟨i1, i2, i3⟩ := ih j
      have hw := decodeL_width l
      have hle := decodeL_le l hn
      have e : (us l).take (j + 1) = ((decodeL l).1, l.take (decodeL l).2) :: (us (l.drop (decodeL l).2)).take j := by rw [us_step hn, List.take_succ_cons]
      have ed : (us l).drop (j + 1) = (us (l.drop (decodeL l).2)).drop j := by rw [us_step hn, List.drop_succ_cons]
      generalize hm : (join ((us (l.drop (decodeL l).2)).take j)).length = m at i2 i3
      have ej : join ((us l).take (j + 1)) = l.take ((decodeL l).2 + m) := by
        rw [e, join_cons, i3, List.take_add]
      have hml : m ≤ l.length - (decodeL l).2 := by
        have := congrArg List.length i3
        rw [hm, List.length_take, List.length_drop] at this; omega
      have el : (join ((us l).take (j + 1))).length = (decodeL l).2 + m := by rw [ej, List.length_take]; omega
      have hne : l.take ((decodeL l).2 + m) ≠ [] := by
        intro h
        have := congrArg List.length h
        rw [List.length_take, List.length_nil] at this; omega
      refine ⟨?_, ?_, ?_⟩
      · rw [ej, us_step hne, dec_pre l _ hn (by omega), e]
        have t1 : (l.take ((decodeL l).2 + m)).take (decodeL l).2 = l.take (decodeL l).2 := by rw [List.take_take, Nat.min_eq_left (by omega)]
        have t2 : (l.take ((decodeL l).2 + m)).drop (decodeL l).2 = (l.drop (decodeL l).2).take m := by rw [List.take_add, List.drop_append, List.drop_of_length_le (by rw [List.length_take]; omega), List.length_take, Nat.min_eq_left hle, Nat.sub_self]; rfl
        rw [t1, t2, ← i3, i1]
      · rw [el, ed, ← i2, List.drop_drop]
      · rw [el, ej]
theorem cut_len (n : Nat) (l : List UInt8) : (cut n l).length ≤ n := cutU_len n _
theorem cut_us (n : Nat) (l : List UInt8) : us (cut n l) = cutU n (us l) ∧ us (l.drop (cut n l).length) = (us l).drop (cutU n (us l)).length ∧ cut n l = l.take (cut n l).length := by
  obtain ⟨j, e, hj⟩ := cutU_pre n (us l)
  obtain ⟨a, b, c⟩ := us_take l j
  unfold cut
  rw [e]
  refine ⟨a, ?_, c⟩
  rw [b, List.length_take, Nat.min_eq_left hj]
theorem cutU_all (L : List (Nat × List UInt8)) (n : Nat) (h : (join L).length ≤ n) : cutU n L = L := by
  induction L generalizing n with
  | nil => rfl
  | cons u r ih =>
    rw [join_cons, List.length_append] at h
    rw [cutU, if_pos (by omega), ih _ (by omega)]
theorem cut_all (n : Nat) (l : List UInt8) (h : l.length ≤ n) : cut n l = l := by
  unfold cut; rw [cutU_all _ _ (by rw [us_join]; exact h), us_join]
end Go.Proofs.Ytllepjhimkogjaa.Txt
