/- Plain lemmas on lists and numbers: turned orders, sums. -/
import Derived.RowKit
namespace Go.Proofs.Ytdcbhakclhbdpaa.Plain

/-- The places of a list of n from behind, turned by b. -/
def turn (n b j : Nat) : Nat := (n - 1 - j + b) % n

theorem turn_perm (n b : Nat) : ((List.range n).map (turn n b)).Perm (List.range n) := by
  induction b with
  | zero =>
    have : (List.range n).map (turn n 0) = (List.range n).reverse := by
      apply List.ext_getElem
      · simp
      · intro i h1 h2
        simp [turn] at h1 h2 ⊢
        exact Nat.mod_eq_of_lt (by omega)
    rw [this]
    exact List.reverse_perm _
  | succ b ih =>
    refine List.Perm.trans ?_ ih
    cases n with
    | zero => simp
    | succ m =>
      have e1 : (List.range (m + 1)).map (turn (m + 1) (b + 1)) = b % (m + 1) :: (List.range m).map (turn (m + 1) b) := by
        rw [List.range_succ_eq_map]
        simp only [List.map_cons, List.map_map]
        congr 1
        · unfold turn
          have : m + 1 - 1 - 0 + (b + 1) = b + (m + 1) := by omega
          rw [this, Nat.add_mod_right]
        · apply List.map_congr_left
          intro j hj
          simp at hj
          simp only [Function.comp, turn]
          congr 1
          omega
      have e2 : (List.range (m + 1)).map (turn (m + 1) b) = (List.range m).map (turn (m + 1) b) ++ [b % (m + 1)] := by
        rw [List.range_succ, List.map_append]
        simp [turn]
      rw [e1, e2]
      exact (List.perm_append_singleton _ _).symm

theorem turn_lt {n b j : Nat} (h : j < n) : turn n b j < n := Nat.mod_lt _ (by omega)

/-- The sum of a list of whole numbers. -/
def isum (l : List Int) : Int := l.foldr (· + ·) 0
theorem isum_nil : isum [] = 0 := rfl
theorem isum_cons (a : Int) (l : List Int) : isum (a :: l) = a + isum l := rfl
theorem isum_append (a b : List Int) : isum (a ++ b) = isum a + isum b := by
  induction a with
  | nil => simp [isum_nil]
  | cons x a ih => simp only [List.cons_append, isum_cons, ih]; omega
theorem isum_perm {a b : List Int} (h : a.Perm b) : isum a = isum b := by
  induction h with
  | nil => rfl
  | cons x _ ih => simp only [isum_cons, ih]
  | swap x y l => simp only [isum_cons]; omega
  | trans _ _ h1 h2 => exact h1.trans h2
theorem isum_nonneg {l : List Int} (h : ∀ x ∈ l, 0 ≤ x) : 0 ≤ isum l := by
  induction l with
  | nil => simp [isum_nil]
  | cons x l ih =>
    rw [isum_cons]
    have h1 := h x (List.mem_cons_self ..)
    have h2 := ih (fun y hy => h y (List.mem_cons_of_mem _ hy))
    omega
theorem getD_mem {l : List Int} {i : Nat} (h : i < l.length) : l.getD i 0 ∈ l := by
  rw [List.getD_eq_getElem?_getD, List.getElem?_eq_getElem h]; exact List.getElem_mem h
theorem map_getD_range (l : List Int) : (List.range l.length).map (fun i => l.getD i 0) = l := by
  apply List.ext_getElem
  · simp
  · intro i h1 h2
    simp [List.getElem?_eq_getElem h2]
theorem take_succ_getD (l : List Int) {i : Nat} (h : i < l.length) : l.take (i + 1) = l.take i ++ [l.getD i 0] := by
  rw [List.take_succ_eq_append_getElem h, List.getD_eq_getElem?_getD, List.getElem?_eq_getElem h]; rfl

end Go.Proofs.Ytdcbhakclhbdpaa.Plain
