/- FrameJoins: frames ahead of other bytes are parted as both would be alone. No conditions. -/
import Derived.Test.YtbfmmjdbnbfnmaaXDx0
import Derived.Test.YtbfmmjdbnbfnmaaXDx40
import Derived.Test.YtbfmmjdbnbfnmaaArgFrameJoins
import Derived.Test.YtbfmmjdbnbfnmaaFrameKit
namespace Go.Proofs.Ytbfmmjdbnbfnmaa.Pure
open Go.RowKit Go.Proofs.Ytbfmmjdbnbfnmaa.XD Go.Proofs.YtbfmmjdbnbfnmaaW.PrintWords Go.Proofs.YtbfmmjdbnbfnmaaW.PrintLast Go.Proofs.YtbfmmjdbnbfnmaaW.PrintMore
open Go.Proofs.Ytbfmmjdbnbfnmaa.Var Go.Proofs.Ytbfmmjdbnbfnmaa.Crc Go.Proofs.Ytbfmmjdbnbfnmaa.Frm

/-- The stream of the first i bodies. -/
def st (ns : List (List Nat)) (i : Nat) : List Nat := ((ns.take i).map wrapped).flatten
theorem st_next (ns : List (List Nat)) {i : Nat} (h : i < ns.length) : st ns (i + 1) = st ns i ++ wrapped (ns.getD i []) := by
  unfold st
  rw [take_one [] ns h, List.map_append, List.flatten_append]
  simp
theorem st_wf {ns : List (List Nat)} (hw : ∀ x ∈ ns, ∀ y ∈ x, y ≤ 255) (i : Nat) : ∀ y ∈ st ns i, y ≤ 255 := fun y hy => by
  obtain ⟨x, hx, hy⟩ := List.mem_flatten.1 hy
  obtain ⟨z, hz, rfl⟩ := List.mem_map.1 hx
  exact wrapped_wf (hw z (List.mem_of_mem_take hz)) y hy
theorem parts_wf (f : Nat) : ∀ l : List Nat, (∀ y ∈ l, y ≤ 255) → ∀ x ∈ (parts f l).1, ∀ y ∈ x, y ≤ 255 := by
  induction f with
  | zero => intro l _ x hx; simp [parts] at hx
  | succ f ih =>
    intro l hw x hx
    rw [parts] at hx
    by_cases h : l.length = 0 ∨ (next l).2.1 = 0
    · rw [if_pos h] at hx; simp at hx
    · rw [if_neg h] at hx
      have h1 := ih (l.drop (next l).2.1) fun y hy => hw y (List.mem_of_mem_drop hy)
      by_cases h2 : (next l).2.2 = 0
      · simp only [h2, if_true] at hx
        rcases List.mem_cons.1 hx with rfl | hx
        · exact next_wf hw
        · exact h1 x hx
      · simp only [h2, if_false] at hx
        exact h1 x hx
theorem getD_left (a b : List (List Nat)) (i : Nat) (h : i < a.length) : (a ++ b).getD i [] = a.getD i [] := by
  simp only [List.getD_eq_getElem?_getD]; rw [List.getElem?_append_left h]
theorem getD_right (a b : List (List Nat)) (i : Nat) (h : ¬ i < a.length) : (a ++ b).getD i [] = b.getD (i - a.length) [] := by
  simp only [List.getD_eq_getElem?_getD]; rw [List.getElem?_append_right (by omega)]
theorem same_loop (ns rs : List (List Nat)) (hw : ∀ x ∈ ns, ∀ y ∈ x, y ≤ 255) (hr : ∀ x ∈ rs, ∀ y ∈ x, y ≤ 255) (hn : ns.length ≤ 20) (hm : rs.length ≤ 300) (d : Nat) : ∀ (i k : Nat), i + d = ns.length + rs.length → d < k →
    tallyroomlaw08_FrameJoins.l1 k (ns.map ofN) ((ns ++ rs).map ofN) (rs.map ofN) (i : Int) = some true := by
  induction d with
  | zero =>
    intro i k hi hk
    obtain ⟨k, rfl⟩ : ∃ m, k = m + 1 := ⟨k - 1, by omega⟩
    rw [tallyroomlaw08_FrameJoins.l1, if_neg (by simp; omega)]
  | succ d ih =>
    intro i k hi hk
    obtain ⟨k, rfl⟩ : ∃ m, k = m + 1 := ⟨k - 1, by omega⟩
    have hrec := ih (i + 1) k (by omega) (by omega)
    rw [show ((i + 1 : Nat) : Int) = wrap64 ((i : Int) + 1) by rw [IntWalk.wrap64_in _ (by omega)]; omega] at hrec
    rw [tallyroomlaw08_FrameJoins.l1, if_pos (by simp; omega)]
    by_cases h : i < ns.length
    · have hwi := getD_rows hw i
      rw [if_pos (by simp; omega), if_pos (by omega), rd_rows, rd_rows, getD_left _ _ _ h, bytes_eq hwi hwi, Option.bind_some, if_pos (by simp), if_neg (by simp; omega)]
      exact hrec
    · have hwi := getD_rows hr (i - ns.length)
      have e : wrap64 ((i : Int) - ((ns.map ofN).length : Int)) = ((i - ns.length : Nat) : Int) := by rw [List.length_map, IntWalk.wrap64_in _ (by omega)]; omega
      rw [if_neg (by simp; omega), if_pos (by simp; omega), if_pos (by omega), e, if_pos (by omega), if_pos (by simp; omega), rd_rows, rd_rows, getD_right _ _ _ h, bytes_eq hwi hwi, Option.bind_some, if_pos (by simp)]
      exact hrec
theorem wrap_loop (ns : List (List Nat)) (r : List Nat) (hw : ∀ x ∈ ns, ∀ y ∈ x, y ≤ 255) (hr : ∀ y ∈ r, y ≤ 255) (hrl : r.length ≤ 300) (hn : ns.length ≤ 20) (d : Nat) : ∀ (i k : Nat), i + d = ns.length → d + 60000 < k → (∀ x ∈ ns.take i, x.length ≤ 300) → (st ns i).length ≤ 400 * i →
    tallyroomlaw08_FrameJoins.l0 k (ns.map ofN) (ofN r) (ofN (st ns i)) (i : Int) = some true := by
  induction d with
  | zero =>
    intro i k hi hk hc hs
    obtain ⟨k, rfl⟩ : ∃ m, k = m + 1 := ⟨k - 1, by omega⟩
    obtain rfl : i = ns.length := by omega
    rw [List.take_length] at hc
    have h1 := all_wrapped ns r fun x hx => by have := hc x hx; omega
    have h2 : all (st ns ns.length ++ r) = (ns ++ (all r).1, (all r).2.1, (st ns ns.length).length + (all r).2.2) := by
      unfold st; rw [List.take_length, h1]
    have hb : (all r).1.length + (all r).2.1 ≤ r.length ∧ (all r).2.2 ≤ r.length := all_bound (r.length + 1) r
    have hp : ∀ x ∈ (all r).1, ∀ y ∈ x, y ≤ 255 := parts_wf (r.length + 1) r hr
    rw [tallyroomlaw08_FrameJoins.l0, if_neg (by simp), Option.bind_some, if_pos (by rw [ofN_length]; simp; omega), Option.bind_some, if_pos (by rw [List.length_append, ofN_length, ofN_length]; simp; omega), List.nil_append, ← ofN_append]
    rw [all_eq _ (mem_app (st_wf hw _) hr) (by rw [List.length_append]; omega) k (by rw [List.length_append]; omega), Option.bind_some, all_eq _ hr (by omega) k (by omega), Option.bind_some, h2]
    rw [if_pos (by rfl), if_pos (by rw [ofN_length]; simp only; rw [IntWalk.wrap64_in _ (by omega)]; omega)]
    obtain ⟨k, rfl⟩ : ∃ m, k = m + 1 := ⟨k - 1, by omega⟩
    have e : wrap64 (((ns.map ofN).length : Int) + (((all r).1.map ofN).length : Int)) = ((((ns ++ (all r).1).map ofN).length : Nat) : Int) := by
      rw [List.length_map, List.length_map, List.length_map, List.length_append, IntWalk.wrap64_in _ (by omega)]; omega
    rw [tallyroomlaw08_FrameJoins.j2, if_neg (by rw [e]; simp)]
    have := same_loop ns (all r).1 hw hp hn (by omega) (ns.length + (all r).1.length) 0 k (by omega) (by omega)
    simpa using this
  | succ d ih =>
    intro i k hi hk hc hs
    obtain ⟨k, rfl⟩ : ∃ m, k = m + 1 := ⟨k - 1, by omega⟩
    have hwi := getD_rows hw i
    rw [tallyroomlaw08_FrameJoins.l0, if_pos (by simp; omega), if_pos (by omega), rd_rows]
    by_cases h : (ns.getD i []).length > 300
    · rw [if_pos (by rw [ofN_length]; omega)]
    · have hl := wrapped_length (ns.getD i [])
      have hv := vput_length_le (ns.getD i []).length (by omega)
      rw [if_neg (by rw [ofN_length]; omega), wrap_eq _ hwi (by omega) k (by omega), Option.bind_some, if_pos (by rw [ofN_length, ofN_length]; omega)]
      rw [← ofN_append, ← st_next ns (by omega), IntWalk.wrap64_in _ (by omega), show (i : Int) + 1 = ((i + 1 : Nat) : Int) by omega]
      refine ih (i + 1) k (by omega) (by omega) (fun x hx => ?_) ?_
      · rw [take_one [] ns (by omega)] at hx
        rcases List.mem_append.1 hx with h | h
        · exact hc x h
        · rw [List.mem_singleton.1 h]; omega
      · rw [st_next ns (by omega), List.length_append]; omega
theorem FrameJoins : tallyroomlaw08_FrameJoins.Pure2 := by
  intro l r hl hr
  obtain ⟨ns, rfl, hw⟩ := rows_N l fun x hx y hy => (hl.2 x hx).2 y hy
  obtain ⟨r, rfl, hrw⟩ := ofN_byte hr.2
  refine ⟨70000, ?_⟩
  unfold tallyroomlaw08_FrameJoins.f
  rw [alive08 (by omega), Option.bind_some, if_pos rfl]
  by_cases h : ns.length > 20
  · rw [if_pos (by simp; omega), tallyroomlaw08_FrameJoins.j0, if_pos rfl]
  · rw [if_neg (by simp; omega), tallyroomlaw08_FrameJoins.j0]
    by_cases h2 : r.length > 300
    · rw [if_pos (by simp [ofN_length]; omega)]
    · rw [if_neg (by simp [ofN_length]; omega)]
      have := wrap_loop ns r hw hrw (by omega) (by omega) ns.length 0 69999 (by omega) (by omega) (by simp) (by simp [st])
      simpa [st, ofN] using this
end Go.Proofs.Ytbfmmjdbnbfnmaa.Pure
