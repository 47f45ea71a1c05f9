/- CrcParts: the sum by any parts is that of all, and what is sealed twice is opened twice. No conditions. -/
import Derived.Test.YtbfmmjdbnbfnmaaXDx0
import Derived.Test.YtbfmmjdbnbfnmaaXDx23
import Derived.Test.YtbfmmjdbnbfnmaaXDx30
import Derived.Test.YtbfmmjdbnbfnmaaArgCrcParts
import Derived.Test.YtbfmmjdbnbfnmaaCrcBase
namespace Go.Proofs.Ytbfmmjdbnbfnmaa.Pure
open Go.RowKit Go.Proofs.Ytbfmmjdbnbfnmaa.XD Go.Proofs.YtbfmmjdbnbfnmaaW.PrintWords Go.Proofs.YtbfmmjdbnbfnmaaW.PrintLast Go.Proofs.YtbfmmjdbnbfnmaaW.PrintMore
open Go.Proofs.Ytbfmmjdbnbfnmaa.Var Go.Proofs.Ytbfmmjdbnbfnmaa.Crc

theorem rows_N (l : List (List Int)) (h : ∀ x ∈ l, ∀ y ∈ x, (Lit.int .u8 y).wf = true) : ∃ ns : List (List Nat), l = ns.map ofN ∧ ∀ x ∈ ns, ∀ y ∈ x, y ≤ 255 := by
  induction l with
  | nil => exact ⟨[], rfl, by simp⟩
  | cons x l ih =>
    obtain ⟨ns, rfl, hn⟩ := ih fun y hy => h y (List.mem_cons_of_mem _ hy)
    obtain ⟨n, rfl, hx⟩ := ofN_byte (h x (List.mem_cons_self ..))
    refine ⟨n :: ns, rfl, fun m hm => ?_⟩
    rcases List.mem_cons.1 hm with rfl | hm
    · exact hx
    · exact hn m hm
theorem rd_rows (ns : List (List Nat)) (i : Nat) : rd_L2 (ns.map ofN) (i : Int) = ofN (ns.getD i []) := by
  unfold rd_L2
  simp only [Int.toNat_natCast, List.getD_eq_getElem?_getD, List.getElem?_map]
  cases ns[i]? <;> simp [ofN]
theorem getD_rows {ns : List (List Nat)} (h : ∀ x ∈ ns, ∀ y ∈ x, y ≤ 255) (i : Nat) : ∀ y ∈ ns.getD i [], y ≤ 255 := by
  rw [List.getD_eq_getElem?_getD]
  cases e : ns[i]? with
  | none => simp
  | some x => exact h x (List.mem_of_getElem? e)
theorem take_rows (ns : List (List Nat)) {i : Nat} (h : i < ns.length) : (ns.take (i + 1)).flatten = (ns.take i).flatten ++ ns.getD i [] := by
  have e : ns.take (i + 1) = ns.take i ++ [ns.getD i []] := by
    rw [List.take_succ_eq_append_getElem h, List.getD_eq_getElem?_getD, List.getElem?_eq_getElem h]; rfl
  rw [e, List.flatten_append, List.flatten_singleton]
theorem parts_loop (ns : List (List Nat)) (hl : ns.length ≤ 20) (hw : ∀ x ∈ ns, ∀ y ∈ x, y ≤ 255) (d : Nat) : ∀ (i k : Nat), i + d = ns.length → d + 60000 < k → (ns.take i).flatten.length ≤ 200 * i →
    tallyroomlaw02_CrcParts.l0 k (ns.map ofN) (ofN (ns.take i).flatten) ((sum (ns.take i).flatten : Nat) : Int) (i : Int) = some true := by
  induction d with
  | zero =>
    intro i k hi hk hb
    obtain ⟨k, rfl⟩ : ∃ m, k = m + 1 := ⟨k - 1, by omega⟩
    have hall : ∀ y ∈ (ns.take i).flatten, y ≤ 255 := fun y hy => by
      obtain ⟨x, hx, hy⟩ := List.mem_flatten.1 hy
      exact hw x (List.mem_of_mem_take hx) y hy
    generalize (ns.take i).flatten = b at hb hall ⊢
    have h1 := sealed_length b
    have h2 := sealed_length (sealed b)
    rw [tallyroomlaw02_CrcParts.l0, if_neg (by simp; omega), sealed_eq b hall (by omega) k (by omega), Option.bind_some, sealed_eq _ (sealed_wf hall) (by omega) k (by omega), Option.bind_some]
    rw [open_eq _ (sealed_wf (sealed_wf hall)) (by omega) k (by omega), Option.bind_some, opened_sealed]
    simp only
    rw [open_eq _ (sealed_wf hall) (by omega) k (by omega), Option.bind_some, opened_sealed, sum_eq b hall (by omega) k (by omega), Option.bind_some]
    rw [if_pos rfl, if_pos (by rfl), if_pos (by rfl), bytes_eq hall hall, Option.bind_some, if_pos (by exact decide_eq_true rfl), ofN_length, ofN_length, h2, h1, IntWalk.wrap64_in _ (by omega)]
    congr 1
    rw [beq_iff_eq]
    omega
  | succ d ih =>
    intro i k hi hk hb
    obtain ⟨k, rfl⟩ : ∃ m, k = m + 1 := ⟨k - 1, by omega⟩
    have hlt : i < ns.length := by omega
    have hall : ∀ y ∈ (ns.take i).flatten, y ≤ 255 := fun y hy => by
      obtain ⟨x, hx, hy⟩ := List.mem_flatten.1 hy
      exact hw x (List.mem_of_mem_take hx) y hy
    have hc := getD_rows hw i
    rw [tallyroomlaw02_CrcParts.l0, if_pos (by simp; omega), if_pos (by omega), rd_rows]
    by_cases h200 : ((ofN (ns.getD i [])).length : Int) > 200
    · rw [if_pos h200]
    · rw [if_neg h200]
      rw [ofN_length] at h200
      rw [if_pos (by rw [ofN_length, ofN_length]; omega), more_eq _ hc (by omega) k _ (by omega) (sum_lt _), Option.bind_some, ← ofN_append, ← take_rows ns hlt, IntWalk.wrap64_in _ (by omega), show (i : Int) + 1 = ((i + 1 : Nat) : Int) by omega]
      have e : more (sum (ns.take i).flatten) (ns.getD i []) = sum (ns.take (i + 1)).flatten := by
        unfold sum
        rw [← more_append 0 _ _ hall, ← take_rows ns hlt]
      rw [e]
      exact ih (i + 1) k (by omega) (by omega) (by rw [take_rows ns hlt, List.length_append]; omega)
theorem CrcParts : tallyroomlaw02_CrcParts.Pure2 := by
  intro l ⟨_, hl⟩
  obtain ⟨ns, rfl, hw⟩ := rows_N l fun x hx => (hl x hx).2
  obtain ⟨K, hK⟩ : ∃ K : Nat, 60100 ≤ K := ⟨_, Nat.le_refl _⟩
  refine ⟨K, ?_⟩
  unfold tallyroomlaw02_CrcParts.f tallyroomlaw02_alive.f
  rw [Option.bind_some, if_pos rfl]
  by_cases h : (((ns.map ofN).length : Nat) : Int) > 20
  · rw [if_pos h]
  · rw [if_neg h]
    rw [List.length_map] at h
    have := parts_loop ns (by omega) hw ns.length 0 K (by omega) (by omega) (by simp)
    rw [List.take_zero, List.flatten_nil, show sum [] = 0 from by decide +kernel] at this
    exact this
end Go.Proofs.Ytbfmmjdbnbfnmaa.Pure
