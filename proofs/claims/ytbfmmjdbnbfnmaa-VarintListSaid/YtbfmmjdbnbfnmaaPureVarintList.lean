/- VarintList: numbers one behind the other come out again, and a greater number never has fewer bytes. No conditions. -/
import Derived.Test.YtbfmmjdbnbfnmaaXDx3
import Derived.Test.YtbfmmjdbnbfnmaaVarLaws
namespace Go.Proofs.Ytbfmmjdbnbfnmaa.Pure
open Go.RowKit Go.Proofs.Ytbfmmjdbnbfnmaa.XD Go.Proofs.YtbfmmjdbnbfnmaaW.PrintWords Go.Proofs.YtbfmmjdbnbfnmaaW.PrintLast
open Go.Proofs.Ytbfmmjdbnbfnmaa.Var

/-- The bytes of numbers, one behind the other. -/
def cat (l : List Nat) : List Nat := l.flatMap vput
theorem cat_snoc (l : List Nat) (n : Nat) : cat (l ++ [n]) = cat l ++ vput n := by simp [cat]
theorem cat_wf (l : List Nat) : ∀ x ∈ cat l, x ≤ 255 := by
  intro x hx
  obtain ⟨n, _, h⟩ := List.mem_flatMap.1 hx
  exact vput_wf n x h
theorem cat_le (l : List Nat) (h : ∀ n ∈ l, n < 2 ^ 64) : (cat l).length ≤ 10 * l.length := by
  induction l with
  | nil => simp [cat]
  | cons n l ih =>
    have h1 := ih fun m hm => h m (List.mem_cons_of_mem _ hm)
    have h2 := vput_length_le n (h n (List.mem_cons_self ..))
    simp only [cat, List.flatMap_cons, List.length_append, List.length_cons] at h1 ⊢
    omega
theorem take_succ_N (l : List Nat) {i : Nat} (h : i < l.length) : l.take (i + 1) = l.take i ++ [l.getD i 0] := by
  rw [List.take_succ_eq_append_getElem h, List.getD_eq_getElem?_getD, List.getElem?_eq_getElem h]; rfl
theorem list_l1 (ns : List Nat) (hl : ns.length ≤ 100) (hw : ∀ n ∈ ns, n < 2 ^ 64) (d : Nat) : ∀ (i k : Nat), i + d = ns.length → d + 3000 < k →
    tallyroomlaw01_VarintList.l1 k (ofN ns) (ofN (cat (ns.drop i))) (i : Int) = some true := by
  induction d with
  | zero =>
    intro i k hi hk
    obtain ⟨k, rfl⟩ : ∃ j, k = j + 1 := ⟨k - 1, by omega⟩
    rw [tallyroomlaw01_VarintList.l1, if_neg (by rw [ofN_length]; omega), List.drop_of_length_le (by omega)]
    rfl
  | succ d ih =>
    intro i k hi hk
    obtain ⟨k, rfl⟩ : ∃ j, k = j + 2 := ⟨k - 2, by omega⟩
    have hlt : i < ns.length := by omega
    have hd : ns.drop i = ns.getD i 0 :: ns.drop (i + 1) := by
      rw [List.drop_eq_getElem_cons hlt, List.getD_eq_getElem?_getD, List.getElem?_eq_getElem hlt]; rfl
    have hn : ns.getD i 0 < 2 ^ 64 := by
      rw [List.getD_eq_getElem?_getD, List.getElem?_eq_getElem hlt]; exact hw _ (List.getElem_mem hlt)
    have hc : cat (ns.drop i) = vput (ns.getD i 0) ++ cat (ns.drop (i + 1)) := by rw [hd]; simp [cat]
    have hcl := cat_le (ns.drop i) (fun n h => hw n (List.mem_of_mem_drop h))
    rw [List.length_drop] at hcl
    have hg : varint_Get.f (k + 1) (ofN (cat (ns.drop i))) = some (((ns.getD i 0 : Nat) : Int), ((vput (ns.getD i 0)).length : Int), (0 : Int)) := by
      rw [get _ (cat_wf _) (by omega) _ (by omega), hc, vget_put _ _ hn]; rfl
    rw [tallyroomlaw01_VarintList.l1, if_pos (by rw [ofN_length]; omega), hg, Option.bind_some, hc, rd_ofN]
    generalize ns.getD i 0 = n at hn ⊢
    rw [if_pos (by rfl), if_pos (by omega), if_pos (by rfl), size k n hn, Option.bind_some, if_pos (by rfl), if_pos (by simp), if_pos (by simp only [ofN_length, List.length_append]; omega)]
    simp only
    rw [Int.toNat_natCast, ofN_drop, List.drop_left, IntWalk.wrap64_in _ (by omega), show (i : Int) + 1 = ((i + 1 : Nat) : Int) by omega]
    exact ih (i + 1) (k + 1) (by omega) (by omega)
theorem list_l0 (ns : List Nat) (hl : ns.length ≤ 100) (hw : ∀ n ∈ ns, n < 2 ^ 64) (d : Nat) : ∀ (i k : Nat), i + d = ns.length → d + 3200 < k →
    tallyroomlaw01_VarintList.l0 k (ofN ns) (ofN (cat (ns.take i))) (((cat (ns.take i)).length : Nat) : Int) (i : Int) = some true := by
  induction d with
  | zero =>
    intro i k hi hk
    obtain ⟨k, rfl⟩ : ∃ j, k = j + 1 := ⟨k - 1, by omega⟩
    rw [tallyroomlaw01_VarintList.l0, if_neg (by rw [ofN_length]; omega), if_pos (by rw [ofN_length]), List.take_of_length_le (by omega)]
    exact list_l1 ns hl hw ns.length 0 k (by omega) (by omega)
  | succ d ih =>
    intro i k hi hk
    obtain ⟨k, rfl⟩ : ∃ j, k = j + 2 := ⟨k - 2, by omega⟩
    have hlt : i < ns.length := by omega
    have hget : ∀ j, j < ns.length → ns.getD j 0 < 2 ^ 64 := fun j hj => by
      rw [List.getD_eq_getElem?_getD, List.getElem?_eq_getElem hj]; exact hw _ (List.getElem_mem hj)
    have hn := hget i hlt
    have hcl := cat_le (ns.take i) (fun n h => hw n (List.mem_of_mem_take h))
    rw [List.length_take] at hcl
    have hvl := vput_length_le _ hn
    have hgo := ih (i + 1) (k + 1) (by omega) (by omega)
    rw [take_succ_N ns hlt, cat_snoc, List.length_append, ofN_append] at hgo
    rw [tallyroomlaw01_VarintList.l0, if_pos (by rw [ofN_length]; omega), if_pos (by omega), rd_ofN, put _ _ _ hn (by omega) (by rw [ofN_length]; omega), Option.bind_some, size k _ hn, Option.bind_some]
    rw [IntWalk.wrap64_in ((i : Int) + 1) (by omega), show (i : Int) + 1 = ((i + 1 : Nat) : Int) by omega, IntWalk.wrap64_in (((cat (ns.take i)).length : Nat) + ((vput (ns.getD i 0)).length : Nat) : Int) (by omega)]
    rw [show (((cat (ns.take i)).length : Nat) : Int) + ((vput (ns.getD i 0)).length : Nat) = (((cat (ns.take i)).length + (vput (ns.getD i 0)).length : Nat) : Int) by omega, hgo]
    by_cases h0 : (i : Int) > 0
    · rw [if_pos h0, IntWalk.wrap64_in ((i : Int) - 1) (by omega), show (i : Int) - 1 = ((i - 1 : Nat) : Int) by omega, if_pos (by omega), if_pos (by rw [ofN_length]; omega), rd_ofN]
      by_cases hg : ((ns.getD i 0 : Nat) : Int) > ((ns.getD (i - 1) 0 : Nat) : Int)
      · rw [if_pos hg, Option.bind_some, size k _ (hget (i - 1) (by omega)), Option.bind_some]
        have := vput_length_mono (n := ns.getD (i - 1) 0) (m := ns.getD i 0) (by omega)
        rw [if_neg (by omega)]
      · rw [if_neg hg]
    · rw [if_neg h0]
theorem VarintList : tallyroomlaw01_VarintList.Pure := by
  intro l _ hb hl
  obtain ⟨ns, rfl, hw⟩ := ofN_of l 18446744073709551615 fun x hx => by have := u64_wf (hl x hx); omega
  refine ⟨3400, ?_⟩
  unfold tallyroomlaw01_VarintList.f
  rw [alive01 (by omega), Option.bind_some, if_pos rfl]
  by_cases h : ((ofN ns).length : Int) > 100
  · rw [if_pos h]
  · rw [if_neg h]
    rw [ofN_length] at h
    exact list_l0 ns (by omega) (fun n hn => by have := hw n hn; omega) ns.length 0 3400 (by omega) (by omega)

end Go.Proofs.Ytbfmmjdbnbfnmaa.Pure
