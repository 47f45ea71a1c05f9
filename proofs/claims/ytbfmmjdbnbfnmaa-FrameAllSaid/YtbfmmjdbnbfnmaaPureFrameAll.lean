/- FrameAll: how bytes are parted into frames. No conditions. -/
import Derived.Test.YtbfmmjdbnbfnmaaXHx21
import Derived.Test.YtbfmmjdbnbfnmaaNextKit
namespace Go.Proofs.Ytbfmmjdbnbfnmaa.Pure
open Go.RowKit Go.Proofs.Ytbfmmjdbnbfnmaa.XH Go.Proofs.YtbfmmjdbnbfnmaaW.PrintWords Go.Proofs.YtbfmmjdbnbfnmaaW.PrintLast
open Go.Proofs.Ytbfmmjdbnbfnmaa.Var Go.Proofs.Ytbfmmjdbnbfnmaa.Crc Go.Proofs.Ytbfmmjdbnbfnmaa.Frm

/-- The loop, at place i of the bytes, where as many bodies were met as stand in a, as many spoilt ones as b, and what is left comes to what is left of the answer. -/
theorem all_law (ns : List Nat) (hw : ∀ n ∈ ns, n ≤ 255) (hl : ns.length ≤ 3000) (S A : Nat) (hS : S ≤ 100000) (d : Nat) : ∀ (i k b : Nat) (a : List (List Nat)), i ≤ ns.length → ns.length - i ≤ d → d + 40000 < k → a.length + d ≤ 100000 → b + d ≤ 100000 →
    b + (all (ns.drop i)).2.1 = S → i + (all (ns.drop i)).2.2 = A →
    tallyroomlaw08_FrameAll.l0 k (ofN ns) ((a ++ (all (ns.drop i)).1).map ofN) (S : Int) (A : Int) (a.length : Int) (b : Int) (i : Int) = some true := by
  induction d with
  | zero =>
    intro i k b a hi hd hk ha hb hs hA
    obtain ⟨k, rfl⟩ : ∃ m, k = m + 1 := ⟨k - 1, by omega⟩
    have e : ns.drop i = [] := List.drop_of_length_le (by omega)
    rw [e, all_nil] at hs hA ⊢
    rw [tallyroomlaw08_FrameAll.l0, if_neg (by rw [ofN_length]; omega), if_pos (by simp), if_pos (by simp only at hs; omega)]
    simp only at hA
    have : A = i := by omega
    subst this; simp
  | succ d ih =>
    intro i k b a hi hd hk ha hb hs hA
    obtain ⟨k, rfl⟩ : ∃ m, k = m + 1 := ⟨k - 1, by omega⟩
    by_cases hlt : i < ns.length
    · have hdw : ∀ n ∈ ns.drop i, n ≤ 255 := fun n hn => hw n (List.mem_of_mem_drop hn)
      rw [tallyroomlaw08_FrameAll.l0, if_pos (by rw [ofN_length]; omega), if_pos (by omega), if_pos (by rw [ofN_length]; omega), Int.toNat_natCast, ofN_drop, rnext_eq _ hdw (by rw [List.length_drop]; omega) k (by rw [List.length_drop]; omega), Option.bind_some]
      have hle := next_le (ns.drop i)
      have hwf := next_wf hdw
      have hst := @all_stop (ns.drop i)
      have hnx := @all_next (ns.drop i)
      rw [List.length_drop] at hle
      generalize next (ns.drop i) = x at hle hwf hst hnx ⊢
      obtain ⟨x1, x2, x3⟩ := x
      simp only at hle hwf hst hnx
      by_cases h0 : x2 = 0
      · rw [hst h0] at hs hA ⊢
        simp only at hs hA
        rw [if_pos (show ((x2 : Nat) : Int) = 0 by omega), if_pos (by simp), if_pos (by omega)]
        have : A = i := by omega
        subst this; simp
      · have ew : wrap64 ((i : Int) + (x2 : Int)) = ((i + x2 : Nat) : Int) := by rw [IntWalk.wrap64_in _ (by omega)]; omega
        have ed : ns.drop (i + x2) = (ns.drop i).drop x2 := by rw [List.drop_drop]
        rw [if_neg (show ¬ ((x2 : Nat) : Int) = 0 by omega)]
        rw [hnx h0] at hs hA ⊢
        rw [← ed] at hs hA ⊢
        clear hst hnx
        generalize hrest : all (ns.drop (i + x2)) = rest at hs hA ⊢
        obtain ⟨r1, r2, r3⟩ := rest
        simp only at hs hA ⊢
        by_cases h2 : x3 = 0
        · rw [if_pos h2] at hs ⊢
          rw [if_pos (show ((x3 : Nat) : Int) = 0 by omega)]
          have hr := ih (i + x2) k b (a ++ [x1]) (by omega) (by omega) (by omega) (by rw [List.length_append]; simp; omega) (by omega) (by rw [hrest]; exact hs) (by rw [hrest]; simp only; omega)
          rw [hrest] at hr
          rw [List.append_assoc, List.singleton_append] at hr
          have ek : wrap64 ((a.length : Int) + 1) = (((a ++ [x1]).length : Nat) : Int) := by rw [IntWalk.wrap64_in _ (by omega)]; simp
          have eg : (a ++ x1 :: r1).getD a.length [] = x1 := by simp
          have el : ((a ++ x1 :: r1).map ofN).length = a.length + 1 + r1.length := by simp; omega
          rw [if_neg (by rw [el]; omega), if_pos (by omega), if_pos (by rw [el]; omega), rd_rows, eg, bytes_eq hwf hwf, Option.bind_some, if_pos (by simp), ew, ek]
          exact hr
        · rw [if_neg h2] at hs ⊢
          rw [if_neg (show ¬ ((x3 : Nat) : Int) = 0 by omega)]
          have hr := ih (i + x2) k (b + 1) a (by omega) (by omega) (by omega) (by omega) (by omega) (by rw [hrest]; simp only; omega) (by rw [hrest]; simp only; omega)
          rw [hrest] at hr
          have ek : wrap64 ((b : Int) + 1) = ((b + 1 : Nat) : Int) := by rw [IntWalk.wrap64_in _ (by omega)]; omega
          rw [ew, ek]
          exact hr
    · have e : ns.drop i = [] := List.drop_of_length_le (by omega)
      rw [e, all_nil] at hs hA ⊢
      rw [tallyroomlaw08_FrameAll.l0, if_neg (by rw [ofN_length]; omega), if_pos (by simp), if_pos (by simp only at hs; omega)]
      simp only at hA
      have : A = i := by omega
      subst this; simp
theorem FrameAll : tallyroomlaw08_FrameAll.Pure := by
  intro l0 _ h0 w0
  obtain ⟨ns, rfl, hw⟩ := ofN_byte w0
  refine ⟨100000, ?_⟩
  unfold tallyroomlaw08_FrameAll.f
  rw [alive08 (by omega), Option.bind_some, if_pos rfl]
  by_cases h : ns.length > 3000
  · rw [if_pos (by rw [ofN_length]; omega)]
  · rw [if_neg (by rw [ofN_length]; omega), all_eq ns hw (by omega) _ (by omega), Option.bind_some]
    have hb : (all ns).1.length + (all ns).2.1 ≤ ns.length ∧ (all ns).2.2 ≤ ns.length := all_bound (ns.length + 1) ns
    have := all_law ns hw (by omega) (all ns).2.1 (all ns).2.2 (by omega) 3000 0 100000 0 [] (by omega) (by omega) (by omega) (by simp) (by omega) (by simp) (by simp)
    simpa using this
end Go.Proofs.Ytbfmmjdbnbfnmaa.Pure
