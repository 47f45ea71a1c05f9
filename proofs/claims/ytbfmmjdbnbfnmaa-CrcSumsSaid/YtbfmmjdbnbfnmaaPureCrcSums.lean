/- CrcSums: the sum of any bytes, in one or by parts, is the reference's. No conditions. -/
import Derived.Test.YtbfmmjdbnbfnmaaXDx7
import Derived.Test.YtbfmmjdbnbfnmaaCrcBase
namespace Go.Proofs.Ytbfmmjdbnbfnmaa.Pure
open Go.RowKit Go.Proofs.Ytbfmmjdbnbfnmaa.XD Go.Proofs.YtbfmmjdbnbfnmaaW.PrintWords Go.Proofs.YtbfmmjdbnbfnmaaW.PrintLast
open Go.Proofs.Ytbfmmjdbnbfnmaa.Var Go.Proofs.Ytbfmmjdbnbfnmaa.Crc

theorem CrcSums : tallyroomlaw02_CrcSums.Pure := by
  intro l a _ hb hl ha
  obtain ⟨ns, rfl, hw⟩ := ofN_byte hl
  have ha := u16_wf ha
  obtain ⟨a, rfl⟩ := Int.eq_ofNat_of_zero_le ha.1
  refine ⟨10 * ns.length + 10, ?_⟩
  unfold tallyroomlaw02_CrcSums.f tallyroomlaw02_alive.f
  rw [Option.bind_some, if_pos rfl]
  by_cases h : ((ofN ns).length : Int) > 3000
  · rw [if_pos h]
  · rw [if_neg h]
    rw [ofN_length] at h hb
    have e1 : wrap64 (((ofN ns).length : Int) + 1) = ((ns.length + 1 : Nat) : Int) := by rw [ofN_length, IntWalk.wrap64_in _ (by omega)]; omega
    have e2 : Int.tmod (wrap64 ((a : Nat) : Int)) ((ns.length + 1 : Nat) : Int) = ((a % (ns.length + 1) : Nat) : Int) := by
      rw [IntWalk.wrap64_in _ (by omega), Int.tmod_eq_emod_of_nonneg (by omega)]; omega
    have hm := Nat.mod_lt a (show 0 < ns.length + 1 by omega)
    rw [e1, e2]
    generalize a % (ns.length + 1) = j at hm ⊢
    have ht : ∀ x ∈ ns.take j, x ≤ 255 := fun x hx => hw x (List.mem_of_mem_take hx)
    have hd : ∀ x ∈ ns.drop j, x ≤ 255 := fun x hx => hw x (List.mem_of_mem_drop hx)
    rw [if_neg (by omega), rsum_eq ns hw (by omega) _ (by omega), Option.bind_some, sum_eq ns hw (by omega) _ (by omega), Option.bind_some, if_pos rfl, if_pos (by omega), if_pos (by rw [ofN_length]; omega), Int.toNat_natCast, ofN_take, ofN_drop]
    rw [sum_eq _ ht (by rw [List.length_take]; omega) _ (by rw [List.length_take]; omega), Option.bind_some, more_eq _ hd (by rw [List.length_drop]; omega) _ _ (by rw [List.length_drop]; omega) (sum_lt _), Option.bind_some]
    have e3 : more (sum (ns.take j)) (ns.drop j) = sum ns := by
      unfold sum
      rw [← more_append 0 _ _ ht, List.take_append_drop]
    rw [e3, if_pos rfl]
    have := more_eq ns hw (by omega) (10 * ns.length + 10) 0 (by omega) (by omega)
    rw [show ((0 : Nat) : Int) = 0 by rfl] at this
    rw [this, Option.bind_some]
    simp [sum]

end Go.Proofs.Ytbfmmjdbnbfnmaa.Pure
