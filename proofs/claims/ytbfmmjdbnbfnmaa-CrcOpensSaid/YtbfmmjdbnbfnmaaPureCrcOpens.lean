/- CrcOpens: what any bytes are opened as, and sealed, is the reference's. No conditions. -/
import Derived.Test.YtbfmmjdbnbfnmaaXDx8
import Derived.Test.YtbfmmjdbnbfnmaaCrcBase
namespace Go.Proofs.Ytbfmmjdbnbfnmaa.Pure
open Go.RowKit Go.Proofs.Ytbfmmjdbnbfnmaa.XD Go.Proofs.YtbfmmjdbnbfnmaaW.PrintWords Go.Proofs.YtbfmmjdbnbfnmaaW.PrintLast
open Go.Proofs.Ytbfmmjdbnbfnmaa.Var Go.Proofs.Ytbfmmjdbnbfnmaa.Crc

theorem CrcOpens : tallyroomlaw02_CrcOpens.Pure := by
  intro l _ hb hl
  obtain ⟨ns, rfl, hw⟩ := ofN_byte hl
  refine ⟨10 * ns.length + 30, ?_⟩
  unfold tallyroomlaw02_CrcOpens.f tallyroomlaw02_alive.f
  rw [Option.bind_some, if_pos rfl]
  by_cases h : ((ofN ns).length : Int) > 3000
  · rw [if_pos h]
  · rw [if_neg h]
    rw [ofN_length] at h hb
    rw [sealed_eq ns hw (by omega) _ (by omega), Option.bind_some, Option.bind_some, List.length_nil, List.nil_append, if_pos (by rw [ofN_length]; omega), Option.bind_some]
    rw [rsum_eq ns hw (by omega) _ (by omega), Option.bind_some, rtail_eq _ (sum_lt _), Option.bind_some, if_pos (by rw [ofN_length, ofN_length]; simp [le4]; omega), ← ofN_append]
    rw [bytes_eq (sealed_wf hw) (mem_app hw (le4_wf _)), Option.bind_some, if_pos (by exact decide_eq_true rfl)]
    rw [open_eq ns hw (by omega) _ (by omega), Option.bind_some]
    unfold opened
    by_cases h4 : ns.length < 4
    · rw [if_pos (by rw [ofN_length]; omega), if_pos h4]; rfl
    · have e : wrap64 (((ofN ns).length : Int) - 4) = ((ns.length - 4 : Nat) : Int) := by rw [ofN_length, IntWalk.wrap64_in _ (by omega)]; omega
      have ht : ∀ x ∈ ns.take (ns.length - 4), x ≤ 255 := fun x hx => hw x (List.mem_of_mem_take hx)
      have hd : ∀ x ∈ ns.drop (ns.length - 4), x ≤ 255 := fun x hx => hw x (List.mem_of_mem_drop hx)
      rw [if_neg (by rw [ofN_length]; omega), if_neg h4, e, if_pos (by omega), if_pos (by rw [ofN_length]; omega), Int.toNat_natCast, ofN_take, ofN_drop]
      rw [rsum_eq _ ht (by rw [List.length_take]; omega) _ (by rw [List.length_take]; omega), Option.bind_some, rtail_eq _ (sum_lt _), Option.bind_some, bytes_eq hd (le4_wf _), Option.bind_some]
      by_cases he : ns.drop (ns.length - 4) = le4 (sum (ns.take (ns.length - 4)))
      · rw [if_pos (by simpa using he), if_pos he, if_pos (by rfl), bytes_eq ht ht, Option.bind_some]
        simp
      · rw [if_neg (by simpa using he), if_neg he, if_pos (by rfl)]
        rfl

end Go.Proofs.Ytbfmmjdbnbfnmaa.Pure
