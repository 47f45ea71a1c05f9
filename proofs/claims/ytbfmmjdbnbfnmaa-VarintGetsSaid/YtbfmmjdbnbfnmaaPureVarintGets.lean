/- VarintGets: the number with which any bytes begin is the reference's. No conditions. -/
import Derived.Test.YtbfmmjdbnbfnmaaXDx2
import Derived.Test.YtbfmmjdbnbfnmaaVarLaws
namespace Go.Proofs.Ytbfmmjdbnbfnmaa.Pure
open Go.RowKit Go.Proofs.Ytbfmmjdbnbfnmaa.XD Go.Proofs.YtbfmmjdbnbfnmaaW.PrintWords Go.Proofs.YtbfmmjdbnbfnmaaW.PrintLast
open Go.Proofs.Ytbfmmjdbnbfnmaa.Var

theorem VarintGets : tallyroomlaw01_VarintGets.Pure := by
  intro l _ hb hl
  obtain ⟨ns, rfl, hw⟩ := ofN_byte hl
  refine ⟨2 * ns.length + 20, ?_⟩
  unfold tallyroomlaw01_VarintGets.f
  rw [alive01 (by omega), Option.bind_some, if_pos rfl]
  by_cases h : ((ofN ns).length : Int) > 100
  · rw [if_pos h]
  · rw [ofN_length] at h hb
    rw [ofN_length, if_neg h, get ns hw (by omega) _ (by omega), rget ns hw _ (by omega)]
    simp

end Go.Proofs.Ytbfmmjdbnbfnmaa.Pure
