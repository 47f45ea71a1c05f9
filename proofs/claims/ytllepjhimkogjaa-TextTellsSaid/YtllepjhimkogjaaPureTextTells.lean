/- TextTells: of any text, whether it is right, how many runes it has, what it is cleaned to, and whether it may be a key. No conditions. -/
import Derived.Test.YtllepjhimkogjaaXXx0
import Derived.Test.YtllepjhimkogjaaXXx19
import Derived.Test.YtllepjhimkogjaaTq
import Derived.Test.YtllepjhimkogjaaTk
namespace Go.Proofs.Ytllepjhimkogjaa.Pure
open Go.RowKit Go.Proofs.Ytllepjhimkogjaa.XX Go.Proofs.YtllepjhimkogjaaW.PrintWords Go.Proofs.YtllepjhimkogjaaW.PrintLast
open Go.Proofs.Ytllepjhimkogjaa.Txt Go.Proofs.Ytllepjhimkogjaa.Tp

theorem TextTells : tallyroomlaw03_TextTells.Pure := by
  intro a ha
  refine ⟨3000, ?_⟩
  unfold tallyroomlaw03_TextTells.f
  rw [alive03, Option.bind_some, if_pos rfl]
  by_cases h : (a.size : Int) > 2000
  · rw [if_pos h]
  · rw [if_neg h, right_eq _ (by omega), Option.bind_some, rright _ (by omega) _ (by omega), Option.bind_some, if_pos (by simp), count_eq _ (by omega), Option.bind_some, rcount _ (by omega) _ (by omega), Option.bind_some, if_pos rfl,
      clean_eq _ (by omega), Option.bind_some, rclean _ (by omega) _ (by omega), Option.bind_some, if_pos rfl, key_eq _ (by omega), Option.bind_some, rkey _ (by omega) _ (by omega), Option.bind_some]
    simp
end Go.Proofs.Ytllepjhimkogjaa.Pure
