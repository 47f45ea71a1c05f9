/- TextCuts: any text, cut anywhere, clean or not. No conditions. -/
import Derived.Test.YtllepjhimkogjaaXXx0
import Derived.Test.YtllepjhimkogjaaXXx21
import Derived.Test.YtllepjhimkogjaaXXx22
import Derived.Test.YtllepjhimkogjaaTq
namespace Go.Proofs.Ytllepjhimkogjaa.Pure
open Go.RowKit Go.Proofs.Ytllepjhimkogjaa.XX Go.Proofs.YtllepjhimkogjaaW.PrintWords Go.Proofs.YtllepjhimkogjaaW.PrintLast
open Go.Proofs.Ytllepjhimkogjaa.Txt Go.Proofs.Ytllepjhimkogjaa.Tp

theorem TextCuts : tallyroomlaw03_TextCuts.Pure := by
  intro a n ha _
  refine ⟨3000, ?_⟩
  unfold tallyroomlaw03_TextCuts.f
  rw [alive03, Option.bind_some, if_pos rfl]
  by_cases h : (a.size : Int) > 2000
  · rw [if_pos h]
  · have c1 := clean_len (D a)
    rw [D_len] at c1
    have e : text_Label.f a n = some (B (cut n.toNat (clean (D a)))) := by
      unfold text_Label.f
      rw [clean_eq _ (by omega), Option.bind_some, cut_eq _ _ (by rw [B_size]; omega), Option.bind_some, D_B]
    rw [if_neg h, cut_eq _ _ (by omega), Option.bind_some, rcut _ _ (by omega) _ (by omega), Option.bind_some, if_pos rfl, e, Option.bind_some, rclean _ (by omega) _ (by omega), Option.bind_some, rcut _ _ (by rw [B_size]; omega) _ (by rw [B_size]; omega), Option.bind_some, D_B]
    simp
end Go.Proofs.Ytllepjhimkogjaa.Pure
