/- TextJoins: of right texts one behind the other the runes add up, clean ones are the clean ones one behind the other, and a cut at the first one's end is that. No conditions. -/
import Derived.Test.YtllepjhimkogjaaXXx24
import Derived.Test.YtllepjhimkogjaaTp
namespace Go.Proofs.Ytllepjhimkogjaa.Pure
open Go.RowKit Go.Proofs.Ytllepjhimkogjaa.XX Go.Proofs.YtllepjhimkogjaaW.PrintWords Go.Proofs.YtllepjhimkogjaaW.PrintLast
open Go.Proofs.Ytllepjhimkogjaa.Txt Go.Proofs.Ytllepjhimkogjaa.Tp

theorem joins_go (k : Nat) (a b : ByteArray) (x : Bool) (h : x = false → a.size + b.size ≤ 2000 ∧ right (D a) = true ∧ right (D b) = true) : tallyroomlaw03_TextJoins.j0 (k + 1) a b x = some true := by
  rw [tallyroomlaw03_TextJoins.j0]
  cases x with
  | true => rw [if_pos rfl]
  | false =>
    obtain ⟨hs, ha, hb⟩ := h rfl
    have hsz : (a ++ b).size = a.size + b.size := ByteArray.size_append
    have ca := clean_len (D a)
    have cb := clean_len (D b)
    have na := count_le (D a)
    have nb := count_le (D b)
    rw [D_len] at ca cb na nb
    rw [if_neg (by simp), if_pos (by omega), right_eq _ (by omega), Option.bind_some, D_append, right_app _ _ ha hb, if_pos rfl,
      count_eq _ (by omega), Option.bind_some, count_eq _ (by omega), Option.bind_some, count_eq _ (by omega), Option.bind_some, D_append, count_app _ _ ha,
      IntWalk.wrap64_in _ (by omega), if_pos (by omega), clean_eq _ (by omega), Option.bind_some, clean_eq _ (by omega), Option.bind_some, clean_eq _ (by omega), Option.bind_some,
      if_pos (by rw [B_size, B_size]; omega), if_pos (by rw [toList_iff, D_append, D_append, D_B, D_B, D_B, clean_app _ _ ha]), cut_eq _ _ (by omega), Option.bind_some,
      if_pos (by rw [toList_iff, D_B, D_append]; exact cut_app _ _ ha), cut_eq _ _ (by omega), Option.bind_some,
      if_pos (by rw [toList_iff, D_B]; exact cut_all _ _ (by rw [D_len]; omega)), cut_eq _ _ (by omega), Option.bind_some, toList_D, D_B]
    have := cut_len 0 (D (a ++ b))
    have e0 : cut 0 (D (a ++ b)) = [] := List.length_eq_zero_iff.1 (by omega)
    rw [show (0 : Int).toNat = 0 from rfl, e0]
    rfl
theorem TextJoins : tallyroomlaw03_TextJoins.Pure := by
  intro a b ha hb
  refine ⟨1, ?_⟩
  unfold tallyroomlaw03_TextJoins.f
  rw [alive03, Option.bind_some, if_pos rfl, IntWalk.wrap64_in _ (by omega)]
  by_cases h : (a.size : Int) + b.size > 2000
  · rw [if_pos h]; exact joins_go 0 a b true (by simp)
  · rw [if_neg h, right_eq _ (by omega), Option.bind_some]
    by_cases ra : right (D a) = true
    · rw [if_pos ra, right_eq _ (by omega), Option.bind_some]
      exact joins_go 0 a b _ fun e => ⟨by omega, ra, by simpa using e⟩
    · rw [if_neg ra]; exact joins_go 0 a b true (by simp)
end Go.Proofs.Ytllepjhimkogjaa.Pure
