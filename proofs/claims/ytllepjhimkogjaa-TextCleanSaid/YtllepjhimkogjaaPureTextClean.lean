/- TextClean: what is clean is right, stays as it is, has as many runes; what is cut is the longest beginning that may be. No conditions. -/
import Derived.Test.YtllepjhimkogjaaXXx23
import Derived.Test.YtllepjhimkogjaaTp
namespace Go.Proofs.Ytllepjhimkogjaa.Pure
open Go.RowKit Go.Proofs.Ytllepjhimkogjaa.XX Go.Proofs.YtllepjhimkogjaaW.PrintWords Go.Proofs.YtllepjhimkogjaaW.PrintLast
open Go.Proofs.Ytllepjhimkogjaa.Txt Go.Proofs.Ytllepjhimkogjaa.Tp

theorem clean_j1 (k : Nat) (a : ByteArray) (n : Nat) (h : a.size ≤ 2000) : tallyroomlaw03_TextClean.j1 (k + 1) a (B (cut n (D a))) false = some true := by
  have hc : (cut n (D a)).length ≤ a.size := by
    have := congrArg List.length (cut_us n (D a)).2.2
    rw [List.length_take, D_len] at this; omega
  rw [tallyroomlaw03_TextClean.j1, if_neg (by simp), B_size]
  by_cases e : ((cut n (D a)).length : Int) = a.size
  · rw [if_pos e]
  · have n1 := count_le (cut n (D a))
    have n2 := count_le ((D a).drop (cut n (D a)).length)
    rw [List.length_drop, D_len] at n2
    rw [if_neg e, count_eq _ (by rw [B_size]; omega), Option.bind_some, if_pos (by omega), if_pos (by omega), Int.toNat_natCast,
      count_eq _ (by rw [← D_len, D_extract, List.length_take]; omega), Option.bind_some, count_eq _ (by omega), Option.bind_some, D_B, D_extract,
      List.take_of_length_le (by rw [List.length_drop, D_len]; omega), IntWalk.wrap64_in _ (by omega)]
    have := cut_count n (D a)
    rw [← this]; simp
theorem TextClean : tallyroomlaw03_TextClean.Pure := by
  intro a n ha hn
  have hn : 0 ≤ n ∧ n ≤ 255 := by simpa [Lit.wf, IntKind.min, IntKind.max, IntKind.signed, IntKind.bits] using hn
  refine ⟨2, ?_⟩
  unfold tallyroomlaw03_TextClean.f
  rw [alive03, Option.bind_some, if_pos rfl]
  by_cases h : (a.size : Int) > 2000
  · rw [if_pos h]
  · have c1 := clean_len (D a)
    rw [D_len] at c1
    rw [if_neg h, clean_eq _ (by omega), Option.bind_some, right_eq _ (by rw [B_size]; omega), Option.bind_some, D_B, clean_right, if_pos rfl, clean_eq _ (by rw [B_size]; omega), Option.bind_some,
      if_pos (by rw [toList_iff, D_B, D_B, clean_clean]), count_eq _ (by rw [B_size]; omega), Option.bind_some, count_eq _ (by omega), Option.bind_some, D_B, clean_count]
    have e0 : ((((count (D a) : Nat) : Int)) != ((count (D a) : Nat) : Int)) = false := by simp
    have hw : wrap64 n = n := IntWalk.wrap64_in _ (by omega)
    rw [e0, tallyroomlaw03_TextClean.j0, if_neg (by simp), hw, cut_eq _ _ (by omega), Option.bind_some]
    have hl := cut_len n.toNat (D a)
    have hp := (cut_us n.toNat (D a)).2.2
    have hc : (cut n.toNat (D a)).length ≤ a.size := by
      have := congrArg List.length hp
      rw [List.length_take, D_len] at this; omega
    rw [B_size, if_neg (by omega), if_neg (by omega), if_pos (by omega), if_pos (by omega), if_pos (by rw [toList_iff, D_B, D_extract, List.drop_zero, Nat.sub_zero, Int.toNat_natCast]; exact hp.symm), right_eq _ (by omega), Option.bind_some]
    have e1 : ((B (cut n.toNat (cut n.toNat (D a)))).toList != (B (cut n.toNat (D a))).toList) = false := by rw [cut_cut]; simp
    by_cases hr : right (D a) = true
    · rw [if_pos hr, right_eq _ (by rw [B_size]; omega), Option.bind_some, D_B, cut_right _ _ hr, if_pos rfl, cut_eq _ _ (by rw [B_size]; omega), Option.bind_some, D_B, e1]
      exact clean_j1 0 a _ (by omega)
    · rw [if_neg hr, cut_eq _ _ (by rw [B_size]; omega), Option.bind_some, D_B, e1]
      exact clean_j1 0 a _ (by omega)
end Go.Proofs.Ytllepjhimkogjaa.Pure
