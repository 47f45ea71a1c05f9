/- VarintPuts: the bytes of any number behind any others are the reference's. No conditions. -/
import Derived.Test.YtbfmmjdbnbfnmaaXDx4
import Derived.Test.YtbfmmjdbnbfnmaaVarLaws
namespace Go.Proofs.Ytbfmmjdbnbfnmaa.Pure
open Go.RowKit Go.Proofs.Ytbfmmjdbnbfnmaa.XD Go.Proofs.YtbfmmjdbnbfnmaaW.PrintWords Go.Proofs.YtbfmmjdbnbfnmaaW.PrintLast
open Go.Proofs.Ytbfmmjdbnbfnmaa.Var

theorem VarintPuts : tallyroomlaw01_VarintPuts.Pure := by
  intro l n z _ hb hl hn hz
  obtain ⟨ns, rfl, hw⟩ := ofN_byte hl
  have hn := u64_wf hn
  obtain ⟨n, rfl⟩ := Int.eq_ofNat_of_zero_le hn.1
  have hz := i64_wf hz
  have h64 : n < 2 ^ 64 := by omega
  have hlen := vput_length_le n h64
  have hpos := vput_pos n
  refine ⟨21, ?_⟩
  unfold tallyroomlaw01_VarintPuts.f
  rw [alive01 (by omega), Option.bind_some, if_pos rfl]
  by_cases h : ((ofN ns).length : Int) > 100
  · rw [if_pos h]
  · rw [ofN_length] at h hb
    rw [if_neg (by rw [ofN_length]; exact h), Option.bind_some, if_pos (by rw [ofN_length]; simp; omega), Option.bind_some, List.nil_append]
    rw [put 21 n (ofN ns) h64 (by omega) (by rw [ofN_length]; omega), Option.bind_some, rput 21 n h64 (by omega), Option.bind_some, Option.bind_some, if_pos (by rw [ofN_length]; simp; omega), Option.bind_some, List.nil_append]
    rw [if_pos (by rw [ofN_length, ofN_length]; omega), ← ofN_append, bytes_eq (mem_app hw (vput_wf n)) (mem_app hw (vput_wf n)), Option.bind_some, decide_eq_true rfl, if_pos rfl]
    rw [size 20 n h64, Option.bind_some, ofN_length, if_pos rfl, bytes_eq hw hw, Option.bind_some, decide_eq_true rfl]
    rw [tallyroomlaw01_VarintPuts.j0, if_neg (by simp), if_pos (by rw [ofN_length, List.length_append]; omega), bytes_eq hw hw, Option.bind_some, decide_eq_true rfl, if_pos rfl, zig z hz, Option.bind_some, rzig z hz, Option.bind_some]
    simp

end Go.Proofs.Ytbfmmjdbnbfnmaa.Pure
