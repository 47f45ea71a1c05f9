/- VarintBack: what was put is got, with whatever behind it, and signs come back. No conditions. -/
import Derived.Test.YtbfmmjdbnbfnmaaXDx5
import Derived.Test.YtbfmmjdbnbfnmaaVarLaws
namespace Go.Proofs.Ytbfmmjdbnbfnmaa.Pure
open Go.RowKit Go.Proofs.Ytbfmmjdbnbfnmaa.XD Go.Proofs.YtbfmmjdbnbfnmaaW.PrintWords Go.Proofs.YtbfmmjdbnbfnmaaW.PrintLast
open Go.Proofs.Ytbfmmjdbnbfnmaa.Var

theorem back_loop (n m : Nat) (hn : n < 2 ^ 64) (hm : m < 2 ^ 64) (d : Nat) : ∀ (i k : Nat), i + d = (vput n).length → d + 30 < k →
    tallyroomlaw01_VarintBack.l0 k (n : Int) (m : Int) (ofN (vput n)) (ofN (vput m)) (i : Int) = some true := by
  have hlen := vput_length_le n hn
  induction d with
  | zero =>
    intro i k hi hk
    obtain ⟨k, rfl⟩ : ∃ j, k = j + 1 := ⟨k - 1, by omega⟩
    rw [tallyroomlaw01_VarintBack.l0, if_neg (by rw [ofN_length]; omega)]
    by_cases h : ((ofN (vput n)).length : Int) ≤ ((ofN (vput m)).length : Int)
    · rw [if_pos h, if_pos (by omega), Int.toNat_natCast, ofN_length, ofN_take, bytes_eq (vput_wf n) (fun x hx => vput_wf m x (List.mem_of_mem_take hx)), Option.bind_some]
      by_cases e : n = m
      · subst e; simp
      · have : ¬ vput n = (vput m).take (vput n).length := by
          intro h1
          apply e
          apply vput_inj hn hm (a := (vput m).drop (vput n).length) (b := [])
          rw [List.append_nil]
          conv => lhs; lhs; rw [h1]
          exact List.take_append_drop _ _
        rw [decide_eq_false this, show ((n : Int) == (m : Int)) = false from beq_eq_false_iff_ne.2 (by omega)]
        rfl
    · rw [if_neg h]
      have : ¬ n = m := by rintro rfl; omega
      rw [show ((n : Int) == (m : Int)) = false from beq_eq_false_iff_ne.2 (by omega)]
      rfl
  | succ d ih =>
    intro i k hi hk
    obtain ⟨k, rfl⟩ : ∃ j, k = j + 1 := ⟨k - 1, by omega⟩
    rw [tallyroomlaw01_VarintBack.l0, if_pos (by rw [ofN_length]; omega), if_pos (by omega), if_pos (by rw [ofN_length]; omega), Int.toNat_natCast, ofN_take]
    rw [get _ (fun x hx => vput_wf n x (List.mem_of_mem_take hx)) (by rw [List.length_take]; omega) k (by rw [List.length_take]; omega), Option.bind_some, vget_cut n i hn (by omega)]
    rw [if_pos (by rfl), IntWalk.wrap64_in _ (by omega), show (i : Int) + 1 = ((i + 1 : Nat) : Int) by omega]
    exact ih (i + 1) k (by omega) (by omega)
theorem VarintBack : tallyroomlaw01_VarintBack.Pure := by
  intro a b z l ha hb hz _ hlb hl
  obtain ⟨ns, rfl, hw⟩ := ofN_byte hl
  have ha := u64_wf ha
  obtain ⟨n, rfl⟩ := Int.eq_ofNat_of_zero_le ha.1
  have hb := u64_wf hb
  obtain ⟨m, rfl⟩ := Int.eq_ofNat_of_zero_le hb.1
  have hz := i64_wf hz
  have hn : n < 2 ^ 64 := by omega
  have hm : m < 2 ^ 64 := by omega
  have hlen := vput_length_le n hn
  refine ⟨300, ?_⟩
  unfold tallyroomlaw01_VarintBack.f
  rw [alive01 (by omega), Option.bind_some, if_pos rfl]
  by_cases h : ((ofN ns).length : Int) > 100
  · rw [if_pos h]
  · rw [ofN_length] at h hlb
    rw [if_neg (by rw [ofN_length]; exact h), put 300 n [] hn (by omega) (by simp), Option.bind_some, put 300 m [] hm (by omega) (by simp), Option.bind_some, Option.bind_some]
    simp only [List.nil_append]
    rw [if_pos (by rw [ofN_length]; simp; omega), Option.bind_some, if_pos (by rw [ofN_length, ofN_length]; omega), ← ofN_append]
    have hg : varint_Get.f 300 (ofN (vput n ++ ns)) = some ((n : Int), ((vput n).length : Int), (0 : Int)) := by
      rw [get _ (mem_app (vput_wf n) hw) (by rw [List.length_append]; omega) 300 (by rw [List.length_append]; omega), vget_put n ns hn]; rfl
    rw [hg, Option.bind_some, if_pos (by rfl), if_pos (by rfl), if_pos (by rw [ofN_length]), zig z hz, Option.bind_some]
    have e1 : varint_Zag.f (if 0 ≤ z then 2 * z else -2 * z - 1) = some z := by
      rw [zag _ (by split <;> omega)]
      congr 1
      split <;> split <;> omega
    rw [e1, Option.bind_some, if_pos rfl, zag (n : Int) ha, Option.bind_some]
    have e2 : varint_Zig.f (if (n : Int) % 2 = 0 then (n : Int) / 2 else -1 - (n : Int) / 2) = some (n : Int) := by
      rw [zig _ (by split <;> omega)]
      congr 1
      split <;> split <;> omega
    rw [e2, Option.bind_some, tallyroomlaw01_VarintBack.j0, if_neg (by simp)]
    exact back_loop n m hn hm (vput n).length 0 299 (by omega) (by omega)

end Go.Proofs.Ytbfmmjdbnbfnmaa.Pure
