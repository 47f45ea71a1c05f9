/- What the document's Next and Wrap answer: as the program's. No conditions. -/
import Derived.Test.YtbfmmjdbnbfnmaaXHx19
import Derived.Test.YtbfmmjdbnbfnmaaFrameKitH
namespace Go.Proofs.Ytbfmmjdbnbfnmaa.Frm
open Go.RowKit Go.Proofs.Ytbfmmjdbnbfnmaa.XH Go.Proofs.YtbfmmjdbnbfnmaaW.PrintWords Go.Proofs.YtbfmmjdbnbfnmaaW.PrintLast
open Go.Proofs.Ytbfmmjdbnbfnmaa.Var Go.Proofs.Ytbfmmjdbnbfnmaa.Crc

theorem str_eq {a b : List Nat} (ha : ∀ x ∈ a, x ≤ 255) (hb : ∀ x ∈ b, x ≤ 255) : ((strOfNums (ofN a)).toList = (strOfNums (ofN b)).toList) = (a = b) := propext ⟨fun e => by rw [← strOfNums_ofN a ha, ← strOfNums_ofN b hb, e], fun e => by rw [e]⟩
/-- The frame that comes next, cut out of all bytes: its body and its sum. -/
theorem cut_parts (l : List Nat) (j n : Nat) (h : j + n + 4 ≤ l.length) :
    opened ((l.take (j + n + 4)).drop j) = if (l.take (j + n + 4)).drop (j + n) = le4 (sum ((l.take (j + n)).drop j)) then ((l.take (j + n)).drop j, 0) else ([], 12) := by
  have e0 : ((l.take (j + n + 4)).drop j).length = n + 4 := by rw [List.length_drop, List.length_take]; omega
  unfold opened
  rw [e0, if_neg (by omega), show n + 4 - 4 = n by omega, List.drop_drop]
  have e1 : ((l.take (j + n + 4)).drop j).take n = (l.take (j + n)).drop j := by
    rw [List.drop_take, List.drop_take, List.take_take, Nat.min_eq_left (by omega), show j + n - j = n by omega]
  rw [e1]
theorem rnext_eq (ns : List Nat) (hw : ∀ n ∈ ns, n ≤ 255) (hl : ns.length ≤ 1000000) (k : Nat) (hk : 10 * ns.length + 10 < k) :
    tallyroomref08_Next.f k (ofN ns) = some (ofN (next ns).1, ((next ns).2.1 : Int), ((next ns).2.2 : Int)) := by
  unfold tallyroomref08_Next.f
  have hg : tallyroomref01_Get.f k (ofN ns) = some ((((vget ns).1 : Nat) : Int), (((vget ns).2.1 : Nat) : Int), (((vget ns).2.2 : Nat) : Int)) := rget ns hw k (by omega)
  rw [hg, Option.bind_some]
  unfold next
  have hb := vg_bounds ns 0 0
  rw [show vg 0 0 ns = vget ns from rfl] at hb
  generalize (vget ns).1 = n at hb ⊢
  generalize (vget ns).2.1 = j at hb ⊢
  generalize (vget ns).2.2 = e at hb ⊢
  by_cases he : e = 0
  · subst he
    have hb := hb rfl
    rw [if_pos (show ((((n : Nat) : Int), ((j : Nat) : Int), ((0 : Nat) : Int)) : Int × Int × Int).2.2 = 0 from rfl), if_neg (show ¬ (0 : Nat) ≠ 0 by simp)]
    by_cases h1 : n > 65536
    · rw [if_pos (show (n : Int) > 65536 by omega), if_pos h1]; rfl
    · rw [if_neg (show ¬ (n : Int) > 65536 by omega), if_neg h1]
      have e0 : wrap64 ((j : Int) + wrap64 (n : Int)) = ((j + n : Nat) : Int) := by
        rw [IntWalk.wrap64_in (n : Int) (by omega), IntWalk.wrap64_in ((j : Int) + n) (by omega)]; omega
      have e1 : wrap64 (((j + n : Nat) : Int) + 4) = ((j + n + 4 : Nat) : Int) := by
        rw [IntWalk.wrap64_in _ (by omega)]; omega
      simp only [e0, e1]
      by_cases h2 : j + n + 4 > ns.length
      · rw [if_pos (by rw [ofN_length]; omega), if_pos h2]; rfl
      · rw [if_neg (by rw [ofN_length]; omega), if_neg h2, if_pos (by omega), if_pos (by omega), if_pos (by rw [ofN_length]; omega), Option.bind_some, if_pos (by omega), if_pos (by omega), if_pos (by rw [ofN_length]; omega), Int.toNat_natCast, Int.toNat_natCast, Int.toNat_natCast, ofN_take, ofN_drop, ofN_take, ofN_drop, cut_parts ns j n (by omega)]
        have hcw : ∀ x ∈ (ns.take (j + n)).drop j, x ≤ 255 := fun x hx => hw x (List.mem_of_mem_take (List.mem_of_mem_drop hx))
        have htw : ∀ x ∈ (ns.take (j + n + 4)).drop (j + n), x ≤ 255 := fun x hx => hw x (List.mem_of_mem_take (List.mem_of_mem_drop hx))
        have hcl : ((ns.take (j + n)).drop j).length ≤ ns.length := by rw [List.length_drop, List.length_take]; omega
        rw [rsum_eq _ hcw (by omega) k (by omega), Option.bind_some, rtail_eq _ (sum_lt _), Option.bind_some]
        have hq := str_eq htw (le4_wf (sum ((ns.take (j + n)).drop j)))
        by_cases hs : (ns.take (j + n + 4)).drop (j + n) = le4 (sum ((ns.take (j + n)).drop j))
        · rw [if_pos (hq.mpr hs), if_pos hs]; rfl
        · rw [if_neg (fun h => hs (hq.mp h)), if_neg hs]; rfl
  · rw [if_neg (show ¬ (e : Int) = 0 by omega), if_pos he]; rfl
end Go.Proofs.Ytbfmmjdbnbfnmaa.Frm
