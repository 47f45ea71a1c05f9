/- What the document's Key is in plain words. No conditions but a bound on the length. -/
import Derived.Test.YtllepjhimkogjaaXXx0
import Derived.Test.YtllepjhimkogjaaXXx18
import Derived.Test.YtllepjhimkogjaaTr
namespace Go.Proofs.Ytllepjhimkogjaa.Tp
open Go.RowKit Go.Proofs.Ytllepjhimkogjaa.XX Go.Proofs.YtllepjhimkogjaaW.PrintWords Go.Proofs.YtllepjhimkogjaaW.PrintLast
open Go.Proofs.Ytllepjhimkogjaa.Txt Go.Proofs.Ytllepjhimkogjaa.Tw

theorem by_rest (s : ByteArray) (pos : Nat) : ((rest s pos).getD 0 0).toNat = by' s pos := by
  unfold by' rest D
  rw [List.getD_eq_getElem?_getD, List.getD_eq_getElem?_getD, List.getElem?_drop, Nat.add_zero]
theorem key_round (s : ByteArray) (pos k : Nat) (hs : s.size ≤ 1000000) (h : pos < s.size) :
    tallyroomref03_Key.l0 (k + 1) s (pos : Int) = if byteOk (by' s pos) pos = true then tallyroomref03_Key.l0 k s ((pos + 1 : Nat) : Int) else some false := by
  rw [tallyroomref03_Key.l0, if_pos (by omega), if_pos (by omega), bt_by, IntWalk.wrap64_in _ (by omega), show (pos : Int) + 1 = ((pos + 1 : Nat) : Int) by omega]
  generalize by' s pos = b
  generalize tallyroomref03_Key.l0 k s ((pos + 1 : Nat) : Int) = R
  by_cases hb : byteOk b pos = true
  · rw [if_pos hb]
    have hb' := of_decide_eq_true hb
    clear hb
    repeat' split
    all_goals first | rfl | (exfalso; omega)
  · rw [if_neg hb]
    have hb' := of_decide_eq_false (Bool.not_eq_true _ ▸ hb)
    clear hb
    repeat' split
    all_goals first | rfl | (exfalso; omega)
theorem rkey_loop (s : ByteArray) (hs : s.size ≤ 1000000) (d : Nat) : ∀ (pos k : Nat), pos ≤ s.size → s.size - pos ≤ d → d < k → tallyroomref03_Key.l0 k s (pos : Int) = some (keyL pos (rest s pos) && decide (1 ≤ s.size ∧ s.size ≤ 64)) := by
  have fin : ∀ (pos k : Nat), pos ≤ s.size → ¬ pos < s.size → tallyroomref03_Key.l0 (k + 1) s (pos : Int) = some (keyL pos (rest s pos) && decide (1 ≤ s.size ∧ s.size ≤ 64)) := by
    intro pos k hp h
    rw [tallyroomref03_Key.l0, if_neg (by omega), rest_end h, keyL, Bool.true_and]
    by_cases h1 : (s.size : Int) ≥ 1
    · rw [if_pos h1]
      congr 1
      exact decide_eq_decide.2 (by omega)
    · rw [if_neg h1, decide_eq_false (by omega)]
  induction d with
  | zero =>
    intro pos k hp hd hk
    obtain ⟨k, rfl⟩ : ∃ m, k = m + 1 := ⟨k - 1, by omega⟩
    exact fin pos k hp (by omega)
  | succ d ih =>
    intro pos k hp hd hk
    obtain ⟨k, rfl⟩ : ∃ m, k = m + 1 := ⟨k - 1, by omega⟩
    by_cases h : pos < s.size
    · rw [key_round s pos k hs h, rest_cons h, keyL, by_rest]
      cases hb : byteOk (by' s pos) pos with
      | false => rw [if_neg (by simp)]; rfl
      | true => rw [if_pos rfl, ih _ k (by omega) (by omega) (by omega)]; rfl
    · exact fin pos k hp h
theorem rkey (s : ByteArray) (hs : s.size ≤ 1000000) (k : Nat) (hk : s.size < k) : tallyroomref03_Key.f k s = some (key (D s)) := by
  have := rkey_loop s hs s.size 0 k (by omega) (by omega) hk
  rw [rest_zero] at this
  exact this
end Go.Proofs.Ytllepjhimkogjaa.Tp
