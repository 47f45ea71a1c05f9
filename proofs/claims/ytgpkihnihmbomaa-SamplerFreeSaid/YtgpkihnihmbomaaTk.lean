/- What a key is, by the program and by the document; how long a span took, whether it failed, its part of a thousand; a right value. No conditions but a bound on the length. -/
import Derived.Test.YtgpkihnihmbomaaTw
import Derived.Test.YtgpkihnihmbomaaXSqx1
import Derived.Test.YtgpkihnihmbomaaXSqx2
namespace Go.Proofs.Ytgpkihnihmbomaa.Tp
open Go.RowKit Go.Proofs.Ytgpkihnihmbomaa.XSq Go.Proofs.YtgpkihnihmbomaaW.PrintWords Go.Proofs.YtgpkihnihmbomaaW.PrintLast
open Go.Proofs.Ytgpkihnihmbomaa.Tw
set_option linter.unusedSimpArgs false
set_option linter.unusedVariables false
def D (s : ByteArray) : List UInt8 := s.data.toList
theorem D_len (s : ByteArray) : (D s).length = s.size := rfl
def by' (S : ByteArray) (i : Nat) : Nat := ((D S).getD i 0).toNat
theorem by_lt (S : ByteArray) (i : Nat) : by' S i < 256 := ((D S).getD i 0).toNat_lt
theorem bt_by (S : ByteArray) (i : Nat) : bt S (i : Int) = (by' S i : Int) := by
  unfold bt by'
  rw [Int.toNat_natCast]
  by_cases h : i < S.size
  · rw [dif_pos h, List.getD_eq_getElem?_getD, List.getElem?_eq_getElem (by rw [D_len]; exact h)]
    rfl
  · rw [dif_neg h, List.getD_eq_getElem?_getD, List.getElem?_eq_none (by rw [D_len]; omega)]
    rfl
abbrev badT : Option (Int × Int × Bool) := some (65533, 1, false)
theorem by_rest (s : ByteArray) (pos : Nat) : ((rest s pos).getD 0 0).toNat = by' s pos := by
  unfold by' rest D
  rw [List.getD_eq_getElem?_getD, List.getD_eq_getElem?_getD, List.getElem?_drop, Nat.add_zero]
theorem key_round (s : ByteArray) (pos k : Nat) (hs : s.size ≤ 1000000) (h : pos < s.size) :
    tallyroomref03_Key.l0 (k + 1) s (pos : Int) = if byteOk (by' s pos) pos = true then tallyroomref03_Key.l0 k s ((pos + 1 : Nat) : Int) else some false := by
  rw [tallyroomref03_Key.l0, if_pos (by omega), if_pos (by omega), bt_by, IntWalk.wrap64_in _ (by omega), show (pos : Int) + 1 = ((pos + 1 : Nat) : Int) by omega]
  generalize by' s pos = b
  generalize tallyroomref03_Key.l0 k s ((pos + 1 : Nat) : Int) = R
  by_cases hb : byteOk b pos = true
  · rw [if_pos hb]
    have hb' := of_decide_eq_true hb
    clear hb
    repeat' split
    all_goals first | rfl | (exfalso; omega)
  · rw [if_neg hb]
    have hb' := of_decide_eq_false (Bool.not_eq_true _ ▸ hb)
    clear hb
    repeat' split
    all_goals first | rfl | (exfalso; omega)
theorem rkey_loop (s : ByteArray) (hs : s.size ≤ 1000000) (d : Nat) : ∀ (pos k : Nat), pos ≤ s.size → s.size - pos ≤ d → d < k → tallyroomref03_Key.l0 k s (pos : Int) = some (keyL pos (rest s pos) && decide (1 ≤ s.size ∧ s.size ≤ 64)) := by
  have fin : ∀ (pos k : Nat), pos ≤ s.size → ¬ pos < s.size → tallyroomref03_Key.l0 (k + 1) s (pos : Int) = some (keyL pos (rest s pos) && decide (1 ≤ s.size ∧ s.size ≤ 64)) := by
    intro pos k hp h
    rw [tallyroomref03_Key.l0, if_neg (by omega), rest_end h, keyL, Bool.true_and]
    by_cases h1 : (s.size : Int) ≥ 1
    · rw [if_pos h1]
      congr 1
      exact decide_eq_decide.2 (by omega)
    · rw [if_neg h1, decide_eq_false (by omega)]
  induction d with
  | zero =>
    intro pos k hp hd hk
    obtain ⟨k, rfl⟩ : ∃ m, k = m + 1 := ⟨k - 1, by omega⟩
    exact fin pos k hp (by omega)
  | succ d ih =>
    intro pos k hp hd hk
    obtain ⟨k, rfl⟩ : ∃ m, k = m + 1 := ⟨k - 1, by omega⟩
    by_cases h : pos < s.size
    · rw [key_round s pos k hs h, rest_cons h, keyL, by_rest]
      cases hb : byteOk (by' s pos) pos with
      | false => rw [if_neg (by simp)]; rfl
      | true => rw [if_pos rfl, ih _ k (by omega) (by omega) (by omega)]; rfl
    · exact fin pos k hp h
theorem rkey (s : ByteArray) (hs : s.size ≤ 1000000) (k : Nat) (hk : s.size < k) : tallyroomref03_Key.f k s = some (key (D s)) := by
  have := rkey_loop s hs s.size 0 k (by omega) (by omega) hk
  rw [rest_zero] at this
  exact this
end Go.Proofs.Ytgpkihnihmbomaa.Tp
