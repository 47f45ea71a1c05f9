/- The law's proof, part 28: the text Sr of this session, or words printed for this seat; what the theorem doesn't use is left out. No conditions. -/
import Derived.Test.YtllepjhimkogjaaFSTe27
import Derived.Test.YtllepjhimkogjaaFSTe10
namespace Go.Proofs.Ytllepjhimkogjaa.Sk
end Go.Proofs.Ytllepjhimkogjaa.Sk
namespace Go.Proofs.YtllepjhimkogjaaW.PrintLast
end Go.Proofs.YtllepjhimkogjaaW.PrintLast
namespace Go.Proofs.YtllepjhimkogjaaW.PrintMore
end Go.Proofs.YtllepjhimkogjaaW.PrintMore
namespace Go.Proofs.YtllepjhimkogjaaW.PrintWords
end Go.Proofs.YtllepjhimkogjaaW.PrintWords
namespace Go.Proofs.Ytllepjhimkogjaa.Sr
open Go.RowKit Go.Proofs.YtllepjhimkogjaaW.PrintWords Go.Proofs.YtllepjhimkogjaaW.PrintLast Go.Proofs.YtllepjhimkogjaaW.PrintMore
open Go.Proofs.Ytllepjhimkogjaa.Sk
set_option linter.unusedSimpArgs false
set_option linter.unusedVariables false
abbrev A := Go.Proofs.Ytllepjhimkogjaa.XSp.S63
def av (x : A) : Ty.S51 := ⟨x.f0, ⟨x.f1.f0, x.f1.f1, x.f1.f2⟩⟩
theorem fnz_append (a b : List Int) : fnz (a ++ b) = if fnz a = 0 then fnz b else fnz a := by
  induction a with
  | nil => simp [fnz]
  | cons x a ih =>
    rw [List.cons_append, fnz, fnz]
    by_cases h : x = 0
    · rw [if_pos h, if_pos h, ih]
    · rw [if_neg h, if_neg h, if_neg h]
theorem order_i (a b : Int) : XSp.tallyroomref06_order.f (decide (a < b)) (a == b) = some (ord a b) := by
  unfold XSp.tallyroomref06_order.f ord
  by_cases h : a < b
  · simp [h]
  · by_cases h2 : b < a
    · have : ¬ a = b := by omega
      simp [h, h2, this]
    · have : a = b := by omega
      simp [this]
theorem data_toList (a : ByteArray) : a.toList = a.data.toList := by
  exact ByteArray.toList_eq a
theorem order_s (a b : ByteArray) : XSp.tallyroomref06_order.f (Op.bytesLess a.toList b.toList) (a.toList == b.toList) = some (sord a b) := by
  unfold XSp.tallyroomref06_order.f sord
  have h0 := Sb.bl_ite a b
  have h4 := Sb.cmp_zero a.toList b.toList
  by_cases h : Op.bytesLess a.toList b.toList = true
  · simp [h]
  · rw [if_neg h, if_neg h]
    rw [if_neg h] at h0
    by_cases h2 : Op.bytesLess b.toList a.toList = true
    · rw [if_pos h2] at h0 ⊢
      have : ¬ a.toList = b.toList := fun e => by rw [h4.2 e] at h0; cases h0
      simp [this]
    · rw [if_neg h2] at h0 ⊢
      have : a.toList = b.toList := h4.1 h0.symm
      simp [this]
theorem cmp04 (x y : A) (k : Nat) (hk : 2 ≤ k) : XSp.tallyroomref04_Compare.f k x.f1.f0 x.f1.f1 x.f1.f2 y.f1.f0 y.f1.f1 y.f1.f2 = some (cmpV (av x).f1 (av y).f1) := by
  obtain ⟨k, rfl⟩ : ∃ m, k = m + 1 := ⟨k - 1, by omega⟩
  unfold XSp.tallyroomref04_Compare.f cmpV av
  simp only [XSp.tallyroomref04_Compare.j0]
  generalize x.f1.f0 = a, x.f1.f1 = b, x.f1.f2 = c, y.f1.f0 = d, y.f1.f1 = e, y.f1.f2 = f
  have hs := order_s c f
  unfold XSp.tallyroomref06_order.f at hs
  unfold fnz fnz fnz fnz ord
  by_cases h1 : a < d
  · simp [h1]
  · by_cases h2 : d < a
    · have : ¬ a = d := by omega
      simp [h1, h2, this]
    · obtain rfl : a = d := by omega
      by_cases h3 : b < e
      · simp [h3]
      · by_cases h4 : e < b
        · have : ¬ b = e := by omega
          simp [h3, h4, this]
        · obtain rfl : b = e := by omega
          simp only [Int.lt_irrefl, if_false, if_true, beq_self_eq_true, Bool.true_and]
          rw [hs]
          by_cases h5 : sord c f = 0 <;> simp [h5]
theorem sord_cb (a b : ByteArray) : sord a b = cb a b := by
  unfold sord cb
  rw [Sb.bl_ite, data_toList, data_toList]
def inter : List A → List A → List Int
  | [], [] => [0]
  | [], _ :: _ => [-1]
  | _ :: _, [] => [1]
  | x :: xs, y :: ys => sord x.f0 y.f0 :: cmpV (av x).f1 (av y).f1 :: inter xs ys
theorem fnz_inter : ∀ xs ys : List A, fnz (inter xs ys) = cmpL (xs.map av) (ys.map av)
  | [], [] => rfl
  | [], _ :: _ => rfl
  | _ :: _, [] => rfl
  | x :: xs, y :: ys => by
    have ih := fnz_inter xs ys
    show fnz (sord x.f0 y.f0 :: cmpV (av x).f1 (av y).f1 :: inter xs ys) = if cmpA (av x) (av y) = 0 then cmpL (xs.map av) (ys.map av) else cmpA (av x) (av y)
    rw [← ih]
    have e : cmpA (av x) (av y) = fnz [sord x.f0 y.f0, cmpV (av x).f1 (av y).f1] := by unfold cmpA; rw [← sord_cb]; rfl
    rw [e, show sord x.f0 y.f0 :: cmpV (av x).f1 (av y).f1 :: inter xs ys = [sord x.f0 y.f0, cmpV (av x).f1 (av y).f1] ++ inter xs ys from rfl, fnz_append]
theorem l1_loop (l : List Int) : ∀ (d i k : Nat), i + d = l.length → d < k → l.length ≤ 100000 → XSp.tallyroomref06_Compare.l1 k l (i : Int) = some (fnz (l.drop i)) := by
  intro d
  induction d with
  | zero =>
    intro i k hi hk hl
    obtain ⟨k, rfl⟩ : ∃ m, k = m + 1 := ⟨k - 1, by omega⟩
    rw [XSp.tallyroomref06_Compare.l1, if_neg (by omega), List.drop_of_length_le (by omega)]; rfl
  | succ d ih =>
    intro i k hi hk hl
    obtain ⟨k, rfl⟩ : ∃ m, k = m + 1 := ⟨k - 1, by omega⟩
    have hlt : i < l.length := by omega
    have e : rd l (i : Int) = l[i] := by
      simp only [rd, Int.toNat_natCast, List.getD_eq_getElem?_getD, List.getElem?_eq_getElem hlt, Option.getD_some]
    rw [XSp.tallyroomref06_Compare.l1, if_pos (by omega), if_pos (by omega), e, List.drop_eq_getElem_cons hlt, fnz]
    by_cases h0 : l[i] = 0
    · rw [if_pos h0, if_pos h0, IntWalk.wrap64_in _ (by omega), show (i : Int) + 1 = ((i + 1 : Nat) : Int) by omega]
      exact ih (i + 1) k (by omega) (by omega) hl
    · rw [if_neg h0, if_neg h0]
theorem rd63 (l : List A) (i : Nat) (h : i < l.length) : XSp.rd_T63 l (i : Int) = l[i] := by
  unfold XSp.rd_T63
  rw [Int.toNat_natCast, List.getD_eq_getElem?_getD, List.getElem?_eq_getElem h]; rfl
section
variable (a0 a1 a2 : Int) (a3 a4 : ByteArray) (a5 a6 a7 a8 : Int) (l : List A) (b0 b1 b2 : Int) (b3 b4 : ByteArray) (b5 b6 b7 b8 : Int) (m : List A)
theorem end_step (x5 : List Int) (i k : Nat) (hk : x5.length + 5 < k) (hx : x5.length ≤ 90000) (hend : (l.length ≤ i ∨ m.length ≤ i) ∧ i ≤ l.length ∧ i ≤ m.length) :
    XSp.tallyroomref06_Compare.j1 k x5 (i : Int) false a0 a1 a2 a3 a4 a5 a6 a7 a8 l b0 b1 b2 b3 b4 b5 b6 b7 b8 m = some (fnz (x5 ++ inter (l.drop i) (m.drop i))) := by
  obtain ⟨k, rfl⟩ : ∃ q, k = q + 1 := ⟨k - 1, by omega⟩
  rw [XSp.tallyroomref06_Compare.j1, if_neg (by decide), order_i, Option.bind_some, if_pos (by omega)]
  have h1 := l1_loop (x5 ++ [ord (l.length : Int) (m.length : Int)]) (x5.length + 1) 0 k (by simp) (by omega) (by simp; omega)
  rw [List.drop_zero] at h1
  refine h1.trans ?_
  have e : inter (l.drop i) (m.drop i) = [ord (l.length : Int) (m.length : Int)] := by
    rcases Nat.lt_or_ge i l.length with h2 | h2
    · have h3 : m.length ≤ i := by omega
      rw [List.drop_eq_getElem_cons h2, show m.drop i = [] from List.drop_of_length_le h3]
      show [1] = _
      unfold ord
      rw [if_neg (by omega), if_pos (by omega)]
    · rw [show l.drop i = [] from List.drop_of_length_le h2]
      rcases Nat.lt_or_ge i m.length with h3 | h3
      · rw [List.drop_eq_getElem_cons h3]
        show [-1] = _
        unfold ord
        rw [if_pos (by omega)]
      · rw [show m.drop i = [] from List.drop_of_length_le h3]
        show [0] = _
        unfold ord
        rw [if_neg (by omega), if_neg (by omega)]
  rw [e]
theorem l0_loop : ∀ (d i k : Nat) (x5 : List Int), i + d = l.length → i ≤ m.length → x5.length + 8 * d + 20 < k → x5.length + 2 * d ≤ 50000 → l.length ≤ 10000 → m.length ≤ 10000 →
    XSp.tallyroomref06_Compare.l0 k x5 (i : Int) a0 a1 a2 a3 a4 a5 a6 a7 a8 l b0 b1 b2 b3 b4 b5 b6 b7 b8 m = some (fnz (x5 ++ inter (l.drop i) (m.drop i))) := by
  intro d
  induction d with
  | zero =>
    intro i k x5 hi hm hk hx hl hl2
    obtain ⟨k, rfl⟩ : ∃ q, k = q + 1 := ⟨k - 1, by omega⟩
    rw [XSp.tallyroomref06_Compare.l0, if_neg (by omega)]
    exact end_step _ _ _ _ _ _ _ _ _ _ _ _ _ _ _ _ _ _ _ _ x5 i k (by omega) (by omega) ⟨Or.inl (by omega), by omega, hm⟩
  | succ d ih =>
    intro i k x5 hi hm hk hx hl hl2
    obtain ⟨k, rfl⟩ : ∃ q, k = q + 1 := ⟨k - 1, by omega⟩
    have h1 : i < l.length := by omega
    rw [XSp.tallyroomref06_Compare.l0, if_pos (by omega)]
    rcases Nat.lt_or_ge i m.length with h2 | h2
    · rw [decide_eq_true (show (i : Int) < (m.length : Int) by omega)]
      obtain ⟨k, rfl⟩ : ∃ q, k = q + 1 := ⟨k - 1, by omega⟩
      rw [XSp.tallyroomref06_Compare.j1, if_pos rfl, if_pos (by omega), if_pos (by omega), if_pos (by omega), rd63 l i h1, rd63 m i h2, order_s, Option.bind_some, cmp04 _ _ _ (by omega), Option.bind_some, Option.bind_some]
      rw [if_pos (by simp; omega), IntWalk.wrap64_in _ (by omega), show (i : Int) + 1 = ((i + 1 : Nat) : Int) by omega]
      rw [ih (i + 1) k _ (by omega) (by omega) (by simp; omega) (by simp; omega) hl hl2, List.drop_eq_getElem_cons h1, List.drop_eq_getElem_cons h2, List.append_assoc]
      rfl
    · rw [decide_eq_false (show ¬ (i : Int) < (m.length : Int) by omega)]
      exact end_step _ _ _ _ _ _ _ _ _ _ _ _ _ _ _ _ _ _ _ _ x5 i k (by omega) (by omega) ⟨Or.inr h2, by omega, hm⟩
theorem compare_f (hl : l.length ≤ 1000) (hm : m.length ≤ 1000) :
    XSp.tallyroomref06_Compare.f 20000 a0 a1 a2 a3 a4 a5 a6 a7 a8 l b0 b1 b2 b3 b4 b5 b6 b7 b8 m = some (fnz [ord a0 b0, ord a1 b1, ord a2 b2, cb a3 b3, cb a4 b4, ord a5 b5, ord a6 b6, ord a7 b7, ord a8 b8, cmpL (l.map av) (m.map av)]) := by
  unfold XSp.tallyroomref06_Compare.f
  rw [order_i, Option.bind_some, order_i, Option.bind_some, order_i, Option.bind_some, order_s, Option.bind_some, order_s, Option.bind_some, order_i, Option.bind_some, order_i, Option.bind_some, order_i, Option.bind_some, order_i, Option.bind_some]
  have h := l0_loop a0 a1 a2 a3 a4 a5 a6 a7 a8 l b0 b1 b2 b3 b4 b5 b6 b7 b8 m l.length 0 20000 [ord a0 b0, ord a1 b1, ord a2 b2, sord a3 b3, sord a4 b4, ord a5 b5, ord a6 b6, ord a7 b7, ord a8 b8] (by omega) (by omega) (by simp; omega) (by simp; omega) (by omega) (by omega)
  refine h.trans ?_
  rw [List.drop_zero, List.drop_zero, fnz_append, fnz_inter, sord_cb, sord_cb]
  rw [show [ord a0 b0, ord a1 b1, ord a2 b2, cb a3 b3, cb a4 b4, ord a5 b5, ord a6 b6, ord a7 b7, ord a8 b8, cmpL (l.map av) (m.map av)] = [ord a0 b0, ord a1 b1, ord a2 b2, cb a3 b3, cb a4 b4, ord a5 b5, ord a6 b6, ord a7 b7, ord a8 b8] ++ [cmpL (l.map av) (m.map av)] from rfl, fnz_append]
  have e : ∀ x : Int, fnz [x] = x := fun x => by unfold fnz fnz; split <;> omega
  rw [e]
end
end Go.Proofs.Ytllepjhimkogjaa.Sr
