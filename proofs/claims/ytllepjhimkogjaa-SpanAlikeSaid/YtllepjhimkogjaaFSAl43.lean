/- The law's proof, part 43: the text Oy of this session, or words printed for this seat; what the theorem doesn't use is left out. No conditions. -/
import Derived.Test.YtllepjhimkogjaaFSAl36
import Derived.Test.YtllepjhimkogjaaFSAl37
import Derived.Test.YtllepjhimkogjaaFSAl10
import Derived.Test.YtllepjhimkogjaaFSAl42
namespace Go.Proofs.Ytllepjhimkogjaa.Ob
end Go.Proofs.Ytllepjhimkogjaa.Ob
namespace Go.Proofs.Ytllepjhimkogjaa.Sk
end Go.Proofs.Ytllepjhimkogjaa.Sk
namespace Go.Proofs.Ytllepjhimkogjaa.Two
end Go.Proofs.Ytllepjhimkogjaa.Two
namespace Go.Proofs.YtllepjhimkogjaaW.PrintLast
end Go.Proofs.YtllepjhimkogjaaW.PrintLast
namespace Go.Proofs.YtllepjhimkogjaaW.PrintMore
end Go.Proofs.YtllepjhimkogjaaW.PrintMore
namespace Go.Proofs.YtllepjhimkogjaaW.PrintWords
end Go.Proofs.YtllepjhimkogjaaW.PrintWords
namespace Go.Proofs.Ytllepjhimkogjaa.Oz
open Go.RowKit Go.Proofs.YtllepjhimkogjaaW.PrintWords Go.Proofs.YtllepjhimkogjaaW.PrintLast Go.Proofs.YtllepjhimkogjaaW.PrintMore
open Go.Proofs.Ytllepjhimkogjaa.Ob Go.Proofs.Ytllepjhimkogjaa.Two Go.Proofs.Ytllepjhimkogjaa.Sk
set_option linter.unusedSimpArgs false
set_option linter.unusedVariables false
def av (x : XSf.S63) : Ty.S51 := ⟨x.f0, ⟨x.f1.f0, x.f1.f1, x.f1.f2⟩⟩
def cv (x : XSf.S63) : XSf.S51 := ⟨x.f0, ⟨x.f1.f0, x.f1.f1, x.f1.f2⟩⟩
def ty (x : XSf.S51) : Ty.S51 := ⟨x.f0, ⟨x.f1.f0, x.f1.f1, x.f1.f2⟩⟩
theorem rd63 (l : List XSf.S63) (i : Nat) (h : i < l.length) : XSf.rd_T63 l (i : Int) = l[i] := by
  unfold XSf.rd_T63
  rw [Int.toNat_natCast, List.getD_eq_getElem?_getD, List.getElem?_eq_getElem h]; rfl
theorem far_loop (x0 x1 x2 : Int) (x3 x4 : ByteArray) (x5 x6 x7 x8 : Int) (l : List XSf.S63) (hl : l.length ≤ 40) : ∀ (d i k : Nat), i + d = l.length → d < k → ∃ r, XSf.tallyroomlaw06_Far.l0 k (i : Int) x0 x1 x2 x3 x4 x5 x6 x7 x8 l = some r := by
  intro d
  induction d with
  | zero =>
    intro i k hi hk
    obtain ⟨k, rfl⟩ : ∃ m, k = m + 1 := ⟨k - 1, by omega⟩
    exact ⟨false, by rw [XSf.tallyroomlaw06_Far.l0, if_neg (by omega)]⟩
  | succ d ih =>
    intro i k hi hk
    obtain ⟨k, rfl⟩ : ∃ m, k = m + 1 := ⟨k - 1, by omega⟩
    rw [XSf.tallyroomlaw06_Far.l0, if_pos (by omega), if_pos (by omega)]
    split
    · exact ⟨_, rfl⟩
    · split
      · exact ⟨_, rfl⟩
      · rw [IntWalk.wrap64_in _ (by omega), show (i : Int) + 1 = ((i + 1 : Nat) : Int) by omega]
        exact ih (i + 1) k (by omega) (by omega)
theorem of_loop (x0 x1 x2 : Int) (x3 x4 : ByteArray) (x5 x6 x7 x8 : Int) (l : List XSf.S63) (hl : l.length ≤ 40) : ∀ (d i k : Nat), i + d = l.length → d < k →
    XSf.tallyroomlaw06_Of.l0 k (i : Int) x0 x1 x2 x3 x4 x5 x6 x7 x8 l x0 x1 x2 x3 x4 x5 x6 x7 x8 ((l.take i).map cv) = some (x0, x1, x2, x3, x4, x5, x6, x7, x8, l.map cv) := by
  intro d
  induction d with
  | zero =>
    intro i k hi hk
    obtain ⟨k, rfl⟩ : ∃ m, k = m + 1 := ⟨k - 1, by omega⟩
    rw [XSf.tallyroomlaw06_Of.l0, if_neg (by omega), List.take_of_length_le (by omega)]
  | succ d ih =>
    intro i k hi hk
    obtain ⟨k, rfl⟩ : ∃ m, k = m + 1 := ⟨k - 1, by omega⟩
    have hlt : i < l.length := by omega
    rw [XSf.tallyroomlaw06_Of.l0, if_pos (by omega), if_pos (by omega), if_pos (by rw [List.length_map, List.length_take]; omega), rd63 l i hlt, IntWalk.wrap64_in _ (by omega), show (i : Int) + 1 = ((i + 1 : Nat) : Int) by omega]
    have := ih (i + 1) k (by omega) (by omega)
    rw [List.take_succ_eq_append_getElem hlt, List.map_append] at this
    exact this
structure Tri (w W : World) (p q r : List Value) : Prop where
  r0 : Row W w.heap.size p
  r1 : Row W (w.heap.size + 1) q
  r2 : Row W (w.heap.size + 2) r
  b : Below w.heap.size w W
theorem Tri.keep {w W W' : World} {p q r : List Value} (h : Tri w W p q r) (k : Below W.heap.size W W') : Tri w W' p q r :=
  ⟨h.r0.only (Two.below_only0 k) id, h.r1.only (Two.below_only0 k) id, h.r2.only (Two.below_only0 k) id, h.b.trans (k.mono h.b.size)⟩
theorem Tri.drew {w W : World} {p q r : List Value} (h : Tri w W p q r) : Tri w W.drew p q r := h.keep ⟨rfl, rfl, rfl, Nat.le_refl _, fun _ _ => rfl⟩
end Go.Proofs.Ytllepjhimkogjaa.Oz
