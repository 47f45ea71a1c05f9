/- The law's proof, part 29: the text Oy of this session, or words printed for this seat; what the theorem doesn't use is left out. No conditions. -/
import Derived.Test.YtllepjhimkogjaaFSTe25
import Derived.Test.YtllepjhimkogjaaFSTe30
import Derived.Test.YtllepjhimkogjaaFSTe10
import Derived.Test.YtllepjhimkogjaaFSTe28
namespace Go.Proofs.Ytllepjhimkogjaa.Ob
end Go.Proofs.Ytllepjhimkogjaa.Ob
namespace Go.Proofs.Ytllepjhimkogjaa.Sk
end Go.Proofs.Ytllepjhimkogjaa.Sk
namespace Go.Proofs.Ytllepjhimkogjaa.Two
end Go.Proofs.Ytllepjhimkogjaa.Two
namespace Go.Proofs.YtllepjhimkogjaaW.PrintLast
end Go.Proofs.YtllepjhimkogjaaW.PrintLast
namespace Go.Proofs.YtllepjhimkogjaaW.PrintMore
end Go.Proofs.YtllepjhimkogjaaW.PrintMore
namespace Go.Proofs.YtllepjhimkogjaaW.PrintWords
end Go.Proofs.YtllepjhimkogjaaW.PrintWords
namespace Go.Proofs.Ytllepjhimkogjaa.Oz
open Go.RowKit Go.Proofs.YtllepjhimkogjaaW.PrintWords Go.Proofs.YtllepjhimkogjaaW.PrintLast Go.Proofs.YtllepjhimkogjaaW.PrintMore
open Go.Proofs.Ytllepjhimkogjaa.Ob Go.Proofs.Ytllepjhimkogjaa.Two Go.Proofs.Ytllepjhimkogjaa.Sk
set_option linter.unusedSimpArgs false
set_option linter.unusedVariables false
def av (x : XSf.S63) : Ty.S51 := ⟨x.f0, ⟨x.f1.f0, x.f1.f1, x.f1.f2⟩⟩
def uv (x : XSf.S63) : XSp.S63 := ⟨x.f0, ⟨x.f1.f0, x.f1.f1, x.f1.f2⟩⟩
def cv (x : XSf.S63) : XSf.S51 := ⟨x.f0, ⟨x.f1.f0, x.f1.f1, x.f1.f2⟩⟩
def ty (x : XSf.S51) : Ty.S51 := ⟨x.f0, ⟨x.f1.f0, x.f1.f1, x.f1.f2⟩⟩
theorem rd63 (l : List XSf.S63) (i : Nat) (h : i < l.length) : XSf.rd_T63 l (i : Int) = l[i] := by
  unfold XSf.rd_T63
  rw [Int.toNat_natCast, List.getD_eq_getElem?_getD, List.getElem?_eq_getElem h]; rfl
theorem far_loop (x0 x1 x2 : Int) (x3 x4 : ByteArray) (x5 x6 x7 x8 : Int) (l : List XSf.S63) (hl : l.length ≤ 40) : ∀ (d i k : Nat), i + d = l.length → d < k → ∃ r, XSf.tallyroomlaw06_Far.l0 k (i : Int) x0 x1 x2 x3 x4 x5 x6 x7 x8 l = some r := by
  intro d
  induction d with
  | zero =>
    intro i k hi hk
    obtain ⟨k, rfl⟩ : ∃ m, k = m + 1 := ⟨k - 1, by omega⟩
    exact ⟨false, by rw [XSf.tallyroomlaw06_Far.l0, if_neg (by omega)]⟩
  | succ d ih =>
    intro i k hi hk
    obtain ⟨k, rfl⟩ : ∃ m, k = m + 1 := ⟨k - 1, by omega⟩
    rw [XSf.tallyroomlaw06_Far.l0, if_pos (by omega), if_pos (by omega)]
    split
    · exact ⟨_, rfl⟩
    · split
      · exact ⟨_, rfl⟩
      · rw [IntWalk.wrap64_in _ (by omega), show (i : Int) + 1 = ((i + 1 : Nat) : Int) by omega]
        exact ih (i + 1) k (by omega) (by omega)
theorem of_loop (x0 x1 x2 : Int) (x3 x4 : ByteArray) (x5 x6 x7 x8 : Int) (l : List XSf.S63) (hl : l.length ≤ 40) : ∀ (d i k : Nat), i + d = l.length → d < k →
    XSf.tallyroomlaw06_Of.l0 k (i : Int) x0 x1 x2 x3 x4 x5 x6 x7 x8 l x0 x1 x2 x3 x4 x5 x6 x7 x8 ((l.take i).map cv) = some (x0, x1, x2, x3, x4, x5, x6, x7, x8, l.map cv) := by
  intro d
  induction d with
  | zero =>
    intro i k hi hk
    obtain ⟨k, rfl⟩ : ∃ m, k = m + 1 := ⟨k - 1, by omega⟩
    rw [XSf.tallyroomlaw06_Of.l0, if_neg (by omega), List.take_of_length_le (by omega)]
  | succ d ih =>
    intro i k hi hk
    obtain ⟨k, rfl⟩ : ∃ m, k = m + 1 := ⟨k - 1, by omega⟩
    have hlt : i < l.length := by omega
    rw [XSf.tallyroomlaw06_Of.l0, if_pos (by omega), if_pos (by omega), if_pos (by rw [List.length_map, List.length_take]; omega), rd63 l i hlt, IntWalk.wrap64_in _ (by omega), show (i : Int) + 1 = ((i + 1 : Nat) : Int) by omega]
    have := ih (i + 1) k (by omega) (by omega)
    rw [List.take_succ_eq_append_getElem hlt, List.map_append] at this
    exact this
theorem ref_w (w : World) (a0 a1 a2 : Int) (a3 a4 : ByteArray) (a5 a6 a7 a8 : Int) (Aa : Option Addr) (ca : Nat) (la : List XSf.S63) (b0 b1 b2 : Int) (b3 b4 : ByteArray) (b5 b6 b7 b8 : Int) (Ab : Option Addr) (cb : Nat) (lb : List XSf.S63) (hCa : Kd.C XSf.k63 w Aa la.length la) (hca : la.length ≤ ca) (hCb : Kd.C XSf.k63 w Ab lb.length lb) (hcb : lb.length ≤ cb) (hla : la.length ≤ 40) (hlb : lb.length ≤ 40) (x : Int) (hx : cmpS ⟨a0, a1, a2, a3, a4, a5, a6, a7, a8, la.map av⟩ ⟨b0, b1, b2, b3, b4, b5, b6, b7, b8, lb.map av⟩ = x) :
    Calls Try.prog 25 #[.agg #[.int .u64 a0, .int .u64 a1, .int .u64 a2, .string a3, .string a4, .int .i64 a5, .int .i64 a6, .int .u64 a7, .int .u64 a8, .slice Aa la.length ca], .agg #[.int .u64 b0, .int .u64 b1, .int .u64 b2, .string b3, .string b4, .int .i64 b5, .int .i64 b6, .int .u64 b7, .int .u64 b8, .slice Ab lb.length cb]] w fun e w' => e = .returned (.int .i64 x) ∧ Below w.heap.size w w' := by
  subst hx
  have ea : (la.map uv).length = la.length := List.length_map _
  have eb : (lb.map uv).length = lb.length := List.length_map _
  have h0 := Sm.C_map (d' := XSp.k63) uv rfl (fun w x cs h => by obtain rfl := XSf.k63_open h; exact XSp.k63_mk w (uv x)) hCa
  have h1 := Sm.C_map (d' := XSp.k63) uv rfl (fun w x cs h => by obtain rfl := XSf.k63_open h; exact XSp.k63_mk w (uv x)) hCb
  have hf := Sr.compare_f a0 a1 a2 a3 a4 a5 a6 a7 a8 (la.map uv) b0 b1 b2 b3 b4 b5 b6 b7 b8 (lb.map uv) (by omega) (by omega)
  have := XSp.tallyroomref06_Compare.calls 20000 a0 a1 a2 a3 a4 a5 a6 a7 a8 Aa ca (la.map uv) b0 b1 b2 b3 b4 b5 b6 b7 b8 Ab cb (lb.map uv) _ w (by rw [ea]; exact h0) (by rw [ea]; exact hca) (by rw [eb]; exact h1) (by rw [eb]; exact hcb) hf
  rw [ea, eb, List.map_map, List.map_map] at this
  exact this
structure Tri (w W : World) (p q r : List Value) : Prop where
  r0 : Row W w.heap.size p
  r1 : Row W (w.heap.size + 1) q
  r2 : Row W (w.heap.size + 2) r
  b : Below w.heap.size w W
theorem Tri.keep {w W W' : World} {p q r : List Value} (h : Tri w W p q r) (k : Below W.heap.size W W') : Tri w W' p q r :=
  ⟨h.r0.only (Two.below_only0 k) id, h.r1.only (Two.below_only0 k) id, h.r2.only (Two.below_only0 k) id, h.b.trans (k.mono h.b.size)⟩
theorem Tri.drew {w W : World} {p q r : List Value} (h : Tri w W p q r) : Tri w W.drew p q r := h.keep ⟨rfl, rfl, rfl, Nat.le_refl _, fun _ _ => rfl⟩
end Go.Proofs.Ytllepjhimkogjaa.Oz
