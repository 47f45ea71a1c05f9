/- The law's proof, part 33: the text Tp of this session, or words printed for this seat; what the theorem doesn't use is left out. No conditions. -/
import Derived.Test.YtllepjhimkogjaaFSTe7
import Derived.Test.YtllepjhimkogjaaProg
import Derived.Below
import Derived.Deep.Draws
import Derived.Deep.AppendLies
import Derived.Maps.AppendAt
import Derived.OwnWalk
import Derived.Laws.BytesArg
import Derived.Laws.MakeOwn
import Derived.Laws.OwnMore
import Derived.Deep.OwnRows
import Derived.Tactics
import Derived.Lib.ConvBytes
import Derived.Laws.Slices
import Derived.WalkKit
import Derived.KernelRfl
import Derived.RowKit3
import Derived.Deep.LoopGhost
import Derived.Deep.QuietTactic
import Derived.BigQuiet
import Derived.WideLaws
import Derived.Deep.DeepCutAuto
import Derived.Deep.CutBlock
import Derived.Deep.RegionHeld3
import Derived.Laws.Rows
import Derived.Lib.AppendStr
import Derived.ArgAppend
import Derived.Laws.IdiomCopy
import Derived.OrdersHeld
import Derived.Laws.BitsLemmas
import Derived.RowKit
import Derived.WalkSpells
import Derived.Lib.SlBytesConst
import Derived.Test.YtllepjhimkogjaaFSTe18
namespace Go.Proofs.Ytllepjhimkogjaa.Tw
end Go.Proofs.Ytllepjhimkogjaa.Tw
namespace Go.Proofs.Ytllepjhimkogjaa.Txt
end Go.Proofs.Ytllepjhimkogjaa.Txt
namespace Go.Proofs.Ytllepjhimkogjaa.XX
end Go.Proofs.Ytllepjhimkogjaa.XX
namespace Go.Proofs.YtllepjhimkogjaaW.PrintLast
end Go.Proofs.YtllepjhimkogjaaW.PrintLast
namespace Go.Proofs.YtllepjhimkogjaaW.PrintMore
end Go.Proofs.YtllepjhimkogjaaW.PrintMore
namespace Go.Proofs.YtllepjhimkogjaaW.PrintWords
end Go.Proofs.YtllepjhimkogjaaW.PrintWords
namespace Go.Proofs.Ytllepjhimkogjaa.XX
open Go.RowKit Go.Proofs.YtllepjhimkogjaaW.PrintWords Go.Proofs.YtllepjhimkogjaaW.PrintLast Go.Proofs.YtllepjhimkogjaaW.PrintMore
set_option linter.unusedVariables false
set_option linter.unusedSimpArgs false
def errW : Option Int → Value
  | none => .nilIface
  | some c => .iface 0 (.int .i64 c)
theorem errW_none : errW none = .nilIface := rfl
theorem errW_some (c : Int) : errW (some c) = .iface 0 (.int .i64 c) := rfl
end Go.Proofs.Ytllepjhimkogjaa.XX
namespace Go.Proofs.Ytllepjhimkogjaa.XX
open Go.RowKit Go.Proofs.YtllepjhimkogjaaW.PrintWords Go.Proofs.YtllepjhimkogjaaW.PrintLast Go.Proofs.YtllepjhimkogjaaW.PrintMore
set_option linter.unusedVariables false
set_option linter.unusedSimpArgs false
def text_Cut.f (s : ByteArray) (n : Int) : Option ByteArray := if s.size ≤ 35184372088832 then some (Go.Proofs.Ytllepjhimkogjaa.Tw.cutB s n) else none
theorem text_Cut.calls (s : ByteArray) (n : Int) (r : ByteArray) (w : World) (h : text_Cut.f s n = some r) : Calls Try.prog 37 #[.string s, .int .i64 n] w fun e w' => e = .returned (.string r) ∧ Below w.heap.size w w' := by
  unfold text_Cut.f at h
  by_cases hs : s.size ≤ 35184372088832
  · rw [if_pos hs] at h
    obtain rfl := Option.some.inj h
    exact Go.Proofs.Ytllepjhimkogjaa.Tw.cut_walk s n w hs
  · rw [if_neg hs] at h; cases h
end Go.Proofs.Ytllepjhimkogjaa.XX
namespace Go.Proofs.Ytllepjhimkogjaa.XX
open Go.RowKit Go.Proofs.YtllepjhimkogjaaW.PrintWords Go.Proofs.YtllepjhimkogjaaW.PrintLast Go.Proofs.YtllepjhimkogjaaW.PrintMore
set_option linter.unusedVariables false
set_option linter.unusedSimpArgs false
def text_Clean.f (s : ByteArray) : Option ByteArray := if s.size ≤ 35184372088832 then some ((⟨(Go.Proofs.Ytllepjhimkogjaa.Txt.clean s.data.toList).toArray⟩ : ByteArray)) else none
theorem text_Clean.calls (s : ByteArray) (r : ByteArray) (w : World) (h : text_Clean.f s = some r) : Calls Try.prog 45 #[.string s] w fun e w' => e = .returned (.string r) ∧ Below w.heap.size w w' := by
  unfold text_Clean.f at h
  by_cases hs : s.size ≤ 35184372088832
  · rw [if_pos hs] at h
    obtain rfl := Option.some.inj h
    exact Go.Proofs.Ytllepjhimkogjaa.Tw.clean_walk s w hs
  · rw [if_neg hs] at h; cases h
end Go.Proofs.Ytllepjhimkogjaa.XX
namespace Go.Proofs.Ytllepjhimkogjaa.XX
open Go.RowKit Go.Proofs.YtllepjhimkogjaaW.PrintWords Go.Proofs.YtllepjhimkogjaaW.PrintLast Go.Proofs.YtllepjhimkogjaaW.PrintMore
set_option linter.unusedVariables false
set_option linter.unusedSimpArgs false
def text_Key.f (s : ByteArray) : Option Bool := if s.size ≤ 35184372088832 then some (Go.Proofs.Ytllepjhimkogjaa.Tw.key s.data.toList) else none
end Go.Proofs.Ytllepjhimkogjaa.XX
namespace Go.Proofs.Ytllepjhimkogjaa.XX
open Go.RowKit Go.Proofs.YtllepjhimkogjaaW.PrintWords Go.Proofs.YtllepjhimkogjaaW.PrintLast Go.Proofs.YtllepjhimkogjaaW.PrintMore
set_option linter.unusedVariables false
set_option linter.unusedSimpArgs false
def text_Right.f (s : ByteArray) : Option Bool := if s.size ≤ 35184372088832 then some (Go.Proofs.Ytllepjhimkogjaa.Txt.right s.data.toList) else none
end Go.Proofs.Ytllepjhimkogjaa.XX
namespace Go.Proofs.Ytllepjhimkogjaa.XX
open Go.RowKit Go.Proofs.YtllepjhimkogjaaW.PrintWords Go.Proofs.YtllepjhimkogjaaW.PrintLast Go.Proofs.YtllepjhimkogjaaW.PrintMore
set_option linter.unusedVariables false
set_option linter.unusedSimpArgs false
def tallyroomlaw03_alive.f  : Option (Bool) := (text_Clean.f (⟨#[97, 255, 195, 169, 10]⟩ : ByteArray)).bind fun t137 => (if t137.toList = ([97, 95, 195, 169, 95] : List UInt8) then ((text_Cut.f (⟨#[97, 195, 169]⟩ : ByteArray) 2).bind fun t138 => (if t138.toList = ([97] : List UInt8) then ((text_Right.f (⟨#[195, 169]⟩ : ByteArray)).bind fun t139 => (if t139 = true then ((text_Right.f (⟨#[195]⟩ : ByteArray)).bind fun t140 => (if t140 = true then (some false) else ((text_Key.f (⟨#[97, 46, 49]⟩ : ByteArray)).bind fun t141 => (if t141 = true then ((text_Key.f (⟨#[49, 97]⟩ : ByteArray)).bind fun t142 => (some (!t142))) else (some false))))) else (some false))) else (some false))) else (some false))
end Go.Proofs.Ytllepjhimkogjaa.XX
namespace Go.Proofs.Ytllepjhimkogjaa.XX
open Go.RowKit Go.Proofs.YtllepjhimkogjaaW.PrintWords Go.Proofs.YtllepjhimkogjaaW.PrintLast Go.Proofs.YtllepjhimkogjaaW.PrintMore
set_option linter.unusedVariables false
set_option linter.unusedSimpArgs false
def text_Count.f (s : ByteArray) : Option Int := if s.size ≤ 35184372088832 then some (((Go.Proofs.Ytllepjhimkogjaa.Txt.count s.data.toList : Nat) : Int)) else none
end Go.Proofs.Ytllepjhimkogjaa.XX
namespace Go.Proofs.Ytllepjhimkogjaa.Tp
open Go.RowKit Go.Proofs.Ytllepjhimkogjaa.XX Go.Proofs.YtllepjhimkogjaaW.PrintWords Go.Proofs.YtllepjhimkogjaaW.PrintLast
open Go.Proofs.Ytllepjhimkogjaa.Txt Go.Proofs.Ytllepjhimkogjaa.Tw
def D (s : ByteArray) : List UInt8 := s.data.toList
def B (l : List UInt8) : ByteArray := ⟨l.toArray⟩
theorem D_B (l : List UInt8) : D (B l) = l := by simp [D, B]
theorem B_D (s : ByteArray) : B (D s) = s := by cases s; simp [D, B]
theorem D_inj {a b : ByteArray} (h : D a = D b) : a = b := by rw [← B_D a, ← B_D b, h]
theorem D_len (s : ByteArray) : (D s).length = s.size := rfl
theorem B_size (l : List UInt8) : (B l).size = l.length := by rw [← D_len, D_B]
theorem D_append (a b : ByteArray) : D (a ++ b) = D a ++ D b := by simp [D]
theorem D_extract (s : ByteArray) (a b : Nat) : D (s.extract a b) = ((D s).drop a).take (b - a) := by
  simp [D, ByteArray.data_extract, Array.toList_extract]
theorem toList_D (s : ByteArray) : s.toList = D s := ByteArray.toList_eq s
theorem cutB_eq (s : ByteArray) (n : Int) : cutB s n = B (cut n.toNat (D s)) := by
  apply D_inj
  rw [D_B, cutB, D_extract, List.drop_zero, Nat.sub_zero]
  exact (cut_us n.toNat (D s)).2.2.symm
theorem cl_len (u : Nat × List UInt8) (h : 1 ≤ u.2.length) : (cl u).2.length ≤ u.2.length := by
  unfold cl
  by_cases hp : plain u.1 = true
  · rw [if_pos hp]; exact Nat.le_refl _
  · rw [if_neg hp]; exact h
theorem clean_len (l : List UInt8) : (clean l).length ≤ l.length := by
  have : ∀ L : List (Nat × List UInt8), (∀ u ∈ L, 1 ≤ u.2.length) → (join (L.map cl)).length ≤ (join L).length := by
    intro L
    induction L with
    | nil => intro _; exact Nat.le_refl _
    | cons u r ih =>
      intro h
      have h1 := cl_len u (h u (by simp))
      have h2 := ih fun v hv => h v (by simp [hv])
      rw [List.map_cons, join_cons, join_cons, List.length_append, List.length_append]; omega
  have h := this (us l) (us_len l)
  rw [us_join] at h
  exact h
end Go.Proofs.Ytllepjhimkogjaa.Tp
