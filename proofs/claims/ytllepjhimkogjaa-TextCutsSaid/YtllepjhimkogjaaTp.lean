/- What the printed functions of package text are in plain words; the example. No conditions but a bound on the length. -/
import Derived.Test.YtllepjhimkogjaaXXx0
import Derived.Test.YtllepjhimkogjaaXXx1
import Derived.Test.YtllepjhimkogjaaXXx10
import Derived.Test.YtllepjhimkogjaaXXx11
import Derived.Test.YtllepjhimkogjaaXXx12
import Derived.Test.YtllepjhimkogjaaXXx16
import Derived.Test.YtllepjhimkogjaaXXx2
import Derived.Test.YtllepjhimkogjaaTc
namespace Go.Proofs.Ytllepjhimkogjaa.Tp
open Go.RowKit Go.Proofs.Ytllepjhimkogjaa.XX Go.Proofs.YtllepjhimkogjaaW.PrintWords Go.Proofs.YtllepjhimkogjaaW.PrintLast
open Go.Proofs.Ytllepjhimkogjaa.Txt Go.Proofs.Ytllepjhimkogjaa.Tw

def D (s : ByteArray) : List UInt8 := s.data.toList
def B (l : List UInt8) : ByteArray := ⟨l.toArray⟩
theorem D_B (l : List UInt8) : D (B l) = l := by simp [D, B]
theorem B_D (s : ByteArray) : B (D s) = s := by cases s; simp [D, B]
theorem D_inj {a b : ByteArray} (h : D a = D b) : a = b := by rw [← B_D a, ← B_D b, h]
theorem D_len (s : ByteArray) : (D s).length = s.size := rfl
theorem B_size (l : List UInt8) : (B l).size = l.length := by rw [← D_len, D_B]
theorem D_append (a b : ByteArray) : D (a ++ b) = D a ++ D b := by simp [D]
theorem D_extract (s : ByteArray) (a b : Nat) : D (s.extract a b) = ((D s).drop a).take (b - a) := by
  simp [D, ByteArray.data_extract, Array.toList_extract]
theorem toList_D (s : ByteArray) : s.toList = D s := ByteArray.toList_eq s
theorem toList_iff (a b : ByteArray) : (a.toList = b.toList) ↔ D a = D b := by rw [toList_D, toList_D]
theorem cutB_eq (s : ByteArray) (n : Int) : cutB s n = B (cut n.toNat (D s)) := by
  apply D_inj
  rw [D_B, cutB, D_extract, List.drop_zero, Nat.sub_zero]
  exact (cut_us n.toNat (D s)).2.2.symm
theorem right_eq (s : ByteArray) (h : s.size ≤ 1000000) : text_Right.f s = some (right (D s)) := by unfold text_Right.f; rw [if_pos (by omega)]; rfl
theorem count_eq (s : ByteArray) (h : s.size ≤ 1000000) : text_Count.f s = some ((count (D s) : Nat) : Int) := by unfold text_Count.f; rw [if_pos (by omega)]; rfl
theorem clean_eq (s : ByteArray) (h : s.size ≤ 1000000) : text_Clean.f s = some (B (clean (D s))) := by unfold text_Clean.f; rw [if_pos (by omega)]; rfl
theorem key_eq (s : ByteArray) (h : s.size ≤ 1000000) : text_Key.f s = some (key (D s)) := by unfold text_Key.f; rw [if_pos (by omega)]; rfl
theorem cut_eq (s : ByteArray) (n : Int) (h : s.size ≤ 1000000) : text_Cut.f s n = some (B (cut n.toNat (D s))) := by unfold text_Cut.f; rw [if_pos (by omega), cutB_eq]
theorem cl_len (u : Nat × List UInt8) (h : 1 ≤ u.2.length) : (cl u).2.length ≤ u.2.length := by
  unfold cl
  by_cases hp : plain u.1 = true
  · rw [if_pos hp]; exact Nat.le_refl _
  · rw [if_neg hp]; exact h
theorem clean_len (l : List UInt8) : (clean l).length ≤ l.length := by
  have : ∀ L : List (Nat × List UInt8), (∀ u ∈ L, 1 ≤ u.2.length) → (join (L.map cl)).length ≤ (join L).length := by
    intro L
    induction L with
    | nil => intro _; exact Nat.le_refl _
    | cons u r ih =>
      intro h
      have h1 := cl_len u (h u (by simp))
      have h2 := ih fun v hv => h v (by simp [hv])
      rw [List.map_cons, join_cons, join_cons, List.length_append, List.length_append]; omega
  have h := this (us l) (us_len l)
  rw [us_join] at h
  exact h
theorem count_le (l : List UInt8) : count l ≤ l.length := by
  have : ∀ L : List (Nat × List UInt8), (∀ u ∈ L, 1 ≤ u.2.length) → L.length ≤ (join L).length := by
    intro L
    induction L with
    | nil => intro _; exact Nat.le_refl _
    | cons u r ih =>
      intro h
      have h1 := h u (by simp)
      have h2 := ih fun v hv => h v (by simp [hv])
      rw [join_cons, List.length_append, List.length_cons]; omega
  have h := this (us l) (us_len l)
  rw [us_join] at h
  exact h
theorem alive03 : tallyroomlaw03_alive.f = some true := by
  unfold tallyroomlaw03_alive.f
  have e1 : clean [97, 255, 195, 169, 10] = [97, 95, 195, 169, 95] := by decide +kernel
  have e2 : cut 2 [97, 195, 169] = [97] := by decide +kernel
  have e3 : right [195, 169] = true := by decide +kernel
  have e4 : right [195] = false := by decide +kernel
  have e5 : key [97, 46, 49] = true := by decide +kernel
  have e6 : key [49, 97] = false := by decide +kernel
  rw [clean_eq _ (by decide), Option.bind_some, show D ⟨#[97, 255, 195, 169, 10]⟩ = [97, 255, 195, 169, 10] from rfl, e1, if_pos (by rw [toList_D, D_B])]
  rw [cut_eq _ _ (by decide), Option.bind_some, show D ⟨#[97, 195, 169]⟩ = [97, 195, 169] from rfl, show (2 : Int).toNat = 2 from rfl, e2, if_pos (by rw [toList_D, D_B])]
  rw [right_eq _ (by decide), Option.bind_some, show D ⟨#[195, 169]⟩ = [195, 169] from rfl, e3, if_pos rfl]
  rw [right_eq _ (by decide), Option.bind_some, show D ⟨#[195]⟩ = [195] from rfl, e4, if_neg (by simp)]
  rw [key_eq _ (by decide), Option.bind_some, show D ⟨#[97, 46, 49]⟩ = [97, 46, 49] from rfl, e5, if_pos rfl]
  rw [key_eq _ (by decide), Option.bind_some, show D ⟨#[49, 97]⟩ = [49, 97] from rfl, e6]
  rfl
end Go.Proofs.Ytllepjhimkogjaa.Tp
