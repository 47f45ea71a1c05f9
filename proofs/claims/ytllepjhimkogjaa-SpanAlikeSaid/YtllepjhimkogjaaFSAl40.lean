/- The law's proof, part 40: the text XSpx21 of this session, or words printed for this seat; what the theorem doesn't use is left out. No conditions. -/
import Derived.Test.YtllepjhimkogjaaFSAl38
namespace Go.Proofs.YtllepjhimkogjaaW.PrintLast
end Go.Proofs.YtllepjhimkogjaaW.PrintLast
namespace Go.Proofs.YtllepjhimkogjaaW.PrintMore
end Go.Proofs.YtllepjhimkogjaaW.PrintMore
namespace Go.Proofs.YtllepjhimkogjaaW.PrintWords
end Go.Proofs.YtllepjhimkogjaaW.PrintWords
namespace Go.Proofs.Ytllepjhimkogjaa.XSp
open Go.RowKit Go.Proofs.YtllepjhimkogjaaW.PrintWords Go.Proofs.YtllepjhimkogjaaW.PrintLast Go.Proofs.YtllepjhimkogjaaW.PrintMore
set_option linter.unusedVariables false
set_option linter.unusedSimpArgs false
def tallyroomref04_Compare.j0 : Nat → Bool → Int → Int → ByteArray → Int → Int → ByteArray → Option (Int)
  | 0, _, _, _, _, _, _, _ => none
  | k + 1, x5, x139000, x139001, x139002, x140000, x140001, x140002 => if x5 = true then (some (-1)) else (if (x139000 == x140000 && (x139001 == x140001 && (x139002.toList == x140002.toList))) = true then (some 0) else (some 1))
def tallyroomref04_Compare.f (k : Nat) (a0_0 : Int) (a0_1 : Int) (a0_2 : ByteArray) (a1_0 : Int) (a1_1 : Int) (a1_2 : ByteArray) : Option (Int) := if a0_0 < a1_0 then (tallyroomref04_Compare.j0 k true a0_0 a0_1 a0_2 a1_0 a1_1 a1_2) else (if a0_0 = a1_0 then (if a0_1 < a1_1 then (tallyroomref04_Compare.j0 k true a0_0 a0_1 a0_2 a1_0 a1_1 a1_2) else (if a0_1 = a1_1 then (tallyroomref04_Compare.j0 k (Op.bytesLess a0_2.toList a1_2.toList) a0_0 a0_1 a0_2 a1_0 a1_1 a1_2) else (tallyroomref04_Compare.j0 k false a0_0 a0_1 a0_2 a1_0 a1_1 a1_2))) else (tallyroomref04_Compare.j0 k false a0_0 a0_1 a0_2 a1_0 a1_1 a1_2))
theorem tallyroomref04_Compare.mono_l : ∀ k, (∀ y0 y1 y2 y3 y4 y5 y6, LeO (tallyroomref04_Compare.j0 k y0 y1 y2 y3 y4 y5 y6) (tallyroomref04_Compare.j0 (k + 1) y0 y1 y2 y3 y4 y5 y6))
  | 0 => fun _ _ _ _ _ _ _ r h => by simp [tallyroomref04_Compare.j0] at h
  | k + 1 => by
    have ih0 := tallyroomref04_Compare.mono_l k
    · intro y0 y1 y2 y3 y4 y5 y6
      unfold tallyroomref04_Compare.j0
      repeat' first
      | (with_reducible exact ih0 _ _ _ _ _ _ _)
      | (with_reducible exact LeO.refl _)
      | (with_reducible exact LeO.none _)
      | (with_reducible refine LeO.ite ?_ ?_)
      | (with_reducible refine LeO.bind ?_ (fun _ => ?_))
      | exact ih0 _ _ _ _ _ _ _
      | exact LeO.none _
      | refine LeO.ite ?_ ?_
      | refine LeO.bind ?_ (fun _ => ?_)
theorem tallyroomref04_Compare.mono : ∀ a0 a1 a2 a3 a4 a5 k, LeO (tallyroomref04_Compare.f k a0 a1 a2 a3 a4 a5) (tallyroomref04_Compare.f (k + 1) a0 a1 a2 a3 a4 a5) := by
  intro a0 a1 a2 a3 a4 a5 k
  have ih0 := tallyroomref04_Compare.mono_l k
  unfold tallyroomref04_Compare.f
  repeat' first
      | (with_reducible exact ih0 _ _ _ _ _ _ _)
      | (with_reducible exact LeO.refl _)
      | (with_reducible exact LeO.none _)
      | (with_reducible refine LeO.ite ?_ ?_)
      | (with_reducible refine LeO.bind ?_ (fun _ => ?_))
      | exact ih0 _ _ _ _ _ _ _
      | exact LeO.none _
      | refine LeO.ite ?_ ?_
      | refine LeO.bind ?_ (fun _ => ?_)
end Go.Proofs.Ytllepjhimkogjaa.XSp
