/- The law's proof, part 44: the text XSfx3 of this session, or words printed for this seat; what the theorem doesn't use is left out. No conditions. -/
import Derived.Test.YtllepjhimkogjaaFSAl30
import Derived.Test.YtllepjhimkogjaaFSAl9
namespace Go.Proofs.Ytllepjhimkogjaa.Shr
end Go.Proofs.Ytllepjhimkogjaa.Shr
namespace Go.Proofs.YtllepjhimkogjaaW.PrintLast
end Go.Proofs.YtllepjhimkogjaaW.PrintLast
namespace Go.Proofs.YtllepjhimkogjaaW.PrintMore
end Go.Proofs.YtllepjhimkogjaaW.PrintMore
namespace Go.Proofs.YtllepjhimkogjaaW.PrintWords
end Go.Proofs.YtllepjhimkogjaaW.PrintWords
namespace Go.Proofs.Ytllepjhimkogjaa.XSf
open Go.RowKit Go.Proofs.YtllepjhimkogjaaW.PrintWords Go.Proofs.YtllepjhimkogjaaW.PrintLast Go.Proofs.YtllepjhimkogjaaW.PrintMore Go.Proofs.Ytllepjhimkogjaa.Shr
set_option linter.unusedVariables false
set_option linter.unusedSimpArgs false
def tallyroomlaw06_To.l0 : Nat → Int → Int → Int → Int → ByteArray → ByteArray → Int → Int → Int → Int → List (S51) → Int → Int → Int → ByteArray → ByteArray → Int → Int → Int → Int → List (S63) → Option (Int × Int × Int × ByteArray × ByteArray × Int × Int × Int × Int × (List (S63)))
  | 0, _, _, _, _, _, _, _, _, _, _, _, _, _, _, _, _, _, _, _, _, _ => none
  | k + 1, x4, x113000, x113001, x113002, x113003, x113004, x113005, x113006, x113007, x113008, x113009, x115000, x115001, x115002, x115003, x115004, x115005, x115006, x115007, x115008, x115009 => if x4 < (x113009.length : Int) then (if 0 ≤ x4 then (if x115009.length < 2932031007402 then (tallyroomlaw06_To.l0 k (wrap64 (x4 + 1)) x113000 x113001 x113002 x113003 x113004 x113005 x113006 x113007 x113008 x113009 x115000 x115001 x115002 x115003 x115004 x115005 x115006 x115007 x115008 (x115009 ++ [(⟨(rd_T51 x113009 x4).f0, (⟨(rd_T51 x113009 x4).f1.f0, (rd_T51 x113009 x4).f1.f1, (rd_T51 x113009 x4).f1.f2⟩ : S61)⟩ : S63)])) else (none)) else (none)) else (some (x115000, x115001, x115002, x115003, x115004, x115005, x115006, x115007, x115008, x115009))
def tallyroomlaw06_To.f (k : Nat) (a0_0 : Int) (a0_1 : Int) (a0_2 : Int) (a0_3 : ByteArray) (a0_4 : ByteArray) (a0_5 : Int) (a0_6 : Int) (a0_7 : Int) (a0_8 : Int) (l0_9 : List (S51)) : Option (Int × Int × Int × ByteArray × ByteArray × Int × Int × Int × Int × (List (S63))) := tallyroomlaw06_To.l0 k 0 a0_0 a0_1 a0_2 a0_3 a0_4 a0_5 a0_6 a0_7 a0_8 l0_9 a0_0 a0_1 a0_2 a0_3 a0_4 a0_5 a0_6 a0_7 a0_8 ([] : List (S63))
theorem tallyroomlaw06_To.mono_l : ∀ k, (∀ y0 y1 y2 y3 y4 y5 y6 y7 y8 y9 y10 y11 y12 y13 y14 y15 y16 y17 y18 y19 y20, LeO (tallyroomlaw06_To.l0 k y0 y1 y2 y3 y4 y5 y6 y7 y8 y9 y10 y11 y12 y13 y14 y15 y16 y17 y18 y19 y20) (tallyroomlaw06_To.l0 (k + 1) y0 y1 y2 y3 y4 y5 y6 y7 y8 y9 y10 y11 y12 y13 y14 y15 y16 y17 y18 y19 y20))
  | 0 => fun _ _ _ _ _ _ _ _ _ _ _ _ _ _ _ _ _ _ _ _ _ r h => by simp [tallyroomlaw06_To.l0] at h
  | k + 1 => by
    have ih0 := tallyroomlaw06_To.mono_l k
    · intro y0 y1 y2 y3 y4 y5 y6 y7 y8 y9 y10 y11 y12 y13 y14 y15 y16 y17 y18 y19 y20
      unfold tallyroomlaw06_To.l0
      repeat' first
      | (with_reducible exact ih0 _ _ _ _ _ _ _ _ _ _ _ _ _ _ _ _ _ _ _ _ _)
      | (with_reducible exact LeO.refl _)
      | (with_reducible exact LeO.none _)
      | (with_reducible refine LeO.ite ?_ ?_)
      | (with_reducible refine LeO.bind ?_ (fun _ => ?_))
      | exact ih0 _ _ _ _ _ _ _ _ _ _ _ _ _ _ _ _ _ _ _ _ _
      | exact LeO.none _
      | refine LeO.ite ?_ ?_
      | refine LeO.bind ?_ (fun _ => ?_)
theorem tallyroomlaw06_To.mono : ∀ a0 a1 a2 a3 a4 a5 a6 a7 a8 a9 k, LeO (tallyroomlaw06_To.f k a0 a1 a2 a3 a4 a5 a6 a7 a8 a9) (tallyroomlaw06_To.f (k + 1) a0 a1 a2 a3 a4 a5 a6 a7 a8 a9) := by
  intro a0 a1 a2 a3 a4 a5 a6 a7 a8 a9 k
  have ih0 := tallyroomlaw06_To.mono_l k
  unfold tallyroomlaw06_To.f
  repeat' first
      | (with_reducible exact ih0 _ _ _ _ _ _ _ _ _ _ _ _ _ _ _ _ _ _ _ _ _)
      | (with_reducible exact LeO.refl _)
      | (with_reducible exact LeO.none _)
      | (with_reducible refine LeO.ite ?_ ?_)
      | (with_reducible refine LeO.bind ?_ (fun _ => ?_))
      | exact ih0 _ _ _ _ _ _ _ _ _ _ _ _ _ _ _ _ _ _ _ _ _
      | exact LeO.none _
      | refine LeO.ite ?_ ?_
      | refine LeO.bind ?_ (fun _ => ?_)
end Go.Proofs.Ytllepjhimkogjaa.XSf
