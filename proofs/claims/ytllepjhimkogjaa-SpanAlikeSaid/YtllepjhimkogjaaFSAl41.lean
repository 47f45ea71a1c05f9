/- The law's proof, part 41: the text XSpx22 of this session, or words printed for this seat; what the theorem doesn't use is left out. No conditions. -/
import Derived.Test.YtllepjhimkogjaaFSAl38
import Derived.Test.YtllepjhimkogjaaFSAl39
import Derived.Test.YtllepjhimkogjaaFSAl40
import Derived.Test.YtllepjhimkogjaaFSAl9
namespace Go.Proofs.Ytllepjhimkogjaa.Shr
end Go.Proofs.Ytllepjhimkogjaa.Shr
namespace Go.Proofs.YtllepjhimkogjaaW.PrintLast
end Go.Proofs.YtllepjhimkogjaaW.PrintLast
namespace Go.Proofs.YtllepjhimkogjaaW.PrintMore
end Go.Proofs.YtllepjhimkogjaaW.PrintMore
namespace Go.Proofs.YtllepjhimkogjaaW.PrintWords
end Go.Proofs.YtllepjhimkogjaaW.PrintWords
namespace Go.Proofs.Ytllepjhimkogjaa.XSp
open Go.RowKit Go.Proofs.YtllepjhimkogjaaW.PrintWords Go.Proofs.YtllepjhimkogjaaW.PrintLast Go.Proofs.YtllepjhimkogjaaW.PrintMore Go.Proofs.Ytllepjhimkogjaa.Shr
set_option linter.unusedVariables false
set_option linter.unusedSimpArgs false
mutual
def tallyroomref06_Compare.l0 : Nat → List Int → Int → Int → Int → Int → ByteArray → ByteArray → Int → Int → Int → Int → List (S63) → Int → Int → Int → ByteArray → ByteArray → Int → Int → Int → Int → List (S63) → Option (Int)
 | 0, _, _, _, _, _, _, _, _, _, _, _, _, _, _, _, _, _, _, _, _, _, _ => none
 | k + 1, x5, x6, x141000, x141001, x141002, x141003, x141004, x141005, x141006, x141007, x141008, x141009, x142000, x142001, x142002, x142003, x142004, x142005, x142006, x142007, x142008, x142009 => if x6 < (x141009.length : Int) then (tallyroomref06_Compare.j1 k x5 x6 (decide (x6 < (x142009.length : Int))) x141000 x141001 x141002 x141003 x141004 x141005 x141006 x141007 x141008 x141009 x142000 x142001 x142002 x142003 x142004 x142005 x142006 x142007 x142008 x142009) else (tallyroomref06_Compare.j1 k x5 x6 false x141000 x141001 x141002 x141003 x141004 x141005 x141006 x141007 x141008 x141009 x142000 x142001 x142002 x142003 x142004 x142005 x142006 x142007 x142008 x142009)
def tallyroomref06_Compare.j1 : Nat → List Int → Int → Bool → Int → Int → Int → ByteArray → ByteArray → Int → Int → Int → Int → List (S63) → Int → Int → Int → ByteArray → ByteArray → Int → Int → Int → Int → List (S63) → Option (Int)
 | 0, _, _, _, _, _, _, _, _, _, _, _, _, _, _, _, _, _, _, _, _, _, _, _ => none
 | k + 1, x5, x6, x121, x141000, x141001, x141002, x141003, x141004, x141005, x141006, x141007, x141008, x141009, x142000, x142001, x142002, x142003, x142004, x142005, x142006, x142007, x142008, x142009 => if x121 = true then (if 0 ≤ x6 then (if x6 < (x141009.length : Int) then (if x6 < (x142009.length : Int) then ((tallyroomref06_order.f (Op.bytesLess (((rd_T63 x141009 x6).f0).toList) (((rd_T63 x142009 x6).f0).toList)) (((rd_T63 x141009 x6).f0).toList == ((rd_T63 x142009 x6).f0).toList)).bind fun t158 => ((tallyroomref04_Compare.f k ((rd_T63 x141009 x6).f1.f0) ((rd_T63 x141009 x6).f1.f1) ((rd_T63 x141009 x6).f1.f2) ((rd_T63 x142009 x6).f1.f0) ((rd_T63 x142009 x6).f1.f1) ((rd_T63 x142009 x6).f1.f2)).bind fun t159 => ((some (([t158, t159] : List Int) : List Int)).bind fun y160 => (if x5.length + y160.length < 17592186044416 then (tallyroomref06_Compare.l0 k (x5 ++ y160) (wrap64 (x6 + 1)) x141000 x141001 x141002 x141003 x141004 x141005 x141006 x141007 x141008 x141009 x142000 x142001 x142002 x142003 x142004 x142005 x142006 x142007 x142008 x142009) else (none))))) else (none)) else (none)) else (none)) else ((tallyroomref06_order.f (decide ((x141009.length : Int) < (x142009.length : Int))) ((x141009.length : Int) == (x142009.length : Int))).bind fun t166 => (if x5.length < 17592186044416 then (tallyroomref06_Compare.l1 k (x5 ++ [t166]) 0) else (none)))
def tallyroomref06_Compare.l1 : Nat → List Int → Int → Option (Int)
 | 0, _, _ => none
 | k + 1, x5, x9 => if x9 < (x5.length : Int) then (if 0 ≤ x9 then (if (rd x5 x9) = 0 then (tallyroomref06_Compare.l1 k x5 (wrap64 (x9 + 1))) else (some (rd x5 x9))) else (none)) else (some 0)
end
def tallyroomref06_Compare.f (k : Nat) (a0_0 : Int) (a0_1 : Int) (a0_2 : Int) (a0_3 : ByteArray) (a0_4 : ByteArray) (a0_5 : Int) (a0_6 : Int) (a0_7 : Int) (a0_8 : Int) (l0_9 : List (S63)) (a1_0 : Int) (a1_1 : Int) (a1_2 : Int) (a1_3 : ByteArray) (a1_4 : ByteArray) (a1_5 : Int) (a1_6 : Int) (a1_7 : Int) (a1_8 : Int) (l1_9 : List (S63)) : Option (Int) := (tallyroomref06_order.f (decide (a0_0 < a1_0)) (a0_0 == a1_0)).bind fun t142 => ((tallyroomref06_order.f (decide (a0_1 < a1_1)) (a0_1 == a1_1)).bind fun t143 => ((tallyroomref06_order.f (decide (a0_2 < a1_2)) (a0_2 == a1_2)).bind fun t144 => ((tallyroomref06_order.f (Op.bytesLess a0_3.toList a1_3.toList) (a0_3.toList == a1_3.toList)).bind fun t145 => ((tallyroomref06_order.f (Op.bytesLess a0_4.toList a1_4.toList) (a0_4.toList == a1_4.toList)).bind fun t146 => ((tallyroomref06_order.f (decide (a0_5 < a1_5)) (a0_5 == a1_5)).bind fun t147 => ((tallyroomref06_order.f (decide (a0_6 < a1_6)) (a0_6 == a1_6)).bind fun t148 => ((tallyroomref06_order.f (decide (a0_7 < a1_7)) (a0_7 == a1_7)).bind fun t149 => ((tallyroomref06_order.f (decide (a0_8 < a1_8)) (a0_8 == a1_8)).bind fun t150 => (tallyroomref06_Compare.l0 k (([t142, t143, t144, t145, t146, t147, t148, t149, t150] : List Int)) 0 a0_0 a0_1 a0_2 a0_3 a0_4 a0_5 a0_6 a0_7 a0_8 l0_9 a1_0 a1_1 a1_2 a1_3 a1_4 a1_5 a1_6 a1_7 a1_8 l1_9)))))))))
theorem tallyroomref06_Compare.mono_l : ∀ k, (∀ y0 y1 y2 y3 y4 y5 y6 y7 y8 y9 y10 y11 y12 y13 y14 y15 y16 y17 y18 y19 y20 y21, LeO (tallyroomref06_Compare.l0 k y0 y1 y2 y3 y4 y5 y6 y7 y8 y9 y10 y11 y12 y13 y14 y15 y16 y17 y18 y19 y20 y21) (tallyroomref06_Compare.l0 (k + 1) y0 y1 y2 y3 y4 y5 y6 y7 y8 y9 y10 y11 y12 y13 y14 y15 y16 y17 y18 y19 y20 y21)) ∧ (∀ y0 y1 y2 y3 y4 y5 y6 y7 y8 y9 y10 y11 y12 y13 y14 y15 y16 y17 y18 y19 y20 y21 y22, LeO (tallyroomref06_Compare.j1 k y0 y1 y2 y3 y4 y5 y6 y7 y8 y9 y10 y11 y12 y13 y14 y15 y16 y17 y18 y19 y20 y21 y22) (tallyroomref06_Compare.j1 (k + 1) y0 y1 y2 y3 y4 y5 y6 y7 y8 y9 y10 y11 y12 y13 y14 y15 y16 y17 y18 y19 y20 y21 y22)) ∧ (∀ y0 y1, LeO (tallyroomref06_Compare.l1 k y0 y1) (tallyroomref06_Compare.l1 (k + 1) y0 y1))
 | 0 => ⟨fun _ _ _ _ _ _ _ _ _ _ _ _ _ _ _ _ _ _ _ _ _ _ r h => by simp [tallyroomref06_Compare.l0] at h, fun _ _ _ _ _ _ _ _ _ _ _ _ _ _ _ _ _ _ _ _ _ _ _ r h => by simp [tallyroomref06_Compare.j1] at h, fun _ _ r h => by simp [tallyroomref06_Compare.l1] at h⟩
 | k + 1 => by
  obtain ⟨ih0, ih1, ih2⟩ := tallyroomref06_Compare.mono_l k
  refine ⟨?_, ?_, ?_⟩
  ·intro y0 y1 y2 y3 y4 y5 y6 y7 y8 y9 y10 y11 y12 y13 y14 y15 y16 y17 y18 y19 y20 y21
   unfold tallyroomref06_Compare.l0
   repeat' first
   | (with_reducible exact ih0 _ _ _ _ _ _ _ _ _ _ _ _ _ _ _ _ _ _ _ _ _ _)
   | (with_reducible exact ih1 _ _ _ _ _ _ _ _ _ _ _ _ _ _ _ _ _ _ _ _ _ _ _)
   | (with_reducible exact ih2 _ _)
   | (with_reducible exact tallyroomref04_Compare.mono _ _ _ _ _ _ _)
   | (with_reducible exact LeO.refl _)
   | (with_reducible exact LeO.none _)
   | (with_reducible refine LeO.ite ?_ ?_)
   | (with_reducible refine LeO.bind ?_ (fun _ => ?_))
   | exact ih0 _ _ _ _ _ _ _ _ _ _ _ _ _ _ _ _ _ _ _ _ _ _
   | exact ih1 _ _ _ _ _ _ _ _ _ _ _ _ _ _ _ _ _ _ _ _ _ _ _
   | exact ih2 _ _
   | exact tallyroomref04_Compare.mono _ _ _ _ _ _ _
   | exact LeO.none _
   | refine LeO.ite ?_ ?_
   | refine LeO.bind ?_ (fun _ => ?_)
  ·intro y0 y1 y2 y3 y4 y5 y6 y7 y8 y9 y10 y11 y12 y13 y14 y15 y16 y17 y18 y19 y20 y21 y22
   unfold tallyroomref06_Compare.j1
   repeat' first
   | (with_reducible exact ih0 _ _ _ _ _ _ _ _ _ _ _ _ _ _ _ _ _ _ _ _ _ _)
   | (with_reducible exact ih1 _ _ _ _ _ _ _ _ _ _ _ _ _ _ _ _ _ _ _ _ _ _ _)
   | (with_reducible exact ih2 _ _)
   | (with_reducible exact tallyroomref04_Compare.mono _ _ _ _ _ _ _)
   | (with_reducible exact LeO.refl _)
   | (with_reducible exact LeO.none _)
   | (with_reducible refine LeO.ite ?_ ?_)
   | (with_reducible refine LeO.bind ?_ (fun _ => ?_))
   | exact ih0 _ _ _ _ _ _ _ _ _ _ _ _ _ _ _ _ _ _ _ _ _ _
   | exact ih1 _ _ _ _ _ _ _ _ _ _ _ _ _ _ _ _ _ _ _ _ _ _ _
   | exact ih2 _ _
   | exact tallyroomref04_Compare.mono _ _ _ _ _ _ _
   | exact LeO.none _
   | refine LeO.ite ?_ ?_
   | refine LeO.bind ?_ (fun _ => ?_)
  ·intro y0 y1
   unfold tallyroomref06_Compare.l1
   repeat' first
   | (with_reducible exact ih0 _ _ _ _ _ _ _ _ _ _ _ _ _ _ _ _ _ _ _ _ _ _)
   | (with_reducible exact ih1 _ _ _ _ _ _ _ _ _ _ _ _ _ _ _ _ _ _ _ _ _ _ _)
   | (with_reducible exact ih2 _ _)
   | (with_reducible exact tallyroomref04_Compare.mono _ _ _ _ _ _ _)
   | (with_reducible exact LeO.refl _)
   | (with_reducible exact LeO.none _)
   | (with_reducible refine LeO.ite ?_ ?_)
   | (with_reducible refine LeO.bind ?_ (fun _ => ?_))
   | exact ih0 _ _ _ _ _ _ _ _ _ _ _ _ _ _ _ _ _ _ _ _ _ _
   | exact ih1 _ _ _ _ _ _ _ _ _ _ _ _ _ _ _ _ _ _ _ _ _ _ _
   | exact ih2 _ _
   | exact tallyroomref04_Compare.mono _ _ _ _ _ _ _
   | exact LeO.none _
   | refine LeO.ite ?_ ?_
   | refine LeO.bind ?_ (fun _ => ?_)
theorem tallyroomref06_Compare.mono : ∀ a0 a1 a2 a3 a4 a5 a6 a7 a8 a9 a10 a11 a12 a13 a14 a15 a16 a17 a18 a19 k, LeO (tallyroomref06_Compare.f k a0 a1 a2 a3 a4 a5 a6 a7 a8 a9 a10 a11 a12 a13 a14 a15 a16 a17 a18 a19) (tallyroomref06_Compare.f (k + 1) a0 a1 a2 a3 a4 a5 a6 a7 a8 a9 a10 a11 a12 a13 a14 a15 a16 a17 a18 a19) := by
 intro a0 a1 a2 a3 a4 a5 a6 a7 a8 a9 a10 a11 a12 a13 a14 a15 a16 a17 a18 a19 k
 obtain ⟨ih0, ih1, ih2⟩ := tallyroomref06_Compare.mono_l k
 unfold tallyroomref06_Compare.f
 repeat' first
   | (with_reducible exact ih0 _ _ _ _ _ _ _ _ _ _ _ _ _ _ _ _ _ _ _ _ _ _)
   | (with_reducible exact ih1 _ _ _ _ _ _ _ _ _ _ _ _ _ _ _ _ _ _ _ _ _ _ _)
   | (with_reducible exact ih2 _ _)
   | (with_reducible exact tallyroomref04_Compare.mono _ _ _ _ _ _ _)
   | (with_reducible exact LeO.refl _)
   | (with_reducible exact LeO.none _)
   | (with_reducible refine LeO.ite ?_ ?_)
   | (with_reducible refine LeO.bind ?_ (fun _ => ?_))
   | exact ih0 _ _ _ _ _ _ _ _ _ _ _ _ _ _ _ _ _ _ _ _ _ _
   | exact ih1 _ _ _ _ _ _ _ _ _ _ _ _ _ _ _ _ _ _ _ _ _ _ _
   | exact ih2 _ _
   | exact tallyroomref04_Compare.mono _ _ _ _ _ _ _
   | exact LeO.none _
   | refine LeO.ite ?_ ?_
   | refine LeO.bind ?_ (fun _ => ?_)
end Go.Proofs.Ytllepjhimkogjaa.XSp
