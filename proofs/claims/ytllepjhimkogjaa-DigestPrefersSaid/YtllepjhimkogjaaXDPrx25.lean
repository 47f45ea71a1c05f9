-- Made by a program of this session (xprint.py), over the translation; Lean checks it.
import Derived.Test.YtllepjhimkogjaaXDPrx0
import Derived.Test.YtllepjhimkogjaaRt
import Derived.Test.YtllepjhimkogjaaXDPrx6
import Derived.Test.YtllepjhimkogjaaXDPrx7
import Derived.Test.YtllepjhimkogjaaXDPrx8
import Derived.Test.YtllepjhimkogjaaXDPrx19
import Derived.Test.YtllepjhimkogjaaXDPrx22
import Derived.Test.YtllepjhimkogjaaXDPrx23
import Derived.Test.YtllepjhimkogjaaXDPrx24
import Derived.Test.YtllepjhimkogjaaShr
namespace Go.Proofs.Ytllepjhimkogjaa.XDPr
open Go.RowKit Go.Proofs.YtllepjhimkogjaaW.PrintWords Go.Proofs.YtllepjhimkogjaaW.PrintLast Go.Proofs.YtllepjhimkogjaaW.PrintMore Go.Proofs.Ytllepjhimkogjaa.Shr
attribute [local go_sem] max2_int min2_int max_two min_two max_three min_three max_four min_four   -- for this text's walks alone
set_option linter.unusedVariables false
set_option linter.unusedSimpArgs false

/-! ### tallyroomlaw09_DigestPrefers: function 5 -/
mutual
def tallyroomlaw09_DigestPrefers.j0 : Nat → List (S37) → Int → Bool → Option (Bool)
 | 0, _, _, _ => none
 | k + 1, x0, x1, x22 => if x22 = true then (some true) else (tallyroomlaw09_DigestPrefers.l0 k x0 x1 0)
def tallyroomlaw09_DigestPrefers.l0 : Nat → List (S37) → Int → Int → Option (Bool)
 | 0, _, _, _ => none
 | k + 1, x0, x1, x5 => if x5 < (x0.length : Int) then (if 0 ≤ x5 then ((tallyroomlaw06_Far.f k ((rd_T37 x0 x5).f0) ((rd_T37 x0 x5).f1) ((rd_T37 x0 x5).f2) ((rd_T37 x0 x5).f3) ((rd_T37 x0 x5).f4) ((rd_T37 x0 x5).f5) ((rd_T37 x0 x5).f6) ((rd_T37 x0 x5).f7) ((rd_T37 x0 x5).f8) ((rd_T37 x0 x5).f9)).bind fun t143 => (if t143 = true then (some true) else (tallyroomlaw09_DigestPrefers.l0 k x0 x1 (wrap64 (x5 + 1))))) else (none)) else (if 0 < (x0.length : Int) then ((tallyroomlaw06_Of.f k ((rd_T37 x0 0).f0) ((rd_T37 x0 0).f1) ((rd_T37 x0 0).f2) ((rd_T37 x0 0).f3) ((rd_T37 x0 0).f4) ((rd_T37 x0 0).f5) ((rd_T37 x0 0).f6) ((rd_T37 x0 0).f7) ((rd_T37 x0 0).f8) ((rd_T37 x0 0).f9)).bind fun bt145 => (if (x0.length : Int) = 0 then (none) else (if 0 ≤ (Int.tmod (wrap64 (x1)) (x0.length : Int)) then (if (Int.tmod (wrap64 (x1)) (x0.length : Int)) < (x0.length : Int) then ((tallyroomlaw06_Of.f k ((rd_T37 x0 (Int.tmod (wrap64 (x1)) (x0.length : Int))).f0) ((rd_T37 x0 (Int.tmod (wrap64 (x1)) (x0.length : Int))).f1) ((rd_T37 x0 (Int.tmod (wrap64 (x1)) (x0.length : Int))).f2) ((rd_T37 x0 (Int.tmod (wrap64 (x1)) (x0.length : Int))).f3) ((rd_T37 x0 (Int.tmod (wrap64 (x1)) (x0.length : Int))).f4) ((rd_T37 x0 (Int.tmod (wrap64 (x1)) (x0.length : Int))).f5) ((rd_T37 x0 (Int.tmod (wrap64 (x1)) (x0.length : Int))).f6) ((rd_T37 x0 (Int.tmod (wrap64 (x1)) (x0.length : Int))).f7) ((rd_T37 x0 (Int.tmod (wrap64 (x1)) (x0.length : Int))).f8) ((rd_T37 x0 (Int.tmod (wrap64 (x1)) (x0.length : Int))).f9)).bind fun bt159 => (tallyroomlaw09_DigestPrefers.l1 k x0 (Int.tmod (wrap64 (x1)) (x0.length : Int)) 0 bt145.1 bt145.2.1 bt145.2.2.1 bt145.2.2.2.1 bt145.2.2.2.2.1 bt145.2.2.2.2.2.1 bt145.2.2.2.2.2.2.1 bt145.2.2.2.2.2.2.2.1 bt145.2.2.2.2.2.2.2.2.1 bt145.2.2.2.2.2.2.2.2.2 bt159.1 bt159.2.1 bt159.2.2.1 bt159.2.2.2.1 bt159.2.2.2.2.1 bt159.2.2.2.2.2.1 bt159.2.2.2.2.2.2.1 bt159.2.2.2.2.2.2.2.1 bt159.2.2.2.2.2.2.2.2.1 bt159.2.2.2.2.2.2.2.2.2)) else (none)) else (none)))) else (none))
def tallyroomlaw09_DigestPrefers.l1 : Nat → List (S37) → Int → Int → Int → Int → Int → ByteArray → ByteArray → Int → Int → Int → Int → List (S51) → Int → Int → Int → ByteArray → ByteArray → Int → Int → Int → Int → List (S51) → Option (Bool)
 | 0, _, _, _, _, _, _, _, _, _, _, _, _, _, _, _, _, _, _, _, _, _, _, _ => none
 | k + 1, x0, x7, x9, x158000, x158001, x158002, x158003, x158004, x158005, x158006, x158007, x158008, x158009, x172000, x172001, x172002, x172003, x172004, x172005, x172006, x172007, x172008, x172009 => if x9 < (x0.length : Int) then (if 0 ≤ x9 then ((tallyroomlaw06_Of.f k ((rd_T37 x0 x9).f0) ((rd_T37 x0 x9).f1) ((rd_T37 x0 x9).f2) ((rd_T37 x0 x9).f3) ((rd_T37 x0 x9).f4) ((rd_T37 x0 x9).f5) ((rd_T37 x0 x9).f6) ((rd_T37 x0 x9).f7) ((rd_T37 x0 x9).f8) ((rd_T37 x0 x9).f9)).bind fun bt173 => ((digest_Prefer.f x158000 x158001 x158002 x158003 x158004 x158005 x158006 x158007 x158008 x158009 bt173.1 bt173.2.1 bt173.2.2.1 bt173.2.2.2.1 bt173.2.2.2.2.1 bt173.2.2.2.2.2.1 bt173.2.2.2.2.2.2.1 bt173.2.2.2.2.2.2.2.1 bt173.2.2.2.2.2.2.2.2.1 bt173.2.2.2.2.2.2.2.2.2).bind fun bt185 => (if (x0.length : Int) = 0 then (none) else (if 0 ≤ (Int.tmod (wrap64 ((wrap64 ((wrap64 ((x0.length : Int) - 1)) - x9)) + x7)) (x0.length : Int)) then (if (Int.tmod (wrap64 ((wrap64 ((wrap64 ((x0.length : Int) - 1)) - x9)) + x7)) (x0.length : Int)) < (x0.length : Int) then ((tallyroomlaw06_Of.f k ((rd_T37 x0 (Int.tmod (wrap64 ((wrap64 ((wrap64 ((x0.length : Int) - 1)) - x9)) + x7)) (x0.length : Int))).f0) ((rd_T37 x0 (Int.tmod (wrap64 ((wrap64 ((wrap64 ((x0.length : Int) - 1)) - x9)) + x7)) (x0.length : Int))).f1) ((rd_T37 x0 (Int.tmod (wrap64 ((wrap64 ((wrap64 ((x0.length : Int) - 1)) - x9)) + x7)) (x0.length : Int))).f2) ((rd_T37 x0 (Int.tmod (wrap64 ((wrap64 ((wrap64 ((x0.length : Int) - 1)) - x9)) + x7)) (x0.length : Int))).f3) ((rd_T37 x0 (Int.tmod (wrap64 ((wrap64 ((wrap64 ((x0.length : Int) - 1)) - x9)) + x7)) (x0.length : Int))).f4) ((rd_T37 x0 (Int.tmod (wrap64 ((wrap64 ((wrap64 ((x0.length : Int) - 1)) - x9)) + x7)) (x0.length : Int))).f5) ((rd_T37 x0 (Int.tmod (wrap64 ((wrap64 ((wrap64 ((x0.length : Int) - 1)) - x9)) + x7)) (x0.length : Int))).f6) ((rd_T37 x0 (Int.tmod (wrap64 ((wrap64 ((wrap64 ((x0.length : Int) - 1)) - x9)) + x7)) (x0.length : Int))).f7) ((rd_T37 x0 (Int.tmod (wrap64 ((wrap64 ((wrap64 ((x0.length : Int) - 1)) - x9)) + x7)) (x0.length : Int))).f8) ((rd_T37 x0 (Int.tmod (wrap64 ((wrap64 ((wrap64 ((x0.length : Int) - 1)) - x9)) + x7)) (x0.length : Int))).f9)).bind fun bt198 => ((digest_Prefer.f bt198.1 bt198.2.1 bt198.2.2.1 bt198.2.2.2.1 bt198.2.2.2.2.1 bt198.2.2.2.2.2.1 bt198.2.2.2.2.2.2.1 bt198.2.2.2.2.2.2.2.1 bt198.2.2.2.2.2.2.2.2.1 bt198.2.2.2.2.2.2.2.2.2 x172000 x172001 x172002 x172003 x172004 x172005 x172006 x172007 x172008 x172009).bind fun bt210 => (tallyroomlaw09_DigestPrefers.l1 k x0 x7 (wrap64 (x9 + 1)) bt185.1 bt185.2.1 bt185.2.2.1 bt185.2.2.2.1 bt185.2.2.2.2.1 bt185.2.2.2.2.2.1 bt185.2.2.2.2.2.2.1 bt185.2.2.2.2.2.2.2.1 bt185.2.2.2.2.2.2.2.2.1 bt185.2.2.2.2.2.2.2.2.2 bt210.1 bt210.2.1 bt210.2.2.1 bt210.2.2.2.1 bt210.2.2.2.2.1 bt210.2.2.2.2.2.1 bt210.2.2.2.2.2.2.1 bt210.2.2.2.2.2.2.2.1 bt210.2.2.2.2.2.2.2.2.1 bt210.2.2.2.2.2.2.2.2.2))) else (none)) else (none))))) else (none)) else ((tallyroomlaw06_To.f k x158000 x158001 x158002 x158003 x158004 x158005 x158006 x158007 x158008 x158009).bind fun bt222 => ((tallyroomlaw06_To.f k x172000 x172001 x172002 x172003 x172004 x172005 x172006 x172007 x172008 x172009).bind fun bt234 => ((tallyroomref06_Same.f bt222.1 bt222.2.1 bt222.2.2.1 bt222.2.2.2.1 bt222.2.2.2.2.1 bt222.2.2.2.2.2.1 bt222.2.2.2.2.2.2.1 bt222.2.2.2.2.2.2.2.1 bt222.2.2.2.2.2.2.2.2.1 bt222.2.2.2.2.2.2.2.2.2 bt234.1 bt234.2.1 bt234.2.2.1 bt234.2.2.2.1 bt234.2.2.2.2.1 bt234.2.2.2.2.2.1 bt234.2.2.2.2.2.2.1 bt234.2.2.2.2.2.2.2.1 bt234.2.2.2.2.2.2.2.2.1 bt234.2.2.2.2.2.2.2.2.2).bind fun t246 => (if t246 = true then (tallyroomlaw09_DigestPrefers.l2 k x0 false 0 x158000 x158001 x158002 x158003 x158004 x158005 x158006 x158007 x158008 x158009) else (some false)))))
def tallyroomlaw09_DigestPrefers.l2 : Nat → List (S37) → Bool → Int → Int → Int → Int → ByteArray → ByteArray → Int → Int → Int → Int → List (S51) → Option (Bool)
 | 0, _, _, _, _, _, _, _, _, _, _, _, _, _ => none
 | k + 1, x0, x10, x11, x158000, x158001, x158002, x158003, x158004, x158005, x158006, x158007, x158008, x158009 => if x11 < (x0.length : Int) then (if 0 ≤ x11 then ((tallyroomlaw06_To.f k x158000 x158001 x158002 x158003 x158004 x158005 x158006 x158007 x158008 x158009).bind fun bt248 => ((tallyroomref06_Compare.f ((rd_T37 x0 x11).f0) ((rd_T37 x0 x11).f1) ((rd_T37 x0 x11).f2) ((rd_T37 x0 x11).f3) ((rd_T37 x0 x11).f4) ((rd_T37 x0 x11).f5) ((rd_T37 x0 x11).f6) ((rd_T37 x0 x11).f7) ((rd_T37 x0 x11).f8) ((rd_T37 x0 x11).f9) bt248.1 bt248.2.1 bt248.2.2.1 bt248.2.2.2.1 bt248.2.2.2.2.1 bt248.2.2.2.2.2.1 bt248.2.2.2.2.2.2.1 bt248.2.2.2.2.2.2.2.1 bt248.2.2.2.2.2.2.2.2.1 bt248.2.2.2.2.2.2.2.2.2).bind fun t260 => (if x10 = true then (if t260 < 0 then (some false) else (tallyroomlaw09_DigestPrefers.l2 k x0 true (wrap64 (x11 + 1)) x158000 x158001 x158002 x158003 x158004 x158005 x158006 x158007 x158008 x158009)) else (if t260 < 0 then (some false) else (tallyroomlaw09_DigestPrefers.l2 k x0 (t260 == 0) (wrap64 (x11 + 1)) x158000 x158001 x158002 x158003 x158004 x158005 x158006 x158007 x158008 x158009))))) else (none)) else (some x10)
end
def tallyroomlaw09_DigestPrefers.f (k : Nat) (l0 : List (S37)) (a1 : Int) : Option (Bool) := (tallyroomlaw09_alive.f).bind fun t141 => (if t141 = true then (if (l0.length : Int) > 12 then (tallyroomlaw09_DigestPrefers.j0 k l0 a1 true) else (tallyroomlaw09_DigestPrefers.j0 k l0 a1 ((l0.length : Int) == 0))) else (some false))
theorem tallyroomlaw09_DigestPrefers.mono_l : ∀ k, (∀ y0 y1 y2, LeO (tallyroomlaw09_DigestPrefers.j0 k y0 y1 y2) (tallyroomlaw09_DigestPrefers.j0 (k + 1) y0 y1 y2)) ∧ (∀ y0 y1 y2, LeO (tallyroomlaw09_DigestPrefers.l0 k y0 y1 y2) (tallyroomlaw09_DigestPrefers.l0 (k + 1) y0 y1 y2)) ∧ (∀ y0 y1 y2 y3 y4 y5 y6 y7 y8 y9 y10 y11 y12 y13 y14 y15 y16 y17 y18 y19 y20 y21 y22, LeO (tallyroomlaw09_DigestPrefers.l1 k y0 y1 y2 y3 y4 y5 y6 y7 y8 y9 y10 y11 y12 y13 y14 y15 y16 y17 y18 y19 y20 y21 y22) (tallyroomlaw09_DigestPrefers.l1 (k + 1) y0 y1 y2 y3 y4 y5 y6 y7 y8 y9 y10 y11 y12 y13 y14 y15 y16 y17 y18 y19 y20 y21 y22)) ∧ (∀ y0 y1 y2 y3 y4 y5 y6 y7 y8 y9 y10 y11 y12, LeO (tallyroomlaw09_DigestPrefers.l2 k y0 y1 y2 y3 y4 y5 y6 y7 y8 y9 y10 y11 y12) (tallyroomlaw09_DigestPrefers.l2 (k + 1) y0 y1 y2 y3 y4 y5 y6 y7 y8 y9 y10 y11 y12))
 | 0 => ⟨fun _ _ _ r h => by simp [tallyroomlaw09_DigestPrefers.j0] at h, fun _ _ _ r h => by simp [tallyroomlaw09_DigestPrefers.l0] at h, fun _ _ _ _ _ _ _ _ _ _ _ _ _ _ _ _ _ _ _ _ _ _ _ r h => by simp [tallyroomlaw09_DigestPrefers.l1] at h, fun _ _ _ _ _ _ _ _ _ _ _ _ _ r h => by simp [tallyroomlaw09_DigestPrefers.l2] at h⟩
 | k + 1 => by
  obtain ⟨ih0, ih1, ih2, ih3⟩ := tallyroomlaw09_DigestPrefers.mono_l k
  refine ⟨?_, ?_, ?_, ?_⟩
  ·intro y0 y1 y2
   unfold tallyroomlaw09_DigestPrefers.j0
   repeat' first
   | (with_reducible exact ih0 _ _ _)
   | (with_reducible exact ih1 _ _ _)
   | (with_reducible exact ih2 _ _ _ _ _ _ _ _ _ _ _ _ _ _ _ _ _ _ _ _ _ _ _)
   | (with_reducible exact ih3 _ _ _ _ _ _ _ _ _ _ _ _ _)
   | (with_reducible exact tallyroomlaw06_Far.mono _ _ _ _ _ _ _ _ _ _ _)
   | (with_reducible exact tallyroomlaw06_Of.mono _ _ _ _ _ _ _ _ _ _ _)
   | (with_reducible exact tallyroomlaw06_To.mono _ _ _ _ _ _ _ _ _ _ _)
   | (with_reducible exact LeO.refl _)
   | (with_reducible exact LeO.none _)
   | (with_reducible refine LeO.ite ?_ ?_)
   | (with_reducible refine LeO.bind ?_ (fun _ => ?_))
   | exact ih0 _ _ _
   | exact ih1 _ _ _
   | exact ih2 _ _ _ _ _ _ _ _ _ _ _ _ _ _ _ _ _ _ _ _ _ _ _
   | exact ih3 _ _ _ _ _ _ _ _ _ _ _ _ _
   | exact tallyroomlaw06_Far.mono _ _ _ _ _ _ _ _ _ _ _
   | exact tallyroomlaw06_Of.mono _ _ _ _ _ _ _ _ _ _ _
   | exact tallyroomlaw06_To.mono _ _ _ _ _ _ _ _ _ _ _
   | exact LeO.none _
   | refine LeO.ite ?_ ?_
   | refine LeO.bind ?_ (fun _ => ?_)
  ·intro y0 y1 y2
   unfold tallyroomlaw09_DigestPrefers.l0
   repeat' first
   | (with_reducible exact ih0 _ _ _)
   | (with_reducible exact ih1 _ _ _)
   | (with_reducible exact ih2 _ _ _ _ _ _ _ _ _ _ _ _ _ _ _ _ _ _ _ _ _ _ _)
   | (with_reducible exact ih3 _ _ _ _ _ _ _ _ _ _ _ _ _)
   | (with_reducible exact tallyroomlaw06_Far.mono _ _ _ _ _ _ _ _ _ _ _)
   | (with_reducible exact tallyroomlaw06_Of.mono _ _ _ _ _ _ _ _ _ _ _)
   | (with_reducible exact tallyroomlaw06_To.mono _ _ _ _ _ _ _ _ _ _ _)
   | (with_reducible exact LeO.refl _)
   | (with_reducible exact LeO.none _)
   | (with_reducible refine LeO.ite ?_ ?_)
   | (with_reducible refine LeO.bind ?_ (fun _ => ?_))
   | exact ih0 _ _ _
   | exact ih1 _ _ _
   | exact ih2 _ _ _ _ _ _ _ _ _ _ _ _ _ _ _ _ _ _ _ _ _ _ _
   | exact ih3 _ _ _ _ _ _ _ _ _ _ _ _ _
   | exact tallyroomlaw06_Far.mono _ _ _ _ _ _ _ _ _ _ _
   | exact tallyroomlaw06_Of.mono _ _ _ _ _ _ _ _ _ _ _
   | exact tallyroomlaw06_To.mono _ _ _ _ _ _ _ _ _ _ _
   | exact LeO.none _
   | refine LeO.ite ?_ ?_
   | refine LeO.bind ?_ (fun _ => ?_)
  ·intro y0 y1 y2 y3 y4 y5 y6 y7 y8 y9 y10 y11 y12 y13 y14 y15 y16 y17 y18 y19 y20 y21 y22
   unfold tallyroomlaw09_DigestPrefers.l1
   repeat' first
   | (with_reducible exact ih0 _ _ _)
   | (with_reducible exact ih1 _ _ _)
   | (with_reducible exact ih2 _ _ _ _ _ _ _ _ _ _ _ _ _ _ _ _ _ _ _ _ _ _ _)
   | (with_reducible exact ih3 _ _ _ _ _ _ _ _ _ _ _ _ _)
   | (with_reducible exact tallyroomlaw06_Far.mono _ _ _ _ _ _ _ _ _ _ _)
   | (with_reducible exact tallyroomlaw06_Of.mono _ _ _ _ _ _ _ _ _ _ _)
   | (with_reducible exact tallyroomlaw06_To.mono _ _ _ _ _ _ _ _ _ _ _)
   | (with_reducible exact LeO.refl _)
   | (with_reducible exact LeO.none _)
   | (with_reducible refine LeO.ite ?_ ?_)
   | (with_reducible refine LeO.bind ?_ (fun _ => ?_))
   | exact ih0 _ _ _
   | exact ih1 _ _ _
   | exact ih2 _ _ _ _ _ _ _ _ _ _ _ _ _ _ _ _ _ _ _ _ _ _ _
   | exact ih3 _ _ _ _ _ _ _ _ _ _ _ _ _
   | exact tallyroomlaw06_Far.mono _ _ _ _ _ _ _ _ _ _ _
   | exact tallyroomlaw06_Of.mono _ _ _ _ _ _ _ _ _ _ _
   | exact tallyroomlaw06_To.mono _ _ _ _ _ _ _ _ _ _ _
   | exact LeO.none _
   | refine LeO.ite ?_ ?_
   | refine LeO.bind ?_ (fun _ => ?_)
  ·intro y0 y1 y2 y3 y4 y5 y6 y7 y8 y9 y10 y11 y12
   unfold tallyroomlaw09_DigestPrefers.l2
   repeat' first
   | (with_reducible exact ih0 _ _ _)
   | (with_reducible exact ih1 _ _ _)
   | (with_reducible exact ih2 _ _ _ _ _ _ _ _ _ _ _ _ _ _ _ _ _ _ _ _ _ _ _)
   | (with_reducible exact ih3 _ _ _ _ _ _ _ _ _ _ _ _ _)
   | (with_reducible exact tallyroomlaw06_Far.mono _ _ _ _ _ _ _ _ _ _ _)
   | (with_reducible exact tallyroomlaw06_Of.mono _ _ _ _ _ _ _ _ _ _ _)
   | (with_reducible exact tallyroomlaw06_To.mono _ _ _ _ _ _ _ _ _ _ _)
   | (with_reducible exact LeO.refl _)
   | (with_reducible exact LeO.none _)
   | (with_reducible refine LeO.ite ?_ ?_)
   | (with_reducible refine LeO.bind ?_ (fun _ => ?_))
   | exact ih0 _ _ _
   | exact ih1 _ _ _
   | exact ih2 _ _ _ _ _ _ _ _ _ _ _ _ _ _ _ _ _ _ _ _ _ _ _
   | exact ih3 _ _ _ _ _ _ _ _ _ _ _ _ _
   | exact tallyroomlaw06_Far.mono _ _ _ _ _ _ _ _ _ _ _
   | exact tallyroomlaw06_Of.mono _ _ _ _ _ _ _ _ _ _ _
   | exact tallyroomlaw06_To.mono _ _ _ _ _ _ _ _ _ _ _
   | exact LeO.none _
   | refine LeO.ite ?_ ?_
   | refine LeO.bind ?_ (fun _ => ?_)
theorem tallyroomlaw09_DigestPrefers.mono : ∀ a0 a1 k, LeO (tallyroomlaw09_DigestPrefers.f k a0 a1) (tallyroomlaw09_DigestPrefers.f (k + 1) a0 a1) := by
 intro a0 a1 k
 obtain ⟨ih0, ih1, ih2, ih3⟩ := tallyroomlaw09_DigestPrefers.mono_l k
 unfold tallyroomlaw09_DigestPrefers.f
 repeat' first
   | (with_reducible exact ih0 _ _ _)
   | (with_reducible exact ih1 _ _ _)
   | (with_reducible exact ih2 _ _ _ _ _ _ _ _ _ _ _ _ _ _ _ _ _ _ _ _ _ _ _)
   | (with_reducible exact ih3 _ _ _ _ _ _ _ _ _ _ _ _ _)
   | (with_reducible exact tallyroomlaw06_Far.mono _ _ _ _ _ _ _ _ _ _ _)
   | (with_reducible exact tallyroomlaw06_Of.mono _ _ _ _ _ _ _ _ _ _ _)
   | (with_reducible exact tallyroomlaw06_To.mono _ _ _ _ _ _ _ _ _ _ _)
   | (with_reducible exact LeO.refl _)
   | (with_reducible exact LeO.none _)
   | (with_reducible refine LeO.ite ?_ ?_)
   | (with_reducible refine LeO.bind ?_ (fun _ => ?_))
   | exact ih0 _ _ _
   | exact ih1 _ _ _
   | exact ih2 _ _ _ _ _ _ _ _ _ _ _ _ _ _ _ _ _ _ _ _ _ _ _
   | exact ih3 _ _ _ _ _ _ _ _ _ _ _ _ _
   | exact tallyroomlaw06_Far.mono _ _ _ _ _ _ _ _ _ _ _
   | exact tallyroomlaw06_Of.mono _ _ _ _ _ _ _ _ _ _ _
   | exact tallyroomlaw06_To.mono _ _ _ _ _ _ _ _ _ _ _
   | exact LeO.none _
   | refine LeO.ite ?_ ?_
   | refine LeO.bind ?_ (fun _ => ?_)
def tallyroomlaw09_DigestPrefers.T16 : Bool × List (List Nat × List Nat) := (true, [([], []), ([], []), ([], []), ([1, 2], [1, 2]), ([3], [3]), ([4], [4]), ([0, 5, 5], [0, 5]), ([6, 6, 0, 1, 2, 3, 4, 5, 6], [6])])
def tallyroomlaw09_DigestPrefers.B16 : List Nat := [0, 0, 0, 6, 14, 30, 63, 127]
theorem tallyroomlaw09_DigestPrefers.tab16 : rtab .any (opsOf Try.f5 16) = tallyroomlaw09_DigestPrefers.T16 := by kernel_rfl
theorem tallyroomlaw09_DigestPrefers.bits16 : waitsOk tallyroomlaw09_DigestPrefers.T16.2 tallyroomlaw09_DigestPrefers.B16 = true := by kernel_rfl
def tallyroomlaw09_DigestPrefers.T17 : Bool × List (List Nat × List Nat) := (true, [([], []), ([], []), ([1], [1]), ([2], [2]), ([], []), ([3, 4], [3, 4]), ([], []), ([5, 6], [5, 6]), ([], []), ([8], [8]), ([7, 9], [7, 9]), ([0, 10], [0, 10]), ([11], [11]), ([12], [12]), ([], []), ([13, 14, 13], [13, 14]), ([15, 15, 0, 1, 2, 3, 4, 5, 6, 7, 8, 9, 10, 11, 12, 13, 14, 15], [15])])
def tallyroomlaw09_DigestPrefers.B17 : List Nat := [0, 0, 2, 6, 0, 30, 0, 126, 0, 256, 1022, 2047, 4095, 8191, 0, 32767, 65535]
theorem tallyroomlaw09_DigestPrefers.tab17 : rtab .any (opsOf Try.f5 17) = tallyroomlaw09_DigestPrefers.T17 := by kernel_rfl
theorem tallyroomlaw09_DigestPrefers.bits17 : waitsOk tallyroomlaw09_DigestPrefers.T17.2 tallyroomlaw09_DigestPrefers.B17 = true := by kernel_rfl
def tallyroomlaw09_DigestPrefers.T24 : Bool × List (List Nat × List Nat) := (true, [([], []), ([], []), ([0, 1], [0, 1]), ([2], [2]), ([], []), ([4], [4]), ([3, 5, 5], [3, 5]), ([6, 6, 0, 1, 2, 3, 4, 5, 6], [6])])
def tallyroomlaw09_DigestPrefers.B24 : List Nat := [0, 0, 3, 7, 0, 16, 63, 127]
theorem tallyroomlaw09_DigestPrefers.tab24 : rtab .any (opsOf Try.f5 24) = tallyroomlaw09_DigestPrefers.T24 := by kernel_rfl
theorem tallyroomlaw09_DigestPrefers.bits24 : waitsOk tallyroomlaw09_DigestPrefers.T24.2 tallyroomlaw09_DigestPrefers.B24 = true := by kernel_rfl
set_option maxHeartbeats 8000000 in
set_option maxRecDepth 100000 in
theorem tallyroomlaw09_DigestPrefers.calls (k : Nat) (A0 : Option Addr) (c0 : Nat) (l0 : List (S37)) (a1 : Int) (r : Bool) (w : World) (hr0 : Kd.C k37 w A0 l0.length l0) (hc0 : l0.length ≤ c0) (h : tallyroomlaw09_DigestPrefers.f k l0 a1 = some r) :
  Calls Try.prog 5 #[.slice A0 l0.length c0, .int .u8 a1] w fun e w' => e = .returned (.bool r) ∧ Below w.heap.size w w' := by
 have hu37 := Try.underlying37
 have hu40 := Try.underlying40
 have HR0 := Aside0.mk hr0
 have HC0 := Aside0.mk hc0
 clear hr0 hc0
 have HB := Aside0.mk (Below.refl w.heap.size w)
 have H : ((tallyroomlaw09_alive.f).bind fun t141 => (if t141 = true then (if (l0.length : Int) > 12 then (tallyroomlaw09_DigestPrefers.j0 k l0 a1 true) else (tallyroomlaw09_DigestPrefers.j0 k l0 a1 ((l0.length : Int) == 0))) else (some false))) = some r := h
 clear h
 replace H := Option.bind_eq_some_iff.mp H
 obtain ⟨t141, A30, H⟩ := H
 replace H : (if t141 = true then (if (l0.length : Int) > 12 then (tallyroomlaw09_DigestPrefers.j0 k l0 a1 true) else (tallyroomlaw09_DigestPrefers.j0 k l0 a1 ((l0.length : Int) == 0))) else (some false)) = some r := H
 have A3 := Aside0.mk A30
 clear A30
 by_cases c4 : t141 = true
 ·subst c4
  have H1 : (if (l0.length : Int) > 12 then (tallyroomlaw09_DigestPrefers.j0 k l0 a1 true) else (tallyroomlaw09_DigestPrefers.j0 k l0 a1 ((l0.length : Int) == 0))) = some r := by rw [if_pos rfl] at H; exact H
  clear H
  have H := H1
  clear H1
  have HC5 := Aside0.mk H
  clear H
  go_enter Try.func5, Try.ntmps5
  go_upto_region 3 with (first | ((with_reducible refine gate_callee (f := 15) rfl ?_); refine goesL_ (some 13) rfl rfl Try.func15 (by kernel_rfl) rfl #[] rfl (by (try simp only [List.map_toArray, List.map_cons, List.map_nil]); first | done | rfl | (simp only [List.length_drop, List.length_take]; rfl)) ?_; (with_reducible refine (tallyroomlaw09_alive.calls  true _ A3.out).mono ?_); rintro e w6 ⟨rfl, hb⟩; refine ⟨_, rfl, ?_⟩; have n0_ := Aside0.mk (ls_ (by repeat (first | (with_reducible first | exact HB.out | apply lA_ | apply lN_ | apply l1_) | exact HB.out)) hb); clear HB; have HB := n0_; clear n0_; (try clear hb); (try clear hb2); (try clear hk); (try clear hi)))
  (try simp only [Act.put, sb_, sz_, ss_])
  go_cut [22] (fun v22 wc => ∃ (kq : Nat) (x22_4 : Bool), v22 = .bool x22_4 ∧ Aside0 (tallyroomlaw09_DigestPrefers.j0 kq l0 a1 x22_4 = some r) ∧ Aside0 (kq ≤ k) ∧ Aside0 (Below w.heap.size w wc))
  case first =>
   have H := HC5.out
   clear HC5
   by_cases c7 : (l0.length : Int) > 12
   ·rw [if_pos c7] at H
    have c7b0 : decide (12 < (l0.length : Int)) = true := decide_eq_true c7
    have c7b1 : decide (12 < l0.length) = true := decide_eq_true (by omega)
    clear c7
    (first | rw [c7b0] | (simp only [i64_w, i32_w]; rw [c7b0]) | skip)
    have H' := Aside0.mk H
    clear H
    go_wp2
    go_meet
    case rel => exact ⟨_, (true), (by first | rfl | (simp; done) | (simp [*]; done)), H', ⟨by first | omega | exact Nat.le_refl _⟩, ⟨by repeat (first | (with_reducible first | exact HB.out | apply lA_ | apply lN_ | apply l1_) | exact HB.out)⟩⟩
   ·rw [if_neg c7] at H
    have c7b0 : decide (12 < (l0.length : Int)) = false := decide_eq_false c7
    have c7b1 : decide (12 < l0.length) = false := decide_eq_false (by omega)
    clear c7
    (first | rw [c7b0] | (simp only [i64_w, i32_w]; rw [c7b0]) | skip)
    have H' := Aside0.mk H
    clear H
    go_wp2
    go_meet
    case rel => exact ⟨_, (((l0.length : Int) == 0)), (by first | rfl | (simp; done) | (simp [*]; done)), H', ⟨by first | omega | exact Nat.le_refl _⟩, ⟨by repeat (first | (with_reducible first | exact HB.out | apply lA_ | apply lN_ | apply l1_) | exact HB.out)⟩⟩
  case rest =>
   clear HC5
   try clear c1
   try clear p2
   try clear c4
   try clear c5
   try clear c7
   try clear c7b0
   try clear c7b1
   obtain ⟨kq, x22_4, rfl, HA, HJ4, HB⟩ := hcut
   cases kq with
   | zero => exact absurd HA.out (by simp [tallyroomlaw09_DigestPrefers.j0])
   | succ kj4 =>
    have H := HA.out
    clear HA
    simp only [tallyroomlaw09_DigestPrefers.j0] at H
    by_cases c8 : x22_4 = true
    ·subst c8
     have H1 : (some true) = some r := by rw [if_pos rfl] at H; exact H
     clear H
     have H := H1
     clear H1
     obtain rfl := Option.some.inj H
     go_wp2
     go_ret
     exact ⟨by first | rfl | (have e_ := Option.some.inj (A16.out.symm.trans A21.out); simp only [Prod.mk.injEq] at e_; obtain ⟨rfl, rfl, rfl, rfl, rfl, rfl, rfl, rfl, rfl, rfl⟩ := e_; first | rfl | (simp [*, errW_none, errW_some] <;> rfl)) | (have e_ := Option.some.inj (A16.out.symm.trans A33.out); simp only [Prod.mk.injEq] at e_; obtain ⟨rfl, rfl, rfl, rfl, rfl, rfl, rfl, rfl, rfl, rfl⟩ := e_; first | rfl | (simp [*, errW_none, errW_some] <;> rfl)) | (have e_ := Option.some.inj (A21.out.symm.trans A33.out); simp only [Prod.mk.injEq] at e_; obtain ⟨rfl, rfl, rfl, rfl, rfl, rfl, rfl, rfl, rfl, rfl⟩ := e_; first | rfl | (simp [*, errW_none, errW_some] <;> rfl)) | (have e_ := Option.some.inj (A34.out.symm.trans A39.out); simp only [Prod.mk.injEq] at e_; obtain ⟨rfl, rfl, rfl, rfl, rfl, rfl, rfl, rfl, rfl, rfl⟩ := e_; first | rfl | (simp [*, errW_none, errW_some] <;> rfl)) | (have e_ := Option.some.inj (A40.out.symm.trans A74.out); simp only [Prod.mk.injEq] at e_; obtain ⟨rfl, rfl, rfl, rfl, rfl, rfl, rfl, rfl, rfl, rfl⟩ := e_; first | rfl | (simp [*, errW_none, errW_some] <;> rfl)) | (simp [errW_none, errW_some] <;> rfl) | (simp [*, errW_none, errW_some] <;> rfl), by repeat (first | (with_reducible first | exact HB.out | apply lA_ | apply lN_ | apply l1_) | exact HB.out)⟩
    ·replace c8 := Bool.eq_false_iff.mpr c8
     subst c8
     have H1 : (tallyroomlaw09_DigestPrefers.l0 kj4 l0 a1 0) = some r := by rw [if_neg (show ¬ (false = true) by decide)] at H; exact H
     clear H
     have H := H1
     clear H1
     have H' := Aside0.mk H
     clear H
     go_wp2
     go_loopg [5] kj4 (fun kq v5 w' => ∃ (x5_2 : Int), v5 = .int .i64 x5_2 ∧ Aside0 (tallyroomlaw09_DigestPrefers.l0 kq l0 a1 x5_2 = some r) ∧ Aside0 (kq ≤ kj4) ∧ Aside0 (Below w.heap.size w w'))
     case atStart => exact ⟨(0), (by first | rfl | (simp; done) | (simp [*]; done)), H', ⟨Nat.le_refl _⟩, ⟨by repeat (first | (with_reducible first | exact HB.out | apply lA_ | apply lN_ | apply l1_) | exact HB.out)⟩⟩
     case round =>
      clear H'
      try clear c1
      try clear p2
      try clear c4
      try clear c5
      try clear c7
      try clear c7b0
      try clear c7b1
      try clear c8
      try clear p2
      obtain ⟨x5_2, rfl, HA, HK2, HB⟩ := hrel
      cases gk with
      | zero => exact absurd HA.out (by simp [tallyroomlaw09_DigestPrefers.l0])
      | succ k2 =>
       have H := HA.out
       clear HA
       simp only [tallyroomlaw09_DigestPrefers.l0] at H
       by_cases c9 : x5_2 < (l0.length : Int)
       ·rw [if_pos c9] at H
        have c9b0 : decide (x5_2 < (l0.length : Int)) = true := decide_eq_true c9
        clear c9
        by_cases c10 : 0 ≤ x5_2
        ·rw [if_pos c10] at H
         have c10b0 : decide (0 ≤ x5_2) = true := decide_eq_true c10
         clear c10
         replace H := Option.bind_eq_some_iff.mp H
         obtain ⟨t143, A110, H⟩ := H
         replace H : (if t143 = true then (some true) else (tallyroomlaw09_DigestPrefers.l0 k2 l0 a1 (wrap64 (x5_2 + 1)))) = some r := H
         have A11 := Aside0.mk A110
         clear A110
         by_cases c12 : t143 = true
         ·subst c12
          have H1 : (some true) = some r := by rw [if_pos rfl] at H; exact H
          clear H
          have H := H1
          clear H1
          obtain rfl := Option.some.inj H
          have p142 : 0 ≤ (x5_2 : Int) := of_decide_eq_true (by first | (with_reducible assumption) | assumption)
          have q142 : x5_2 < (l0.length : Int) := of_decide_eq_true (by first | (with_reducible assumption) | assumption)
          obtain ⟨ad142, A142_9, c142_9, e142, hx142_0, hx142_1, hx142_2, hx142_3, hx142_4, hx142_5, hx142_6, hx142_7, hx142_8, hx142_9, hl142_9, hi142_9⟩ := at_T37 HR0.out x5_2 p142 q142
          cases e142
          replace hx142_0 := bc_ HB.out hx142_0
          replace hx142_1 := bc_ HB.out hx142_1
          replace hx142_2 := bc_ HB.out hx142_2
          replace hx142_3 := bc_ HB.out hx142_3
          replace hx142_4 := bc_ HB.out hx142_4
          replace hx142_5 := bc_ HB.out hx142_5
          replace hx142_6 := bc_ HB.out hx142_6
          replace hx142_7 := bc_ HB.out hx142_7
          replace hx142_8 := bc_ HB.out hx142_8
          replace hx142_9 := bc_ HB.out hx142_9
          have HR142_9 := Aside0.mk hi142_9
          have HC142_9 := Aside0.mk hl142_9
          clear hi142_9 hl142_9
          replace p142 := eq_true p142
          replace q142 := eq_true q142
          go_wp2_with (first | ((with_reducible refine gate_callee (f := 20) rfl ?_); refine goesL_ (some 33) rfl rfl Try.func20 (by kernel_rfl) rfl #[.agg #[.int .u64 ((rd_T37 l0 x5_2).f0), .int .u64 ((rd_T37 l0 x5_2).f1), .int .u64 ((rd_T37 l0 x5_2).f2), .string ((rd_T37 l0 x5_2).f3), .string ((rd_T37 l0 x5_2).f4), .int .i64 ((rd_T37 l0 x5_2).f5), .int .i64 ((rd_T37 l0 x5_2).f6), .int .u64 ((rd_T37 l0 x5_2).f7), .int .u64 ((rd_T37 l0 x5_2).f8), .slice A142_9 ((rd_T37 l0 x5_2).f9).length c142_9]] rfl (by (try simp only [List.map_toArray, List.map_cons, List.map_nil]); first | done | rfl | (simp only [List.length_drop, List.length_take]; rfl)) ?_; (with_reducible refine (tallyroomlaw06_Far.calls k2 ((rd_T37 l0 x5_2).f0) ((rd_T37 l0 x5_2).f1) ((rd_T37 l0 x5_2).f2) ((rd_T37 l0 x5_2).f3) ((rd_T37 l0 x5_2).f4) ((rd_T37 l0 x5_2).f5) ((rd_T37 l0 x5_2).f6) ((rd_T37 l0 x5_2).f7) ((rd_T37 l0 x5_2).f8) _ _ ((rd_T37 l0 x5_2).f9) true _ ?side1 ?side2 A11.out).mono ?_); (case side1 => repeat (first | exact (Kd.C_below HR142_9.out HB.out) | (with_reducible refine Kd.C_alloc ?_ _) | (with_reducible refine Kd.C_drewN ?_ _) | (with_reducible refine Kd.C_drew ?_))); (case side2 => exact HC142_9.out); rintro e w13 ⟨rfl, hb⟩; refine ⟨_, rfl, ?_⟩; have n0_ := Aside0.mk (ls_ (by repeat (first | (with_reducible first | exact HB.out | apply lA_ | apply lN_ | apply l1_) | exact HB.out)) hb); clear HB; have HB := n0_; clear n0_; (try clear hb); (try clear hb2); (try clear hk); (try clear hi)))
          go_ret
          exact ⟨by first | rfl | (have e_ := Option.some.inj (A16.out.symm.trans A21.out); simp only [Prod.mk.injEq] at e_; obtain ⟨rfl, rfl, rfl, rfl, rfl, rfl, rfl, rfl, rfl, rfl⟩ := e_; first | rfl | (simp [*, errW_none, errW_some] <;> rfl)) | (have e_ := Option.some.inj (A16.out.symm.trans A33.out); simp only [Prod.mk.injEq] at e_; obtain ⟨rfl, rfl, rfl, rfl, rfl, rfl, rfl, rfl, rfl, rfl⟩ := e_; first | rfl | (simp [*, errW_none, errW_some] <;> rfl)) | (have e_ := Option.some.inj (A21.out.symm.trans A33.out); simp only [Prod.mk.injEq] at e_; obtain ⟨rfl, rfl, rfl, rfl, rfl, rfl, rfl, rfl, rfl, rfl⟩ := e_; first | rfl | (simp [*, errW_none, errW_some] <;> rfl)) | (have e_ := Option.some.inj (A34.out.symm.trans A39.out); simp only [Prod.mk.injEq] at e_; obtain ⟨rfl, rfl, rfl, rfl, rfl, rfl, rfl, rfl, rfl, rfl⟩ := e_; first | rfl | (simp [*, errW_none, errW_some] <;> rfl)) | (have e_ := Option.some.inj (A40.out.symm.trans A74.out); simp only [Prod.mk.injEq] at e_; obtain ⟨rfl, rfl, rfl, rfl, rfl, rfl, rfl, rfl, rfl, rfl⟩ := e_; first | rfl | (simp [*, errW_none, errW_some] <;> rfl)) | (simp [errW_none, errW_some] <;> rfl) | (simp [*, errW_none, errW_some] <;> rfl), by repeat (first | (with_reducible first | exact HB.out | apply lA_ | apply lN_ | apply l1_) | exact HB.out)⟩
         ·replace c12 := Bool.eq_false_iff.mpr c12
          subst c12
          have H1 : (tallyroomlaw09_DigestPrefers.l0 k2 l0 a1 (wrap64 (x5_2 + 1))) = some r := by rw [if_neg (show ¬ (false = true) by decide)] at H; exact H
          clear H
          have H := H1
          clear H1
          have H' := Aside0.mk H
          clear H
          have p142 : 0 ≤ (x5_2 : Int) := of_decide_eq_true (by first | (with_reducible assumption) | assumption)
          have q142 : x5_2 < (l0.length : Int) := of_decide_eq_true (by first | (with_reducible assumption) | assumption)
          obtain ⟨ad142, A142_9, c142_9, e142, hx142_0, hx142_1, hx142_2, hx142_3, hx142_4, hx142_5, hx142_6, hx142_7, hx142_8, hx142_9, hl142_9, hi142_9⟩ := at_T37 HR0.out x5_2 p142 q142
          cases e142
          replace hx142_0 := bc_ HB.out hx142_0
          replace hx142_1 := bc_ HB.out hx142_1
          replace hx142_2 := bc_ HB.out hx142_2
          replace hx142_3 := bc_ HB.out hx142_3
          replace hx142_4 := bc_ HB.out hx142_4
          replace hx142_5 := bc_ HB.out hx142_5
          replace hx142_6 := bc_ HB.out hx142_6
          replace hx142_7 := bc_ HB.out hx142_7
          replace hx142_8 := bc_ HB.out hx142_8
          replace hx142_9 := bc_ HB.out hx142_9
          have HR142_9 := Aside0.mk hi142_9
          have HC142_9 := Aside0.mk hl142_9
          clear hi142_9 hl142_9
          replace p142 := eq_true p142
          replace q142 := eq_true q142
          go_wp2_with (first | ((with_reducible refine gate_callee (f := 20) rfl ?_); refine goesL_ (some 33) rfl rfl Try.func20 (by kernel_rfl) rfl #[.agg #[.int .u64 ((rd_T37 l0 x5_2).f0), .int .u64 ((rd_T37 l0 x5_2).f1), .int .u64 ((rd_T37 l0 x5_2).f2), .string ((rd_T37 l0 x5_2).f3), .string ((rd_T37 l0 x5_2).f4), .int .i64 ((rd_T37 l0 x5_2).f5), .int .i64 ((rd_T37 l0 x5_2).f6), .int .u64 ((rd_T37 l0 x5_2).f7), .int .u64 ((rd_T37 l0 x5_2).f8), .slice A142_9 ((rd_T37 l0 x5_2).f9).length c142_9]] rfl (by (try simp only [List.map_toArray, List.map_cons, List.map_nil]); first | done | rfl | (simp only [List.length_drop, List.length_take]; rfl)) ?_; (with_reducible refine (tallyroomlaw06_Far.calls k2 ((rd_T37 l0 x5_2).f0) ((rd_T37 l0 x5_2).f1) ((rd_T37 l0 x5_2).f2) ((rd_T37 l0 x5_2).f3) ((rd_T37 l0 x5_2).f4) ((rd_T37 l0 x5_2).f5) ((rd_T37 l0 x5_2).f6) ((rd_T37 l0 x5_2).f7) ((rd_T37 l0 x5_2).f8) _ _ ((rd_T37 l0 x5_2).f9) false _ ?side1 ?side2 A11.out).mono ?_); (case side1 => repeat (first | exact (Kd.C_below HR142_9.out HB.out) | (with_reducible refine Kd.C_alloc ?_ _) | (with_reducible refine Kd.C_drewN ?_ _) | (with_reducible refine Kd.C_drew ?_))); (case side2 => exact HC142_9.out); rintro e w14 ⟨rfl, hb⟩; refine ⟨_, rfl, ?_⟩; have n0_ := Aside0.mk (ls_ (by repeat (first | (with_reducible first | exact HB.out | apply lA_ | apply lN_ | apply l1_) | exact HB.out)) hb); clear HB; have HB := n0_; clear n0_; (try clear hb); (try clear hb2); (try clear hk); (try clear hi)))
          go_roundg k2
          case measure => have := HJ4.out; have := HK2.out; omega
          case rel => exact ⟨(wrap64 (x5_2 + 1)), (by first | rfl | (simp; done) | (simp [*]; done)), H', ⟨by have := HJ4.out; have := HK2.out; omega⟩, ⟨by repeat (first | (with_reducible first | exact HB.out | apply lA_ | apply lN_ | apply l1_) | exact HB.out)⟩⟩
        ·rw [if_neg c10] at H
         exact absurd H (by simp)
       ·rw [if_neg c9] at H
        have c9b0 : decide (x5_2 < (l0.length : Int)) = false := decide_eq_false c9
        clear c9
        by_cases c15 : 0 < (l0.length : Int)
        ·rw [if_pos c15] at H
         have c15b0 : decide (0 < (l0.length : Int)) = true := decide_eq_true c15
         have c15b1 : decide (0 < l0.length) = true := decide_eq_true (by omega)
         clear c15
         replace H := Option.bind_eq_some_iff.mp H
         obtain ⟨⟨t145, t146, t147, t148, t149, t150, t151, t152, t153, t154⟩, A160, H⟩ := H
         replace H : (if (l0.length : Int) = 0 then (none) else (if 0 ≤ (Int.tmod (wrap64 (a1)) (l0.length : Int)) then (if (Int.tmod (wrap64 (a1)) (l0.length : Int)) < (l0.length : Int) then ((tallyroomlaw06_Of.f k2 ((rd_T37 l0 (Int.tmod (wrap64 (a1)) (l0.length : Int))).f0) ((rd_T37 l0 (Int.tmod (wrap64 (a1)) (l0.length : Int))).f1) ((rd_T37 l0 (Int.tmod (wrap64 (a1)) (l0.length : Int))).f2) ((rd_T37 l0 (Int.tmod (wrap64 (a1)) (l0.length : Int))).f3) ((rd_T37 l0 (Int.tmod (wrap64 (a1)) (l0.length : Int))).f4) ((rd_T37 l0 (Int.tmod (wrap64 (a1)) (l0.length : Int))).f5) ((rd_T37 l0 (Int.tmod (wrap64 (a1)) (l0.length : Int))).f6) ((rd_T37 l0 (Int.tmod (wrap64 (a1)) (l0.length : Int))).f7) ((rd_T37 l0 (Int.tmod (wrap64 (a1)) (l0.length : Int))).f8) ((rd_T37 l0 (Int.tmod (wrap64 (a1)) (l0.length : Int))).f9)).bind fun bt159 => (tallyroomlaw09_DigestPrefers.l1 k2 l0 (Int.tmod (wrap64 (a1)) (l0.length : Int)) 0 t145 t146 t147 t148 t149 t150 t151 t152 t153 t154 bt159.1 bt159.2.1 bt159.2.2.1 bt159.2.2.2.1 bt159.2.2.2.2.1 bt159.2.2.2.2.2.1 bt159.2.2.2.2.2.2.1 bt159.2.2.2.2.2.2.2.1 bt159.2.2.2.2.2.2.2.2.1 bt159.2.2.2.2.2.2.2.2.2)) else (none)) else (none))) = some r := H
         have A16 := Aside0.mk A160
         clear A160
         by_cases c17 : (l0.length : Int) = 0
         ·rw [if_pos c17] at H
          exact absurd H (by simp)
         ·rw [if_neg c17] at H
          have c17b0 : ((l0.length : Int) == 0) = false := beq_eq_false_iff_ne.mpr c17
          have c17b1 : ((l0.length : Int) != 0) = true := bne_iff_ne.mpr c17
          have c17b2 : ¬ (l0 = []) := fun h_ => c17 (by rw [h_]; rfl)
          obtain ⟨ji18, hji18⟩ : ∃ j_ : Int, (Int.tmod (wrap64 (a1)) (l0.length : Int)) = j_ := ⟨_, rfl⟩
          replace H : (if 0 ≤ (ji18) then (if (ji18) < (l0.length : Int) then ((tallyroomlaw06_Of.f k2 ((rd_T37 l0 (ji18)).f0) ((rd_T37 l0 (ji18)).f1) ((rd_T37 l0 (ji18)).f2) ((rd_T37 l0 (ji18)).f3) ((rd_T37 l0 (ji18)).f4) ((rd_T37 l0 (ji18)).f5) ((rd_T37 l0 (ji18)).f6) ((rd_T37 l0 (ji18)).f7) ((rd_T37 l0 (ji18)).f8) ((rd_T37 l0 (ji18)).f9)).bind fun bt159 => (tallyroomlaw09_DigestPrefers.l1 k2 l0 ji18 0 t145 t146 t147 t148 t149 t150 t151 t152 t153 t154 bt159.1 bt159.2.1 bt159.2.2.1 bt159.2.2.2.1 bt159.2.2.2.2.1 bt159.2.2.2.2.2.1 bt159.2.2.2.2.2.2.1 bt159.2.2.2.2.2.2.2.1 bt159.2.2.2.2.2.2.2.2.1 bt159.2.2.2.2.2.2.2.2.2)) else (none)) else (none)) = some r := by first | (rw [hji18] at H; exact H) | (simp only [hji18] at H ⊢; exact H)
          (try rw [hji18] at A16)
          by_cases c19 : 0 ≤ (ji18)
          ·rw [if_pos c19] at H
           have c19b0 : decide (0 ≤ (ji18)) = true := decide_eq_true c19
           clear c19
           by_cases c20 : (ji18) < (l0.length : Int)
           ·rw [if_pos c20] at H
            have c20b0 : decide ((ji18) < (l0.length : Int)) = true := decide_eq_true c20
            clear c20
            replace H := Option.bind_eq_some_iff.mp H
            obtain ⟨⟨t159, t160, t161, t162, t163, t164, t165, t166, t167, t168⟩, A210, H⟩ := H
            replace H : (tallyroomlaw09_DigestPrefers.l1 k2 l0 ji18 0 t145 t146 t147 t148 t149 t150 t151 t152 t153 t154 t159 t160 t161 t162 t163 t164 t165 t166 t167 t168) = some r := H
            have A21 := Aside0.mk A210
            clear A210
            have H' := Aside0.mk H
            clear H
            have p144 : 0 ≤ (0 : Int) := (by omega)
            have q144 : 0 < (l0.length : Int) := of_decide_eq_true (by first | (with_reducible assumption) | assumption)
            obtain ⟨ad144, A144_9, c144_9, e144, hx144_0, hx144_1, hx144_2, hx144_3, hx144_4, hx144_5, hx144_6, hx144_7, hx144_8, hx144_9, hl144_9, hi144_9⟩ := at_T37 HR0.out 0 p144 q144
            cases e144
            have qi144 : (0 < l0.length) = True := eq_true (by omega)
            (try rw [show ((0 : Int)).toNat = 0 from rfl] at hx144_0)
            (try rw [show 0 * 10 = 0 from rfl] at hx144_0)
            (try rw [Addr.add_zero'] at hx144_0)
            (try rw [show ((0 : Int)).toNat = 0 from rfl] at hx144_1)
            (try rw [show 0 * 10 = 0 from rfl] at hx144_1)
            (try rw [Addr.add_zero'] at hx144_1)
            (try rw [show ((0 : Int)).toNat = 0 from rfl] at hx144_2)
            (try rw [show 0 * 10 = 0 from rfl] at hx144_2)
            (try rw [Addr.add_zero'] at hx144_2)
            (try rw [show ((0 : Int)).toNat = 0 from rfl] at hx144_3)
            (try rw [show 0 * 10 = 0 from rfl] at hx144_3)
            (try rw [Addr.add_zero'] at hx144_3)
            (try rw [show ((0 : Int)).toNat = 0 from rfl] at hx144_4)
            (try rw [show 0 * 10 = 0 from rfl] at hx144_4)
            (try rw [Addr.add_zero'] at hx144_4)
            (try rw [show ((0 : Int)).toNat = 0 from rfl] at hx144_5)
            (try rw [show 0 * 10 = 0 from rfl] at hx144_5)
            (try rw [Addr.add_zero'] at hx144_5)
            (try rw [show ((0 : Int)).toNat = 0 from rfl] at hx144_6)
            (try rw [show 0 * 10 = 0 from rfl] at hx144_6)
            (try rw [Addr.add_zero'] at hx144_6)
            (try rw [show ((0 : Int)).toNat = 0 from rfl] at hx144_7)
            (try rw [show 0 * 10 = 0 from rfl] at hx144_7)
            (try rw [Addr.add_zero'] at hx144_7)
            (try rw [show ((0 : Int)).toNat = 0 from rfl] at hx144_8)
            (try rw [show 0 * 10 = 0 from rfl] at hx144_8)
            (try rw [Addr.add_zero'] at hx144_8)
            (try rw [show ((0 : Int)).toNat = 0 from rfl] at hx144_9)
            (try rw [show 0 * 10 = 0 from rfl] at hx144_9)
            (try rw [Addr.add_zero'] at hx144_9)
            replace hx144_0 := bc_ HB.out hx144_0
            replace hx144_1 := bc_ HB.out hx144_1
            replace hx144_2 := bc_ HB.out hx144_2
            replace hx144_3 := bc_ HB.out hx144_3
            replace hx144_4 := bc_ HB.out hx144_4
            replace hx144_5 := bc_ HB.out hx144_5
            replace hx144_6 := bc_ HB.out hx144_6
            replace hx144_7 := bc_ HB.out hx144_7
            replace hx144_8 := bc_ HB.out hx144_8
            replace hx144_9 := bc_ HB.out hx144_9
            have HR144_9 := Aside0.mk hi144_9
            have HC144_9 := Aside0.mk hl144_9
            clear hi144_9 hl144_9
            replace p144 := eq_true p144
            replace q144 := eq_true q144
            go_wp2_with (first | ((with_reducible refine gate_callee (f := 21) rfl ?_); refine goesL_ (some 37) rfl rfl Try.func21 (by kernel_rfl) rfl #[.agg #[.int .u64 ((rd_T37 l0 0).f0), .int .u64 ((rd_T37 l0 0).f1), .int .u64 ((rd_T37 l0 0).f2), .string ((rd_T37 l0 0).f3), .string ((rd_T37 l0 0).f4), .int .i64 ((rd_T37 l0 0).f5), .int .i64 ((rd_T37 l0 0).f6), .int .u64 ((rd_T37 l0 0).f7), .int .u64 ((rd_T37 l0 0).f8), .slice A144_9 ((rd_T37 l0 0).f9).length c144_9]] rfl (by (try simp only [List.map_toArray, List.map_cons, List.map_nil]); first | done | rfl | (simp only [List.length_drop, List.length_take]; rfl)) ?_; (with_reducible refine (tallyroomlaw06_Of.calls k2 ((rd_T37 l0 0).f0) ((rd_T37 l0 0).f1) ((rd_T37 l0 0).f2) ((rd_T37 l0 0).f3) ((rd_T37 l0 0).f4) ((rd_T37 l0 0).f5) ((rd_T37 l0 0).f6) ((rd_T37 l0 0).f7) ((rd_T37 l0 0).f8) _ _ ((rd_T37 l0 0).f9) t145 t146 t147 t148 t149 t150 t151 t152 t153 t154 _ ?side1 ?side2 A16.out).mono ?_); (case side1 => repeat (first | exact (Kd.C_below HR144_9.out HB.out) | (with_reducible refine Kd.C_alloc ?_ _) | (with_reducible refine Kd.C_drewN ?_ _) | (with_reducible refine Kd.C_drew ?_))); (case side2 => exact HC144_9.out); rintro e w22 ⟨v155, rfl, ho0, hb⟩; refine ⟨_, rfl, ?_⟩; have n0_ := Aside0.mk (Kd.R_lower ho0 (bz_ (by repeat (first | (with_reducible first | exact HB.out | apply lA_ | apply lN_ | apply l1_) | exact HB.out)))); have n1_ := Aside0.mk (ls_ (by repeat (first | (with_reducible first | exact HB.out | apply lA_ | apply lN_ | apply l1_) | exact HB.out)) hb); clear HB; have HO156 := n0_; have HB := n1_; clear n0_ n1_; (try clear hb); (try clear hb2); (try clear hk); (try clear hi); (try clear ho0)) | ((with_reducible refine gate_dst (N := 6) rfl ?_); (try (refine gate_guard (by rfl) ?_; dsimp only)); refine box_event ?hg (N := 6) ?hd (cs := #[.int .u64 0, .int .u64 0, .int .u64 0, .string (⟨#[]⟩ : ByteArray), .string (⟨#[]⟩ : ByteArray), .int .i64 0, .int .i64 0, .int .u64 0, .int .u64 0, .slice none 0 0]) (t := 40) ?hr ?_; (case hd => rfl); (case hg => rfl); (case hr => first | (go_simp; done) | (go_simp; rfl)); intro gb157 hg w23 hbox hb; have n0_ := Aside0.mk (Kd.R_below (by (with_reducible repeat (first | apply rA_ | apply rN_ | apply rD_)); exact HO156.out) hb); have n1_ := Aside0.mk (ls_ (by repeat (first | (with_reducible first | exact HB.out | apply lA_ | apply lN_ | apply l1_) | exact HB.out)) hb); have n2_ := Aside0.mk (hbox); have n3_ := Aside0.mk ((by rw [hg]; exact (bz_ (by repeat (first | (with_reducible first | exact HB.out | apply lA_ | apply lN_ | apply l1_) | exact HB.out))) : w.heap.size ≤ gb157)); have n4_ := Aside0.mk ((by rw [hg]; exact (bz_ (by repeat (first | (with_reducible first | exact HB.out | apply lA_ | apply lN_ | apply l1_) | exact HB.out))) : w.heap.size ≤ gb157)); clear HO156; clear HB; have HO156 := n0_; have HB := n1_; have BK157 := n2_; have GW157 := n3_; have GE157 := n4_; clear n0_ n1_ n2_ n3_ n4_; clear hb hbox hg; have hcz24_0 : w23.cell? ⟨gb157, 0, none⟩ = some (.int .u64 0) := (bc1_ BK157.out 0).trans rfl; have hcz24_1 : w23.cell? ⟨gb157, 1, none⟩ = some (.int .u64 0) := (bc1_ BK157.out 1).trans rfl; have hcz24_2 : w23.cell? ⟨gb157, 2, none⟩ = some (.int .u64 0) := (bc1_ BK157.out 2).trans rfl; have hcz24_3 : w23.cell? ⟨gb157, 3, none⟩ = some (.string (⟨#[]⟩ : ByteArray)) := (bc1_ BK157.out 3).trans rfl; have hcz24_4 : w23.cell? ⟨gb157, 4, none⟩ = some (.string (⟨#[]⟩ : ByteArray)) := (bc1_ BK157.out 4).trans rfl; have hcz24_5 : w23.cell? ⟨gb157, 5, none⟩ = some (.int .i64 0) := (bc1_ BK157.out 5).trans rfl; have hcz24_6 : w23.cell? ⟨gb157, 6, none⟩ = some (.int .i64 0) := (bc1_ BK157.out 6).trans rfl; have hcz24_7 : w23.cell? ⟨gb157, 7, none⟩ = some (.int .u64 0) := (bc1_ BK157.out 7).trans rfl; have hcz24_8 : w23.cell? ⟨gb157, 8, none⟩ = some (.int .u64 0) := (bc1_ BK157.out 8).trans rfl; have hcz24_9 : w23.cell? ⟨gb157, 9, none⟩ = some (.slice none 0 0) := (bc1_ BK157.out 9).trans rfl; have hfz24_0 := bf1_ BK157.out 0; have hfz24_1 := bf1_ BK157.out 1; have hfz24_2 := bf1_ BK157.out 2; have hfz24_3 := bf1_ BK157.out 3; have hfz24_4 := bf1_ BK157.out 4; have hfz24_5 := bf1_ BK157.out 5; have hfz24_6 := bf1_ BK157.out 6; have hfz24_7 := bf1_ BK157.out 7; have hfz24_8 := bf1_ BK157.out 8; have hfz24_9 := bf1_ BK157.out 9; obtain ⟨Ao25, co25, eo25⟩ := Kd.R_slice HO156.out; subst eo25; have p158 : 0 ≤ ((ji18) : Int) := of_decide_eq_true (by first | (with_reducible assumption) | assumption); have q158 : (ji18) < (l0.length : Int) := of_decide_eq_true (by first | (with_reducible assumption) | assumption); obtain ⟨ad158, A158_9, c158_9, e158, hx158_0, hx158_1, hx158_2, hx158_3, hx158_4, hx158_5, hx158_6, hx158_7, hx158_8, hx158_9, hl158_9, hi158_9⟩ := at_T37 HR0.out (ji18) p158 q158; obtain rfl : ad144 = ad158 := (by injection e158); have hn158_0 : ad144.block ≠ gb157 := Nat.ne_of_lt (Nat.lt_of_lt_of_le (by have := World.block_lt_of_cell? _ _ hx158_0; first | rwa [adb_] at this | exact this) GW157.out); have hn158_1 : ad144.block ≠ gb157 := Nat.ne_of_lt (Nat.lt_of_lt_of_le (by have := World.block_lt_of_cell? _ _ hx158_0; first | rwa [adb_] at this | exact this) GW157.out); have hn158_2 : ad144.block ≠ gb157 := Nat.ne_of_lt (Nat.lt_of_lt_of_le (by have := World.block_lt_of_cell? _ _ hx158_0; first | rwa [adb_] at this | exact this) GW157.out); have hn158_3 : ad144.block ≠ gb157 := Nat.ne_of_lt (Nat.lt_of_lt_of_le (by have := World.block_lt_of_cell? _ _ hx158_0; first | rwa [adb_] at this | exact this) GW157.out); have hn158_4 : ad144.block ≠ gb157 := Nat.ne_of_lt (Nat.lt_of_lt_of_le (by have := World.block_lt_of_cell? _ _ hx158_0; first | rwa [adb_] at this | exact this) GW157.out); have hn158_5 : ad144.block ≠ gb157 := Nat.ne_of_lt (Nat.lt_of_lt_of_le (by have := World.block_lt_of_cell? _ _ hx158_0; first | rwa [adb_] at this | exact this) GW157.out); have hn158_6 : ad144.block ≠ gb157 := Nat.ne_of_lt (Nat.lt_of_lt_of_le (by have := World.block_lt_of_cell? _ _ hx158_0; first | rwa [adb_] at this | exact this) GW157.out); have hn158_7 : ad144.block ≠ gb157 := Nat.ne_of_lt (Nat.lt_of_lt_of_le (by have := World.block_lt_of_cell? _ _ hx158_0; first | rwa [adb_] at this | exact this) GW157.out); have hn158_8 : ad144.block ≠ gb157 := Nat.ne_of_lt (Nat.lt_of_lt_of_le (by have := World.block_lt_of_cell? _ _ hx158_0; first | rwa [adb_] at this | exact this) GW157.out); have hn158_9 : ad144.block ≠ gb157 := Nat.ne_of_lt (Nat.lt_of_lt_of_le (by have := World.block_lt_of_cell? _ _ hx158_0; first | rwa [adb_] at this | exact this) GW157.out); replace hx158_0 := bc_ HB.out hx158_0; replace hx158_1 := bc_ HB.out hx158_1; replace hx158_2 := bc_ HB.out hx158_2; replace hx158_3 := bc_ HB.out hx158_3; replace hx158_4 := bc_ HB.out hx158_4; replace hx158_5 := bc_ HB.out hx158_5; replace hx158_6 := bc_ HB.out hx158_6; replace hx158_7 := bc_ HB.out hx158_7; replace hx158_8 := bc_ HB.out hx158_8; replace hx158_9 := bc_ HB.out hx158_9; have HR158_9 := Aside0.mk hi158_9; have HC158_9 := Aside0.mk hl158_9; clear hi158_9 hl158_9; replace hx158_0 := (cell_far (p := ⟨gb157, 0, none⟩) (by first | exact ab_ hn158_0 | exact hn158_0) (.int .u64 t145)).trans hx158_0; replace hx158_1 := (cell_far (p := ⟨gb157, 0, none⟩) (by first | exact ab_ hn158_0 | exact hn158_0) (.int .u64 t145)).trans hx158_1; replace hx158_2 := (cell_far (p := ⟨gb157, 0, none⟩) (by first | exact ab_ hn158_0 | exact hn158_0) (.int .u64 t145)).trans hx158_2; replace hx158_3 := (cell_far (p := ⟨gb157, 0, none⟩) (by first | exact ab_ hn158_0 | exact hn158_0) (.int .u64 t145)).trans hx158_3; replace hx158_4 := (cell_far (p := ⟨gb157, 0, none⟩) (by first | exact ab_ hn158_0 | exact hn158_0) (.int .u64 t145)).trans hx158_4; replace hx158_5 := (cell_far (p := ⟨gb157, 0, none⟩) (by first | exact ab_ hn158_0 | exact hn158_0) (.int .u64 t145)).trans hx158_5; replace hx158_6 := (cell_far (p := ⟨gb157, 0, none⟩) (by first | exact ab_ hn158_0 | exact hn158_0) (.int .u64 t145)).trans hx158_6; replace hx158_7 := (cell_far (p := ⟨gb157, 0, none⟩) (by first | exact ab_ hn158_0 | exact hn158_0) (.int .u64 t145)).trans hx158_7; replace hx158_8 := (cell_far (p := ⟨gb157, 0, none⟩) (by first | exact ab_ hn158_0 | exact hn158_0) (.int .u64 t145)).trans hx158_8; replace hx158_9 := (cell_far (p := ⟨gb157, 0, none⟩) (by first | exact ab_ hn158_0 | exact hn158_0) (.int .u64 t145)).trans hx158_9; replace hx158_0 := (cell_far (p := ⟨gb157, 1, none⟩) (by first | exact ab_ hn158_1 | exact hn158_1) (.int .u64 t146)).trans hx158_0; replace hx158_1 := (cell_far (p := ⟨gb157, 1, none⟩) (by first | exact ab_ hn158_1 | exact hn158_1) (.int .u64 t146)).trans hx158_1; replace hx158_2 := (cell_far (p := ⟨gb157, 1, none⟩) (by first | exact ab_ hn158_1 | exact hn158_1) (.int .u64 t146)).trans hx158_2; replace hx158_3 := (cell_far (p := ⟨gb157, 1, none⟩) (by first | exact ab_ hn158_1 | exact hn158_1) (.int .u64 t146)).trans hx158_3; replace hx158_4 := (cell_far (p := ⟨gb157, 1, none⟩) (by first | exact ab_ hn158_1 | exact hn158_1) (.int .u64 t146)).trans hx158_4; replace hx158_5 := (cell_far (p := ⟨gb157, 1, none⟩) (by first | exact ab_ hn158_1 | exact hn158_1) (.int .u64 t146)).trans hx158_5; replace hx158_6 := (cell_far (p := ⟨gb157, 1, none⟩) (by first | exact ab_ hn158_1 | exact hn158_1) (.int .u64 t146)).trans hx158_6; replace hx158_7 := (cell_far (p := ⟨gb157, 1, none⟩) (by first | exact ab_ hn158_1 | exact hn158_1) (.int .u64 t146)).trans hx158_7; replace hx158_8 := (cell_far (p := ⟨gb157, 1, none⟩) (by first | exact ab_ hn158_1 | exact hn158_1) (.int .u64 t146)).trans hx158_8; replace hx158_9 := (cell_far (p := ⟨gb157, 1, none⟩) (by first | exact ab_ hn158_1 | exact hn158_1) (.int .u64 t146)).trans hx158_9; replace hx158_0 := (cell_far (p := ⟨gb157, 2, none⟩) (by first | exact ab_ hn158_2 | exact hn158_2) (.int .u64 t147)).trans hx158_0; replace hx158_1 := (cell_far (p := ⟨gb157, 2, none⟩) (by first | exact ab_ hn158_2 | exact hn158_2) (.int .u64 t147)).trans hx158_1; replace hx158_2 := (cell_far (p := ⟨gb157, 2, none⟩) (by first | exact ab_ hn158_2 | exact hn158_2) (.int .u64 t147)).trans hx158_2; replace hx158_3 := (cell_far (p := ⟨gb157, 2, none⟩) (by first | exact ab_ hn158_2 | exact hn158_2) (.int .u64 t147)).trans hx158_3; replace hx158_4 := (cell_far (p := ⟨gb157, 2, none⟩) (by first | exact ab_ hn158_2 | exact hn158_2) (.int .u64 t147)).trans hx158_4; replace hx158_5 := (cell_far (p := ⟨gb157, 2, none⟩) (by first | exact ab_ hn158_2 | exact hn158_2) (.int .u64 t147)).trans hx158_5; replace hx158_6 := (cell_far (p := ⟨gb157, 2, none⟩) (by first | exact ab_ hn158_2 | exact hn158_2) (.int .u64 t147)).trans hx158_6; replace hx158_7 := (cell_far (p := ⟨gb157, 2, none⟩) (by first | exact ab_ hn158_2 | exact hn158_2) (.int .u64 t147)).trans hx158_7; replace hx158_8 := (cell_far (p := ⟨gb157, 2, none⟩) (by first | exact ab_ hn158_2 | exact hn158_2) (.int .u64 t147)).trans hx158_8; replace hx158_9 := (cell_far (p := ⟨gb157, 2, none⟩) (by first | exact ab_ hn158_2 | exact hn158_2) (.int .u64 t147)).trans hx158_9; replace hx158_0 := (cell_far (p := ⟨gb157, 3, none⟩) (by first | exact ab_ hn158_3 | exact hn158_3) (.string t148)).trans hx158_0; replace hx158_1 := (cell_far (p := ⟨gb157, 3, none⟩) (by first | exact ab_ hn158_3 | exact hn158_3) (.string t148)).trans hx158_1; replace hx158_2 := (cell_far (p := ⟨gb157, 3, none⟩) (by first | exact ab_ hn158_3 | exact hn158_3) (.string t148)).trans hx158_2; replace hx158_3 := (cell_far (p := ⟨gb157, 3, none⟩) (by first | exact ab_ hn158_3 | exact hn158_3) (.string t148)).trans hx158_3; replace hx158_4 := (cell_far (p := ⟨gb157, 3, none⟩) (by first | exact ab_ hn158_3 | exact hn158_3) (.string t148)).trans hx158_4; replace hx158_5 := (cell_far (p := ⟨gb157, 3, none⟩) (by first | exact ab_ hn158_3 | exact hn158_3) (.string t148)).trans hx158_5; replace hx158_6 := (cell_far (p := ⟨gb157, 3, none⟩) (by first | exact ab_ hn158_3 | exact hn158_3) (.string t148)).trans hx158_6; replace hx158_7 := (cell_far (p := ⟨gb157, 3, none⟩) (by first | exact ab_ hn158_3 | exact hn158_3) (.string t148)).trans hx158_7; replace hx158_8 := (cell_far (p := ⟨gb157, 3, none⟩) (by first | exact ab_ hn158_3 | exact hn158_3) (.string t148)).trans hx158_8; replace hx158_9 := (cell_far (p := ⟨gb157, 3, none⟩) (by first | exact ab_ hn158_3 | exact hn158_3) (.string t148)).trans hx158_9; replace hx158_0 := (cell_far (p := ⟨gb157, 4, none⟩) (by first | exact ab_ hn158_4 | exact hn158_4) (.string t149)).trans hx158_0; replace hx158_1 := (cell_far (p := ⟨gb157, 4, none⟩) (by first | exact ab_ hn158_4 | exact hn158_4) (.string t149)).trans hx158_1; replace hx158_2 := (cell_far (p := ⟨gb157, 4, none⟩) (by first | exact ab_ hn158_4 | exact hn158_4) (.string t149)).trans hx158_2; replace hx158_3 := (cell_far (p := ⟨gb157, 4, none⟩) (by first | exact ab_ hn158_4 | exact hn158_4) (.string t149)).trans hx158_3; replace hx158_4 := (cell_far (p := ⟨gb157, 4, none⟩) (by first | exact ab_ hn158_4 | exact hn158_4) (.string t149)).trans hx158_4; replace hx158_5 := (cell_far (p := ⟨gb157, 4, none⟩) (by first | exact ab_ hn158_4 | exact hn158_4) (.string t149)).trans hx158_5; replace hx158_6 := (cell_far (p := ⟨gb157, 4, none⟩) (by first | exact ab_ hn158_4 | exact hn158_4) (.string t149)).trans hx158_6; replace hx158_7 := (cell_far (p := ⟨gb157, 4, none⟩) (by first | exact ab_ hn158_4 | exact hn158_4) (.string t149)).trans hx158_7; replace hx158_8 := (cell_far (p := ⟨gb157, 4, none⟩) (by first | exact ab_ hn158_4 | exact hn158_4) (.string t149)).trans hx158_8; replace hx158_9 := (cell_far (p := ⟨gb157, 4, none⟩) (by first | exact ab_ hn158_4 | exact hn158_4) (.string t149)).trans hx158_9; replace hx158_0 := (cell_far (p := ⟨gb157, 5, none⟩) (by first | exact ab_ hn158_5 | exact hn158_5) (.int .i64 t150)).trans hx158_0; replace hx158_1 := (cell_far (p := ⟨gb157, 5, none⟩) (by first | exact ab_ hn158_5 | exact hn158_5) (.int .i64 t150)).trans hx158_1; replace hx158_2 := (cell_far (p := ⟨gb157, 5, none⟩) (by first | exact ab_ hn158_5 | exact hn158_5) (.int .i64 t150)).trans hx158_2; replace hx158_3 := (cell_far (p := ⟨gb157, 5, none⟩) (by first | exact ab_ hn158_5 | exact hn158_5) (.int .i64 t150)).trans hx158_3; replace hx158_4 := (cell_far (p := ⟨gb157, 5, none⟩) (by first | exact ab_ hn158_5 | exact hn158_5) (.int .i64 t150)).trans hx158_4; replace hx158_5 := (cell_far (p := ⟨gb157, 5, none⟩) (by first | exact ab_ hn158_5 | exact hn158_5) (.int .i64 t150)).trans hx158_5; replace hx158_6 := (cell_far (p := ⟨gb157, 5, none⟩) (by first | exact ab_ hn158_5 | exact hn158_5) (.int .i64 t150)).trans hx158_6; replace hx158_7 := (cell_far (p := ⟨gb157, 5, none⟩) (by first | exact ab_ hn158_5 | exact hn158_5) (.int .i64 t150)).trans hx158_7; replace hx158_8 := (cell_far (p := ⟨gb157, 5, none⟩) (by first | exact ab_ hn158_5 | exact hn158_5) (.int .i64 t150)).trans hx158_8; replace hx158_9 := (cell_far (p := ⟨gb157, 5, none⟩) (by first | exact ab_ hn158_5 | exact hn158_5) (.int .i64 t150)).trans hx158_9; replace hx158_0 := (cell_far (p := ⟨gb157, 6, none⟩) (by first | exact ab_ hn158_6 | exact hn158_6) (.int .i64 t151)).trans hx158_0; replace hx158_1 := (cell_far (p := ⟨gb157, 6, none⟩) (by first | exact ab_ hn158_6 | exact hn158_6) (.int .i64 t151)).trans hx158_1; replace hx158_2 := (cell_far (p := ⟨gb157, 6, none⟩) (by first | exact ab_ hn158_6 | exact hn158_6) (.int .i64 t151)).trans hx158_2; replace hx158_3 := (cell_far (p := ⟨gb157, 6, none⟩) (by first | exact ab_ hn158_6 | exact hn158_6) (.int .i64 t151)).trans hx158_3; replace hx158_4 := (cell_far (p := ⟨gb157, 6, none⟩) (by first | exact ab_ hn158_6 | exact hn158_6) (.int .i64 t151)).trans hx158_4; replace hx158_5 := (cell_far (p := ⟨gb157, 6, none⟩) (by first | exact ab_ hn158_6 | exact hn158_6) (.int .i64 t151)).trans hx158_5; replace hx158_6 := (cell_far (p := ⟨gb157, 6, none⟩) (by first | exact ab_ hn158_6 | exact hn158_6) (.int .i64 t151)).trans hx158_6; replace hx158_7 := (cell_far (p := ⟨gb157, 6, none⟩) (by first | exact ab_ hn158_6 | exact hn158_6) (.int .i64 t151)).trans hx158_7; replace hx158_8 := (cell_far (p := ⟨gb157, 6, none⟩) (by first | exact ab_ hn158_6 | exact hn158_6) (.int .i64 t151)).trans hx158_8; replace hx158_9 := (cell_far (p := ⟨gb157, 6, none⟩) (by first | exact ab_ hn158_6 | exact hn158_6) (.int .i64 t151)).trans hx158_9; replace hx158_0 := (cell_far (p := ⟨gb157, 7, none⟩) (by first | exact ab_ hn158_7 | exact hn158_7) (.int .u64 t152)).trans hx158_0; replace hx158_1 := (cell_far (p := ⟨gb157, 7, none⟩) (by first | exact ab_ hn158_7 | exact hn158_7) (.int .u64 t152)).trans hx158_1; replace hx158_2 := (cell_far (p := ⟨gb157, 7, none⟩) (by first | exact ab_ hn158_7 | exact hn158_7) (.int .u64 t152)).trans hx158_2; replace hx158_3 := (cell_far (p := ⟨gb157, 7, none⟩) (by first | exact ab_ hn158_7 | exact hn158_7) (.int .u64 t152)).trans hx158_3; replace hx158_4 := (cell_far (p := ⟨gb157, 7, none⟩) (by first | exact ab_ hn158_7 | exact hn158_7) (.int .u64 t152)).trans hx158_4; replace hx158_5 := (cell_far (p := ⟨gb157, 7, none⟩) (by first | exact ab_ hn158_7 | exact hn158_7) (.int .u64 t152)).trans hx158_5; replace hx158_6 := (cell_far (p := ⟨gb157, 7, none⟩) (by first | exact ab_ hn158_7 | exact hn158_7) (.int .u64 t152)).trans hx158_6; replace hx158_7 := (cell_far (p := ⟨gb157, 7, none⟩) (by first | exact ab_ hn158_7 | exact hn158_7) (.int .u64 t152)).trans hx158_7; replace hx158_8 := (cell_far (p := ⟨gb157, 7, none⟩) (by first | exact ab_ hn158_7 | exact hn158_7) (.int .u64 t152)).trans hx158_8; replace hx158_9 := (cell_far (p := ⟨gb157, 7, none⟩) (by first | exact ab_ hn158_7 | exact hn158_7) (.int .u64 t152)).trans hx158_9; replace hx158_0 := (cell_far (p := ⟨gb157, 8, none⟩) (by first | exact ab_ hn158_8 | exact hn158_8) (.int .u64 t153)).trans hx158_0; replace hx158_1 := (cell_far (p := ⟨gb157, 8, none⟩) (by first | exact ab_ hn158_8 | exact hn158_8) (.int .u64 t153)).trans hx158_1; replace hx158_2 := (cell_far (p := ⟨gb157, 8, none⟩) (by first | exact ab_ hn158_8 | exact hn158_8) (.int .u64 t153)).trans hx158_2; replace hx158_3 := (cell_far (p := ⟨gb157, 8, none⟩) (by first | exact ab_ hn158_8 | exact hn158_8) (.int .u64 t153)).trans hx158_3; replace hx158_4 := (cell_far (p := ⟨gb157, 8, none⟩) (by first | exact ab_ hn158_8 | exact hn158_8) (.int .u64 t153)).trans hx158_4; replace hx158_5 := (cell_far (p := ⟨gb157, 8, none⟩) (by first | exact ab_ hn158_8 | exact hn158_8) (.int .u64 t153)).trans hx158_5; replace hx158_6 := (cell_far (p := ⟨gb157, 8, none⟩) (by first | exact ab_ hn158_8 | exact hn158_8) (.int .u64 t153)).trans hx158_6; replace hx158_7 := (cell_far (p := ⟨gb157, 8, none⟩) (by first | exact ab_ hn158_8 | exact hn158_8) (.int .u64 t153)).trans hx158_7; replace hx158_8 := (cell_far (p := ⟨gb157, 8, none⟩) (by first | exact ab_ hn158_8 | exact hn158_8) (.int .u64 t153)).trans hx158_8; replace hx158_9 := (cell_far (p := ⟨gb157, 8, none⟩) (by first | exact ab_ hn158_8 | exact hn158_8) (.int .u64 t153)).trans hx158_9; replace hx158_0 := (cell_far (p := ⟨gb157, 9, none⟩) (by first | exact ab_ hn158_9 | exact hn158_9) (.slice Ao25 t154.length co25)).trans hx158_0; replace hx158_1 := (cell_far (p := ⟨gb157, 9, none⟩) (by first | exact ab_ hn158_9 | exact hn158_9) (.slice Ao25 t154.length co25)).trans hx158_1; replace hx158_2 := (cell_far (p := ⟨gb157, 9, none⟩) (by first | exact ab_ hn158_9 | exact hn158_9) (.slice Ao25 t154.length co25)).trans hx158_2; replace hx158_3 := (cell_far (p := ⟨gb157, 9, none⟩) (by first | exact ab_ hn158_9 | exact hn158_9) (.slice Ao25 t154.length co25)).trans hx158_3; replace hx158_4 := (cell_far (p := ⟨gb157, 9, none⟩) (by first | exact ab_ hn158_9 | exact hn158_9) (.slice Ao25 t154.length co25)).trans hx158_4; replace hx158_5 := (cell_far (p := ⟨gb157, 9, none⟩) (by first | exact ab_ hn158_9 | exact hn158_9) (.slice Ao25 t154.length co25)).trans hx158_5; replace hx158_6 := (cell_far (p := ⟨gb157, 9, none⟩) (by first | exact ab_ hn158_9 | exact hn158_9) (.slice Ao25 t154.length co25)).trans hx158_6; replace hx158_7 := (cell_far (p := ⟨gb157, 9, none⟩) (by first | exact ab_ hn158_9 | exact hn158_9) (.slice Ao25 t154.length co25)).trans hx158_7; replace hx158_8 := (cell_far (p := ⟨gb157, 9, none⟩) (by first | exact ab_ hn158_9 | exact hn158_9) (.slice Ao25 t154.length co25)).trans hx158_8; replace hx158_9 := (cell_far (p := ⟨gb157, 9, none⟩) (by first | exact ab_ hn158_9 | exact hn158_9) (.slice Ao25 t154.length co25)).trans hx158_9; clear hn158_0; clear hn158_1; clear hn158_2; clear hn158_3; clear hn158_4; clear hn158_5; clear hn158_6; clear hn158_7; clear hn158_8; clear hn158_9; replace p158 := eq_true p158; replace q158 := eq_true q158) | ((with_reducible refine gate_callee (f := 21) rfl ?_); refine goesL_ (some 47) rfl rfl Try.func21 (by kernel_rfl) rfl #[.agg #[.int .u64 ((rd_T37 l0 (ji18)).f0), .int .u64 ((rd_T37 l0 (ji18)).f1), .int .u64 ((rd_T37 l0 (ji18)).f2), .string ((rd_T37 l0 (ji18)).f3), .string ((rd_T37 l0 (ji18)).f4), .int .i64 ((rd_T37 l0 (ji18)).f5), .int .i64 ((rd_T37 l0 (ji18)).f6), .int .u64 ((rd_T37 l0 (ji18)).f7), .int .u64 ((rd_T37 l0 (ji18)).f8), .slice A158_9 ((rd_T37 l0 (ji18)).f9).length c158_9]] rfl (by (try simp only [List.map_toArray, List.map_cons, List.map_nil]); first | done | (simp only [hji18]; rfl) | rfl | (simp only [List.length_drop, List.length_take]; rfl)) ?_; (with_reducible refine (tallyroomlaw06_Of.calls k2 ((rd_T37 l0 (ji18)).f0) ((rd_T37 l0 (ji18)).f1) ((rd_T37 l0 (ji18)).f2) ((rd_T37 l0 (ji18)).f3) ((rd_T37 l0 (ji18)).f4) ((rd_T37 l0 (ji18)).f5) ((rd_T37 l0 (ji18)).f6) ((rd_T37 l0 (ji18)).f7) ((rd_T37 l0 (ji18)).f8) _ _ ((rd_T37 l0 (ji18)).f9) t159 t160 t161 t162 t163 t164 t165 t166 t167 t168 _ ?side1 ?side2 A21.out).mono ?_); (case side1 => exact Kd.C_below HR158_9.out (by repeat (first | (with_reducible first | exact HB.out | apply lA_ | apply lN_ | apply l1_ | refine below_set ?_ GE157.out) | exact HB.out))); (case side2 => exact HC158_9.out); rintro e w26 ⟨v169, rfl, ho0, hb⟩; refine ⟨_, rfl, ?_⟩; have n0_ := Aside0.mk (Kd.R_elder' (by (with_reducible repeat (first | apply rA_ | apply rN_ | apply rD_)); exact (Kd.R_mono (Kd.R_far (p := ⟨gb157, 9, none⟩) (Kd.R_far (p := ⟨gb157, 8, none⟩) (Kd.R_far (p := ⟨gb157, 7, none⟩) (Kd.R_far (p := ⟨gb157, 6, none⟩) (Kd.R_far (p := ⟨gb157, 5, none⟩) (Kd.R_far (p := ⟨gb157, 4, none⟩) (Kd.R_far (p := ⟨gb157, 3, none⟩) (Kd.R_far (p := ⟨gb157, 2, none⟩) (Kd.R_far (p := ⟨gb157, 1, none⟩) (Kd.R_far (p := ⟨gb157, 0, none⟩) (Kd.R_types HO156.out BK157.out (by decide)) (fun _ hk => hk.2) (.int .u64 t145)) (fun _ hk => hk.2) (.int .u64 t146)) (fun _ hk => hk.2) (.int .u64 t147)) (fun _ hk => hk.2) (.string t148)) (fun _ hk => hk.2) (.string t149)) (fun _ hk => hk.2) (.int .i64 t150)) (fun _ hk => hk.2) (.int .i64 t151)) (fun _ hk => hk.2) (.int .u64 t152)) (fun _ hk => hk.2) (.int .u64 t153)) (fun _ hk => hk.2) (.slice Ao25 t154.length co25)) (fun _ h_ => h_.1))) (Kd.R_base ho0) hb); have n1_ := Aside0.mk (Kd.R_lower (Kd.R_new' ho0 (Kd.R_lt (by (with_reducible repeat (first | apply rA_ | apply rN_ | apply rD_)); exact (Kd.R_mono (Kd.R_far (p := ⟨gb157, 9, none⟩) (Kd.R_far (p := ⟨gb157, 8, none⟩) (Kd.R_far (p := ⟨gb157, 7, none⟩) (Kd.R_far (p := ⟨gb157, 6, none⟩) (Kd.R_far (p := ⟨gb157, 5, none⟩) (Kd.R_far (p := ⟨gb157, 4, none⟩) (Kd.R_far (p := ⟨gb157, 3, none⟩) (Kd.R_far (p := ⟨gb157, 2, none⟩) (Kd.R_far (p := ⟨gb157, 1, none⟩) (Kd.R_far (p := ⟨gb157, 0, none⟩) (Kd.R_types HO156.out BK157.out (by decide)) (fun _ hk => hk.2) (.int .u64 t145)) (fun _ hk => hk.2) (.int .u64 t146)) (fun _ hk => hk.2) (.int .u64 t147)) (fun _ hk => hk.2) (.string t148)) (fun _ hk => hk.2) (.string t149)) (fun _ hk => hk.2) (.int .i64 t150)) (fun _ hk => hk.2) (.int .i64 t151)) (fun _ hk => hk.2) (.int .u64 t152)) (fun _ hk => hk.2) (.int .u64 t153)) (fun _ hk => hk.2) (.slice Ao25 t154.length co25)) (fun _ h_ => h_.1))))) (bz_ (by repeat (first | (with_reducible first | exact HB.out | apply lA_ | apply lN_ | apply l1_ | refine below_set ?_ GE157.out) | exact HB.out)))); have n2_ := Aside0.mk (bb_ (g := gb157) (o := .cells #[.int .u64 t145, .int .u64 t146, .int .u64 t147, .string t148, .string t149, .int .i64 t150, .int .i64 t151, .int .u64 t152, .int .u64 t153, .slice Ao25 t154.length co25] 40 (0, 0)) (by (with_reducible repeat (first | refine bN_ ?_ _ | refine bD_ ?_ | refine bA_ ?_ _)); refine blk_put (cs := #[.int .u64 t145, .int .u64 t146, .int .u64 t147, .string t148, .string t149, .int .i64 t150, .int .i64 t151, .int .u64 t152, .int .u64 t153, .slice none 0 0]) ?_ 9 _ rfl; (with_reducible repeat (first | refine bN_ ?_ _ | refine bD_ ?_ | refine bA_ ?_ _)); refine blk_put (cs := #[.int .u64 t145, .int .u64 t146, .int .u64 t147, .string t148, .string t149, .int .i64 t150, .int .i64 t151, .int .u64 t152, .int .u64 0, .slice none 0 0]) ?_ 8 _ rfl; (with_reducible repeat (first | refine bN_ ?_ _ | refine bD_ ?_ | refine bA_ ?_ _)); refine blk_put (cs := #[.int .u64 t145, .int .u64 t146, .int .u64 t147, .string t148, .string t149, .int .i64 t150, .int .i64 t151, .int .u64 0, .int .u64 0, .slice none 0 0]) ?_ 7 _ rfl; (with_reducible repeat (first | refine bN_ ?_ _ | refine bD_ ?_ | refine bA_ ?_ _)); refine blk_put (cs := #[.int .u64 t145, .int .u64 t146, .int .u64 t147, .string t148, .string t149, .int .i64 t150, .int .i64 0, .int .u64 0, .int .u64 0, .slice none 0 0]) ?_ 6 _ rfl; (with_reducible repeat (first | refine bN_ ?_ _ | refine bD_ ?_ | refine bA_ ?_ _)); refine blk_put (cs := #[.int .u64 t145, .int .u64 t146, .int .u64 t147, .string t148, .string t149, .int .i64 0, .int .i64 0, .int .u64 0, .int .u64 0, .slice none 0 0]) ?_ 5 _ rfl; (with_reducible repeat (first | refine bN_ ?_ _ | refine bD_ ?_ | refine bA_ ?_ _)); refine blk_put (cs := #[.int .u64 t145, .int .u64 t146, .int .u64 t147, .string t148, .string (⟨#[]⟩ : ByteArray), .int .i64 0, .int .i64 0, .int .u64 0, .int .u64 0, .slice none 0 0]) ?_ 4 _ rfl; (with_reducible repeat (first | refine bN_ ?_ _ | refine bD_ ?_ | refine bA_ ?_ _)); refine blk_put (cs := #[.int .u64 t145, .int .u64 t146, .int .u64 t147, .string (⟨#[]⟩ : ByteArray), .string (⟨#[]⟩ : ByteArray), .int .i64 0, .int .i64 0, .int .u64 0, .int .u64 0, .slice none 0 0]) ?_ 3 _ rfl; (with_reducible repeat (first | refine bN_ ?_ _ | refine bD_ ?_ | refine bA_ ?_ _)); refine blk_put (cs := #[.int .u64 t145, .int .u64 t146, .int .u64 0, .string (⟨#[]⟩ : ByteArray), .string (⟨#[]⟩ : ByteArray), .int .i64 0, .int .i64 0, .int .u64 0, .int .u64 0, .slice none 0 0]) ?_ 2 _ rfl; (with_reducible repeat (first | refine bN_ ?_ _ | refine bD_ ?_ | refine bA_ ?_ _)); refine blk_put (cs := #[.int .u64 t145, .int .u64 0, .int .u64 0, .string (⟨#[]⟩ : ByteArray), .string (⟨#[]⟩ : ByteArray), .int .i64 0, .int .i64 0, .int .u64 0, .int .u64 0, .slice none 0 0]) ?_ 1 _ rfl; (with_reducible repeat (first | refine bN_ ?_ _ | refine bD_ ?_ | refine bA_ ?_ _)); refine blk_put (cs := #[.int .u64 0, .int .u64 0, .int .u64 0, .string (⟨#[]⟩ : ByteArray), .string (⟨#[]⟩ : ByteArray), .int .i64 0, .int .i64 0, .int .u64 0, .int .u64 0, .slice none 0 0]) ?_ 0 _ rfl; (with_reducible repeat (first | refine bN_ ?_ _ | refine bD_ ?_ | refine bA_ ?_ _)); exact BK157.out) hb); have n3_ := Aside0.mk (ls_ (by repeat (first | (with_reducible first | exact HB.out | apply lA_ | apply lN_ | apply l1_ | refine below_set ?_ GE157.out) | exact HB.out)) hb); clear HO156; clear BK157; clear HB; have HO156 := n0_; have HO170 := n1_; have BK157 := n2_; have HB := n3_; clear n0_ n1_ n2_ n3_; (try clear hb); (try clear hb2); (try clear hk); (try clear hi); (try clear ho0)) | ((with_reducible refine gate_dst (N := 8) rfl ?_); (try (refine gate_guard (by rfl) ?_; dsimp only)); refine box_event ?hg (N := 8) ?hd (cs := #[.int .u64 0, .int .u64 0, .int .u64 0, .string (⟨#[]⟩ : ByteArray), .string (⟨#[]⟩ : ByteArray), .int .i64 0, .int .i64 0, .int .u64 0, .int .u64 0, .slice none 0 0]) (t := 40) ?hr ?_; (case hd => rfl); (case hg => rfl); (case hr => first | (go_simp; done) | (go_simp; rfl)); intro gb171 hg w27 hbox hb; have n0_ := Aside0.mk (Kd.R_below (by (with_reducible repeat (first | apply rA_ | apply rN_ | apply rD_)); exact HO156.out) hb); have n1_ := Aside0.mk (Kd.R_below (by (with_reducible repeat (first | apply rA_ | apply rN_ | apply rD_)); exact HO170.out) hb); have n2_ := Aside0.mk (bb_ (g := gb157) (o := .cells #[.int .u64 t145, .int .u64 t146, .int .u64 t147, .string t148, .string t149, .int .i64 t150, .int .i64 t151, .int .u64 t152, .int .u64 t153, .slice Ao25 t154.length co25] 40 (0, 0)) (by (with_reducible repeat (first | refine bN_ ?_ _ | refine bD_ ?_ | refine bA_ ?_ _)); exact BK157.out) hb); have n3_ := Aside0.mk (ls_ (by repeat (first | (with_reducible first | exact HB.out | apply lA_ | apply lN_ | apply l1_ | refine below_set ?_ GE157.out) | exact HB.out)) hb); have n4_ := Aside0.mk (hbox); have n5_ := Aside0.mk ((by rw [hg]; exact (bz_ (by repeat (first | (with_reducible first | exact HB.out | apply lA_ | apply lN_ | apply l1_ | refine below_set ?_ GE157.out) | exact HB.out))) : w.heap.size ≤ gb171)); have n6_ := Aside0.mk ((by rw [hg]; exact (bz_ (by repeat (first | (with_reducible first | exact HB.out | apply lA_ | apply lN_ | apply l1_ | refine below_set ?_ GE157.out) | exact HB.out))) : w.heap.size ≤ gb171)); have n7_ := Aside0.mk ((by rw [hg]; exact Nat.ne_of_lt (blk_lt (g := gb157) (o := .cells #[.int .u64 t145, .int .u64 t146, .int .u64 t147, .string t148, .string t149, .int .i64 t150, .int .i64 t151, .int .u64 t152, .int .u64 t153, .slice Ao25 t154.length co25] 40 (0, 0)) (by (with_reducible repeat (first | refine bN_ ?_ _ | refine bD_ ?_ | refine bA_ ?_ _)); exact BK157.out)) : gb157 ≠ gb171)); have n8_ := Aside0.mk ((by rw [hg]; exact Nat.ne_of_gt (blk_lt (g := gb157) (o := .cells #[.int .u64 t145, .int .u64 t146, .int .u64 t147, .string t148, .string t149, .int .i64 t150, .int .i64 t151, .int .u64 t152, .int .u64 t153, .slice Ao25 t154.length co25] 40 (0, 0)) (by (with_reducible repeat (first | refine bN_ ?_ _ | refine bD_ ?_ | refine bA_ ?_ _)); exact BK157.out)) : gb171 ≠ gb157)); clear HO156; clear HO170; clear BK157; clear HB; have HO156 := n0_; have HO170 := n1_; have BK157 := n2_; have HB := n3_; have BK171 := n4_; have GW171 := n5_; have GE171 := n6_; have NB157_171 := n7_; have NB171_157 := n8_; clear n0_ n1_ n2_ n3_ n4_ n5_ n6_ n7_ n8_; clear hb hbox hg; have hnb28 := NB171_157.out; have hnc28 := NB157_171.out; have hcz29_0 : w27.cell? ⟨gb171, 0, none⟩ = some (.int .u64 0) := (bc1_ BK171.out 0).trans rfl; have hcz29_1 : w27.cell? ⟨gb171, 1, none⟩ = some (.int .u64 0) := (bc1_ BK171.out 1).trans rfl; have hcz29_2 : w27.cell? ⟨gb171, 2, none⟩ = some (.int .u64 0) := (bc1_ BK171.out 2).trans rfl; have hcz29_3 : w27.cell? ⟨gb171, 3, none⟩ = some (.string (⟨#[]⟩ : ByteArray)) := (bc1_ BK171.out 3).trans rfl; have hcz29_4 : w27.cell? ⟨gb171, 4, none⟩ = some (.string (⟨#[]⟩ : ByteArray)) := (bc1_ BK171.out 4).trans rfl; have hcz29_5 : w27.cell? ⟨gb171, 5, none⟩ = some (.int .i64 0) := (bc1_ BK171.out 5).trans rfl; have hcz29_6 : w27.cell? ⟨gb171, 6, none⟩ = some (.int .i64 0) := (bc1_ BK171.out 6).trans rfl; have hcz29_7 : w27.cell? ⟨gb171, 7, none⟩ = some (.int .u64 0) := (bc1_ BK171.out 7).trans rfl; have hcz29_8 : w27.cell? ⟨gb171, 8, none⟩ = some (.int .u64 0) := (bc1_ BK171.out 8).trans rfl; have hcz29_9 : w27.cell? ⟨gb171, 9, none⟩ = some (.slice none 0 0) := (bc1_ BK171.out 9).trans rfl; have hfz29_0 := bf1_ BK171.out 0; have hfz29_1 := bf1_ BK171.out 1; have hfz29_2 := bf1_ BK171.out 2; have hfz29_3 := bf1_ BK171.out 3; have hfz29_4 := bf1_ BK171.out 4; have hfz29_5 := bf1_ BK171.out 5; have hfz29_6 := bf1_ BK171.out 6; have hfz29_7 := bf1_ BK171.out 7; have hfz29_8 := bf1_ BK171.out 8; have hfz29_9 := bf1_ BK171.out 9; obtain ⟨Ao30, co30, eo30⟩ := Kd.R_slice HO170.out; subst eo30))
            go_loopg [9] k2 (fun kq v9 w' => ∃ (x9_3 : Int) (x158000_3 : Int) (x158001_3 : Int) (x158002_3 : Int) (x158003_3 : ByteArray) (x158004_3 : ByteArray) (x158005_3 : Int) (x158006_3 : Int) (x158007_3 : Int) (x158008_3 : Int) (x158009_3 : List (S51)) (x172000_3 : Int) (x172001_3 : Int) (x172002_3 : Int) (x172003_3 : ByteArray) (x172004_3 : ByteArray) (x172005_3 : Int) (x172006_3 : Int) (x172007_3 : Int) (x172008_3 : Int) (x172009_3 : List (S51)) (u158009 : Value) (u172009 : Value), v9 = .int .i64 x9_3 ∧ Aside0 (tallyroomlaw09_DigestPrefers.l1 kq l0 ji18 x9_3 x158000_3 x158001_3 x158002_3 x158003_3 x158004_3 x158005_3 x158006_3 x158007_3 x158008_3 x158009_3 x172000_3 x172001_3 x172002_3 x172003_3 x172004_3 x172005_3 x172006_3 x172007_3 x172008_3 x172009_3 = some r) ∧ Aside0 (kq ≤ k2) ∧ Aside0 (Kd.R k51 51 w' w.heap.size (fun k_ => some k_ ≠ (u172009 : Value).ownBlock) u158009 x158009_3) ∧ Aside0 (Kd.R k51 51 w' w.heap.size (fun k_ => some k_ ≠ (u158009 : Value).ownBlock) u172009 x172009_3) ∧ Aside0 (w'.heap[gb157]? = some (.cells #[.int .u64 x158000_3, .int .u64 x158001_3, .int .u64 x158002_3, .string x158003_3, .string x158004_3, .int .i64 x158005_3, .int .i64 x158006_3, .int .u64 x158007_3, .int .u64 x158008_3, u158009] 40 (0, 0))) ∧ Aside0 (w'.heap[gb171]? = some (.cells #[.int .u64 x172000_3, .int .u64 x172001_3, .int .u64 x172002_3, .string x172003_3, .string x172004_3, .int .i64 x172005_3, .int .i64 x172006_3, .int .u64 x172007_3, .int .u64 x172008_3, u172009] 40 (0, 0))) ∧ Aside0 (Below w.heap.size w w'))
            case atStart => exact ⟨(0), (t145), (t146), (t147), (t148), (t149), (t150), (t151), (t152), (t153), (t154), (t159), (t160), (t161), (t162), (t163), (t164), (t165), (t166), (t167), (t168), (.slice Ao25 t154.length co25), (.slice Ao30 t168.length co30), (by first | rfl | (simp; done) | (simp [*]; done)), H', ⟨Nat.le_refl _⟩, ⟨by (with_reducible repeat (first | apply rA_ | apply rN_ | apply rD_)); exact Kd.R_mono (Kd.R_far (p := ⟨gb171, 9, none⟩) (Kd.R_far (p := ⟨gb171, 8, none⟩) (Kd.R_far (p := ⟨gb171, 7, none⟩) (Kd.R_far (p := ⟨gb171, 6, none⟩) (Kd.R_far (p := ⟨gb171, 5, none⟩) (Kd.R_far (p := ⟨gb171, 4, none⟩) (Kd.R_far (p := ⟨gb171, 3, none⟩) (Kd.R_far (p := ⟨gb171, 2, none⟩) (Kd.R_far (p := ⟨gb171, 1, none⟩) (Kd.R_far (p := ⟨gb171, 0, none⟩) (Kd.R_types HO156.out BK171.out (by decide)) (fun _ hk => hk.2) (.int .u64 t159)) (fun _ hk => hk.2) (.int .u64 t160)) (fun _ hk => hk.2) (.int .u64 t161)) (fun _ hk => hk.2) (.string t162)) (fun _ hk => hk.2) (.string t163)) (fun _ hk => hk.2) (.int .i64 t164)) (fun _ hk => hk.2) (.int .i64 t165)) (fun _ hk => hk.2) (.int .u64 t166)) (fun _ hk => hk.2) (.int .u64 t167)) (fun _ hk => hk.2) (.slice Ao30 t168.length co30)) (fun _ hk => hk.1.2)⟩, ⟨by (with_reducible repeat (first | apply rA_ | apply rN_ | apply rD_)); exact Kd.R_mono (Kd.R_far (p := ⟨gb171, 9, none⟩) (Kd.R_far (p := ⟨gb171, 8, none⟩) (Kd.R_far (p := ⟨gb171, 7, none⟩) (Kd.R_far (p := ⟨gb171, 6, none⟩) (Kd.R_far (p := ⟨gb171, 5, none⟩) (Kd.R_far (p := ⟨gb171, 4, none⟩) (Kd.R_far (p := ⟨gb171, 3, none⟩) (Kd.R_far (p := ⟨gb171, 2, none⟩) (Kd.R_far (p := ⟨gb171, 1, none⟩) (Kd.R_far (p := ⟨gb171, 0, none⟩) (Kd.R_types HO170.out BK171.out (by decide)) (fun _ hk => hk.2) (.int .u64 t159)) (fun _ hk => hk.2) (.int .u64 t160)) (fun _ hk => hk.2) (.int .u64 t161)) (fun _ hk => hk.2) (.string t162)) (fun _ hk => hk.2) (.string t163)) (fun _ hk => hk.2) (.int .i64 t164)) (fun _ hk => hk.2) (.int .i64 t165)) (fun _ hk => hk.2) (.int .u64 t166)) (fun _ hk => hk.2) (.int .u64 t167)) (fun _ hk => hk.2) (.slice Ao30 t168.length co30)) (fun _ hk => hk.1.2)⟩, ⟨by (with_reducible repeat (first | refine bN_ ?_ _ | refine bD_ ?_ | refine bA_ ?_ _)); refine blk_far ?_ NB157_171.out _; (with_reducible repeat (first | refine bN_ ?_ _ | refine bD_ ?_ | refine bA_ ?_ _)); refine blk_far ?_ NB157_171.out _; (with_reducible repeat (first | refine bN_ ?_ _ | refine bD_ ?_ | refine bA_ ?_ _)); refine blk_far ?_ NB157_171.out _; (with_reducible repeat (first | refine bN_ ?_ _ | refine bD_ ?_ | refine bA_ ?_ _)); refine blk_far ?_ NB157_171.out _; (with_reducible repeat (first | refine bN_ ?_ _ | refine bD_ ?_ | refine bA_ ?_ _)); refine blk_far ?_ NB157_171.out _; (with_reducible repeat (first | refine bN_ ?_ _ | refine bD_ ?_ | refine bA_ ?_ _)); refine blk_far ?_ NB157_171.out _; (with_reducible repeat (first | refine bN_ ?_ _ | refine bD_ ?_ | refine bA_ ?_ _)); refine blk_far ?_ NB157_171.out _; (with_reducible repeat (first | refine bN_ ?_ _ | refine bD_ ?_ | refine bA_ ?_ _)); refine blk_far ?_ NB157_171.out _; (with_reducible repeat (first | refine bN_ ?_ _ | refine bD_ ?_ | refine bA_ ?_ _)); refine blk_far ?_ NB157_171.out _; (with_reducible repeat (first | refine bN_ ?_ _ | refine bD_ ?_ | refine bA_ ?_ _)); refine blk_far ?_ NB157_171.out _; (with_reducible repeat (first | refine bN_ ?_ _ | refine bD_ ?_ | refine bA_ ?_ _)); exact BK157.out⟩, ⟨by (with_reducible repeat (first | refine bN_ ?_ _ | refine bD_ ?_ | refine bA_ ?_ _)); refine blk_put (cs := #[.int .u64 t159, .int .u64 t160, .int .u64 t161, .string t162, .string t163, .int .i64 t164, .int .i64 t165, .int .u64 t166, .int .u64 t167, .slice none 0 0]) ?_ 9 _ rfl; (with_reducible repeat (first | refine bN_ ?_ _ | refine bD_ ?_ | refine bA_ ?_ _)); refine blk_put (cs := #[.int .u64 t159, .int .u64 t160, .int .u64 t161, .string t162, .string t163, .int .i64 t164, .int .i64 t165, .int .u64 t166, .int .u64 0, .slice none 0 0]) ?_ 8 _ rfl; (with_reducible repeat (first | refine bN_ ?_ _ | refine bD_ ?_ | refine bA_ ?_ _)); refine blk_put (cs := #[.int .u64 t159, .int .u64 t160, .int .u64 t161, .string t162, .string t163, .int .i64 t164, .int .i64 t165, .int .u64 0, .int .u64 0, .slice none 0 0]) ?_ 7 _ rfl; (with_reducible repeat (first | refine bN_ ?_ _ | refine bD_ ?_ | refine bA_ ?_ _)); refine blk_put (cs := #[.int .u64 t159, .int .u64 t160, .int .u64 t161, .string t162, .string t163, .int .i64 t164, .int .i64 0, .int .u64 0, .int .u64 0, .slice none 0 0]) ?_ 6 _ rfl; (with_reducible repeat (first | refine bN_ ?_ _ | refine bD_ ?_ | refine bA_ ?_ _)); refine blk_put (cs := #[.int .u64 t159, .int .u64 t160, .int .u64 t161, .string t162, .string t163, .int .i64 0, .int .i64 0, .int .u64 0, .int .u64 0, .slice none 0 0]) ?_ 5 _ rfl; (with_reducible repeat (first | refine bN_ ?_ _ | refine bD_ ?_ | refine bA_ ?_ _)); refine blk_put (cs := #[.int .u64 t159, .int .u64 t160, .int .u64 t161, .string t162, .string (⟨#[]⟩ : ByteArray), .int .i64 0, .int .i64 0, .int .u64 0, .int .u64 0, .slice none 0 0]) ?_ 4 _ rfl; (with_reducible repeat (first | refine bN_ ?_ _ | refine bD_ ?_ | refine bA_ ?_ _)); refine blk_put (cs := #[.int .u64 t159, .int .u64 t160, .int .u64 t161, .string (⟨#[]⟩ : ByteArray), .string (⟨#[]⟩ : ByteArray), .int .i64 0, .int .i64 0, .int .u64 0, .int .u64 0, .slice none 0 0]) ?_ 3 _ rfl; (with_reducible repeat (first | refine bN_ ?_ _ | refine bD_ ?_ | refine bA_ ?_ _)); refine blk_put (cs := #[.int .u64 t159, .int .u64 t160, .int .u64 0, .string (⟨#[]⟩ : ByteArray), .string (⟨#[]⟩ : ByteArray), .int .i64 0, .int .i64 0, .int .u64 0, .int .u64 0, .slice none 0 0]) ?_ 2 _ rfl; (with_reducible repeat (first | refine bN_ ?_ _ | refine bD_ ?_ | refine bA_ ?_ _)); refine blk_put (cs := #[.int .u64 t159, .int .u64 0, .int .u64 0, .string (⟨#[]⟩ : ByteArray), .string (⟨#[]⟩ : ByteArray), .int .i64 0, .int .i64 0, .int .u64 0, .int .u64 0, .slice none 0 0]) ?_ 1 _ rfl; (with_reducible repeat (first | refine bN_ ?_ _ | refine bD_ ?_ | refine bA_ ?_ _)); refine blk_put (cs := #[.int .u64 0, .int .u64 0, .int .u64 0, .string (⟨#[]⟩ : ByteArray), .string (⟨#[]⟩ : ByteArray), .int .i64 0, .int .i64 0, .int .u64 0, .int .u64 0, .slice none 0 0]) ?_ 0 _ rfl; (with_reducible repeat (first | refine bN_ ?_ _ | refine bD_ ?_ | refine bA_ ?_ _)); exact BK171.out⟩, ⟨by repeat (first | (with_reducible first | exact HB.out | apply lA_ | apply lN_ | apply l1_ | refine below_set ?_ GE157.out | refine below_set ?_ GE171.out) | exact HB.out)⟩⟩
            case round =>
             clear H'
             try clear c1
             try clear p1
             try clear q1
             try clear hx1
             try clear qi1
             try clear c2
             try clear p2
             try clear c4
             try clear c5
             try clear p6
             try clear c7
             try clear c7b0
             try clear c7b1
             try clear c8
             try clear c9
             try clear c9b0
             try clear c10
             try clear c10b0
             try clear c12
             try clear c14
             try clear p14
             try clear q14
             try clear hx14
             try clear qi14
             try clear c15
             try clear c15b0
             try clear c15b1
             try clear p15
             try clear q15
             try clear hx15
             try clear c17
             try clear c17b0
             try clear c17b1
             try clear c17b2
             try clear c19
             try clear c19b0
             try clear c20
             try clear c20b0
             try clear c21
             try clear c28
             try clear hcz24_0
             try clear hcz24_1
             try clear hcz24_2
             try clear hcz24_3
             try clear hcz24_4
             try clear hcz24_5
             try clear hcz24_6
             try clear hcz24_7
             try clear hcz24_8
             try clear hcz24_9
             try clear hcz29_0
             try clear hcz29_1
             try clear hcz29_2
             try clear hcz29_3
             try clear hcz29_4
             try clear hcz29_5
             try clear hcz29_6
             try clear hcz29_7
             try clear hcz29_8
             try clear hcz29_9
             try clear hfz24_0
             try clear hfz24_1
             try clear hfz24_2
             try clear hfz24_3
             try clear hfz24_4
             try clear hfz24_5
             try clear hfz24_6
             try clear hfz24_7
             try clear hfz24_8
             try clear hfz24_9
             try clear hfz29_0
             try clear hfz29_1
             try clear hfz29_2
             try clear hfz29_3
             try clear hfz29_4
             try clear hfz29_5
             try clear hfz29_6
             try clear hfz29_7
             try clear hfz29_8
             try clear hfz29_9
             try clear hx142_0
             try clear hx142_1
             try clear hx142_2
             try clear hx142_3
             try clear hx142_4
             try clear hx142_5
             try clear hx142_6
             try clear hx142_7
             try clear hx142_8
             try clear hx142_9
             try clear hx144_0
             try clear hx144_1
             try clear hx144_2
             try clear hx144_3
             try clear hx144_4
             try clear hx144_5
             try clear hx144_6
             try clear hx144_7
             try clear hx144_8
             try clear hx144_9
             try clear hx158_0
             try clear hx158_1
             try clear hx158_2
             try clear hx158_3
             try clear hx158_4
             try clear hx158_5
             try clear hx158_6
             try clear hx158_7
             try clear hx158_8
             try clear hx158_9
             try clear p142
             try clear p144
             try clear p158
             try clear p2
             try clear q142
             try clear q144
             try clear q158
             obtain ⟨x9_3, x158000_3, x158001_3, x158002_3, x158003_3, x158004_3, x158005_3, x158006_3, x158007_3, x158008_3, x158009_3, x172000_3, x172001_3, x172002_3, x172003_3, x172004_3, x172005_3, x172006_3, x172007_3, x172008_3, x172009_3, u158009, u172009, rfl, HA, HK3, HO_158009, HO_172009, BK157, BK171, HB⟩ := hrel
             cases gk with
             | zero => exact absurd HA.out (by simp [tallyroomlaw09_DigestPrefers.l1])
             | succ k3 =>
              have H := HA.out
              clear HA
              simp only [tallyroomlaw09_DigestPrefers.l1] at H
              by_cases c31 : x9_3 < (l0.length : Int)
              ·rw [if_pos c31] at H
               have c31b0 : decide (x9_3 < (l0.length : Int)) = true := decide_eq_true c31
               clear c31
               by_cases c32 : 0 ≤ x9_3
               ·rw [if_pos c32] at H
                have c32b0 : decide (0 ≤ x9_3) = true := decide_eq_true c32
                clear c32
                replace H := Option.bind_eq_some_iff.mp H
                obtain ⟨⟨t173, t174, t175, t176, t177, t178, t179, t180, t181, t182⟩, A330, H⟩ := H
                replace H : ((digest_Prefer.f x158000_3 x158001_3 x158002_3 x158003_3 x158004_3 x158005_3 x158006_3 x158007_3 x158008_3 x158009_3 t173 t174 t175 t176 t177 t178 t179 t180 t181 t182).bind fun bt185 => (if (l0.length : Int) = 0 then (none) else (if 0 ≤ (Int.tmod (wrap64 ((wrap64 ((wrap64 ((l0.length : Int) - 1)) - x9_3)) + ji18)) (l0.length : Int)) then (if (Int.tmod (wrap64 ((wrap64 ((wrap64 ((l0.length : Int) - 1)) - x9_3)) + ji18)) (l0.length : Int)) < (l0.length : Int) then ((tallyroomlaw06_Of.f k3 ((rd_T37 l0 (Int.tmod (wrap64 ((wrap64 ((wrap64 ((l0.length : Int) - 1)) - x9_3)) + ji18)) (l0.length : Int))).f0) ((rd_T37 l0 (Int.tmod (wrap64 ((wrap64 ((wrap64 ((l0.length : Int) - 1)) - x9_3)) + ji18)) (l0.length : Int))).f1) ((rd_T37 l0 (Int.tmod (wrap64 ((wrap64 ((wrap64 ((l0.length : Int) - 1)) - x9_3)) + ji18)) (l0.length : Int))).f2) ((rd_T37 l0 (Int.tmod (wrap64 ((wrap64 ((wrap64 ((l0.length : Int) - 1)) - x9_3)) + ji18)) (l0.length : Int))).f3) ((rd_T37 l0 (Int.tmod (wrap64 ((wrap64 ((wrap64 ((l0.length : Int) - 1)) - x9_3)) + ji18)) (l0.length : Int))).f4) ((rd_T37 l0 (Int.tmod (wrap64 ((wrap64 ((wrap64 ((l0.length : Int) - 1)) - x9_3)) + ji18)) (l0.length : Int))).f5) ((rd_T37 l0 (Int.tmod (wrap64 ((wrap64 ((wrap64 ((l0.length : Int) - 1)) - x9_3)) + ji18)) (l0.length : Int))).f6) ((rd_T37 l0 (Int.tmod (wrap64 ((wrap64 ((wrap64 ((l0.length : Int) - 1)) - x9_3)) + ji18)) (l0.length : Int))).f7) ((rd_T37 l0 (Int.tmod (wrap64 ((wrap64 ((wrap64 ((l0.length : Int) - 1)) - x9_3)) + ji18)) (l0.length : Int))).f8) ((rd_T37 l0 (Int.tmod (wrap64 ((wrap64 ((wrap64 ((l0.length : Int) - 1)) - x9_3)) + ji18)) (l0.length : Int))).f9)).bind fun bt198 => ((digest_Prefer.f bt198.1 bt198.2.1 bt198.2.2.1 bt198.2.2.2.1 bt198.2.2.2.2.1 bt198.2.2.2.2.2.1 bt198.2.2.2.2.2.2.1 bt198.2.2.2.2.2.2.2.1 bt198.2.2.2.2.2.2.2.2.1 bt198.2.2.2.2.2.2.2.2.2 x172000_3 x172001_3 x172002_3 x172003_3 x172004_3 x172005_3 x172006_3 x172007_3 x172008_3 x172009_3).bind fun bt210 => (tallyroomlaw09_DigestPrefers.l1 k3 l0 ji18 (wrap64 (x9_3 + 1)) bt185.1 bt185.2.1 bt185.2.2.1 bt185.2.2.2.1 bt185.2.2.2.2.1 bt185.2.2.2.2.2.1 bt185.2.2.2.2.2.2.1 bt185.2.2.2.2.2.2.2.1 bt185.2.2.2.2.2.2.2.2.1 bt185.2.2.2.2.2.2.2.2.2 bt210.1 bt210.2.1 bt210.2.2.1 bt210.2.2.2.1 bt210.2.2.2.2.1 bt210.2.2.2.2.2.1 bt210.2.2.2.2.2.2.1 bt210.2.2.2.2.2.2.2.1 bt210.2.2.2.2.2.2.2.2.1 bt210.2.2.2.2.2.2.2.2.2))) else (none)) else (none)))) = some r := H
                have A33 := Aside0.mk A330
                clear A330
                replace H := Option.bind_eq_some_iff.mp H
                obtain ⟨⟨t185, t186, t187, t188, t189, t190, t191, t192, t193, t194⟩, A340, H⟩ := H
                replace H : (if (l0.length : Int) = 0 then (none) else (if 0 ≤ (Int.tmod (wrap64 ((wrap64 ((wrap64 ((l0.length : Int) - 1)) - x9_3)) + ji18)) (l0.length : Int)) then (if (Int.tmod (wrap64 ((wrap64 ((wrap64 ((l0.length : Int) - 1)) - x9_3)) + ji18)) (l0.length : Int)) < (l0.length : Int) then ((tallyroomlaw06_Of.f k3 ((rd_T37 l0 (Int.tmod (wrap64 ((wrap64 ((wrap64 ((l0.length : Int) - 1)) - x9_3)) + ji18)) (l0.length : Int))).f0) ((rd_T37 l0 (Int.tmod (wrap64 ((wrap64 ((wrap64 ((l0.length : Int) - 1)) - x9_3)) + ji18)) (l0.length : Int))).f1) ((rd_T37 l0 (Int.tmod (wrap64 ((wrap64 ((wrap64 ((l0.length : Int) - 1)) - x9_3)) + ji18)) (l0.length : Int))).f2) ((rd_T37 l0 (Int.tmod (wrap64 ((wrap64 ((wrap64 ((l0.length : Int) - 1)) - x9_3)) + ji18)) (l0.length : Int))).f3) ((rd_T37 l0 (Int.tmod (wrap64 ((wrap64 ((wrap64 ((l0.length : Int) - 1)) - x9_3)) + ji18)) (l0.length : Int))).f4) ((rd_T37 l0 (Int.tmod (wrap64 ((wrap64 ((wrap64 ((l0.length : Int) - 1)) - x9_3)) + ji18)) (l0.length : Int))).f5) ((rd_T37 l0 (Int.tmod (wrap64 ((wrap64 ((wrap64 ((l0.length : Int) - 1)) - x9_3)) + ji18)) (l0.length : Int))).f6) ((rd_T37 l0 (Int.tmod (wrap64 ((wrap64 ((wrap64 ((l0.length : Int) - 1)) - x9_3)) + ji18)) (l0.length : Int))).f7) ((rd_T37 l0 (Int.tmod (wrap64 ((wrap64 ((wrap64 ((l0.length : Int) - 1)) - x9_3)) + ji18)) (l0.length : Int))).f8) ((rd_T37 l0 (Int.tmod (wrap64 ((wrap64 ((wrap64 ((l0.length : Int) - 1)) - x9_3)) + ji18)) (l0.length : Int))).f9)).bind fun bt198 => ((digest_Prefer.f bt198.1 bt198.2.1 bt198.2.2.1 bt198.2.2.2.1 bt198.2.2.2.2.1 bt198.2.2.2.2.2.1 bt198.2.2.2.2.2.2.1 bt198.2.2.2.2.2.2.2.1 bt198.2.2.2.2.2.2.2.2.1 bt198.2.2.2.2.2.2.2.2.2 x172000_3 x172001_3 x172002_3 x172003_3 x172004_3 x172005_3 x172006_3 x172007_3 x172008_3 x172009_3).bind fun bt210 => (tallyroomlaw09_DigestPrefers.l1 k3 l0 ji18 (wrap64 (x9_3 + 1)) t185 t186 t187 t188 t189 t190 t191 t192 t193 t194 bt210.1 bt210.2.1 bt210.2.2.1 bt210.2.2.2.1 bt210.2.2.2.2.1 bt210.2.2.2.2.2.1 bt210.2.2.2.2.2.2.1 bt210.2.2.2.2.2.2.2.1 bt210.2.2.2.2.2.2.2.2.1 bt210.2.2.2.2.2.2.2.2.2))) else (none)) else (none))) = some r := H
                have A34 := Aside0.mk A340
                clear A340
                by_cases c35 : (l0.length : Int) = 0
                ·rw [if_pos c35] at H
                 exact absurd H (by simp)
                ·rw [if_neg c35] at H
                 have c35b0 : ((l0.length : Int) == 0) = false := beq_eq_false_iff_ne.mpr c35
                 have c35b1 : ((l0.length : Int) != 0) = true := bne_iff_ne.mpr c35
                 have c35b2 : ¬ (l0 = []) := fun h_ => c35 (by rw [h_]; rfl)
                 obtain ⟨ji36, hji36⟩ : ∃ j_ : Int, (Int.tmod (wrap64 ((wrap64 ((wrap64 ((l0.length : Int) - 1)) - x9_3)) + ji18)) (l0.length : Int)) = j_ := ⟨_, rfl⟩
                 replace H : (if 0 ≤ (ji36) then (if (ji36) < (l0.length : Int) then ((tallyroomlaw06_Of.f k3 ((rd_T37 l0 (ji36)).f0) ((rd_T37 l0 (ji36)).f1) ((rd_T37 l0 (ji36)).f2) ((rd_T37 l0 (ji36)).f3) ((rd_T37 l0 (ji36)).f4) ((rd_T37 l0 (ji36)).f5) ((rd_T37 l0 (ji36)).f6) ((rd_T37 l0 (ji36)).f7) ((rd_T37 l0 (ji36)).f8) ((rd_T37 l0 (ji36)).f9)).bind fun bt198 => ((digest_Prefer.f bt198.1 bt198.2.1 bt198.2.2.1 bt198.2.2.2.1 bt198.2.2.2.2.1 bt198.2.2.2.2.2.1 bt198.2.2.2.2.2.2.1 bt198.2.2.2.2.2.2.2.1 bt198.2.2.2.2.2.2.2.2.1 bt198.2.2.2.2.2.2.2.2.2 x172000_3 x172001_3 x172002_3 x172003_3 x172004_3 x172005_3 x172006_3 x172007_3 x172008_3 x172009_3).bind fun bt210 => (tallyroomlaw09_DigestPrefers.l1 k3 l0 ji18 (wrap64 (x9_3 + 1)) t185 t186 t187 t188 t189 t190 t191 t192 t193 t194 bt210.1 bt210.2.1 bt210.2.2.1 bt210.2.2.2.1 bt210.2.2.2.2.1 bt210.2.2.2.2.2.1 bt210.2.2.2.2.2.2.1 bt210.2.2.2.2.2.2.2.1 bt210.2.2.2.2.2.2.2.2.1 bt210.2.2.2.2.2.2.2.2.2))) else (none)) else (none)) = some r := by first | (rw [hji36] at H; exact H) | (simp only [hji36] at H ⊢; exact H)
                 (try rw [hji36] at A33)
                 (try rw [hji36] at A34)
                 by_cases c37 : 0 ≤ (ji36)
                 ·rw [if_pos c37] at H
                  have c37b0 : decide (0 ≤ (ji36)) = true := decide_eq_true c37
                  clear c37
                  by_cases c38 : (ji36) < (l0.length : Int)
                  ·rw [if_pos c38] at H
                   have c38b0 : decide ((ji36) < (l0.length : Int)) = true := decide_eq_true c38
                   clear c38
                   replace H := Option.bind_eq_some_iff.mp H
                   obtain ⟨⟨t198, t199, t200, t201, t202, t203, t204, t205, t206, t207⟩, A390, H⟩ := H
                   replace H : ((digest_Prefer.f t198 t199 t200 t201 t202 t203 t204 t205 t206 t207 x172000_3 x172001_3 x172002_3 x172003_3 x172004_3 x172005_3 x172006_3 x172007_3 x172008_3 x172009_3).bind fun bt210 => (tallyroomlaw09_DigestPrefers.l1 k3 l0 ji18 (wrap64 (x9_3 + 1)) t185 t186 t187 t188 t189 t190 t191 t192 t193 t194 bt210.1 bt210.2.1 bt210.2.2.1 bt210.2.2.2.1 bt210.2.2.2.2.1 bt210.2.2.2.2.2.1 bt210.2.2.2.2.2.2.1 bt210.2.2.2.2.2.2.2.1 bt210.2.2.2.2.2.2.2.2.1 bt210.2.2.2.2.2.2.2.2.2)) = some r := H
                   have A39 := Aside0.mk A390
                   clear A390
                   replace H := Option.bind_eq_some_iff.mp H
                   obtain ⟨⟨t210, t211, t212, t213, t214, t215, t216, t217, t218, t219⟩, A400, H⟩ := H
                   replace H : (tallyroomlaw09_DigestPrefers.l1 k3 l0 ji18 (wrap64 (x9_3 + 1)) t185 t186 t187 t188 t189 t190 t191 t192 t193 t194 t210 t211 t212 t213 t214 t215 t216 t217 t218 t219) = some r := H
                   have A40 := Aside0.mk A400
                   clear A400
                   have H' := Aside0.mk H
                   clear H
                   try go_wp2
                   have n0_ := Aside0.mk (rD_ HO_158009.out)
                   have n1_ := Aside0.mk (rD_ HO_172009.out)
                   have n2_ := Aside0.mk (bD_ BK157.out)
                   have n3_ := Aside0.mk (bD_ BK171.out)
                   have n4_ := Aside0.mk (l1_ HB.out)
                   clear HO_158009
                   clear HO_172009
                   clear BK157
                   clear BK171
                   clear HB
                   have HO_158009 := n0_
                   have HO_172009 := n1_
                   have BK157 := n2_
                   have BK171 := n3_
                   have HB := n4_
                   clear n0_ n1_ n2_ n3_ n4_
                   have p172 : 0 ≤ (x9_3 : Int) := of_decide_eq_true (by first | (with_reducible assumption) | assumption)
                   have q172 : x9_3 < (l0.length : Int) := of_decide_eq_true (by first | (with_reducible assumption) | assumption)
                   obtain ⟨ad172, A172_9, c172_9, e172, hx172_0, hx172_1, hx172_2, hx172_3, hx172_4, hx172_5, hx172_6, hx172_7, hx172_8, hx172_9, hl172_9, hi172_9⟩ := at_T37 HR0.out x9_3 p172 q172
                   have hw172_9 := hx172_9
                   have hw172_8 := hx172_8
                   have hw172_7 := hx172_7
                   have hw172_6 := hx172_6
                   have hw172_5 := hx172_5
                   have hw172_4 := hx172_4
                   have hw172_3 := hx172_3
                   have hw172_2 := hx172_2
                   have hw172_1 := hx172_1
                   have hw172_0 := hx172_0
                   obtain rfl : ad144 = ad172 := (by injection e172)
                   replace hx172_0 := bc_ HB.out hx172_0
                   replace hx172_1 := bc_ HB.out hx172_1
                   replace hx172_2 := bc_ HB.out hx172_2
                   replace hx172_3 := bc_ HB.out hx172_3
                   replace hx172_4 := bc_ HB.out hx172_4
                   replace hx172_5 := bc_ HB.out hx172_5
                   replace hx172_6 := bc_ HB.out hx172_6
                   replace hx172_7 := bc_ HB.out hx172_7
                   replace hx172_8 := bc_ HB.out hx172_8
                   replace hx172_9 := bc_ HB.out hx172_9
                   have HR172_9 := Aside0.mk hi172_9
                   have HC172_9 := Aside0.mk hl172_9
                   clear hi172_9 hl172_9
                   replace p172 := eq_true p172
                   replace q172 := eq_true q172
                   refine start_ (n := 8) (S := fun w' => w'.cell? ⟨gb157, 0, none⟩ = some (.int .u64 x158000_3) ∧ w'.cell? ⟨gb157, 1, none⟩ = some (.int .u64 x158001_3) ∧ w'.cell? ⟨gb157, 2, none⟩ = some (.int .u64 x158002_3) ∧ w'.cell? ⟨gb157, 3, none⟩ = some (.string x158003_3) ∧ w'.cell? ⟨gb157, 4, none⟩ = some (.string x158004_3) ∧ w'.cell? ⟨gb157, 5, none⟩ = some (.int .i64 x158005_3) ∧ w'.cell? ⟨gb157, 6, none⟩ = some (.int .i64 x158006_3) ∧ w'.cell? ⟨gb157, 7, none⟩ = some (.int .u64 x158007_3) ∧ w'.cell? ⟨gb157, 8, none⟩ = some (.int .u64 x158008_3) ∧ w'.cell? ⟨gb157, 9, none⟩ = some (u158009) ∧ w'.cell? (ad144.add ((x9_3).toNat * 10)) = some (.int .u64 ((rd_T37 l0 x9_3).f0)) ∧ w'.cell? ⟨(ad144.add ((x9_3).toNat * 10)).block, (ad144.add ((x9_3).toNat * 10)).off + 1, none⟩ = some (.int .u64 ((rd_T37 l0 x9_3).f1)) ∧ w'.cell? ⟨(ad144.add ((x9_3).toNat * 10)).block, (ad144.add ((x9_3).toNat * 10)).off + 2, none⟩ = some (.int .u64 ((rd_T37 l0 x9_3).f2)) ∧ w'.cell? ⟨(ad144.add ((x9_3).toNat * 10)).block, (ad144.add ((x9_3).toNat * 10)).off + 3, none⟩ = some (.string ((rd_T37 l0 x9_3).f3)) ∧ w'.cell? ⟨(ad144.add ((x9_3).toNat * 10)).block, (ad144.add ((x9_3).toNat * 10)).off + 4, none⟩ = some (.string ((rd_T37 l0 x9_3).f4)) ∧ w'.cell? ⟨(ad144.add ((x9_3).toNat * 10)).block, (ad144.add ((x9_3).toNat * 10)).off + 5, none⟩ = some (.int .i64 ((rd_T37 l0 x9_3).f5)) ∧ w'.cell? ⟨(ad144.add ((x9_3).toNat * 10)).block, (ad144.add ((x9_3).toNat * 10)).off + 6, none⟩ = some (.int .i64 ((rd_T37 l0 x9_3).f6)) ∧ w'.cell? ⟨(ad144.add ((x9_3).toNat * 10)).block, (ad144.add ((x9_3).toNat * 10)).off + 7, none⟩ = some (.int .u64 ((rd_T37 l0 x9_3).f7)) ∧ w'.cell? ⟨(ad144.add ((x9_3).toNat * 10)).block, (ad144.add ((x9_3).toNat * 10)).off + 8, none⟩ = some (.int .u64 ((rd_T37 l0 x9_3).f8)) ∧ w'.cell? ⟨(ad144.add ((x9_3).toNat * 10)).block, (ad144.add ((x9_3).toNat * 10)).off + 9, none⟩ = some (.slice A172_9 ((rd_T37 l0 x9_3).f9).length c172_9)) (ds := [7]) #[false, false, false, false, false, false, false, false] (by kernel_rfl) rfl rfl ⟨(bc1_ BK157.out 0).trans rfl, (bc1_ BK157.out 1).trans rfl, (bc1_ BK157.out 2).trans rfl, (bc1_ BK157.out 3).trans rfl, (bc1_ BK157.out 4).trans rfl, (bc1_ BK157.out 5).trans rfl, (bc1_ BK157.out 6).trans rfl, (bc1_ BK157.out 7).trans rfl, (bc1_ BK157.out 8).trans rfl, (bc1_ BK157.out 9).trans rfl, (bc_ HB.out hw172_0), (bc_ HB.out hw172_1), (bc_ HB.out hw172_2), (bc_ HB.out hw172_3), (bc_ HB.out hw172_4), (bc_ HB.out hw172_5), (bc_ HB.out hw172_6), (bc_ HB.out hw172_7), (bc_ HB.out hw172_8), (bc_ HB.out hw172_9)⟩ (fun hHeld => ?_); refine with_tabW tallyroomlaw09_DigestPrefers.tab16 tallyroomlaw09_DigestPrefers.bits16 (fun HT_ HW_ => ?_)
                   generalize wr.drew = w41 at HO_158009 HO_172009 BK157 BK171 HB HR172_9 hx172_0 hx172_1 hx172_2 hx172_3 hx172_4 hx172_5 hx172_6 hx172_7 hx172_8 hx172_9 hHeld ⊢
                   refine pure_ (i := 1) (N := some 55) (v := ?_) (a' := ?_) #[false, true, false, false, false, false, false, false] rfl rfl (any_of HT_.out (by kernel_rfl)) (fun _ _ _ h => h) (Or.inl ⟨by rfl, ?_⟩) ?_ ?_
                   rotate_left
                   ·intro w'
                    go_simp
                    with_reducible rfl
                   rotate_left
                   ·simp only [Act.put, sb_, sz_, ss_, i64_w, i32_w]
                    rfl
                   refine pure_ (i := 2) (N := some 56) (v := ?_) (a' := ?_) #[false, true, true, false, false, false, false, false] rfl rfl (any_of HT_.out (by kernel_rfl)) (fun _ _ _ h => h) (Or.inl ⟨by rfl, ?_⟩) ?_ ?_
                   rotate_left
                   ·intro w'
                    go_simp
                    with_reducible rfl
                   rotate_left
                   ·simp only [Act.put, sb_, sz_, ss_, i64_w, i32_w]
                    rfl
                   refine pure_ (i := 3) (N := some 57) (v := ?_) (a' := ?_) #[false, true, true, true, false, false, false, false] rfl rfl (any_of HT_.out (by kernel_rfl)) (fun _ _ _ h => h) (Or.inl ⟨by rfl, ?_⟩) ?_ ?_
                   rotate_left
                   ·intro w'
                    go_simp
                    with_reducible rfl
                   rotate_left
                   ·simp only [Act.put, sb_, sz_, ss_, i64_w, i32_w]
                    rfl
                   refine take_ (i := 0) (N := some 54) (v := ?_) (a' := ?_) #[true, true, true, true, false, false, false, false] rfl rfl (take_ofW HT_.out HW_.out (by kernel_rfl)) (fun _ _ _ h => h) (Or.inl ⟨by rfl, ?_⟩) hHeld ?_ ?_
                   rotate_left
                   ·rintro w' ⟨s0, s1, s2, s3, s4, s5, s6, s7, s8, s9, s10, s11, s12, s13, s14, s15, s16, s17, s18, s19⟩
                    go_simp
                    with_reducible rfl
                   rotate_left
                   ·simp only [Act.put, sb_, sz_, ss_, i64_w, i32_w]
                    rfl
                   refine take_ (i := 4) (N := some 58) (v := ?_) (a' := ?_) #[true, true, true, true, true, false, false, false] rfl rfl (take_ofW HT_.out HW_.out (by kernel_rfl)) (fun _ _ _ h => h) (Or.inl ⟨by rfl, ?_⟩) hHeld ?_ ?_
                   rotate_left
                   ·rintro w' ⟨s0, s1, s2, s3, s4, s5, s6, s7, s8, s9, s10, s11, s12, s13, s14, s15, s16, s17, s18, s19⟩
                    go_simp
                    with_reducible rfl
                   rotate_left
                   ·simp only [Act.put, sb_, sz_, ss_, i64_w, i32_w]
                    rfl
                   refine one_ (i := 5) (N := some 59) #[true, true, true, true, true, true, false, false] rfl rfl (one_of HT_.out (by kernel_rfl)) (by decide) (fun K hK => ?_)
                   refine goes_ Try.func21 (by kernel_rfl) rfl #[.agg #[.int .u64 ((rd_T37 l0 x9_3).f0), .int .u64 ((rd_T37 l0 x9_3).f1), .int .u64 ((rd_T37 l0 x9_3).f2), .string ((rd_T37 l0 x9_3).f3), .string ((rd_T37 l0 x9_3).f4), .int .i64 ((rd_T37 l0 x9_3).f5), .int .i64 ((rd_T37 l0 x9_3).f6), .int .u64 ((rd_T37 l0 x9_3).f7), .int .u64 ((rd_T37 l0 x9_3).f8), .slice A172_9 ((rd_T37 l0 x9_3).f9).length c172_9]] (by rfl) rfl rfl (by (try simp only [List.map_toArray, List.map_cons, List.map_nil]); first | done | rfl | (simp only [List.length_drop, List.length_take]; rfl)) ?_
                   with_reducible refine (tallyroomlaw06_Of.calls k3 ((rd_T37 l0 x9_3).f0) ((rd_T37 l0 x9_3).f1) ((rd_T37 l0 x9_3).f2) ((rd_T37 l0 x9_3).f3) ((rd_T37 l0 x9_3).f4) ((rd_T37 l0 x9_3).f5) ((rd_T37 l0 x9_3).f6) ((rd_T37 l0 x9_3).f7) ((rd_T37 l0 x9_3).f8) _ _ ((rd_T37 l0 x9_3).f9) t173 t174 t175 t176 t177 t178 t179 t180 t181 t182 _ ?side1 ?side2 A33.out).mono ?_
                   (case side1 => repeat (first | exact (Kd.C_below HR172_9.out HB.out) | (with_reducible refine Kd.C_alloc ?_ _) | (with_reducible refine Kd.C_drewN ?_ _) | (with_reducible refine Kd.C_drew ?_)))
                   (case side2 => exact HC172_9.out)
                   rintro e w42 ⟨v183, rfl, ho0, hb⟩
                   refine ⟨_, rfl, ?_⟩
                   have n0_ := Aside0.mk (Kd.R_elder' (by (with_reducible repeat (first | apply rA_ | apply rN_ | apply rD_)); exact HO_158009.out) (Kd.R_base ho0) hb)
                   have n1_ := Aside0.mk (Kd.R_elder' (by (with_reducible repeat (first | apply rA_ | apply rN_ | apply rD_)); exact HO_172009.out) (Kd.R_base ho0) hb)
                   have n2_ := Aside0.mk (Kd.R_lower (Kd.R_new' (Kd.R_new' ho0 (Kd.R_lt (by (with_reducible repeat (first | apply rA_ | apply rN_ | apply rD_)); exact HO_158009.out))) (Kd.R_lt (by (with_reducible repeat (first | apply rA_ | apply rN_ | apply rD_)); exact HO_172009.out))) (bz_ (by repeat (first | (with_reducible first | exact HB.out | apply lA_ | apply lN_ | apply l1_ | refine below_set ?_ GE157.out | refine below_set ?_ GE171.out) | exact HB.out))))
                   have n3_ := Aside0.mk (bb_ (g := gb157) (o := .cells #[.int .u64 x158000_3, .int .u64 x158001_3, .int .u64 x158002_3, .string x158003_3, .string x158004_3, .int .i64 x158005_3, .int .i64 x158006_3, .int .u64 x158007_3, .int .u64 x158008_3, u158009] 40 (0, 0)) (by (with_reducible repeat (first | refine bN_ ?_ _ | refine bD_ ?_ | refine bA_ ?_ _)); exact BK157.out) hb)
                   have n4_ := Aside0.mk (bb_ (g := gb171) (o := .cells #[.int .u64 x172000_3, .int .u64 x172001_3, .int .u64 x172002_3, .string x172003_3, .string x172004_3, .int .i64 x172005_3, .int .i64 x172006_3, .int .u64 x172007_3, .int .u64 x172008_3, u172009] 40 (0, 0)) (by (with_reducible repeat (first | refine bN_ ?_ _ | refine bD_ ?_ | refine bA_ ?_ _)); exact BK171.out) hb)
                   have n5_ := Aside0.mk (ls_ (by repeat (first | (with_reducible first | exact HB.out | apply lA_ | apply lN_ | apply l1_ | refine below_set ?_ GE157.out | refine below_set ?_ GE171.out) | exact HB.out)) hb)
                   clear HO_158009
                   clear HO_172009
                   clear BK157
                   clear BK171
                   clear HB
                   have HO_158009 := n0_
                   have HO_172009 := n1_
                   have HO184 := n2_
                   have BK157 := n3_
                   have BK171 := n4_
                   have HB := n5_
                   clear n0_ n1_ n2_ n3_ n4_ n5_
                   (try clear hb)
                   (try clear hb2)
                   (try clear hk)
                   (try clear hi)
                   (try clear ho0)
                   obtain ⟨Ao43, co43, eo43⟩ := Kd.R_slice HO_158009.out
                   (first | subst eo43 | (injection eo43 with f1_ f2_ f3_; have f4_ := f1_.symm; have f5_ := f3_.symm; clear f1_ f2_ f3_; subst f4_; subst f5_))
                   obtain ⟨Ao44, co44, eo44⟩ := Kd.R_slice HO184.out
                   (first | subst eo44 | (injection eo44 with f1_ f2_ f3_; have f4_ := f1_.symm; have f5_ := f3_.symm; clear f1_ f2_ f3_; subst f4_; subst f5_))
                   refine hK.out _ _ ⟨(bc1_ BK157.out 0).trans rfl, (bc1_ BK157.out 1).trans rfl, (bc1_ BK157.out 2).trans rfl, (bc1_ BK157.out 3).trans rfl, (bc1_ BK157.out 4).trans rfl, (bc1_ BK157.out 5).trans rfl, (bc1_ BK157.out 6).trans rfl, (bc1_ BK157.out 7).trans rfl, (bc1_ BK157.out 8).trans rfl, (bc1_ BK157.out 9).trans rfl, (bc_ HB.out hw172_0), (bc_ HB.out hw172_1), (bc_ HB.out hw172_2), (bc_ HB.out hw172_3), (bc_ HB.out hw172_4), (bc_ HB.out hw172_5), (bc_ HB.out hw172_6), (bc_ HB.out hw172_7), (bc_ HB.out hw172_8), (bc_ HB.out hw172_9)⟩ (fun hHeld => ?_)
                   clear hK K
                   refine norm_ (a' := ?_) ?_ ?_
                   rotate_left
                   ·show Act.put _ (some 59) _ = _
                    simp only [Act.put, sb_, sz_, ss_, i64_w, i32_w]
                    rfl
                   refine one_ (i := 6) (N := some 60) #[true, true, true, true, true, true, true, false] rfl rfl (one_of HT_.out (by kernel_rfl)) (by decide) (fun K hK => ?_)
                   refine goes_ Try.func22 (by kernel_rfl) rfl #[.agg #[.int .u64 x158000_3, .int .u64 x158001_3, .int .u64 x158002_3, .string x158003_3, .string x158004_3, .int .i64 x158005_3, .int .i64 x158006_3, .int .u64 x158007_3, .int .u64 x158008_3, .slice Ao43 x158009_3.length co43], .agg #[.int .u64 t173, .int .u64 t174, .int .u64 t175, .string t176, .string t177, .int .i64 t178, .int .i64 t179, .int .u64 t180, .int .u64 t181, .slice Ao44 t182.length co44]] (by rfl) rfl rfl (by (try simp only [List.map_toArray, List.map_cons, List.map_nil]); first | done | rfl | (simp only [List.length_drop, List.length_take]; rfl)) ?_
                   with_reducible refine (digest_Prefer.calls x158000_3 x158001_3 x158002_3 x158003_3 x158004_3 x158005_3 x158006_3 x158007_3 x158008_3 (fun k_ => some k_ = (.slice Ao43 x158009_3.length co43 : Value).ownBlock) (.slice Ao43 x158009_3.length co43) x158009_3 t173 t174 t175 t176 t177 t178 t179 t180 t181 (fun k_ => some k_ = (.slice Ao44 t182.length co44 : Value).ownBlock) (.slice Ao44 t182.length co44) t182 t185 t186 t187 t188 t189 t190 t191 t192 t193 t194 w _ ?side1 ?side2 ?side3 ?side4 ?side5 A34.out).mono ?_
                   (case side1 => repeat (first | (with_reducible first | exact HB.out | apply lA_ | apply lN_ | apply l1_ | refine below_set ?_ GE157.out | refine below_set ?_ GE171.out) | exact HB.out))
                   (case side2 => exact Kd.R_tight rfl HO_158009.out)
                   (case side3 => exact fun k_ e_ => (HO_158009.out.1 k_ e_.symm).2)
                   (case side4 => exact Kd.R_tight rfl HO184.out)
                   (case side5 => exact fun k_ e_ => (HO184.out.1 k_ e_.symm).1.2)
                   rintro e w45 ⟨v195, rfl, ho0, hb, hkp⟩
                   refine ⟨_, rfl, ?_⟩
                   have n0_ := Aside0.mk (Kd.R_mono (ok' := fun k_ => some k_ ≠ (v195 : Value).ownBlock) (Kd.R_keptB (HO_172009.out) hkp (fun k_ hk_ hs_ => Or.elim hs_ (fun e_ => (hk_.1) e_) (fun e_ => (hk_.2) e_))) (fun k_ hk_ => fun e_ => Or.elim (ho0.1 k_ e_.symm) (fun hs_ => hk_.2.1 hs_) (fun hn_ => Nat.not_le.2 hk_.2.2 hn_)))
                   have n1_ := Aside0.mk (blk_kept (by (with_reducible repeat (first | refine bN_ ?_ _ | refine bD_ ?_ | refine bA_ ?_ _)); exact BK157.out) hkp (fun hs_ => Or.elim hs_ (fun e_ => (fun e_ => (Kd.R_ne HO_158009.out BK157.out (by decide)) e_) e_) (fun e_ => (fun e_ => (Kd.R_ne HO184.out BK157.out (by decide)) e_) e_)))
                   have n2_ := Aside0.mk (blk_kept (by (with_reducible repeat (first | refine bN_ ?_ _ | refine bD_ ?_ | refine bA_ ?_ _)); exact BK171.out) hkp (fun hs_ => Or.elim hs_ (fun e_ => (fun e_ => (Kd.R_ne HO_158009.out BK171.out (by decide)) e_) e_) (fun e_ => (fun e_ => (Kd.R_ne HO184.out BK171.out (by decide)) e_) e_)))
                   have n3_ := Aside0.mk (Kd.R_mono (ok' := fun k_ => some k_ ≠ (u172009 : Value).ownBlock) ho0 (fun k_ hk_ => Or.elim hk_ (fun hs_ => Or.elim hs_ (fun hs_ => fun e_ => (((HO_172009.out).1 k_ e_.symm).1) hs_) (fun hs_ => fun e_ => (((HO_172009.out).1 k_ e_.symm).2) hs_)) (fun hn_ => (Kd.fresh' (Kd.R_lt (by (with_reducible repeat (first | apply rA_ | apply rN_ | apply rD_)); exact HO_172009.out)) k_ hn_))))
                   have n4_ := Aside0.mk (hb)
                   clear HO_172009
                   clear BK157
                   clear BK171
                   clear HB
                   clear HO184
                   clear HO_158009
                   have HO_172009 := n0_
                   have BK157 := n1_
                   have BK171 := n2_
                   have HO196 := n3_
                   have HB := n4_
                   clear n0_ n1_ n2_ n3_ n4_
                   (try clear hb)
                   (try clear hkp)
                   (try clear ho0)
                   obtain ⟨Ao55, co55, eo55⟩ := Kd.R_slice HO196.out
                   (first | subst eo55 | (injection eo55 with f1_ f2_ f3_; have f4_ := f1_.symm; have f5_ := f3_.symm; clear f1_ f2_ f3_; subst f4_; subst f5_))
                   refine hK.out _ _ ⟨(bc1_ BK157.out 0).trans rfl, (bc1_ BK157.out 1).trans rfl, (bc1_ BK157.out 2).trans rfl, (bc1_ BK157.out 3).trans rfl, (bc1_ BK157.out 4).trans rfl, (bc1_ BK157.out 5).trans rfl, (bc1_ BK157.out 6).trans rfl, (bc1_ BK157.out 7).trans rfl, (bc1_ BK157.out 8).trans rfl, (bc1_ BK157.out 9).trans rfl, (bc_ HB.out hw172_0), (bc_ HB.out hw172_1), (bc_ HB.out hw172_2), (bc_ HB.out hw172_3), (bc_ HB.out hw172_4), (bc_ HB.out hw172_5), (bc_ HB.out hw172_6), (bc_ HB.out hw172_7), (bc_ HB.out hw172_8), (bc_ HB.out hw172_9)⟩ (fun hHeld => ?_)
                   clear hK K
                   refine norm_ (a' := ?_) ?_ ?_
                   rotate_left
                   ·show Act.put _ (some 60) _ = _
                    simp only [Act.put, sb_, sz_, ss_, i64_w, i32_w]
                    rfl
                   refine last_ (i := 7) (N := none) #[true, true, true, true, true, true, true, true] rfl rfl (one_of HT_.out (by kernel_rfl)) (by decide) (fun K hK => ?_)
                   have hs46 : w45.cell? ⟨gb157, 0, none⟩ = some (.int .u64 x158000_3) := (bc1_ BK157.out 0).trans rfl
                   have hfs46 := bf1_ BK157.out 0
                   have hns46_1 := NB171_157.out
                   have hms46_1 := NB157_171.out
                   have hs47 : w45.cell? ⟨gb157, 1, none⟩ = some (.int .u64 x158001_3) := (bc1_ BK157.out 1).trans rfl
                   have hfs47 := bf1_ BK157.out 1
                   have hns47_1 := NB171_157.out
                   have hms47_1 := NB157_171.out
                   have hs48 : w45.cell? ⟨gb157, 2, none⟩ = some (.int .u64 x158002_3) := (bc1_ BK157.out 2).trans rfl
                   have hfs48 := bf1_ BK157.out 2
                   have hns48_1 := NB171_157.out
                   have hms48_1 := NB157_171.out
                   have hs49 : w45.cell? ⟨gb157, 3, none⟩ = some (.string x158003_3) := (bc1_ BK157.out 3).trans rfl
                   have hfs49 := bf1_ BK157.out 3
                   have hns49_1 := NB171_157.out
                   have hms49_1 := NB157_171.out
                   have hs50 : w45.cell? ⟨gb157, 4, none⟩ = some (.string x158004_3) := (bc1_ BK157.out 4).trans rfl
                   have hfs50 := bf1_ BK157.out 4
                   have hns50_1 := NB171_157.out
                   have hms50_1 := NB157_171.out
                   have hs51 : w45.cell? ⟨gb157, 5, none⟩ = some (.int .i64 x158005_3) := (bc1_ BK157.out 5).trans rfl
                   have hfs51 := bf1_ BK157.out 5
                   have hns51_1 := NB171_157.out
                   have hms51_1 := NB157_171.out
                   have hs52 : w45.cell? ⟨gb157, 6, none⟩ = some (.int .i64 x158006_3) := (bc1_ BK157.out 6).trans rfl
                   have hfs52 := bf1_ BK157.out 6
                   have hns52_1 := NB171_157.out
                   have hms52_1 := NB157_171.out
                   have hs53 : w45.cell? ⟨gb157, 7, none⟩ = some (.int .u64 x158007_3) := (bc1_ BK157.out 7).trans rfl
                   have hfs53 := bf1_ BK157.out 7
                   have hns53_1 := NB171_157.out
                   have hms53_1 := NB157_171.out
                   have hs54 : w45.cell? ⟨gb157, 8, none⟩ = some (.int .u64 x158008_3) := (bc1_ BK157.out 8).trans rfl
                   have hfs54 := bf1_ BK157.out 8
                   have hns54_1 := NB171_157.out
                   have hms54_1 := NB157_171.out
                   have hs56 : w45.cell? ⟨gb157, 9, none⟩ = some (.slice Ao43 x158009_3.length co43) := (bc1_ BK157.out 9).trans rfl
                   have hfs56 := bf1_ BK157.out 9
                   have hns56_1 := NB171_157.out
                   have hms56_1 := NB157_171.out
                   refine skip_ (w1 := ?_) (by rfl) rfl ?_ ?_
                   rotate_left
                   ·go_simp
                    rfl
                   refine hK.out _ _ ?_
                   clear hK K
                   refine done_ (done_of HT_.out (by kernel_rfl)) ?_
                   try go_wp2
                   have n0_ : Aside0 (Kd.R k51 51 ((((((((((w45.setCell ⟨gb157, 0, none⟩ (.int .u64 t185)).setCell ⟨gb157, 1, none⟩ (.int .u64 t186)).setCell ⟨gb157, 2, none⟩ (.int .u64 t187)).setCell ⟨gb157, 3, none⟩ (.string t188)).setCell ⟨gb157, 4, none⟩ (.string t189)).setCell ⟨gb157, 5, none⟩ (.int .i64 t190)).setCell ⟨gb157, 6, none⟩ (.int .i64 t191)).setCell ⟨gb157, 7, none⟩ (.int .u64 t192)).setCell ⟨gb157, 8, none⟩ (.int .u64 t193)).setCell ⟨gb157, 9, none⟩ (.slice Ao55 t194.length co55)) w.heap.size (fun k_ => some k_ ≠ (.slice Ao55 t194.length co55 : Value).ownBlock) u172009 x172009_3) := ⟨by (with_reducible repeat (first | apply rA_ | apply rN_ | apply rD_)); exact Kd.R_mono (Kd.R_far (p := ⟨gb157, 9, none⟩) (Kd.R_far (p := ⟨gb157, 8, none⟩) (Kd.R_far (p := ⟨gb157, 7, none⟩) (Kd.R_far (p := ⟨gb157, 6, none⟩) (Kd.R_far (p := ⟨gb157, 5, none⟩) (Kd.R_far (p := ⟨gb157, 4, none⟩) (Kd.R_far (p := ⟨gb157, 3, none⟩) (Kd.R_far (p := ⟨gb157, 2, none⟩) (Kd.R_far (p := ⟨gb157, 1, none⟩) (Kd.R_far (p := ⟨gb157, 0, none⟩) (Kd.R_types HO_172009.out BK157.out (by decide)) (fun _ hk => hk.2) (.int .u64 t185)) (fun _ hk => hk.2) (.int .u64 t186)) (fun _ hk => hk.2) (.int .u64 t187)) (fun _ hk => hk.2) (.string t188)) (fun _ hk => hk.2) (.string t189)) (fun _ hk => hk.2) (.int .i64 t190)) (fun _ hk => hk.2) (.int .i64 t191)) (fun _ hk => hk.2) (.int .u64 t192)) (fun _ hk => hk.2) (.int .u64 t193)) (fun _ hk => hk.2) (.slice Ao55 t194.length co55)) (fun _ hk => hk.1)⟩
                   have n1_ : Aside0 (Kd.R k51 51 ((((((((((w45.setCell ⟨gb157, 0, none⟩ (.int .u64 t185)).setCell ⟨gb157, 1, none⟩ (.int .u64 t186)).setCell ⟨gb157, 2, none⟩ (.int .u64 t187)).setCell ⟨gb157, 3, none⟩ (.string t188)).setCell ⟨gb157, 4, none⟩ (.string t189)).setCell ⟨gb157, 5, none⟩ (.int .i64 t190)).setCell ⟨gb157, 6, none⟩ (.int .i64 t191)).setCell ⟨gb157, 7, none⟩ (.int .u64 t192)).setCell ⟨gb157, 8, none⟩ (.int .u64 t193)).setCell ⟨gb157, 9, none⟩ (.slice Ao55 t194.length co55)) w.heap.size (fun k_ => some k_ ≠ (u172009 : Value).ownBlock) (.slice Ao55 t194.length co55) t194) := ⟨by (with_reducible repeat (first | apply rA_ | apply rN_ | apply rD_)); exact Kd.R_mono (Kd.R_far (p := ⟨gb157, 9, none⟩) (Kd.R_far (p := ⟨gb157, 8, none⟩) (Kd.R_far (p := ⟨gb157, 7, none⟩) (Kd.R_far (p := ⟨gb157, 6, none⟩) (Kd.R_far (p := ⟨gb157, 5, none⟩) (Kd.R_far (p := ⟨gb157, 4, none⟩) (Kd.R_far (p := ⟨gb157, 3, none⟩) (Kd.R_far (p := ⟨gb157, 2, none⟩) (Kd.R_far (p := ⟨gb157, 1, none⟩) (Kd.R_far (p := ⟨gb157, 0, none⟩) (Kd.R_types HO196.out BK157.out (by decide)) (fun _ hk => hk.2) (.int .u64 t185)) (fun _ hk => hk.2) (.int .u64 t186)) (fun _ hk => hk.2) (.int .u64 t187)) (fun _ hk => hk.2) (.string t188)) (fun _ hk => hk.2) (.string t189)) (fun _ hk => hk.2) (.int .i64 t190)) (fun _ hk => hk.2) (.int .i64 t191)) (fun _ hk => hk.2) (.int .u64 t192)) (fun _ hk => hk.2) (.int .u64 t193)) (fun _ hk => hk.2) (.slice Ao55 t194.length co55)) (fun _ hk => hk.1)⟩
                   have n2_ : Aside0 (((((((((((w45.setCell ⟨gb157, 0, none⟩ (.int .u64 t185)).setCell ⟨gb157, 1, none⟩ (.int .u64 t186)).setCell ⟨gb157, 2, none⟩ (.int .u64 t187)).setCell ⟨gb157, 3, none⟩ (.string t188)).setCell ⟨gb157, 4, none⟩ (.string t189)).setCell ⟨gb157, 5, none⟩ (.int .i64 t190)).setCell ⟨gb157, 6, none⟩ (.int .i64 t191)).setCell ⟨gb157, 7, none⟩ (.int .u64 t192)).setCell ⟨gb157, 8, none⟩ (.int .u64 t193)).setCell ⟨gb157, 9, none⟩ (.slice Ao55 t194.length co55)).heap[gb157]? = some (.cells #[.int .u64 t185, .int .u64 t186, .int .u64 t187, .string t188, .string t189, .int .i64 t190, .int .i64 t191, .int .u64 t192, .int .u64 t193, .slice Ao55 t194.length co55] 40 (0, 0))) := ⟨by (with_reducible repeat (first | refine bN_ ?_ _ | refine bD_ ?_ | refine bA_ ?_ _)); refine blk_put (cs := #[.int .u64 t185, .int .u64 t186, .int .u64 t187, .string t188, .string t189, .int .i64 t190, .int .i64 t191, .int .u64 t192, .int .u64 t193, .slice Ao43 x158009_3.length co43]) ?_ 9 _ rfl; (with_reducible repeat (first | refine bN_ ?_ _ | refine bD_ ?_ | refine bA_ ?_ _)); refine blk_put (cs := #[.int .u64 t185, .int .u64 t186, .int .u64 t187, .string t188, .string t189, .int .i64 t190, .int .i64 t191, .int .u64 t192, .int .u64 x158008_3, .slice Ao43 x158009_3.length co43]) ?_ 8 _ rfl; (with_reducible repeat (first | refine bN_ ?_ _ | refine bD_ ?_ | refine bA_ ?_ _)); refine blk_put (cs := #[.int .u64 t185, .int .u64 t186, .int .u64 t187, .string t188, .string t189, .int .i64 t190, .int .i64 t191, .int .u64 x158007_3, .int .u64 x158008_3, .slice Ao43 x158009_3.length co43]) ?_ 7 _ rfl; (with_reducible repeat (first | refine bN_ ?_ _ | refine bD_ ?_ | refine bA_ ?_ _)); refine blk_put (cs := #[.int .u64 t185, .int .u64 t186, .int .u64 t187, .string t188, .string t189, .int .i64 t190, .int .i64 x158006_3, .int .u64 x158007_3, .int .u64 x158008_3, .slice Ao43 x158009_3.length co43]) ?_ 6 _ rfl; (with_reducible repeat (first | refine bN_ ?_ _ | refine bD_ ?_ | refine bA_ ?_ _)); refine blk_put (cs := #[.int .u64 t185, .int .u64 t186, .int .u64 t187, .string t188, .string t189, .int .i64 x158005_3, .int .i64 x158006_3, .int .u64 x158007_3, .int .u64 x158008_3, .slice Ao43 x158009_3.length co43]) ?_ 5 _ rfl; (with_reducible repeat (first | refine bN_ ?_ _ | refine bD_ ?_ | refine bA_ ?_ _)); refine blk_put (cs := #[.int .u64 t185, .int .u64 t186, .int .u64 t187, .string t188, .string x158004_3, .int .i64 x158005_3, .int .i64 x158006_3, .int .u64 x158007_3, .int .u64 x158008_3, .slice Ao43 x158009_3.length co43]) ?_ 4 _ rfl; (with_reducible repeat (first | refine bN_ ?_ _ | refine bD_ ?_ | refine bA_ ?_ _)); refine blk_put (cs := #[.int .u64 t185, .int .u64 t186, .int .u64 t187, .string x158003_3, .string x158004_3, .int .i64 x158005_3, .int .i64 x158006_3, .int .u64 x158007_3, .int .u64 x158008_3, .slice Ao43 x158009_3.length co43]) ?_ 3 _ rfl; (with_reducible repeat (first | refine bN_ ?_ _ | refine bD_ ?_ | refine bA_ ?_ _)); refine blk_put (cs := #[.int .u64 t185, .int .u64 t186, .int .u64 x158002_3, .string x158003_3, .string x158004_3, .int .i64 x158005_3, .int .i64 x158006_3, .int .u64 x158007_3, .int .u64 x158008_3, .slice Ao43 x158009_3.length co43]) ?_ 2 _ rfl; (with_reducible repeat (first | refine bN_ ?_ _ | refine bD_ ?_ | refine bA_ ?_ _)); refine blk_put (cs := #[.int .u64 t185, .int .u64 x158001_3, .int .u64 x158002_3, .string x158003_3, .string x158004_3, .int .i64 x158005_3, .int .i64 x158006_3, .int .u64 x158007_3, .int .u64 x158008_3, .slice Ao43 x158009_3.length co43]) ?_ 1 _ rfl; (with_reducible repeat (first | refine bN_ ?_ _ | refine bD_ ?_ | refine bA_ ?_ _)); refine blk_put (cs := #[.int .u64 x158000_3, .int .u64 x158001_3, .int .u64 x158002_3, .string x158003_3, .string x158004_3, .int .i64 x158005_3, .int .i64 x158006_3, .int .u64 x158007_3, .int .u64 x158008_3, .slice Ao43 x158009_3.length co43]) ?_ 0 _ rfl; (with_reducible repeat (first | refine bN_ ?_ _ | refine bD_ ?_ | refine bA_ ?_ _)); exact BK157.out⟩
                   have n3_ : Aside0 (((((((((((w45.setCell ⟨gb157, 0, none⟩ (.int .u64 t185)).setCell ⟨gb157, 1, none⟩ (.int .u64 t186)).setCell ⟨gb157, 2, none⟩ (.int .u64 t187)).setCell ⟨gb157, 3, none⟩ (.string t188)).setCell ⟨gb157, 4, none⟩ (.string t189)).setCell ⟨gb157, 5, none⟩ (.int .i64 t190)).setCell ⟨gb157, 6, none⟩ (.int .i64 t191)).setCell ⟨gb157, 7, none⟩ (.int .u64 t192)).setCell ⟨gb157, 8, none⟩ (.int .u64 t193)).setCell ⟨gb157, 9, none⟩ (.slice Ao55 t194.length co55)).heap[gb171]? = some (.cells #[.int .u64 x172000_3, .int .u64 x172001_3, .int .u64 x172002_3, .string x172003_3, .string x172004_3, .int .i64 x172005_3, .int .i64 x172006_3, .int .u64 x172007_3, .int .u64 x172008_3, u172009] 40 (0, 0))) := ⟨by (with_reducible repeat (first | refine bN_ ?_ _ | refine bD_ ?_ | refine bA_ ?_ _)); refine blk_far ?_ NB171_157.out _; (with_reducible repeat (first | refine bN_ ?_ _ | refine bD_ ?_ | refine bA_ ?_ _)); refine blk_far ?_ NB171_157.out _; (with_reducible repeat (first | refine bN_ ?_ _ | refine bD_ ?_ | refine bA_ ?_ _)); refine blk_far ?_ NB171_157.out _; (with_reducible repeat (first | refine bN_ ?_ _ | refine bD_ ?_ | refine bA_ ?_ _)); refine blk_far ?_ NB171_157.out _; (with_reducible repeat (first | refine bN_ ?_ _ | refine bD_ ?_ | refine bA_ ?_ _)); refine blk_far ?_ NB171_157.out _; (with_reducible repeat (first | refine bN_ ?_ _ | refine bD_ ?_ | refine bA_ ?_ _)); refine blk_far ?_ NB171_157.out _; (with_reducible repeat (first | refine bN_ ?_ _ | refine bD_ ?_ | refine bA_ ?_ _)); refine blk_far ?_ NB171_157.out _; (with_reducible repeat (first | refine bN_ ?_ _ | refine bD_ ?_ | refine bA_ ?_ _)); refine blk_far ?_ NB171_157.out _; (with_reducible repeat (first | refine bN_ ?_ _ | refine bD_ ?_ | refine bA_ ?_ _)); refine blk_far ?_ NB171_157.out _; (with_reducible repeat (first | refine bN_ ?_ _ | refine bD_ ?_ | refine bA_ ?_ _)); refine blk_far ?_ NB171_157.out _; (with_reducible repeat (first | refine bN_ ?_ _ | refine bD_ ?_ | refine bA_ ?_ _)); exact BK171.out⟩
                   have n4_ : Aside0 (Below w.heap.size w ((((((((((w45.setCell ⟨gb157, 0, none⟩ (.int .u64 t185)).setCell ⟨gb157, 1, none⟩ (.int .u64 t186)).setCell ⟨gb157, 2, none⟩ (.int .u64 t187)).setCell ⟨gb157, 3, none⟩ (.string t188)).setCell ⟨gb157, 4, none⟩ (.string t189)).setCell ⟨gb157, 5, none⟩ (.int .i64 t190)).setCell ⟨gb157, 6, none⟩ (.int .i64 t191)).setCell ⟨gb157, 7, none⟩ (.int .u64 t192)).setCell ⟨gb157, 8, none⟩ (.int .u64 t193)).setCell ⟨gb157, 9, none⟩ (.slice Ao55 t194.length co55))) := ⟨by repeat (first | (with_reducible first | exact HB.out | apply lA_ | apply lN_ | apply l1_ | refine below_set ?_ GE157.out | refine below_set ?_ GE171.out) | exact HB.out)⟩
                   (try clear HO_172009)
                   (try clear HO196)
                   (try clear BK157)
                   (try clear BK171)
                   (try clear HB)
                   generalize ((((((((((w45.setCell ⟨gb157, 0, none⟩ (.int .u64 t185)).setCell ⟨gb157, 1, none⟩ (.int .u64 t186)).setCell ⟨gb157, 2, none⟩ (.int .u64 t187)).setCell ⟨gb157, 3, none⟩ (.string t188)).setCell ⟨gb157, 4, none⟩ (.string t189)).setCell ⟨gb157, 5, none⟩ (.int .i64 t190)).setCell ⟨gb157, 6, none⟩ (.int .i64 t191)).setCell ⟨gb157, 7, none⟩ (.int .u64 t192)).setCell ⟨gb157, 8, none⟩ (.int .u64 t193)).setCell ⟨gb157, 9, none⟩ (.slice Ao55 t194.length co55)) = w57 at n0_ n1_ n2_ n3_ n4_ ⊢
                   have HO_172009 := n0_
                   have HO196 := n1_
                   have BK157 := n2_
                   have BK171 := n3_
                   have HB := n4_
                   clear n0_ n1_ n2_ n3_ n4_
                   have n0_ := Aside0.mk (rD_ HO_172009.out)
                   have n1_ := Aside0.mk (rD_ HO196.out)
                   have n2_ := Aside0.mk (bD_ BK157.out)
                   have n3_ := Aside0.mk (bD_ BK171.out)
                   have n4_ := Aside0.mk (l1_ HB.out)
                   clear HO_172009
                   clear HO196
                   clear BK157
                   clear BK171
                   clear HB
                   have HO_172009 := n0_
                   have HO196 := n1_
                   have BK157 := n2_
                   have BK171 := n3_
                   have HB := n4_
                   clear n0_ n1_ n2_ n3_ n4_
                   have p197 : 0 ≤ ((ji36) : Int) := of_decide_eq_true (by first | (with_reducible assumption) | assumption)
                   have q197 : (ji36) < (l0.length : Int) := of_decide_eq_true (by first | (with_reducible assumption) | assumption)
                   obtain ⟨ad197, A197_9, c197_9, e197, hx197_0, hx197_1, hx197_2, hx197_3, hx197_4, hx197_5, hx197_6, hx197_7, hx197_8, hx197_9, hl197_9, hi197_9⟩ := at_T37 HR0.out (ji36) p197 q197
                   have hw197_9 := hx197_9
                   have hw197_8 := hx197_8
                   have hw197_7 := hx197_7
                   have hw197_6 := hx197_6
                   have hw197_5 := hx197_5
                   have hw197_4 := hx197_4
                   have hw197_3 := hx197_3
                   have hw197_2 := hx197_2
                   have hw197_1 := hx197_1
                   have hw197_0 := hx197_0
                   obtain rfl : ad144 = ad197 := (by injection e197)
                   replace hx197_0 := bc_ HB.out hx197_0
                   replace hx197_1 := bc_ HB.out hx197_1
                   replace hx197_2 := bc_ HB.out hx197_2
                   replace hx197_3 := bc_ HB.out hx197_3
                   replace hx197_4 := bc_ HB.out hx197_4
                   replace hx197_5 := bc_ HB.out hx197_5
                   replace hx197_6 := bc_ HB.out hx197_6
                   replace hx197_7 := bc_ HB.out hx197_7
                   replace hx197_8 := bc_ HB.out hx197_8
                   replace hx197_9 := bc_ HB.out hx197_9
                   have HR197_9 := Aside0.mk hi197_9
                   have HC197_9 := Aside0.mk hl197_9
                   clear hi197_9 hl197_9
                   replace p197 := eq_true p197
                   replace q197 := eq_true q197
                   refine start_ (n := 17) (S := fun w' => w'.cell? ⟨gb171, 0, none⟩ = some (.int .u64 x172000_3) ∧ w'.cell? ⟨gb171, 1, none⟩ = some (.int .u64 x172001_3) ∧ w'.cell? ⟨gb171, 2, none⟩ = some (.int .u64 x172002_3) ∧ w'.cell? ⟨gb171, 3, none⟩ = some (.string x172003_3) ∧ w'.cell? ⟨gb171, 4, none⟩ = some (.string x172004_3) ∧ w'.cell? ⟨gb171, 5, none⟩ = some (.int .i64 x172005_3) ∧ w'.cell? ⟨gb171, 6, none⟩ = some (.int .i64 x172006_3) ∧ w'.cell? ⟨gb171, 7, none⟩ = some (.int .u64 x172007_3) ∧ w'.cell? ⟨gb171, 8, none⟩ = some (.int .u64 x172008_3) ∧ w'.cell? ⟨gb171, 9, none⟩ = some (u172009) ∧ w'.cell? (ad144.add (((ji36)).toNat * 10)) = some (.int .u64 ((rd_T37 l0 (ji36)).f0)) ∧ w'.cell? ⟨(ad144.add (((ji36)).toNat * 10)).block, (ad144.add (((ji36)).toNat * 10)).off + 1, none⟩ = some (.int .u64 ((rd_T37 l0 (ji36)).f1)) ∧ w'.cell? ⟨(ad144.add (((ji36)).toNat * 10)).block, (ad144.add (((ji36)).toNat * 10)).off + 2, none⟩ = some (.int .u64 ((rd_T37 l0 (ji36)).f2)) ∧ w'.cell? ⟨(ad144.add (((ji36)).toNat * 10)).block, (ad144.add (((ji36)).toNat * 10)).off + 3, none⟩ = some (.string ((rd_T37 l0 (ji36)).f3)) ∧ w'.cell? ⟨(ad144.add (((ji36)).toNat * 10)).block, (ad144.add (((ji36)).toNat * 10)).off + 4, none⟩ = some (.string ((rd_T37 l0 (ji36)).f4)) ∧ w'.cell? ⟨(ad144.add (((ji36)).toNat * 10)).block, (ad144.add (((ji36)).toNat * 10)).off + 5, none⟩ = some (.int .i64 ((rd_T37 l0 (ji36)).f5)) ∧ w'.cell? ⟨(ad144.add (((ji36)).toNat * 10)).block, (ad144.add (((ji36)).toNat * 10)).off + 6, none⟩ = some (.int .i64 ((rd_T37 l0 (ji36)).f6)) ∧ w'.cell? ⟨(ad144.add (((ji36)).toNat * 10)).block, (ad144.add (((ji36)).toNat * 10)).off + 7, none⟩ = some (.int .u64 ((rd_T37 l0 (ji36)).f7)) ∧ w'.cell? ⟨(ad144.add (((ji36)).toNat * 10)).block, (ad144.add (((ji36)).toNat * 10)).off + 8, none⟩ = some (.int .u64 ((rd_T37 l0 (ji36)).f8)) ∧ w'.cell? ⟨(ad144.add (((ji36)).toNat * 10)).block, (ad144.add (((ji36)).toNat * 10)).off + 9, none⟩ = some (.slice A197_9 ((rd_T37 l0 (ji36)).f9).length c197_9)) (ds := [16]) #[false, false, false, false, false, false, false, false, false, false, false, false, false, false, false, false, false] (by kernel_rfl) rfl rfl ⟨(bc1_ BK171.out 0).trans rfl, (bc1_ BK171.out 1).trans rfl, (bc1_ BK171.out 2).trans rfl, (bc1_ BK171.out 3).trans rfl, (bc1_ BK171.out 4).trans rfl, (bc1_ BK171.out 5).trans rfl, (bc1_ BK171.out 6).trans rfl, (bc1_ BK171.out 7).trans rfl, (bc1_ BK171.out 8).trans rfl, (bc1_ BK171.out 9).trans rfl, (bc_ HB.out hw197_0), (bc_ HB.out hw197_1), (bc_ HB.out hw197_2), (bc_ HB.out hw197_3), (bc_ HB.out hw197_4), (bc_ HB.out hw197_5), (bc_ HB.out hw197_6), (bc_ HB.out hw197_7), (bc_ HB.out hw197_8), (bc_ HB.out hw197_9)⟩ (fun hHeld => ?_); refine with_tabW tallyroomlaw09_DigestPrefers.tab17 tallyroomlaw09_DigestPrefers.bits17 (fun HT_ HW_ => ?_)
                   generalize w57.drew = w58 at HO_172009 HO196 BK157 BK171 HB HR197_9 hx197_0 hx197_1 hx197_2 hx197_3 hx197_4 hx197_5 hx197_6 hx197_7 hx197_8 hx197_9 hHeld ⊢
                   refine pure_ (i := 0) (N := some 61) (v := ?_) (a' := ?_) (bl_ 17 1) rfl rfl (any_of HT_.out (by kernel_rfl)) (fun _ _ _ h => h) (Or.inl ⟨by rfl, ?_⟩) ?_ ?_
                   rotate_left
                   ·intro w'
                    go_simp
                    with_reducible rfl
                   rotate_left
                   ·simp only [Act.put, sb_, sz_, ss_, i64_w, i32_w]
                    rfl
                   refine pure_ (i := 1) (N := some 62) (v := ?_) (a' := ?_) (bl_ 17 3) rfl rfl (any_of HT_.out (by kernel_rfl)) (fun _ _ _ h => h) (Or.inl ⟨by rfl, ?_⟩) ?_ ?_
                   rotate_left
                   ·intro w'
                    go_simp
                    with_reducible rfl
                   rotate_left
                   ·simp only [Act.put, sb_, sz_, ss_, i64_w, i32_w]
                    rfl
                   refine pure_ (i := 2) (N := some 63) (v := ?_) (a' := ?_) (bl_ 17 7) rfl rfl (any_of HT_.out (by kernel_rfl)) (fun _ _ _ h => h) (Or.inl ⟨by rfl, ?_⟩) ?_ ?_
                   rotate_left
                   ·intro w'
                    go_simp
                    with_reducible rfl
                   rotate_left
                   ·simp only [Act.put, sb_, sz_, ss_, i64_w, i32_w]
                    rfl
                   refine pure_ (i := 3) (N := some 64) (v := ?_) (a' := ?_) (bl_ 17 15) rfl rfl (any_of HT_.out (by kernel_rfl)) (fun _ _ _ h => h) (Or.inl ⟨by rfl, ?_⟩) ?_ ?_
                   rotate_left
                   ·intro w'
                    go_simp
                    with_reducible rfl
                   rotate_left
                   ·simp only [Act.put, sb_, sz_, ss_, i64_w, i32_w]
                    rfl
                   refine pure_ (i := 4) (N := some 65) (v := ?_) (a' := ?_) (bl_ 17 31) rfl rfl (any_of HT_.out (by kernel_rfl)) (fun _ _ _ h => h) (Or.inl ⟨by rfl, ?_⟩) ?_ ?_
                   rotate_left
                   ·intro w'
                    go_simp
                    with_reducible rfl
                   rotate_left
                   ·simp only [Act.put, sb_, sz_, ss_, i64_w, i32_w]
                    rfl
                   refine pure_ (i := 5) (N := some 66) (v := ?_) (a' := ?_) (bl_ 17 63) rfl rfl (any_of HT_.out (by kernel_rfl)) (fun _ _ _ h => h) (Or.inl ⟨by rfl, ?_⟩) ?_ ?_
                   rotate_left
                   ·intro w'
                    go_simp
                    with_reducible rfl
                   rotate_left
                   ·simp only [Act.put, sb_, sz_, ss_, i64_w, i32_w]
                    rfl
                   refine pure_ (i := 6) (N := some 67) (v := ?_) (a' := ?_) (bl_ 17 127) rfl rfl (any_of HT_.out (by kernel_rfl)) (fun _ _ _ h => h) (Or.inl ⟨by rfl, ?_⟩) ?_ ?_
                   rotate_left
                   ·intro w'
                    go_simp
                    with_reducible rfl
                   rotate_left
                   ·simp only [Act.put, sb_, sz_, ss_, i64_w, i32_w]
                    rfl
                   refine pure_ (i := 7) (N := some 68) (v := ?_) (a' := ?_) (bl_ 17 255) rfl rfl (any_of HT_.out (by kernel_rfl)) (fun _ _ _ h => h) (Or.inl ⟨by rfl, ?_⟩) ?_ ?_
                   rotate_left
                   ·intro w'
                    go_simp
                    with_reducible rfl
                   rotate_left
                   ·simp only [Act.put, sb_, sz_, ss_, i64_w, i32_w]
                    rfl
                   refine pure_ (i := 8) (N := some 69) (v := ?_) (a' := ?_) (bl_ 17 511) rfl rfl (any_of HT_.out (by kernel_rfl)) (fun _ _ _ h => h) (Or.inl ⟨by rfl, ?_⟩) ?_ ?_
                   rotate_left
                   ·intro w'
                    go_simp
                    with_reducible rfl
                   rotate_left
                   ·simp only [Act.put, sb_, sz_, ss_, i64_w, i32_w]
                    rfl
                   refine pure_ (i := 9) (N := some 70) (v := ?_) (a' := ?_) (bl_ 17 1023) rfl rfl (any_of HT_.out (by kernel_rfl)) (fun _ _ _ h => h) (Or.inl ⟨by rfl, ?_⟩) ?_ ?_
                   rotate_left
                   ·intro w'
                    go_simp
                    with_reducible rfl
                   rotate_left
                   ·simp only [Act.put, sb_, sz_, ss_, i64_w, i32_w]
                    rfl
                   refine pure_ (i := 10) (N := some 71) (v := ?_) (a' := ?_) (bl_ 17 2047) rfl rfl (any_of HT_.out (by kernel_rfl)) (fun _ _ _ h => h) (Or.inl ⟨by rfl, ?_⟩) ?_ ?_
                   rotate_left
                   ·intro w'
                    go_simp
                    with_reducible rfl
                   rotate_left
                   ·simp only [Act.put, sb_, sz_, ss_, i64_w, i32_w]
                    rfl
                   refine pure_ (i := 11) (N := some 72) (v := ?_) (a' := ?_) (bl_ 17 4095) rfl rfl (any_of HT_.out (by kernel_rfl)) (fun _ _ _ h => h) (Or.inl ⟨by rfl, ?_⟩) ?_ ?_
                   rotate_left
                   ·intro w'
                    go_simp
                    with_reducible rfl
                   rotate_left
                   ·simp only [Act.put, sb_, sz_, ss_, i64_w, i32_w]
                    rfl
                   refine take_ (i := 12) (N := some 73) (v := ?_) (a' := ?_) (bl_ 17 8191) rfl rfl (take_ofW HT_.out HW_.out (by kernel_rfl)) (fun _ _ _ h => h) (Or.inl ⟨by rfl, ?_⟩) hHeld ?_ ?_
                   rotate_left
                   ·rintro w' ⟨s0, s1, s2, s3, s4, s5, s6, s7, s8, s9, s10, s11, s12, s13, s14, s15, s16, s17, s18, s19⟩
                    go_simp
                    with_reducible rfl
                   rotate_left
                   ·simp only [Act.put, sb_, sz_, ss_, i64_w, i32_w]
                    rfl
                   refine take_ (i := 14) (N := some 75) (v := ?_) (a' := ?_) (bl_ 17 24575) rfl rfl (take_ofW HT_.out HW_.out (by kernel_rfl)) (fun _ _ _ h => h) (Or.inl ⟨by rfl, ?_⟩) hHeld ?_ ?_
                   rotate_left
                   ·rintro w' ⟨s0, s1, s2, s3, s4, s5, s6, s7, s8, s9, s10, s11, s12, s13, s14, s15, s16, s17, s18, s19⟩
                    go_simp
                    with_reducible rfl
                   rotate_left
                   ·simp only [Act.put, sb_, sz_, ss_, i64_w, i32_w]
                    rfl
                   refine one_ (i := 13) (N := some 74) (bl_ 17 32767) rfl rfl (one_of HT_.out (by kernel_rfl)) (by decide) (fun K hK => ?_)
                   refine goes_ Try.func21 (by kernel_rfl) rfl #[.agg #[.int .u64 ((rd_T37 l0 (ji36)).f0), .int .u64 ((rd_T37 l0 (ji36)).f1), .int .u64 ((rd_T37 l0 (ji36)).f2), .string ((rd_T37 l0 (ji36)).f3), .string ((rd_T37 l0 (ji36)).f4), .int .i64 ((rd_T37 l0 (ji36)).f5), .int .i64 ((rd_T37 l0 (ji36)).f6), .int .u64 ((rd_T37 l0 (ji36)).f7), .int .u64 ((rd_T37 l0 (ji36)).f8), .slice A197_9 ((rd_T37 l0 (ji36)).f9).length c197_9]] (by rfl) rfl rfl (by (try simp only [List.map_toArray, List.map_cons, List.map_nil]); first | done | (simp only [hji36]; rfl) | rfl | (simp only [List.length_drop, List.length_take]; rfl)) ?_
                   with_reducible refine (tallyroomlaw06_Of.calls k3 ((rd_T37 l0 (ji36)).f0) ((rd_T37 l0 (ji36)).f1) ((rd_T37 l0 (ji36)).f2) ((rd_T37 l0 (ji36)).f3) ((rd_T37 l0 (ji36)).f4) ((rd_T37 l0 (ji36)).f5) ((rd_T37 l0 (ji36)).f6) ((rd_T37 l0 (ji36)).f7) ((rd_T37 l0 (ji36)).f8) _ _ ((rd_T37 l0 (ji36)).f9) t198 t199 t200 t201 t202 t203 t204 t205 t206 t207 _ ?side1 ?side2 A39.out).mono ?_
                   (case side1 => repeat (first | exact (Kd.C_below HR197_9.out HB.out) | (with_reducible refine Kd.C_alloc ?_ _) | (with_reducible refine Kd.C_drewN ?_ _) | (with_reducible refine Kd.C_drew ?_)))
                   (case side2 => exact HC197_9.out)
                   rintro e w59 ⟨v208, rfl, ho0, hb⟩
                   refine ⟨_, rfl, ?_⟩
                   have n0_ := Aside0.mk (Kd.R_elder' (by (with_reducible repeat (first | apply rA_ | apply rN_ | apply rD_)); exact HO_172009.out) (Kd.R_base ho0) hb)
                   have n1_ := Aside0.mk (Kd.R_elder' (by (with_reducible repeat (first | apply rA_ | apply rN_ | apply rD_)); exact HO196.out) (Kd.R_base ho0) hb)
                   have n2_ := Aside0.mk (Kd.R_lower (Kd.R_new' (Kd.R_new' ho0 (Kd.R_lt (by (with_reducible repeat (first | apply rA_ | apply rN_ | apply rD_)); exact HO_172009.out))) (Kd.R_lt (by (with_reducible repeat (first | apply rA_ | apply rN_ | apply rD_)); exact HO196.out))) (bz_ (by repeat (first | (with_reducible first | exact HB.out | apply lA_ | apply lN_ | apply l1_ | refine below_set ?_ GE157.out | refine below_set ?_ GE171.out) | exact HB.out))))
                   have n3_ := Aside0.mk (bb_ (g := gb157) (o := .cells #[.int .u64 t185, .int .u64 t186, .int .u64 t187, .string t188, .string t189, .int .i64 t190, .int .i64 t191, .int .u64 t192, .int .u64 t193, .slice Ao55 t194.length co55] 40 (0, 0)) (by (with_reducible repeat (first | refine bN_ ?_ _ | refine bD_ ?_ | refine bA_ ?_ _)); exact BK157.out) hb)
                   have n4_ := Aside0.mk (bb_ (g := gb171) (o := .cells #[.int .u64 x172000_3, .int .u64 x172001_3, .int .u64 x172002_3, .string x172003_3, .string x172004_3, .int .i64 x172005_3, .int .i64 x172006_3, .int .u64 x172007_3, .int .u64 x172008_3, u172009] 40 (0, 0)) (by (with_reducible repeat (first | refine bN_ ?_ _ | refine bD_ ?_ | refine bA_ ?_ _)); exact BK171.out) hb)
                   have n5_ := Aside0.mk (ls_ (by repeat (first | (with_reducible first | exact HB.out | apply lA_ | apply lN_ | apply l1_ | refine below_set ?_ GE157.out | refine below_set ?_ GE171.out) | exact HB.out)) hb)
                   clear HO_172009
                   clear HO196
                   clear BK157
                   clear BK171
                   clear HB
                   have HO_172009 := n0_
                   have HO196 := n1_
                   have HO209 := n2_
                   have BK157 := n3_
                   have BK171 := n4_
                   have HB := n5_
                   clear n0_ n1_ n2_ n3_ n4_ n5_
                   (try clear hb)
                   (try clear hb2)
                   (try clear hk)
                   (try clear hi)
                   (try clear ho0)
                   obtain ⟨Ao60, co60, eo60⟩ := Kd.R_slice HO209.out
                   (first | subst eo60 | (injection eo60 with f1_ f2_ f3_; have f4_ := f1_.symm; have f5_ := f3_.symm; clear f1_ f2_ f3_; subst f4_; subst f5_))
                   obtain ⟨Ao61, co61, eo61⟩ := Kd.R_slice HO_172009.out
                   (first | subst eo61 | (injection eo61 with f1_ f2_ f3_; have f4_ := f1_.symm; have f5_ := f3_.symm; clear f1_ f2_ f3_; subst f4_; subst f5_))
                   refine hK.out _ _ ⟨(bc1_ BK171.out 0).trans rfl, (bc1_ BK171.out 1).trans rfl, (bc1_ BK171.out 2).trans rfl, (bc1_ BK171.out 3).trans rfl, (bc1_ BK171.out 4).trans rfl, (bc1_ BK171.out 5).trans rfl, (bc1_ BK171.out 6).trans rfl, (bc1_ BK171.out 7).trans rfl, (bc1_ BK171.out 8).trans rfl, (bc1_ BK171.out 9).trans rfl, (bc_ HB.out hw197_0), (bc_ HB.out hw197_1), (bc_ HB.out hw197_2), (bc_ HB.out hw197_3), (bc_ HB.out hw197_4), (bc_ HB.out hw197_5), (bc_ HB.out hw197_6), (bc_ HB.out hw197_7), (bc_ HB.out hw197_8), (bc_ HB.out hw197_9)⟩ (fun hHeld => ?_)
                   clear hK K
                   refine norm_ (a' := ?_) ?_ ?_
                   rotate_left
                   ·show Act.put _ (some 74) _ = _
                    simp only [Act.put, sb_, sz_, ss_, i64_w, i32_w]
                    rfl
                   refine one_ (i := 15) (N := some 76) (bl_ 17 65535) rfl rfl (one_of HT_.out (by kernel_rfl)) (by decide) (fun K hK => ?_)
                   refine goes_ Try.func22 (by kernel_rfl) rfl #[.agg #[.int .u64 t198, .int .u64 t199, .int .u64 t200, .string t201, .string t202, .int .i64 t203, .int .i64 t204, .int .u64 t205, .int .u64 t206, .slice Ao60 t207.length co60], .agg #[.int .u64 x172000_3, .int .u64 x172001_3, .int .u64 x172002_3, .string x172003_3, .string x172004_3, .int .i64 x172005_3, .int .i64 x172006_3, .int .u64 x172007_3, .int .u64 x172008_3, .slice Ao61 x172009_3.length co61]] (by rfl) rfl rfl (by (try simp only [List.map_toArray, List.map_cons, List.map_nil]); first | done | rfl | (simp only [List.length_drop, List.length_take]; rfl)) ?_
                   with_reducible refine (digest_Prefer.calls t198 t199 t200 t201 t202 t203 t204 t205 t206 (fun k_ => some k_ = (.slice Ao60 t207.length co60 : Value).ownBlock) (.slice Ao60 t207.length co60) t207 x172000_3 x172001_3 x172002_3 x172003_3 x172004_3 x172005_3 x172006_3 x172007_3 x172008_3 (fun k_ => some k_ = (.slice Ao61 x172009_3.length co61 : Value).ownBlock) (.slice Ao61 x172009_3.length co61) x172009_3 t210 t211 t212 t213 t214 t215 t216 t217 t218 t219 w _ ?side1 ?side2 ?side3 ?side4 ?side5 A40.out).mono ?_
                   (case side1 => repeat (first | (with_reducible first | exact HB.out | apply lA_ | apply lN_ | apply l1_ | refine below_set ?_ GE157.out | refine below_set ?_ GE171.out) | exact HB.out))
                   (case side2 => exact Kd.R_tight rfl HO209.out)
                   (case side3 => exact fun k_ e_ => (HO209.out.1 k_ e_.symm).1.2)
                   (case side4 => exact Kd.R_tight rfl HO_172009.out)
                   (case side5 => exact fun k_ e_ => (HO_172009.out.1 k_ e_.symm).2)
                   rintro e w62 ⟨v220, rfl, ho0, hb, hkp⟩
                   refine ⟨_, rfl, ?_⟩
                   have n0_ := Aside0.mk (blk_kept (by (with_reducible repeat (first | refine bN_ ?_ _ | refine bD_ ?_ | refine bA_ ?_ _)); exact BK157.out) hkp (fun hs_ => Or.elim hs_ (fun e_ => (fun e_ => (Kd.R_ne HO209.out BK157.out (by decide)) e_) e_) (fun e_ => (fun e_ => (Kd.R_ne HO_172009.out BK157.out (by decide)) e_) e_)))
                   have n1_ := Aside0.mk (blk_kept (by (with_reducible repeat (first | refine bN_ ?_ _ | refine bD_ ?_ | refine bA_ ?_ _)); exact BK171.out) hkp (fun hs_ => Or.elim hs_ (fun e_ => (fun e_ => (Kd.R_ne HO209.out BK171.out (by decide)) e_) e_) (fun e_ => (fun e_ => (Kd.R_ne HO_172009.out BK171.out (by decide)) e_) e_)))
                   have n2_ := Aside0.mk (Kd.R_mono (ok' := fun k_ => some k_ ≠ (v220 : Value).ownBlock) (Kd.R_keptB (HO196.out) hkp (fun k_ hk_ hs_ => Or.elim hs_ (fun e_ => (hk_.2) e_) (fun e_ => (hk_.1) e_))) (fun k_ hk_ => fun e_ => Or.elim (ho0.1 k_ e_.symm) (fun hs_ => hk_.2.1 hs_) (fun hn_ => Nat.not_le.2 hk_.2.2 hn_)))
                   have n3_ := Aside0.mk (Kd.R_mono (ok' := fun k_ => some k_ ≠ (.slice Ao55 t194.length co55 : Value).ownBlock) ho0 (fun k_ hk_ => Or.elim hk_ (fun hs_ => Or.elim hs_ (fun hs_ => fun e_ => (((HO196.out).1 k_ e_.symm).2) hs_) (fun hs_ => fun e_ => (((HO196.out).1 k_ e_.symm).1) hs_)) (fun hn_ => (Kd.fresh' (Kd.R_lt (by (with_reducible repeat (first | apply rA_ | apply rN_ | apply rD_)); exact HO196.out)) k_ hn_))))
                   have n4_ := Aside0.mk (hb)
                   clear BK157
                   clear BK171
                   clear HO196
                   clear HB
                   clear HO209
                   clear HO_172009
                   have BK157 := n0_
                   have BK171 := n1_
                   have HO196 := n2_
                   have HO221 := n3_
                   have HB := n4_
                   clear n0_ n1_ n2_ n3_ n4_
                   (try clear hb)
                   (try clear hkp)
                   (try clear ho0)
                   obtain ⟨Ao72, co72, eo72⟩ := Kd.R_slice HO221.out
                   (first | subst eo72 | (injection eo72 with f1_ f2_ f3_; have f4_ := f1_.symm; have f5_ := f3_.symm; clear f1_ f2_ f3_; subst f4_; subst f5_))
                   refine hK.out _ _ ⟨(bc1_ BK171.out 0).trans rfl, (bc1_ BK171.out 1).trans rfl, (bc1_ BK171.out 2).trans rfl, (bc1_ BK171.out 3).trans rfl, (bc1_ BK171.out 4).trans rfl, (bc1_ BK171.out 5).trans rfl, (bc1_ BK171.out 6).trans rfl, (bc1_ BK171.out 7).trans rfl, (bc1_ BK171.out 8).trans rfl, (bc1_ BK171.out 9).trans rfl, (bc_ HB.out hw197_0), (bc_ HB.out hw197_1), (bc_ HB.out hw197_2), (bc_ HB.out hw197_3), (bc_ HB.out hw197_4), (bc_ HB.out hw197_5), (bc_ HB.out hw197_6), (bc_ HB.out hw197_7), (bc_ HB.out hw197_8), (bc_ HB.out hw197_9)⟩ (fun hHeld => ?_)
                   clear hK K
                   refine norm_ (a' := ?_) ?_ ?_
                   rotate_left
                   ·show Act.put _ (some 76) _ = _
                    simp only [Act.put, sb_, sz_, ss_, i64_w, i32_w]
                    rfl
                   refine last_ (i := 16) (N := none) (bl_ 17 131071) rfl rfl (one_of HT_.out (by kernel_rfl)) (by decide) (fun K hK => ?_)
                   have hs63 : w62.cell? ⟨gb171, 0, none⟩ = some (.int .u64 x172000_3) := (bc1_ BK171.out 0).trans rfl
                   have hfs63 := bf1_ BK171.out 0
                   have hns63_0 := NB157_171.out
                   have hms63_0 := NB171_157.out
                   have hs64 : w62.cell? ⟨gb171, 1, none⟩ = some (.int .u64 x172001_3) := (bc1_ BK171.out 1).trans rfl
                   have hfs64 := bf1_ BK171.out 1
                   have hns64_0 := NB157_171.out
                   have hms64_0 := NB171_157.out
                   have hs65 : w62.cell? ⟨gb171, 2, none⟩ = some (.int .u64 x172002_3) := (bc1_ BK171.out 2).trans rfl
                   have hfs65 := bf1_ BK171.out 2
                   have hns65_0 := NB157_171.out
                   have hms65_0 := NB171_157.out
                   have hs66 : w62.cell? ⟨gb171, 3, none⟩ = some (.string x172003_3) := (bc1_ BK171.out 3).trans rfl
                   have hfs66 := bf1_ BK171.out 3
                   have hns66_0 := NB157_171.out
                   have hms66_0 := NB171_157.out
                   have hs67 : w62.cell? ⟨gb171, 4, none⟩ = some (.string x172004_3) := (bc1_ BK171.out 4).trans rfl
                   have hfs67 := bf1_ BK171.out 4
                   have hns67_0 := NB157_171.out
                   have hms67_0 := NB171_157.out
                   have hs68 : w62.cell? ⟨gb171, 5, none⟩ = some (.int .i64 x172005_3) := (bc1_ BK171.out 5).trans rfl
                   have hfs68 := bf1_ BK171.out 5
                   have hns68_0 := NB157_171.out
                   have hms68_0 := NB171_157.out
                   have hs69 : w62.cell? ⟨gb171, 6, none⟩ = some (.int .i64 x172006_3) := (bc1_ BK171.out 6).trans rfl
                   have hfs69 := bf1_ BK171.out 6
                   have hns69_0 := NB157_171.out
                   have hms69_0 := NB171_157.out
                   have hs70 : w62.cell? ⟨gb171, 7, none⟩ = some (.int .u64 x172007_3) := (bc1_ BK171.out 7).trans rfl
                   have hfs70 := bf1_ BK171.out 7
                   have hns70_0 := NB157_171.out
                   have hms70_0 := NB171_157.out
                   have hs71 : w62.cell? ⟨gb171, 8, none⟩ = some (.int .u64 x172008_3) := (bc1_ BK171.out 8).trans rfl
                   have hfs71 := bf1_ BK171.out 8
                   have hns71_0 := NB157_171.out
                   have hms71_0 := NB171_157.out
                   have hs73 : w62.cell? ⟨gb171, 9, none⟩ = some (.slice Ao61 x172009_3.length co61) := (bc1_ BK171.out 9).trans rfl
                   have hfs73 := bf1_ BK171.out 9
                   have hns73_0 := NB157_171.out
                   have hms73_0 := NB171_157.out
                   refine skip_ (w1 := ?_) (by rfl) rfl ?_ ?_
                   rotate_left
                   ·go_simp
                    rfl
                   refine hK.out _ _ ?_
                   clear hK K
                   refine done_ (done_of HT_.out (by kernel_rfl)) ?_
                   try go_wp2
                   go_roundg k3
                   case measure => have := HJ4.out; have := HK2.out; have := HK3.out; omega
                   case rel => exact ⟨(wrap64 (x9_3 + 1)), (t185), (t186), (t187), (t188), (t189), (t190), (t191), (t192), (t193), (t194), (t210), (t211), (t212), (t213), (t214), (t215), (t216), (t217), (t218), (t219), (.slice Ao55 t194.length co55), (.slice Ao72 t219.length co72), (by first | rfl | (simp; done) | (simp [*]; done)), H', ⟨by have := HJ4.out; have := HK2.out; have := HK3.out; omega⟩, ⟨by (with_reducible repeat (first | apply rA_ | apply rN_ | apply rD_)); exact Kd.R_mono (Kd.R_far (p := ⟨gb171, 9, none⟩) (Kd.R_far (p := ⟨gb171, 8, none⟩) (Kd.R_far (p := ⟨gb171, 7, none⟩) (Kd.R_far (p := ⟨gb171, 6, none⟩) (Kd.R_far (p := ⟨gb171, 5, none⟩) (Kd.R_far (p := ⟨gb171, 4, none⟩) (Kd.R_far (p := ⟨gb171, 3, none⟩) (Kd.R_far (p := ⟨gb171, 2, none⟩) (Kd.R_far (p := ⟨gb171, 1, none⟩) (Kd.R_far (p := ⟨gb171, 0, none⟩) (Kd.R_types HO196.out BK171.out (by decide)) (fun _ hk => hk.2) (.int .u64 t210)) (fun _ hk => hk.2) (.int .u64 t211)) (fun _ hk => hk.2) (.int .u64 t212)) (fun _ hk => hk.2) (.string t213)) (fun _ hk => hk.2) (.string t214)) (fun _ hk => hk.2) (.int .i64 t215)) (fun _ hk => hk.2) (.int .i64 t216)) (fun _ hk => hk.2) (.int .u64 t217)) (fun _ hk => hk.2) (.int .u64 t218)) (fun _ hk => hk.2) (.slice Ao72 t219.length co72)) (fun _ hk => hk.1)⟩, ⟨by (with_reducible repeat (first | apply rA_ | apply rN_ | apply rD_)); exact Kd.R_mono (Kd.R_far (p := ⟨gb171, 9, none⟩) (Kd.R_far (p := ⟨gb171, 8, none⟩) (Kd.R_far (p := ⟨gb171, 7, none⟩) (Kd.R_far (p := ⟨gb171, 6, none⟩) (Kd.R_far (p := ⟨gb171, 5, none⟩) (Kd.R_far (p := ⟨gb171, 4, none⟩) (Kd.R_far (p := ⟨gb171, 3, none⟩) (Kd.R_far (p := ⟨gb171, 2, none⟩) (Kd.R_far (p := ⟨gb171, 1, none⟩) (Kd.R_far (p := ⟨gb171, 0, none⟩) (Kd.R_types HO221.out BK171.out (by decide)) (fun _ hk => hk.2) (.int .u64 t210)) (fun _ hk => hk.2) (.int .u64 t211)) (fun _ hk => hk.2) (.int .u64 t212)) (fun _ hk => hk.2) (.string t213)) (fun _ hk => hk.2) (.string t214)) (fun _ hk => hk.2) (.int .i64 t215)) (fun _ hk => hk.2) (.int .i64 t216)) (fun _ hk => hk.2) (.int .u64 t217)) (fun _ hk => hk.2) (.int .u64 t218)) (fun _ hk => hk.2) (.slice Ao72 t219.length co72)) (fun _ hk => hk.1)⟩, ⟨by (with_reducible repeat (first | refine bN_ ?_ _ | refine bD_ ?_ | refine bA_ ?_ _)); refine blk_far ?_ NB157_171.out _; (with_reducible repeat (first | refine bN_ ?_ _ | refine bD_ ?_ | refine bA_ ?_ _)); refine blk_far ?_ NB157_171.out _; (with_reducible repeat (first | refine bN_ ?_ _ | refine bD_ ?_ | refine bA_ ?_ _)); refine blk_far ?_ NB157_171.out _; (with_reducible repeat (first | refine bN_ ?_ _ | refine bD_ ?_ | refine bA_ ?_ _)); refine blk_far ?_ NB157_171.out _; (with_reducible repeat (first | refine bN_ ?_ _ | refine bD_ ?_ | refine bA_ ?_ _)); refine blk_far ?_ NB157_171.out _; (with_reducible repeat (first | refine bN_ ?_ _ | refine bD_ ?_ | refine bA_ ?_ _)); refine blk_far ?_ NB157_171.out _; (with_reducible repeat (first | refine bN_ ?_ _ | refine bD_ ?_ | refine bA_ ?_ _)); refine blk_far ?_ NB157_171.out _; (with_reducible repeat (first | refine bN_ ?_ _ | refine bD_ ?_ | refine bA_ ?_ _)); refine blk_far ?_ NB157_171.out _; (with_reducible repeat (first | refine bN_ ?_ _ | refine bD_ ?_ | refine bA_ ?_ _)); refine blk_far ?_ NB157_171.out _; (with_reducible repeat (first | refine bN_ ?_ _ | refine bD_ ?_ | refine bA_ ?_ _)); refine blk_far ?_ NB157_171.out _; (with_reducible repeat (first | refine bN_ ?_ _ | refine bD_ ?_ | refine bA_ ?_ _)); exact BK157.out⟩, ⟨by (with_reducible repeat (first | refine bN_ ?_ _ | refine bD_ ?_ | refine bA_ ?_ _)); refine blk_put (cs := #[.int .u64 t210, .int .u64 t211, .int .u64 t212, .string t213, .string t214, .int .i64 t215, .int .i64 t216, .int .u64 t217, .int .u64 t218, .slice Ao61 x172009_3.length co61]) ?_ 9 _ rfl; (with_reducible repeat (first | refine bN_ ?_ _ | refine bD_ ?_ | refine bA_ ?_ _)); refine blk_put (cs := #[.int .u64 t210, .int .u64 t211, .int .u64 t212, .string t213, .string t214, .int .i64 t215, .int .i64 t216, .int .u64 t217, .int .u64 x172008_3, .slice Ao61 x172009_3.length co61]) ?_ 8 _ rfl; (with_reducible repeat (first | refine bN_ ?_ _ | refine bD_ ?_ | refine bA_ ?_ _)); refine blk_put (cs := #[.int .u64 t210, .int .u64 t211, .int .u64 t212, .string t213, .string t214, .int .i64 t215, .int .i64 t216, .int .u64 x172007_3, .int .u64 x172008_3, .slice Ao61 x172009_3.length co61]) ?_ 7 _ rfl; (with_reducible repeat (first | refine bN_ ?_ _ | refine bD_ ?_ | refine bA_ ?_ _)); refine blk_put (cs := #[.int .u64 t210, .int .u64 t211, .int .u64 t212, .string t213, .string t214, .int .i64 t215, .int .i64 x172006_3, .int .u64 x172007_3, .int .u64 x172008_3, .slice Ao61 x172009_3.length co61]) ?_ 6 _ rfl; (with_reducible repeat (first | refine bN_ ?_ _ | refine bD_ ?_ | refine bA_ ?_ _)); refine blk_put (cs := #[.int .u64 t210, .int .u64 t211, .int .u64 t212, .string t213, .string t214, .int .i64 x172005_3, .int .i64 x172006_3, .int .u64 x172007_3, .int .u64 x172008_3, .slice Ao61 x172009_3.length co61]) ?_ 5 _ rfl; (with_reducible repeat (first | refine bN_ ?_ _ | refine bD_ ?_ | refine bA_ ?_ _)); refine blk_put (cs := #[.int .u64 t210, .int .u64 t211, .int .u64 t212, .string t213, .string x172004_3, .int .i64 x172005_3, .int .i64 x172006_3, .int .u64 x172007_3, .int .u64 x172008_3, .slice Ao61 x172009_3.length co61]) ?_ 4 _ rfl; (with_reducible repeat (first | refine bN_ ?_ _ | refine bD_ ?_ | refine bA_ ?_ _)); refine blk_put (cs := #[.int .u64 t210, .int .u64 t211, .int .u64 t212, .string x172003_3, .string x172004_3, .int .i64 x172005_3, .int .i64 x172006_3, .int .u64 x172007_3, .int .u64 x172008_3, .slice Ao61 x172009_3.length co61]) ?_ 3 _ rfl; (with_reducible repeat (first | refine bN_ ?_ _ | refine bD_ ?_ | refine bA_ ?_ _)); refine blk_put (cs := #[.int .u64 t210, .int .u64 t211, .int .u64 x172002_3, .string x172003_3, .string x172004_3, .int .i64 x172005_3, .int .i64 x172006_3, .int .u64 x172007_3, .int .u64 x172008_3, .slice Ao61 x172009_3.length co61]) ?_ 2 _ rfl; (with_reducible repeat (first | refine bN_ ?_ _ | refine bD_ ?_ | refine bA_ ?_ _)); refine blk_put (cs := #[.int .u64 t210, .int .u64 x172001_3, .int .u64 x172002_3, .string x172003_3, .string x172004_3, .int .i64 x172005_3, .int .i64 x172006_3, .int .u64 x172007_3, .int .u64 x172008_3, .slice Ao61 x172009_3.length co61]) ?_ 1 _ rfl; (with_reducible repeat (first | refine bN_ ?_ _ | refine bD_ ?_ | refine bA_ ?_ _)); refine blk_put (cs := #[.int .u64 x172000_3, .int .u64 x172001_3, .int .u64 x172002_3, .string x172003_3, .string x172004_3, .int .i64 x172005_3, .int .i64 x172006_3, .int .u64 x172007_3, .int .u64 x172008_3, .slice Ao61 x172009_3.length co61]) ?_ 0 _ rfl; (with_reducible repeat (first | refine bN_ ?_ _ | refine bD_ ?_ | refine bA_ ?_ _)); exact BK171.out⟩, ⟨by repeat (first | (with_reducible first | exact HB.out | apply lA_ | apply lN_ | apply l1_ | refine below_set ?_ GE157.out | refine below_set ?_ GE171.out) | exact HB.out)⟩⟩
                  ·rw [if_neg c38] at H
                   exact absurd H (by simp)
                 ·rw [if_neg c37] at H
                  exact absurd H (by simp)
               ·rw [if_neg c32] at H
                exact absurd H (by simp)
              ·rw [if_neg c31] at H
               have c31b0 : decide (x9_3 < (l0.length : Int)) = false := decide_eq_false c31
               clear c31
               replace H := Option.bind_eq_some_iff.mp H
               obtain ⟨⟨t222, t223, t224, t225, t226, t227, t228, t229, t230, t231⟩, A740, H⟩ := H
               replace H : ((tallyroomlaw06_To.f k3 x172000_3 x172001_3 x172002_3 x172003_3 x172004_3 x172005_3 x172006_3 x172007_3 x172008_3 x172009_3).bind fun bt234 => ((tallyroomref06_Same.f t222 t223 t224 t225 t226 t227 t228 t229 t230 t231 bt234.1 bt234.2.1 bt234.2.2.1 bt234.2.2.2.1 bt234.2.2.2.2.1 bt234.2.2.2.2.2.1 bt234.2.2.2.2.2.2.1 bt234.2.2.2.2.2.2.2.1 bt234.2.2.2.2.2.2.2.2.1 bt234.2.2.2.2.2.2.2.2.2).bind fun t246 => (if t246 = true then (tallyroomlaw09_DigestPrefers.l2 k3 l0 false 0 x158000_3 x158001_3 x158002_3 x158003_3 x158004_3 x158005_3 x158006_3 x158007_3 x158008_3 x158009_3) else (some false)))) = some r := H
               have A74 := Aside0.mk A740
               clear A740
               replace H := Option.bind_eq_some_iff.mp H
               obtain ⟨⟨t234, t235, t236, t237, t238, t239, t240, t241, t242, t243⟩, A750, H⟩ := H
               replace H : ((tallyroomref06_Same.f t222 t223 t224 t225 t226 t227 t228 t229 t230 t231 t234 t235 t236 t237 t238 t239 t240 t241 t242 t243).bind fun t246 => (if t246 = true then (tallyroomlaw09_DigestPrefers.l2 k3 l0 false 0 x158000_3 x158001_3 x158002_3 x158003_3 x158004_3 x158005_3 x158006_3 x158007_3 x158008_3 x158009_3) else (some false))) = some r := H
               have A75 := Aside0.mk A750
               clear A750
               replace H := Option.bind_eq_some_iff.mp H
               obtain ⟨t246, A760, H⟩ := H
               replace H : (if t246 = true then (tallyroomlaw09_DigestPrefers.l2 k3 l0 false 0 x158000_3 x158001_3 x158002_3 x158003_3 x158004_3 x158005_3 x158006_3 x158007_3 x158008_3 x158009_3) else (some false)) = some r := H
               have A76 := Aside0.mk A760
               clear A760
               by_cases c77 : t246 = true
               ·subst c77
                have H1 : (tallyroomlaw09_DigestPrefers.l2 k3 l0 false 0 x158000_3 x158001_3 x158002_3 x158003_3 x158004_3 x158005_3 x158006_3 x158007_3 x158008_3 x158009_3) = some r := by rw [if_pos rfl] at H; exact H
                clear H
                have H := H1
                clear H1
                have H' := Aside0.mk H
                clear H
                try go_wp2
                have n0_ := Aside0.mk (rD_ HO_158009.out)
                have n1_ := Aside0.mk (rD_ HO_172009.out)
                have n2_ := Aside0.mk (bD_ BK157.out)
                have n3_ := Aside0.mk (bD_ BK171.out)
                have n4_ := Aside0.mk (l1_ HB.out)
                clear HO_158009
                clear HO_172009
                clear BK157
                clear BK171
                clear HB
                have HO_158009 := n0_
                have HO_172009 := n1_
                have BK157 := n2_
                have BK171 := n3_
                have HB := n4_
                clear n0_ n1_ n2_ n3_ n4_
                obtain ⟨Ao79, co79, eo79⟩ := Kd.R_slice HO_158009.out
                (first | subst eo79 | (injection eo79 with f1_ f2_ f3_; have f4_ := f1_.symm; have f5_ := f3_.symm; clear f1_ f2_ f3_; subst f4_; subst f5_))
                refine start_ (n := 6) (S := fun w' => w'.cell? ⟨gb157, 0, none⟩ = some (.int .u64 x158000_3) ∧ w'.cell? ⟨gb157, 1, none⟩ = some (.int .u64 x158001_3) ∧ w'.cell? ⟨gb157, 2, none⟩ = some (.int .u64 x158002_3) ∧ w'.cell? ⟨gb157, 3, none⟩ = some (.string x158003_3) ∧ w'.cell? ⟨gb157, 4, none⟩ = some (.string x158004_3) ∧ w'.cell? ⟨gb157, 5, none⟩ = some (.int .i64 x158005_3) ∧ w'.cell? ⟨gb157, 6, none⟩ = some (.int .i64 x158006_3) ∧ w'.cell? ⟨gb157, 7, none⟩ = some (.int .u64 x158007_3) ∧ w'.cell? ⟨gb157, 8, none⟩ = some (.int .u64 x158008_3) ∧ w'.cell? ⟨gb157, 9, none⟩ = some (.slice Ao79 x158009_3.length co79) ∧ w'.cell? ⟨gb171, 0, none⟩ = some (.int .u64 x172000_3) ∧ w'.cell? ⟨gb171, 1, none⟩ = some (.int .u64 x172001_3) ∧ w'.cell? ⟨gb171, 2, none⟩ = some (.int .u64 x172002_3) ∧ w'.cell? ⟨gb171, 3, none⟩ = some (.string x172003_3) ∧ w'.cell? ⟨gb171, 4, none⟩ = some (.string x172004_3) ∧ w'.cell? ⟨gb171, 5, none⟩ = some (.int .i64 x172005_3) ∧ w'.cell? ⟨gb171, 6, none⟩ = some (.int .i64 x172006_3) ∧ w'.cell? ⟨gb171, 7, none⟩ = some (.int .u64 x172007_3) ∧ w'.cell? ⟨gb171, 8, none⟩ = some (.int .u64 x172008_3) ∧ w'.cell? ⟨gb171, 9, none⟩ = some (u172009)) (ds := []) #[false, false, false, false, false, false] (by kernel_rfl) rfl rfl ⟨(bc1_ BK157.out 0).trans rfl, (bc1_ BK157.out 1).trans rfl, (bc1_ BK157.out 2).trans rfl, (bc1_ BK157.out 3).trans rfl, (bc1_ BK157.out 4).trans rfl, (bc1_ BK157.out 5).trans rfl, (bc1_ BK157.out 6).trans rfl, (bc1_ BK157.out 7).trans rfl, (bc1_ BK157.out 8).trans rfl, (bc1_ BK157.out 9).trans rfl, (bc1_ BK171.out 0).trans rfl, (bc1_ BK171.out 1).trans rfl, (bc1_ BK171.out 2).trans rfl, (bc1_ BK171.out 3).trans rfl, (bc1_ BK171.out 4).trans rfl, (bc1_ BK171.out 5).trans rfl, (bc1_ BK171.out 6).trans rfl, (bc1_ BK171.out 7).trans rfl, (bc1_ BK171.out 8).trans rfl, (bc1_ BK171.out 9).trans rfl⟩ (fun hHeld => ?_)
                generalize wr.drew = w78 at HO_158009 HO_172009 BK157 BK171 HB hHeld ⊢
                refine take_ (i := 0) (N := some 77) (v := ?_) (a' := ?_) #[true, false, false, false, false, false] rfl rfl (by kernel_rfl) (fun _ _ _ h => h) (Or.inl ⟨by rfl, ?_⟩) hHeld ?_ ?_
                rotate_left
                ·rintro w' ⟨s0, s1, s2, s3, s4, s5, s6, s7, s8, s9, s10, s11, s12, s13, s14, s15, s16, s17, s18, s19⟩
                 go_simp
                 with_reducible rfl
                rotate_left
                ·simp only [Act.put, sb_, sz_, ss_, i64_w, i32_w]
                 rfl
                refine take_ (i := 2) (N := some 79) (v := ?_) (a' := ?_) #[true, false, true, false, false, false] rfl rfl (by kernel_rfl) (fun _ _ _ h => h) (Or.inl ⟨by rfl, ?_⟩) hHeld ?_ ?_
                rotate_left
                ·rintro w' ⟨s0, s1, s2, s3, s4, s5, s6, s7, s8, s9, s10, s11, s12, s13, s14, s15, s16, s17, s18, s19⟩
                 go_simp
                 with_reducible rfl
                rotate_left
                ·simp only [Act.put, sb_, sz_, ss_, i64_w, i32_w]
                 rfl
                refine one_ (i := 1) (N := some 78) #[true, true, true, false, false, false] rfl rfl (by kernel_rfl) (by decide) (fun K hK => ?_)
                refine goes_ Try.func24 (by kernel_rfl) rfl #[.agg #[.int .u64 x158000_3, .int .u64 x158001_3, .int .u64 x158002_3, .string x158003_3, .string x158004_3, .int .i64 x158005_3, .int .i64 x158006_3, .int .u64 x158007_3, .int .u64 x158008_3, .slice Ao79 x158009_3.length co79]] (by rfl) rfl rfl (by (try simp only [List.map_toArray, List.map_cons, List.map_nil]); first | done | rfl | (simp only [List.length_drop, List.length_take]; rfl)) ?_
                with_reducible refine (tallyroomlaw06_To.calls k3 x158000_3 x158001_3 x158002_3 x158003_3 x158004_3 x158005_3 x158006_3 x158007_3 x158008_3 _ _ x158009_3 t222 t223 t224 t225 t226 t227 t228 t229 t230 t231 _ ?side1 ?side2 A74.out).mono ?_
                (case side1 => repeat (first | exact (Kd.R_reads' HO_158009.out).2.2 | (with_reducible refine Kd.C_alloc ?_ _) | (with_reducible refine Kd.C_drewN ?_ _) | (with_reducible refine Kd.C_drew ?_)))
                (case side2 => exact (Kd.R_reads' HO_158009.out).2.1)
                rintro e w80 ⟨v232, rfl, ho0, hb⟩
                refine ⟨_, rfl, ?_⟩
                have n0_ := Aside0.mk (Kd.R_below (by (with_reducible repeat (first | apply rA_ | apply rN_ | apply rD_)); exact HO_158009.out) hb)
                have n1_ := Aside0.mk (Kd.R_below (by (with_reducible repeat (first | apply rA_ | apply rN_ | apply rD_)); exact HO_172009.out) hb)
                have n2_ := Aside0.mk (Kd.R_lower ho0 (bz_ (by repeat (first | (with_reducible first | exact HB.out | apply lA_ | apply lN_ | apply l1_ | refine below_set ?_ GE157.out | refine below_set ?_ GE171.out) | exact HB.out))))
                have n3_ := Aside0.mk (bb_ (g := gb157) (o := .cells #[.int .u64 x158000_3, .int .u64 x158001_3, .int .u64 x158002_3, .string x158003_3, .string x158004_3, .int .i64 x158005_3, .int .i64 x158006_3, .int .u64 x158007_3, .int .u64 x158008_3, .slice Ao79 x158009_3.length co79] 40 (0, 0)) (by (with_reducible repeat (first | refine bN_ ?_ _ | refine bD_ ?_ | refine bA_ ?_ _)); exact BK157.out) hb)
                have n4_ := Aside0.mk (bb_ (g := gb171) (o := .cells #[.int .u64 x172000_3, .int .u64 x172001_3, .int .u64 x172002_3, .string x172003_3, .string x172004_3, .int .i64 x172005_3, .int .i64 x172006_3, .int .u64 x172007_3, .int .u64 x172008_3, u172009] 40 (0, 0)) (by (with_reducible repeat (first | refine bN_ ?_ _ | refine bD_ ?_ | refine bA_ ?_ _)); exact BK171.out) hb)
                have n5_ := Aside0.mk (ls_ (by repeat (first | (with_reducible first | exact HB.out | apply lA_ | apply lN_ | apply l1_ | refine below_set ?_ GE157.out | refine below_set ?_ GE171.out) | exact HB.out)) hb)
                clear HO_158009
                clear HO_172009
                clear BK157
                clear BK171
                clear HB
                have HO_158009 := n0_
                have HO_172009 := n1_
                have HO233 := n2_
                have BK157 := n3_
                have BK171 := n4_
                have HB := n5_
                clear n0_ n1_ n2_ n3_ n4_ n5_
                (try clear hb)
                (try clear hb2)
                (try clear hk)
                (try clear hi)
                (try clear ho0)
                obtain ⟨Ao81, co81, eo81⟩ := Kd.R_slice HO_172009.out
                (first | subst eo81 | (injection eo81 with f1_ f2_ f3_; have f4_ := f1_.symm; have f5_ := f3_.symm; clear f1_ f2_ f3_; subst f4_; subst f5_))
                refine hK.out _ _ ⟨(bc1_ BK157.out 0).trans rfl, (bc1_ BK157.out 1).trans rfl, (bc1_ BK157.out 2).trans rfl, (bc1_ BK157.out 3).trans rfl, (bc1_ BK157.out 4).trans rfl, (bc1_ BK157.out 5).trans rfl, (bc1_ BK157.out 6).trans rfl, (bc1_ BK157.out 7).trans rfl, (bc1_ BK157.out 8).trans rfl, (bc1_ BK157.out 9).trans rfl, (bc1_ BK171.out 0).trans rfl, (bc1_ BK171.out 1).trans rfl, (bc1_ BK171.out 2).trans rfl, (bc1_ BK171.out 3).trans rfl, (bc1_ BK171.out 4).trans rfl, (bc1_ BK171.out 5).trans rfl, (bc1_ BK171.out 6).trans rfl, (bc1_ BK171.out 7).trans rfl, (bc1_ BK171.out 8).trans rfl, (bc1_ BK171.out 9).trans rfl⟩ (fun hHeld => ?_)
                clear hK K
                refine norm_ (a' := ?_) ?_ ?_
                rotate_left
                ·show Act.put _ (some 78) _ = _
                 simp only [Act.put, sb_, sz_, ss_, i64_w, i32_w]
                 rfl
                refine one_ (i := 3) (N := some 80) #[true, true, true, true, false, false] rfl rfl (by kernel_rfl) (by decide) (fun K hK => ?_)
                refine goes_ Try.func24 (by kernel_rfl) rfl #[.agg #[.int .u64 x172000_3, .int .u64 x172001_3, .int .u64 x172002_3, .string x172003_3, .string x172004_3, .int .i64 x172005_3, .int .i64 x172006_3, .int .u64 x172007_3, .int .u64 x172008_3, .slice Ao81 x172009_3.length co81]] (by rfl) rfl rfl (by (try simp only [List.map_toArray, List.map_cons, List.map_nil]); first | done | rfl | (simp only [List.length_drop, List.length_take]; rfl)) ?_
                with_reducible refine (tallyroomlaw06_To.calls k3 x172000_3 x172001_3 x172002_3 x172003_3 x172004_3 x172005_3 x172006_3 x172007_3 x172008_3 _ _ x172009_3 t234 t235 t236 t237 t238 t239 t240 t241 t242 t243 _ ?side1 ?side2 A75.out).mono ?_
                (case side1 => repeat (first | exact (Kd.R_reads' HO_172009.out).2.2 | (with_reducible refine Kd.C_alloc ?_ _) | (with_reducible refine Kd.C_drewN ?_ _) | (with_reducible refine Kd.C_drew ?_)))
                (case side2 => exact (Kd.R_reads' HO_172009.out).2.1)
                rintro e w82 ⟨v244, rfl, ho0, hb⟩
                refine ⟨_, rfl, ?_⟩
                have n0_ := Aside0.mk (Kd.R_below (by (with_reducible repeat (first | apply rA_ | apply rN_ | apply rD_)); exact HO_158009.out) hb)
                have n1_ := Aside0.mk (Kd.R_below (by (with_reducible repeat (first | apply rA_ | apply rN_ | apply rD_)); exact HO_172009.out) hb)
                have n2_ := Aside0.mk (Kd.R_elder' (by (with_reducible repeat (first | apply rA_ | apply rN_ | apply rD_)); exact HO233.out) (Kd.R_base ho0) hb)
                have n3_ := Aside0.mk (Kd.R_lower (Kd.R_new' ho0 (Kd.R_lt (by (with_reducible repeat (first | apply rA_ | apply rN_ | apply rD_)); exact HO233.out))) (bz_ (by repeat (first | (with_reducible first | exact HB.out | apply lA_ | apply lN_ | apply l1_ | refine below_set ?_ GE157.out | refine below_set ?_ GE171.out) | exact HB.out))))
                have n4_ := Aside0.mk (bb_ (g := gb157) (o := .cells #[.int .u64 x158000_3, .int .u64 x158001_3, .int .u64 x158002_3, .string x158003_3, .string x158004_3, .int .i64 x158005_3, .int .i64 x158006_3, .int .u64 x158007_3, .int .u64 x158008_3, .slice Ao79 x158009_3.length co79] 40 (0, 0)) (by (with_reducible repeat (first | refine bN_ ?_ _ | refine bD_ ?_ | refine bA_ ?_ _)); exact BK157.out) hb)
                have n5_ := Aside0.mk (bb_ (g := gb171) (o := .cells #[.int .u64 x172000_3, .int .u64 x172001_3, .int .u64 x172002_3, .string x172003_3, .string x172004_3, .int .i64 x172005_3, .int .i64 x172006_3, .int .u64 x172007_3, .int .u64 x172008_3, .slice Ao81 x172009_3.length co81] 40 (0, 0)) (by (with_reducible repeat (first | refine bN_ ?_ _ | refine bD_ ?_ | refine bA_ ?_ _)); exact BK171.out) hb)
                have n6_ := Aside0.mk (ls_ (by repeat (first | (with_reducible first | exact HB.out | apply lA_ | apply lN_ | apply l1_ | refine below_set ?_ GE157.out | refine below_set ?_ GE171.out) | exact HB.out)) hb)
                clear HO_158009
                clear HO_172009
                clear HO233
                clear BK157
                clear BK171
                clear HB
                have HO_158009 := n0_
                have HO_172009 := n1_
                have HO233 := n2_
                have HO245 := n3_
                have BK157 := n4_
                have BK171 := n5_
                have HB := n6_
                clear n0_ n1_ n2_ n3_ n4_ n5_ n6_
                (try clear hb)
                (try clear hb2)
                (try clear hk)
                (try clear hi)
                (try clear ho0)
                obtain ⟨Ao83, co83, eo83⟩ := Kd.R_slice HO233.out
                (first | subst eo83 | (injection eo83 with f1_ f2_ f3_; have f4_ := f1_.symm; have f5_ := f3_.symm; clear f1_ f2_ f3_; subst f4_; subst f5_))
                obtain ⟨Ao84, co84, eo84⟩ := Kd.R_slice HO245.out
                (first | subst eo84 | (injection eo84 with f1_ f2_ f3_; have f4_ := f1_.symm; have f5_ := f3_.symm; clear f1_ f2_ f3_; subst f4_; subst f5_))
                refine hK.out _ _ ⟨(bc1_ BK157.out 0).trans rfl, (bc1_ BK157.out 1).trans rfl, (bc1_ BK157.out 2).trans rfl, (bc1_ BK157.out 3).trans rfl, (bc1_ BK157.out 4).trans rfl, (bc1_ BK157.out 5).trans rfl, (bc1_ BK157.out 6).trans rfl, (bc1_ BK157.out 7).trans rfl, (bc1_ BK157.out 8).trans rfl, (bc1_ BK157.out 9).trans rfl, (bc1_ BK171.out 0).trans rfl, (bc1_ BK171.out 1).trans rfl, (bc1_ BK171.out 2).trans rfl, (bc1_ BK171.out 3).trans rfl, (bc1_ BK171.out 4).trans rfl, (bc1_ BK171.out 5).trans rfl, (bc1_ BK171.out 6).trans rfl, (bc1_ BK171.out 7).trans rfl, (bc1_ BK171.out 8).trans rfl, (bc1_ BK171.out 9).trans rfl⟩ (fun hHeld => ?_)
                clear hK K
                refine norm_ (a' := ?_) ?_ ?_
                rotate_left
                ·show Act.put _ (some 80) _ = _
                 simp only [Act.put, sb_, sz_, ss_, i64_w, i32_w]
                 rfl
                refine one_ (i := 4) (N := some 81) #[true, true, true, true, true, false] rfl rfl (by kernel_rfl) (by decide) (fun K hK => ?_)
                refine goes_ Try.func23 (by kernel_rfl) rfl #[.agg #[.int .u64 t222, .int .u64 t223, .int .u64 t224, .string t225, .string t226, .int .i64 t227, .int .i64 t228, .int .u64 t229, .int .u64 t230, .slice Ao83 t231.length co83], .agg #[.int .u64 t234, .int .u64 t235, .int .u64 t236, .string t237, .string t238, .int .i64 t239, .int .i64 t240, .int .u64 t241, .int .u64 t242, .slice Ao84 t243.length co84]] (by rfl) rfl rfl (by (try simp only [List.map_toArray, List.map_cons, List.map_nil]); first | done | rfl | (simp only [List.length_drop, List.length_take]; rfl)) ?_
                with_reducible refine (tallyroomref06_Same.calls t222 t223 t224 t225 t226 t227 t228 t229 t230 _ _ t231 t234 t235 t236 t237 t238 t239 t240 t241 t242 _ _ t243 true _ ?side1 ?side2 ?side3 ?side4 A76.out).mono ?_
                (case side1 => repeat (first | exact (Kd.R_reads' HO233.out).2.2 | (with_reducible refine Kd.C_alloc ?_ _) | (with_reducible refine Kd.C_drewN ?_ _) | (with_reducible refine Kd.C_drew ?_)))
                (case side2 => exact (Kd.R_reads' HO233.out).2.1)
                (case side3 => repeat (first | exact (Kd.R_reads' HO245.out).2.2 | (with_reducible refine Kd.C_alloc ?_ _) | (with_reducible refine Kd.C_drewN ?_ _) | (with_reducible refine Kd.C_drew ?_)))
                (case side4 => exact (Kd.R_reads' HO245.out).2.1)
                rintro e w85 ⟨rfl, hb⟩
                refine ⟨_, rfl, ?_⟩
                have n0_ := Aside0.mk (Kd.R_below (by (with_reducible repeat (first | apply rA_ | apply rN_ | apply rD_)); exact HO_158009.out) hb)
                have n1_ := Aside0.mk (Kd.R_below (by (with_reducible repeat (first | apply rA_ | apply rN_ | apply rD_)); exact HO_172009.out) hb)
                have n2_ := Aside0.mk (Kd.R_below (by (with_reducible repeat (first | apply rA_ | apply rN_ | apply rD_)); exact HO233.out) hb)
                have n3_ := Aside0.mk (Kd.R_below (by (with_reducible repeat (first | apply rA_ | apply rN_ | apply rD_)); exact HO245.out) hb)
                have n4_ := Aside0.mk (bb_ (g := gb157) (o := .cells #[.int .u64 x158000_3, .int .u64 x158001_3, .int .u64 x158002_3, .string x158003_3, .string x158004_3, .int .i64 x158005_3, .int .i64 x158006_3, .int .u64 x158007_3, .int .u64 x158008_3, .slice Ao79 x158009_3.length co79] 40 (0, 0)) (by (with_reducible repeat (first | refine bN_ ?_ _ | refine bD_ ?_ | refine bA_ ?_ _)); exact BK157.out) hb)
                have n5_ := Aside0.mk (bb_ (g := gb171) (o := .cells #[.int .u64 x172000_3, .int .u64 x172001_3, .int .u64 x172002_3, .string x172003_3, .string x172004_3, .int .i64 x172005_3, .int .i64 x172006_3, .int .u64 x172007_3, .int .u64 x172008_3, .slice Ao81 x172009_3.length co81] 40 (0, 0)) (by (with_reducible repeat (first | refine bN_ ?_ _ | refine bD_ ?_ | refine bA_ ?_ _)); exact BK171.out) hb)
                have n6_ := Aside0.mk (ls_ (by repeat (first | (with_reducible first | exact HB.out | apply lA_ | apply lN_ | apply l1_ | refine below_set ?_ GE157.out | refine below_set ?_ GE171.out) | exact HB.out)) hb)
                clear HO_158009
                clear HO_172009
                clear HO233
                clear HO245
                clear BK157
                clear BK171
                clear HB
                have HO_158009 := n0_
                have HO_172009 := n1_
                have HO233 := n2_
                have HO245 := n3_
                have BK157 := n4_
                have BK171 := n5_
                have HB := n6_
                clear n0_ n1_ n2_ n3_ n4_ n5_ n6_
                (try clear hb)
                (try clear hb2)
                (try clear hk)
                (try clear hi)
                refine hK.out _ _ ⟨(bc1_ BK157.out 0).trans rfl, (bc1_ BK157.out 1).trans rfl, (bc1_ BK157.out 2).trans rfl, (bc1_ BK157.out 3).trans rfl, (bc1_ BK157.out 4).trans rfl, (bc1_ BK157.out 5).trans rfl, (bc1_ BK157.out 6).trans rfl, (bc1_ BK157.out 7).trans rfl, (bc1_ BK157.out 8).trans rfl, (bc1_ BK157.out 9).trans rfl, (bc1_ BK171.out 0).trans rfl, (bc1_ BK171.out 1).trans rfl, (bc1_ BK171.out 2).trans rfl, (bc1_ BK171.out 3).trans rfl, (bc1_ BK171.out 4).trans rfl, (bc1_ BK171.out 5).trans rfl, (bc1_ BK171.out 6).trans rfl, (bc1_ BK171.out 7).trans rfl, (bc1_ BK171.out 8).trans rfl, (bc1_ BK171.out 9).trans rfl⟩ (fun hHeld => ?_)
                clear hK K
                refine norm_ (a' := ?_) ?_ ?_
                rotate_left
                ·show Act.put _ (some 81) _ = _
                 simp only [Act.put, sb_, sz_, ss_, i64_w, i32_w]
                 rfl
                refine pure_ (i := 5) (N := some 82) (v := ?_) (a' := ?_) #[true, true, true, true, true, true] rfl rfl (by kernel_rfl) (fun _ _ _ h => h) (Or.inl ⟨by rfl, ?_⟩) ?_ ?_
                rotate_left
                ·intro w'
                 go_simp
                 with_reducible rfl
                rotate_left
                ·simp only [Act.put, sb_, sz_, ss_, i64_w, i32_w]
                 rfl
                refine done_ (by kernel_rfl) ?_
                try go_wp2
                go_loopg [10, 11] k3 (fun kq v10 v11 w' => ∃ (x10_4 : Bool) (x11_4 : Int), v10 = .bool x10_4 ∧ v11 = .int .i64 x11_4 ∧ Aside0 (tallyroomlaw09_DigestPrefers.l2 kq l0 x10_4 x11_4 x158000_3 x158001_3 x158002_3 x158003_3 x158004_3 x158005_3 x158006_3 x158007_3 x158008_3 x158009_3 = some r) ∧ Aside0 (kq ≤ k3) ∧ Aside0 (Kd.R k51 51 w' w.heap.size (fun k_ => some k_ ≠ ((.slice Ao81 x172009_3.length co81) : Value).ownBlock) (.slice Ao79 x158009_3.length co79) x158009_3) ∧ Aside0 (Kd.R k51 51 w' w.heap.size (fun k_ => some k_ ≠ ((.slice Ao79 x158009_3.length co79) : Value).ownBlock) (.slice Ao81 x172009_3.length co81) x172009_3) ∧ Aside0 (w'.heap[gb157]? = some (.cells #[.int .u64 x158000_3, .int .u64 x158001_3, .int .u64 x158002_3, .string x158003_3, .string x158004_3, .int .i64 x158005_3, .int .i64 x158006_3, .int .u64 x158007_3, .int .u64 x158008_3, (.slice Ao79 x158009_3.length co79)] 40 (0, 0))) ∧ Aside0 (w'.heap[gb171]? = some (.cells #[.int .u64 x172000_3, .int .u64 x172001_3, .int .u64 x172002_3, .string x172003_3, .string x172004_3, .int .i64 x172005_3, .int .i64 x172006_3, .int .u64 x172007_3, .int .u64 x172008_3, (.slice Ao81 x172009_3.length co81)] 40 (0, 0))) ∧ Aside0 (Below w.heap.size w w'))
                case atStart => exact ⟨(false), (0), (by first | rfl | (simp; done) | (simp [*]; done)), (by first | rfl | (simp; done) | (simp [*]; done)), H', ⟨Nat.le_refl _⟩, ⟨by (with_reducible repeat (first | apply rA_ | apply rN_ | apply rD_)); exact HO_158009.out⟩, ⟨by (with_reducible repeat (first | apply rA_ | apply rN_ | apply rD_)); exact HO_172009.out⟩, ⟨by (with_reducible repeat (first | refine bN_ ?_ _ | refine bD_ ?_ | refine bA_ ?_ _)); exact BK157.out⟩, ⟨by (with_reducible repeat (first | refine bN_ ?_ _ | refine bD_ ?_ | refine bA_ ?_ _)); exact BK171.out⟩, ⟨by repeat (first | (with_reducible first | exact HB.out | apply lA_ | apply lN_ | apply l1_ | refine below_set ?_ GE157.out | refine below_set ?_ GE171.out) | exact HB.out)⟩⟩
                case round =>
                 clear H'
                 try clear c1
                 try clear p1
                 try clear q1
                 try clear hx1
                 try clear c2
                 try clear p2
                 try clear c3
                 try clear p6
                 try clear c7
                 try clear c19
                 try clear p19
                 try clear q19
                 try clear hx19
                 try clear c21
                 try clear c22
                 try clear c23
                 try clear c24
                 try clear c31
                 try clear c31b0
                 try clear c32
                 try clear c37
                 try clear c38
                 try clear p64
                 try clear c77
                 try clear hx197_0
                 try clear hx197_1
                 try clear hx197_2
                 try clear hx197_3
                 try clear hx197_4
                 try clear hx197_5
                 try clear hx197_6
                 try clear hx197_7
                 try clear hx197_8
                 try clear hx197_9
                 try clear p197
                 try clear q197
                 obtain ⟨x10_4, x11_4, rfl, rfl, HA, HK4, HO_158009, HO_172009, BK157, BK171, HB⟩ := hrel
                 cases gk with
                 | zero => exact absurd HA.out (by simp [tallyroomlaw09_DigestPrefers.l2])
                 | succ k4 =>
                  have H := HA.out
                  clear HA
                  simp only [tallyroomlaw09_DigestPrefers.l2] at H
                  by_cases c86 : x11_4 < (l0.length : Int)
                  ·rw [if_pos c86] at H
                   have c86b0 : decide (x11_4 < (l0.length : Int)) = true := decide_eq_true c86
                   clear c86
                   by_cases c87 : 0 ≤ x11_4
                   ·rw [if_pos c87] at H
                    have c87b0 : decide (0 ≤ x11_4) = true := decide_eq_true c87
                    clear c87
                    replace H := Option.bind_eq_some_iff.mp H
                    obtain ⟨⟨t248, t249, t250, t251, t252, t253, t254, t255, t256, t257⟩, A880, H⟩ := H
                    replace H : ((tallyroomref06_Compare.f ((rd_T37 l0 x11_4).f0) ((rd_T37 l0 x11_4).f1) ((rd_T37 l0 x11_4).f2) ((rd_T37 l0 x11_4).f3) ((rd_T37 l0 x11_4).f4) ((rd_T37 l0 x11_4).f5) ((rd_T37 l0 x11_4).f6) ((rd_T37 l0 x11_4).f7) ((rd_T37 l0 x11_4).f8) ((rd_T37 l0 x11_4).f9) t248 t249 t250 t251 t252 t253 t254 t255 t256 t257).bind fun t260 => (if x10_4 = true then (if t260 < 0 then (some false) else (tallyroomlaw09_DigestPrefers.l2 k4 l0 true (wrap64 (x11_4 + 1)) x158000_3 x158001_3 x158002_3 x158003_3 x158004_3 x158005_3 x158006_3 x158007_3 x158008_3 x158009_3)) else (if t260 < 0 then (some false) else (tallyroomlaw09_DigestPrefers.l2 k4 l0 (t260 == 0) (wrap64 (x11_4 + 1)) x158000_3 x158001_3 x158002_3 x158003_3 x158004_3 x158005_3 x158006_3 x158007_3 x158008_3 x158009_3)))) = some r := H
                    have A88 := Aside0.mk A880
                    clear A880
                    replace H := Option.bind_eq_some_iff.mp H
                    obtain ⟨t260, A890, H⟩ := H
                    replace H : (if x10_4 = true then (if t260 < 0 then (some false) else (tallyroomlaw09_DigestPrefers.l2 k4 l0 true (wrap64 (x11_4 + 1)) x158000_3 x158001_3 x158002_3 x158003_3 x158004_3 x158005_3 x158006_3 x158007_3 x158008_3 x158009_3)) else (if t260 < 0 then (some false) else (tallyroomlaw09_DigestPrefers.l2 k4 l0 (t260 == 0) (wrap64 (x11_4 + 1)) x158000_3 x158001_3 x158002_3 x158003_3 x158004_3 x158005_3 x158006_3 x158007_3 x158008_3 x158009_3))) = some r := H
                    have A89 := Aside0.mk A890
                    clear A890
                    by_cases c90 : x10_4 = true
                    ·subst c90
                     have H1 : (if t260 < 0 then (some false) else (tallyroomlaw09_DigestPrefers.l2 k4 l0 true (wrap64 (x11_4 + 1)) x158000_3 x158001_3 x158002_3 x158003_3 x158004_3 x158005_3 x158006_3 x158007_3 x158008_3 x158009_3)) = some r := by rw [if_pos rfl] at H; exact H
                     clear H
                     have H := H1
                     clear H1
                     by_cases c91 : t260 < 0
                     ·rw [if_pos c91] at H
                      have c91b0 : decide (t260 < 0) = true := decide_eq_true c91
                      clear c91
                      obtain rfl := Option.some.inj H
                      try go_wp2
                      have n0_ := Aside0.mk (rD_ HO_158009.out)
                      have n1_ := Aside0.mk (rD_ HO_172009.out)
                      have n2_ := Aside0.mk (bD_ BK157.out)
                      have n3_ := Aside0.mk (bD_ BK171.out)
                      have n4_ := Aside0.mk (l1_ HB.out)
                      clear HO_158009
                      clear HO_172009
                      clear BK157
                      clear BK171
                      clear HB
                      have HO_158009 := n0_
                      have HO_172009 := n1_
                      have BK157 := n2_
                      have BK171 := n3_
                      have HB := n4_
                      clear n0_ n1_ n2_ n3_ n4_
                      have p247 : 0 ≤ (x11_4 : Int) := of_decide_eq_true (by first | (with_reducible assumption) | assumption)
                      have q247 : x11_4 < (l0.length : Int) := of_decide_eq_true (by first | (with_reducible assumption) | assumption)
                      obtain ⟨ad247, A247_9, c247_9, e247, hx247_0, hx247_1, hx247_2, hx247_3, hx247_4, hx247_5, hx247_6, hx247_7, hx247_8, hx247_9, hl247_9, hi247_9⟩ := at_T37 HR0.out x11_4 p247 q247
                      have hw247_9 := hx247_9
                      have hw247_8 := hx247_8
                      have hw247_7 := hx247_7
                      have hw247_6 := hx247_6
                      have hw247_5 := hx247_5
                      have hw247_4 := hx247_4
                      have hw247_3 := hx247_3
                      have hw247_2 := hx247_2
                      have hw247_1 := hx247_1
                      have hw247_0 := hx247_0
                      obtain rfl : ad144 = ad247 := (by injection e247)
                      replace hx247_0 := bc_ HB.out hx247_0
                      replace hx247_1 := bc_ HB.out hx247_1
                      replace hx247_2 := bc_ HB.out hx247_2
                      replace hx247_3 := bc_ HB.out hx247_3
                      replace hx247_4 := bc_ HB.out hx247_4
                      replace hx247_5 := bc_ HB.out hx247_5
                      replace hx247_6 := bc_ HB.out hx247_6
                      replace hx247_7 := bc_ HB.out hx247_7
                      replace hx247_8 := bc_ HB.out hx247_8
                      replace hx247_9 := bc_ HB.out hx247_9
                      have HR247_9 := Aside0.mk hi247_9
                      have HC247_9 := Aside0.mk hl247_9
                      clear hi247_9 hl247_9
                      replace p247 := eq_true p247
                      replace q247 := eq_true q247
                      refine start_ (n := 8) (S := fun w' => w'.cell? ⟨gb157, 0, none⟩ = some (.int .u64 x158000_3) ∧ w'.cell? ⟨gb157, 1, none⟩ = some (.int .u64 x158001_3) ∧ w'.cell? ⟨gb157, 2, none⟩ = some (.int .u64 x158002_3) ∧ w'.cell? ⟨gb157, 3, none⟩ = some (.string x158003_3) ∧ w'.cell? ⟨gb157, 4, none⟩ = some (.string x158004_3) ∧ w'.cell? ⟨gb157, 5, none⟩ = some (.int .i64 x158005_3) ∧ w'.cell? ⟨gb157, 6, none⟩ = some (.int .i64 x158006_3) ∧ w'.cell? ⟨gb157, 7, none⟩ = some (.int .u64 x158007_3) ∧ w'.cell? ⟨gb157, 8, none⟩ = some (.int .u64 x158008_3) ∧ w'.cell? ⟨gb157, 9, none⟩ = some (.slice Ao79 x158009_3.length co79) ∧ w'.cell? (ad144.add ((x11_4).toNat * 10)) = some (.int .u64 ((rd_T37 l0 x11_4).f0)) ∧ w'.cell? ⟨(ad144.add ((x11_4).toNat * 10)).block, (ad144.add ((x11_4).toNat * 10)).off + 1, none⟩ = some (.int .u64 ((rd_T37 l0 x11_4).f1)) ∧ w'.cell? ⟨(ad144.add ((x11_4).toNat * 10)).block, (ad144.add ((x11_4).toNat * 10)).off + 2, none⟩ = some (.int .u64 ((rd_T37 l0 x11_4).f2)) ∧ w'.cell? ⟨(ad144.add ((x11_4).toNat * 10)).block, (ad144.add ((x11_4).toNat * 10)).off + 3, none⟩ = some (.string ((rd_T37 l0 x11_4).f3)) ∧ w'.cell? ⟨(ad144.add ((x11_4).toNat * 10)).block, (ad144.add ((x11_4).toNat * 10)).off + 4, none⟩ = some (.string ((rd_T37 l0 x11_4).f4)) ∧ w'.cell? ⟨(ad144.add ((x11_4).toNat * 10)).block, (ad144.add ((x11_4).toNat * 10)).off + 5, none⟩ = some (.int .i64 ((rd_T37 l0 x11_4).f5)) ∧ w'.cell? ⟨(ad144.add ((x11_4).toNat * 10)).block, (ad144.add ((x11_4).toNat * 10)).off + 6, none⟩ = some (.int .i64 ((rd_T37 l0 x11_4).f6)) ∧ w'.cell? ⟨(ad144.add ((x11_4).toNat * 10)).block, (ad144.add ((x11_4).toNat * 10)).off + 7, none⟩ = some (.int .u64 ((rd_T37 l0 x11_4).f7)) ∧ w'.cell? ⟨(ad144.add ((x11_4).toNat * 10)).block, (ad144.add ((x11_4).toNat * 10)).off + 8, none⟩ = some (.int .u64 ((rd_T37 l0 x11_4).f8)) ∧ w'.cell? ⟨(ad144.add ((x11_4).toNat * 10)).block, (ad144.add ((x11_4).toNat * 10)).off + 9, none⟩ = some (.slice A247_9 ((rd_T37 l0 x11_4).f9).length c247_9)) (ds := []) #[false, false, false, false, false, false, false, false] (by kernel_rfl) rfl rfl ⟨(bc1_ BK157.out 0).trans rfl, (bc1_ BK157.out 1).trans rfl, (bc1_ BK157.out 2).trans rfl, (bc1_ BK157.out 3).trans rfl, (bc1_ BK157.out 4).trans rfl, (bc1_ BK157.out 5).trans rfl, (bc1_ BK157.out 6).trans rfl, (bc1_ BK157.out 7).trans rfl, (bc1_ BK157.out 8).trans rfl, (bc1_ BK157.out 9).trans rfl, (bc_ HB.out hw247_0), (bc_ HB.out hw247_1), (bc_ HB.out hw247_2), (bc_ HB.out hw247_3), (bc_ HB.out hw247_4), (bc_ HB.out hw247_5), (bc_ HB.out hw247_6), (bc_ HB.out hw247_7), (bc_ HB.out hw247_8), (bc_ HB.out hw247_9)⟩ (fun hHeld => ?_); refine with_tabW tallyroomlaw09_DigestPrefers.tab24 tallyroomlaw09_DigestPrefers.bits24 (fun HT_ HW_ => ?_)
                      generalize wr.drew = w92 at HO_158009 HO_172009 BK157 BK171 HB HR247_9 hx247_0 hx247_1 hx247_2 hx247_3 hx247_4 hx247_5 hx247_6 hx247_7 hx247_8 hx247_9 hHeld ⊢
                      refine pure_ (i := 0) (N := some 89) (v := ?_) (a' := ?_) #[true, false, false, false, false, false, false, false] rfl rfl (any_of HT_.out (by kernel_rfl)) (fun _ _ _ h => h) (Or.inl ⟨by rfl, ?_⟩) ?_ ?_
                      rotate_left
                      ·intro w'
                       go_simp
                       with_reducible rfl
                      rotate_left
                      ·simp only [Act.put, sb_, sz_, ss_, i64_w, i32_w]
                       rfl
                      refine pure_ (i := 1) (N := some 90) (v := ?_) (a' := ?_) #[true, true, false, false, false, false, false, false] rfl rfl (any_of HT_.out (by kernel_rfl)) (fun _ _ _ h => h) (Or.inl ⟨by rfl, ?_⟩) ?_ ?_
                      rotate_left
                      ·intro w'
                       go_simp
                       with_reducible rfl
                      rotate_left
                      ·simp only [Act.put, sb_, sz_, ss_, i64_w, i32_w]
                       rfl
                      refine pure_ (i := 2) (N := some 91) (v := ?_) (a' := ?_) #[true, true, true, false, false, false, false, false] rfl rfl (any_of HT_.out (by kernel_rfl)) (fun _ _ _ h => h) (Or.inl ⟨by rfl, ?_⟩) ?_ ?_
                      rotate_left
                      ·intro w'
                       go_simp
                       with_reducible rfl
                      rotate_left
                      ·simp only [Act.put, sb_, sz_, ss_, i64_w, i32_w]
                       rfl
                      refine take_ (i := 3) (N := some 92) (v := ?_) (a' := ?_) #[true, true, true, true, false, false, false, false] rfl rfl (take_ofW HT_.out HW_.out (by kernel_rfl)) (fun _ _ _ h => h) (Or.inl ⟨by rfl, ?_⟩) hHeld ?_ ?_
                      rotate_left
                      ·rintro w' ⟨s0, s1, s2, s3, s4, s5, s6, s7, s8, s9, s10, s11, s12, s13, s14, s15, s16, s17, s18, s19⟩
                       go_simp
                       with_reducible rfl
                      rotate_left
                      ·simp only [Act.put, sb_, sz_, ss_, i64_w, i32_w]
                       rfl
                      refine take_ (i := 4) (N := some 93) (v := ?_) (a' := ?_) #[true, true, true, true, true, false, false, false] rfl rfl (take_ofW HT_.out HW_.out (by kernel_rfl)) (fun _ _ _ h => h) (Or.inl ⟨by rfl, ?_⟩) hHeld ?_ ?_
                      rotate_left
                      ·rintro w' ⟨s0, s1, s2, s3, s4, s5, s6, s7, s8, s9, s10, s11, s12, s13, s14, s15, s16, s17, s18, s19⟩
                       go_simp
                       with_reducible rfl
                      rotate_left
                      ·simp only [Act.put, sb_, sz_, ss_, i64_w, i32_w]
                       rfl
                      refine one_ (i := 5) (N := some 94) #[true, true, true, true, true, true, false, false] rfl rfl (one_of HT_.out (by kernel_rfl)) (by decide) (fun K hK => ?_)
                      refine goes_ Try.func24 (by kernel_rfl) rfl #[.agg #[.int .u64 x158000_3, .int .u64 x158001_3, .int .u64 x158002_3, .string x158003_3, .string x158004_3, .int .i64 x158005_3, .int .i64 x158006_3, .int .u64 x158007_3, .int .u64 x158008_3, .slice Ao79 x158009_3.length co79]] (by rfl) rfl rfl (by (try simp only [List.map_toArray, List.map_cons, List.map_nil]); first | done | rfl | (simp only [List.length_drop, List.length_take]; rfl)) ?_
                      with_reducible refine (tallyroomlaw06_To.calls k4 x158000_3 x158001_3 x158002_3 x158003_3 x158004_3 x158005_3 x158006_3 x158007_3 x158008_3 _ _ x158009_3 t248 t249 t250 t251 t252 t253 t254 t255 t256 t257 _ ?side1 ?side2 A88.out).mono ?_
                      (case side1 => repeat (first | exact (Kd.R_reads' HO_158009.out).2.2 | (with_reducible refine Kd.C_alloc ?_ _) | (with_reducible refine Kd.C_drewN ?_ _) | (with_reducible refine Kd.C_drew ?_)))
                      (case side2 => exact (Kd.R_reads' HO_158009.out).2.1)
                      rintro e w93 ⟨v258, rfl, ho0, hb⟩
                      refine ⟨_, rfl, ?_⟩
                      have n0_ := Aside0.mk (Kd.R_below (by (with_reducible repeat (first | apply rA_ | apply rN_ | apply rD_)); exact HO_158009.out) hb)
                      have n1_ := Aside0.mk (Kd.R_below (by (with_reducible repeat (first | apply rA_ | apply rN_ | apply rD_)); exact HO_172009.out) hb)
                      have n2_ := Aside0.mk (Kd.R_lower ho0 (bz_ (by repeat (first | (with_reducible first | exact HB.out | apply lA_ | apply lN_ | apply l1_ | refine below_set ?_ GE157.out | refine below_set ?_ GE171.out) | exact HB.out))))
                      have n3_ := Aside0.mk (bb_ (g := gb157) (o := .cells #[.int .u64 x158000_3, .int .u64 x158001_3, .int .u64 x158002_3, .string x158003_3, .string x158004_3, .int .i64 x158005_3, .int .i64 x158006_3, .int .u64 x158007_3, .int .u64 x158008_3, .slice Ao79 x158009_3.length co79] 40 (0, 0)) (by (with_reducible repeat (first | refine bN_ ?_ _ | refine bD_ ?_ | refine bA_ ?_ _)); exact BK157.out) hb)
                      have n4_ := Aside0.mk (bb_ (g := gb171) (o := .cells #[.int .u64 x172000_3, .int .u64 x172001_3, .int .u64 x172002_3, .string x172003_3, .string x172004_3, .int .i64 x172005_3, .int .i64 x172006_3, .int .u64 x172007_3, .int .u64 x172008_3, .slice Ao81 x172009_3.length co81] 40 (0, 0)) (by (with_reducible repeat (first | refine bN_ ?_ _ | refine bD_ ?_ | refine bA_ ?_ _)); exact BK171.out) hb)
                      have n5_ := Aside0.mk (ls_ (by repeat (first | (with_reducible first | exact HB.out | apply lA_ | apply lN_ | apply l1_ | refine below_set ?_ GE157.out | refine below_set ?_ GE171.out) | exact HB.out)) hb)
                      clear HO_158009
                      clear HO_172009
                      clear BK157
                      clear BK171
                      clear HB
                      have HO_158009 := n0_
                      have HO_172009 := n1_
                      have HO259 := n2_
                      have BK157 := n3_
                      have BK171 := n4_
                      have HB := n5_
                      clear n0_ n1_ n2_ n3_ n4_ n5_
                      (try clear hb)
                      (try clear hb2)
                      (try clear hk)
                      (try clear hi)
                      (try clear ho0)
                      obtain ⟨Ao94, co94, eo94⟩ := Kd.R_slice HO259.out
                      (first | subst eo94 | (injection eo94 with f1_ f2_ f3_; have f4_ := f1_.symm; have f5_ := f3_.symm; clear f1_ f2_ f3_; subst f4_; subst f5_))
                      refine hK.out _ _ ⟨(bc1_ BK157.out 0).trans rfl, (bc1_ BK157.out 1).trans rfl, (bc1_ BK157.out 2).trans rfl, (bc1_ BK157.out 3).trans rfl, (bc1_ BK157.out 4).trans rfl, (bc1_ BK157.out 5).trans rfl, (bc1_ BK157.out 6).trans rfl, (bc1_ BK157.out 7).trans rfl, (bc1_ BK157.out 8).trans rfl, (bc1_ BK157.out 9).trans rfl, (bc_ HB.out hw247_0), (bc_ HB.out hw247_1), (bc_ HB.out hw247_2), (bc_ HB.out hw247_3), (bc_ HB.out hw247_4), (bc_ HB.out hw247_5), (bc_ HB.out hw247_6), (bc_ HB.out hw247_7), (bc_ HB.out hw247_8), (bc_ HB.out hw247_9)⟩ (fun hHeld => ?_)
                      clear hK K
                      refine norm_ (a' := ?_) ?_ ?_
                      rotate_left
                      ·show Act.put _ (some 94) _ = _
                       simp only [Act.put, sb_, sz_, ss_, i64_w, i32_w]
                       rfl
                      refine one_ (i := 6) (N := some 95) #[true, true, true, true, true, true, true, false] rfl rfl (one_of HT_.out (by kernel_rfl)) (by decide) (fun K hK => ?_)
                      refine goes_ Try.func25 (by kernel_rfl) rfl #[.agg #[.int .u64 ((rd_T37 l0 x11_4).f0), .int .u64 ((rd_T37 l0 x11_4).f1), .int .u64 ((rd_T37 l0 x11_4).f2), .string ((rd_T37 l0 x11_4).f3), .string ((rd_T37 l0 x11_4).f4), .int .i64 ((rd_T37 l0 x11_4).f5), .int .i64 ((rd_T37 l0 x11_4).f6), .int .u64 ((rd_T37 l0 x11_4).f7), .int .u64 ((rd_T37 l0 x11_4).f8), .slice A247_9 ((rd_T37 l0 x11_4).f9).length c247_9], .agg #[.int .u64 t248, .int .u64 t249, .int .u64 t250, .string t251, .string t252, .int .i64 t253, .int .i64 t254, .int .u64 t255, .int .u64 t256, .slice Ao94 t257.length co94]] (by rfl) rfl rfl (by (try simp only [List.map_toArray, List.map_cons, List.map_nil]); first | done | rfl | (simp only [List.length_drop, List.length_take]; rfl)) ?_
                      with_reducible refine (tallyroomref06_Compare.calls ((rd_T37 l0 x11_4).f0) ((rd_T37 l0 x11_4).f1) ((rd_T37 l0 x11_4).f2) ((rd_T37 l0 x11_4).f3) ((rd_T37 l0 x11_4).f4) ((rd_T37 l0 x11_4).f5) ((rd_T37 l0 x11_4).f6) ((rd_T37 l0 x11_4).f7) ((rd_T37 l0 x11_4).f8) _ _ ((rd_T37 l0 x11_4).f9) t248 t249 t250 t251 t252 t253 t254 t255 t256 _ _ t257 t260 _ ?side1 ?side2 ?side3 ?side4 A89.out).mono ?_
                      (case side1 => repeat (first | exact (Kd.C_below HR247_9.out HB.out) | (with_reducible refine Kd.C_alloc ?_ _) | (with_reducible refine Kd.C_drewN ?_ _) | (with_reducible refine Kd.C_drew ?_)))
                      (case side2 => exact HC247_9.out)
                      (case side3 => repeat (first | exact (Kd.R_reads' HO259.out).2.2 | (with_reducible refine Kd.C_alloc ?_ _) | (with_reducible refine Kd.C_drewN ?_ _) | (with_reducible refine Kd.C_drew ?_)))
                      (case side4 => exact (Kd.R_reads' HO259.out).2.1)
                      rintro e w95 ⟨rfl, hb⟩
                      refine ⟨_, rfl, ?_⟩
                      have n0_ := Aside0.mk (Kd.R_below (by (with_reducible repeat (first | apply rA_ | apply rN_ | apply rD_)); exact HO_158009.out) hb)
                      have n1_ := Aside0.mk (Kd.R_below (by (with_reducible repeat (first | apply rA_ | apply rN_ | apply rD_)); exact HO_172009.out) hb)
                      have n2_ := Aside0.mk (Kd.R_below (by (with_reducible repeat (first | apply rA_ | apply rN_ | apply rD_)); exact HO259.out) hb)
                      have n3_ := Aside0.mk (bb_ (g := gb157) (o := .cells #[.int .u64 x158000_3, .int .u64 x158001_3, .int .u64 x158002_3, .string x158003_3, .string x158004_3, .int .i64 x158005_3, .int .i64 x158006_3, .int .u64 x158007_3, .int .u64 x158008_3, .slice Ao79 x158009_3.length co79] 40 (0, 0)) (by (with_reducible repeat (first | refine bN_ ?_ _ | refine bD_ ?_ | refine bA_ ?_ _)); exact BK157.out) hb)
                      have n4_ := Aside0.mk (bb_ (g := gb171) (o := .cells #[.int .u64 x172000_3, .int .u64 x172001_3, .int .u64 x172002_3, .string x172003_3, .string x172004_3, .int .i64 x172005_3, .int .i64 x172006_3, .int .u64 x172007_3, .int .u64 x172008_3, .slice Ao81 x172009_3.length co81] 40 (0, 0)) (by (with_reducible repeat (first | refine bN_ ?_ _ | refine bD_ ?_ | refine bA_ ?_ _)); exact BK171.out) hb)
                      have n5_ := Aside0.mk (ls_ (by repeat (first | (with_reducible first | exact HB.out | apply lA_ | apply lN_ | apply l1_ | refine below_set ?_ GE157.out | refine below_set ?_ GE171.out) | exact HB.out)) hb)
                      clear HO_158009
                      clear HO_172009
                      clear HO259
                      clear BK157
                      clear BK171
                      clear HB
                      have HO_158009 := n0_
                      have HO_172009 := n1_
                      have HO259 := n2_
                      have BK157 := n3_
                      have BK171 := n4_
                      have HB := n5_
                      clear n0_ n1_ n2_ n3_ n4_ n5_
                      (try clear hb)
                      (try clear hb2)
                      (try clear hk)
                      (try clear hi)
                      refine hK.out _ _ ⟨(bc1_ BK157.out 0).trans rfl, (bc1_ BK157.out 1).trans rfl, (bc1_ BK157.out 2).trans rfl, (bc1_ BK157.out 3).trans rfl, (bc1_ BK157.out 4).trans rfl, (bc1_ BK157.out 5).trans rfl, (bc1_ BK157.out 6).trans rfl, (bc1_ BK157.out 7).trans rfl, (bc1_ BK157.out 8).trans rfl, (bc1_ BK157.out 9).trans rfl, (bc_ HB.out hw247_0), (bc_ HB.out hw247_1), (bc_ HB.out hw247_2), (bc_ HB.out hw247_3), (bc_ HB.out hw247_4), (bc_ HB.out hw247_5), (bc_ HB.out hw247_6), (bc_ HB.out hw247_7), (bc_ HB.out hw247_8), (bc_ HB.out hw247_9)⟩ (fun hHeld => ?_)
                      clear hK K
                      refine norm_ (a' := ?_) ?_ ?_
                      rotate_left
                      ·show Act.put _ (some 95) _ = _
                       simp only [Act.put, sb_, sz_, ss_, i64_w, i32_w]
                       rfl
                      refine pure_ (i := 7) (N := some 12) (v := ?_) (a' := ?_) #[true, true, true, true, true, true, true, true] rfl rfl (any_of HT_.out (by kernel_rfl)) (fun _ _ _ h => h) (Or.inl ⟨by rfl, ?_⟩) ?_ ?_
                      rotate_left
                      ·intro w'
                       go_simp
                       with_reducible rfl
                      rotate_left
                      ·simp only [Act.put, sb_, sz_, ss_, i64_w, i32_w]
                       rfl
                      refine done_ (done_of HT_.out (by kernel_rfl)) ?_
                      try go_wp2
                      go_ret
                      exact ⟨by first | rfl | (have e_ := Option.some.inj (A16.out.symm.trans A21.out); simp only [Prod.mk.injEq] at e_; obtain ⟨rfl, rfl, rfl, rfl, rfl, rfl, rfl, rfl, rfl, rfl⟩ := e_; first | rfl | (simp [*, errW_none, errW_some] <;> rfl)) | (have e_ := Option.some.inj (A16.out.symm.trans A33.out); simp only [Prod.mk.injEq] at e_; obtain ⟨rfl, rfl, rfl, rfl, rfl, rfl, rfl, rfl, rfl, rfl⟩ := e_; first | rfl | (simp [*, errW_none, errW_some] <;> rfl)) | (have e_ := Option.some.inj (A21.out.symm.trans A33.out); simp only [Prod.mk.injEq] at e_; obtain ⟨rfl, rfl, rfl, rfl, rfl, rfl, rfl, rfl, rfl, rfl⟩ := e_; first | rfl | (simp [*, errW_none, errW_some] <;> rfl)) | (have e_ := Option.some.inj (A34.out.symm.trans A39.out); simp only [Prod.mk.injEq] at e_; obtain ⟨rfl, rfl, rfl, rfl, rfl, rfl, rfl, rfl, rfl, rfl⟩ := e_; first | rfl | (simp [*, errW_none, errW_some] <;> rfl)) | (have e_ := Option.some.inj (A40.out.symm.trans A74.out); simp only [Prod.mk.injEq] at e_; obtain ⟨rfl, rfl, rfl, rfl, rfl, rfl, rfl, rfl, rfl, rfl⟩ := e_; first | rfl | (simp [*, errW_none, errW_some] <;> rfl)) | (simp [errW_none, errW_some] <;> rfl) | (simp only [← hji18]; first | rfl | (simp [errW_none, errW_some] <;> rfl)) | (simp [*, errW_none, errW_some] <;> rfl), by repeat (first | (with_reducible first | exact HB.out | apply lA_ | apply lN_ | apply l1_ | refine below_set ?_ GE157.out | refine below_set ?_ GE171.out) | exact HB.out)⟩
                     ·rw [if_neg c91] at H
                      have c91b0 : decide (t260 < 0) = false := decide_eq_false c91
                      clear c91
                      have H' := Aside0.mk H
                      clear H
                      try go_wp2
                      have n0_ := Aside0.mk (rD_ HO_158009.out)
                      have n1_ := Aside0.mk (rD_ HO_172009.out)
                      have n2_ := Aside0.mk (bD_ BK157.out)
                      have n3_ := Aside0.mk (bD_ BK171.out)
                      have n4_ := Aside0.mk (l1_ HB.out)
                      clear HO_158009
                      clear HO_172009
                      clear BK157
                      clear BK171
                      clear HB
                      have HO_158009 := n0_
                      have HO_172009 := n1_
                      have BK157 := n2_
                      have BK171 := n3_
                      have HB := n4_
                      clear n0_ n1_ n2_ n3_ n4_
                      have p247 : 0 ≤ (x11_4 : Int) := of_decide_eq_true (by first | (with_reducible assumption) | assumption)
                      have q247 : x11_4 < (l0.length : Int) := of_decide_eq_true (by first | (with_reducible assumption) | assumption)
                      obtain ⟨ad247, A247_9, c247_9, e247, hx247_0, hx247_1, hx247_2, hx247_3, hx247_4, hx247_5, hx247_6, hx247_7, hx247_8, hx247_9, hl247_9, hi247_9⟩ := at_T37 HR0.out x11_4 p247 q247
                      have hw247_9 := hx247_9
                      have hw247_8 := hx247_8
                      have hw247_7 := hx247_7
                      have hw247_6 := hx247_6
                      have hw247_5 := hx247_5
                      have hw247_4 := hx247_4
                      have hw247_3 := hx247_3
                      have hw247_2 := hx247_2
                      have hw247_1 := hx247_1
                      have hw247_0 := hx247_0
                      obtain rfl : ad144 = ad247 := (by injection e247)
                      replace hx247_0 := bc_ HB.out hx247_0
                      replace hx247_1 := bc_ HB.out hx247_1
                      replace hx247_2 := bc_ HB.out hx247_2
                      replace hx247_3 := bc_ HB.out hx247_3
                      replace hx247_4 := bc_ HB.out hx247_4
                      replace hx247_5 := bc_ HB.out hx247_5
                      replace hx247_6 := bc_ HB.out hx247_6
                      replace hx247_7 := bc_ HB.out hx247_7
                      replace hx247_8 := bc_ HB.out hx247_8
                      replace hx247_9 := bc_ HB.out hx247_9
                      have HR247_9 := Aside0.mk hi247_9
                      have HC247_9 := Aside0.mk hl247_9
                      clear hi247_9 hl247_9
                      replace p247 := eq_true p247
                      replace q247 := eq_true q247
                      refine start_ (n := 8) (S := fun w' => w'.cell? ⟨gb157, 0, none⟩ = some (.int .u64 x158000_3) ∧ w'.cell? ⟨gb157, 1, none⟩ = some (.int .u64 x158001_3) ∧ w'.cell? ⟨gb157, 2, none⟩ = some (.int .u64 x158002_3) ∧ w'.cell? ⟨gb157, 3, none⟩ = some (.string x158003_3) ∧ w'.cell? ⟨gb157, 4, none⟩ = some (.string x158004_3) ∧ w'.cell? ⟨gb157, 5, none⟩ = some (.int .i64 x158005_3) ∧ w'.cell? ⟨gb157, 6, none⟩ = some (.int .i64 x158006_3) ∧ w'.cell? ⟨gb157, 7, none⟩ = some (.int .u64 x158007_3) ∧ w'.cell? ⟨gb157, 8, none⟩ = some (.int .u64 x158008_3) ∧ w'.cell? ⟨gb157, 9, none⟩ = some (.slice Ao79 x158009_3.length co79) ∧ w'.cell? (ad144.add ((x11_4).toNat * 10)) = some (.int .u64 ((rd_T37 l0 x11_4).f0)) ∧ w'.cell? ⟨(ad144.add ((x11_4).toNat * 10)).block, (ad144.add ((x11_4).toNat * 10)).off + 1, none⟩ = some (.int .u64 ((rd_T37 l0 x11_4).f1)) ∧ w'.cell? ⟨(ad144.add ((x11_4).toNat * 10)).block, (ad144.add ((x11_4).toNat * 10)).off + 2, none⟩ = some (.int .u64 ((rd_T37 l0 x11_4).f2)) ∧ w'.cell? ⟨(ad144.add ((x11_4).toNat * 10)).block, (ad144.add ((x11_4).toNat * 10)).off + 3, none⟩ = some (.string ((rd_T37 l0 x11_4).f3)) ∧ w'.cell? ⟨(ad144.add ((x11_4).toNat * 10)).block, (ad144.add ((x11_4).toNat * 10)).off + 4, none⟩ = some (.string ((rd_T37 l0 x11_4).f4)) ∧ w'.cell? ⟨(ad144.add ((x11_4).toNat * 10)).block, (ad144.add ((x11_4).toNat * 10)).off + 5, none⟩ = some (.int .i64 ((rd_T37 l0 x11_4).f5)) ∧ w'.cell? ⟨(ad144.add ((x11_4).toNat * 10)).block, (ad144.add ((x11_4).toNat * 10)).off + 6, none⟩ = some (.int .i64 ((rd_T37 l0 x11_4).f6)) ∧ w'.cell? ⟨(ad144.add ((x11_4).toNat * 10)).block, (ad144.add ((x11_4).toNat * 10)).off + 7, none⟩ = some (.int .u64 ((rd_T37 l0 x11_4).f7)) ∧ w'.cell? ⟨(ad144.add ((x11_4).toNat * 10)).block, (ad144.add ((x11_4).toNat * 10)).off + 8, none⟩ = some (.int .u64 ((rd_T37 l0 x11_4).f8)) ∧ w'.cell? ⟨(ad144.add ((x11_4).toNat * 10)).block, (ad144.add ((x11_4).toNat * 10)).off + 9, none⟩ = some (.slice A247_9 ((rd_T37 l0 x11_4).f9).length c247_9)) (ds := []) #[false, false, false, false, false, false, false, false] (by kernel_rfl) rfl rfl ⟨(bc1_ BK157.out 0).trans rfl, (bc1_ BK157.out 1).trans rfl, (bc1_ BK157.out 2).trans rfl, (bc1_ BK157.out 3).trans rfl, (bc1_ BK157.out 4).trans rfl, (bc1_ BK157.out 5).trans rfl, (bc1_ BK157.out 6).trans rfl, (bc1_ BK157.out 7).trans rfl, (bc1_ BK157.out 8).trans rfl, (bc1_ BK157.out 9).trans rfl, (bc_ HB.out hw247_0), (bc_ HB.out hw247_1), (bc_ HB.out hw247_2), (bc_ HB.out hw247_3), (bc_ HB.out hw247_4), (bc_ HB.out hw247_5), (bc_ HB.out hw247_6), (bc_ HB.out hw247_7), (bc_ HB.out hw247_8), (bc_ HB.out hw247_9)⟩ (fun hHeld => ?_); refine with_tabW tallyroomlaw09_DigestPrefers.tab24 tallyroomlaw09_DigestPrefers.bits24 (fun HT_ HW_ => ?_)
                      generalize wr.drew = w96 at HO_158009 HO_172009 BK157 BK171 HB HR247_9 hx247_0 hx247_1 hx247_2 hx247_3 hx247_4 hx247_5 hx247_6 hx247_7 hx247_8 hx247_9 hHeld ⊢
                      refine pure_ (i := 0) (N := some 89) (v := ?_) (a' := ?_) #[true, false, false, false, false, false, false, false] rfl rfl (any_of HT_.out (by kernel_rfl)) (fun _ _ _ h => h) (Or.inl ⟨by rfl, ?_⟩) ?_ ?_
                      rotate_left
                      ·intro w'
                       go_simp
                       with_reducible rfl
                      rotate_left
                      ·simp only [Act.put, sb_, sz_, ss_, i64_w, i32_w]
                       rfl
                      refine pure_ (i := 1) (N := some 90) (v := ?_) (a' := ?_) #[true, true, false, false, false, false, false, false] rfl rfl (any_of HT_.out (by kernel_rfl)) (fun _ _ _ h => h) (Or.inl ⟨by rfl, ?_⟩) ?_ ?_
                      rotate_left
                      ·intro w'
                       go_simp
                       with_reducible rfl
                      rotate_left
                      ·simp only [Act.put, sb_, sz_, ss_, i64_w, i32_w]
                       rfl
                      refine pure_ (i := 2) (N := some 91) (v := ?_) (a' := ?_) #[true, true, true, false, false, false, false, false] rfl rfl (any_of HT_.out (by kernel_rfl)) (fun _ _ _ h => h) (Or.inl ⟨by rfl, ?_⟩) ?_ ?_
                      rotate_left
                      ·intro w'
                       go_simp
                       with_reducible rfl
                      rotate_left
                      ·simp only [Act.put, sb_, sz_, ss_, i64_w, i32_w]
                       rfl
                      refine take_ (i := 3) (N := some 92) (v := ?_) (a' := ?_) #[true, true, true, true, false, false, false, false] rfl rfl (take_ofW HT_.out HW_.out (by kernel_rfl)) (fun _ _ _ h => h) (Or.inl ⟨by rfl, ?_⟩) hHeld ?_ ?_
                      rotate_left
                      ·rintro w' ⟨s0, s1, s2, s3, s4, s5, s6, s7, s8, s9, s10, s11, s12, s13, s14, s15, s16, s17, s18, s19⟩
                       go_simp
                       with_reducible rfl
                      rotate_left
                      ·simp only [Act.put, sb_, sz_, ss_, i64_w, i32_w]
                       rfl
                      refine take_ (i := 4) (N := some 93) (v := ?_) (a' := ?_) #[true, true, true, true, true, false, false, false] rfl rfl (take_ofW HT_.out HW_.out (by kernel_rfl)) (fun _ _ _ h => h) (Or.inl ⟨by rfl, ?_⟩) hHeld ?_ ?_
                      rotate_left
                      ·rintro w' ⟨s0, s1, s2, s3, s4, s5, s6, s7, s8, s9, s10, s11, s12, s13, s14, s15, s16, s17, s18, s19⟩
                       go_simp
                       with_reducible rfl
                      rotate_left
                      ·simp only [Act.put, sb_, sz_, ss_, i64_w, i32_w]
                       rfl
                      refine one_ (i := 5) (N := some 94) #[true, true, true, true, true, true, false, false] rfl rfl (one_of HT_.out (by kernel_rfl)) (by decide) (fun K hK => ?_)
                      refine goes_ Try.func24 (by kernel_rfl) rfl #[.agg #[.int .u64 x158000_3, .int .u64 x158001_3, .int .u64 x158002_3, .string x158003_3, .string x158004_3, .int .i64 x158005_3, .int .i64 x158006_3, .int .u64 x158007_3, .int .u64 x158008_3, .slice Ao79 x158009_3.length co79]] (by rfl) rfl rfl (by (try simp only [List.map_toArray, List.map_cons, List.map_nil]); first | done | rfl | (simp only [List.length_drop, List.length_take]; rfl)) ?_
                      with_reducible refine (tallyroomlaw06_To.calls k4 x158000_3 x158001_3 x158002_3 x158003_3 x158004_3 x158005_3 x158006_3 x158007_3 x158008_3 _ _ x158009_3 t248 t249 t250 t251 t252 t253 t254 t255 t256 t257 _ ?side1 ?side2 A88.out).mono ?_
                      (case side1 => repeat (first | exact (Kd.R_reads' HO_158009.out).2.2 | (with_reducible refine Kd.C_alloc ?_ _) | (with_reducible refine Kd.C_drewN ?_ _) | (with_reducible refine Kd.C_drew ?_)))
                      (case side2 => exact (Kd.R_reads' HO_158009.out).2.1)
                      rintro e w97 ⟨v258, rfl, ho0, hb⟩
                      refine ⟨_, rfl, ?_⟩
                      have n0_ := Aside0.mk (Kd.R_below (by (with_reducible repeat (first | apply rA_ | apply rN_ | apply rD_)); exact HO_158009.out) hb)
                      have n1_ := Aside0.mk (Kd.R_below (by (with_reducible repeat (first | apply rA_ | apply rN_ | apply rD_)); exact HO_172009.out) hb)
                      have n2_ := Aside0.mk (Kd.R_lower ho0 (bz_ (by repeat (first | (with_reducible first | exact HB.out | apply lA_ | apply lN_ | apply l1_ | refine below_set ?_ GE157.out | refine below_set ?_ GE171.out) | exact HB.out))))
                      have n3_ := Aside0.mk (bb_ (g := gb157) (o := .cells #[.int .u64 x158000_3, .int .u64 x158001_3, .int .u64 x158002_3, .string x158003_3, .string x158004_3, .int .i64 x158005_3, .int .i64 x158006_3, .int .u64 x158007_3, .int .u64 x158008_3, .slice Ao79 x158009_3.length co79] 40 (0, 0)) (by (with_reducible repeat (first | refine bN_ ?_ _ | refine bD_ ?_ | refine bA_ ?_ _)); exact BK157.out) hb)
                      have n4_ := Aside0.mk (bb_ (g := gb171) (o := .cells #[.int .u64 x172000_3, .int .u64 x172001_3, .int .u64 x172002_3, .string x172003_3, .string x172004_3, .int .i64 x172005_3, .int .i64 x172006_3, .int .u64 x172007_3, .int .u64 x172008_3, .slice Ao81 x172009_3.length co81] 40 (0, 0)) (by (with_reducible repeat (first | refine bN_ ?_ _ | refine bD_ ?_ | refine bA_ ?_ _)); exact BK171.out) hb)
                      have n5_ := Aside0.mk (ls_ (by repeat (first | (with_reducible first | exact HB.out | apply lA_ | apply lN_ | apply l1_ | refine below_set ?_ GE157.out | refine below_set ?_ GE171.out) | exact HB.out)) hb)
                      clear HO_158009
                      clear HO_172009
                      clear BK157
                      clear BK171
                      clear HB
                      have HO_158009 := n0_
                      have HO_172009 := n1_
                      have HO259 := n2_
                      have BK157 := n3_
                      have BK171 := n4_
                      have HB := n5_
                      clear n0_ n1_ n2_ n3_ n4_ n5_
                      (try clear hb)
                      (try clear hb2)
                      (try clear hk)
                      (try clear hi)
                      (try clear ho0)
                      obtain ⟨Ao98, co98, eo98⟩ := Kd.R_slice HO259.out
                      (first | subst eo98 | (injection eo98 with f1_ f2_ f3_; have f4_ := f1_.symm; have f5_ := f3_.symm; clear f1_ f2_ f3_; subst f4_; subst f5_))
                      refine hK.out _ _ ⟨(bc1_ BK157.out 0).trans rfl, (bc1_ BK157.out 1).trans rfl, (bc1_ BK157.out 2).trans rfl, (bc1_ BK157.out 3).trans rfl, (bc1_ BK157.out 4).trans rfl, (bc1_ BK157.out 5).trans rfl, (bc1_ BK157.out 6).trans rfl, (bc1_ BK157.out 7).trans rfl, (bc1_ BK157.out 8).trans rfl, (bc1_ BK157.out 9).trans rfl, (bc_ HB.out hw247_0), (bc_ HB.out hw247_1), (bc_ HB.out hw247_2), (bc_ HB.out hw247_3), (bc_ HB.out hw247_4), (bc_ HB.out hw247_5), (bc_ HB.out hw247_6), (bc_ HB.out hw247_7), (bc_ HB.out hw247_8), (bc_ HB.out hw247_9)⟩ (fun hHeld => ?_)
                      clear hK K
                      refine norm_ (a' := ?_) ?_ ?_
                      rotate_left
                      ·show Act.put _ (some 94) _ = _
                       simp only [Act.put, sb_, sz_, ss_, i64_w, i32_w]
                       rfl
                      refine one_ (i := 6) (N := some 95) #[true, true, true, true, true, true, true, false] rfl rfl (one_of HT_.out (by kernel_rfl)) (by decide) (fun K hK => ?_)
                      refine goes_ Try.func25 (by kernel_rfl) rfl #[.agg #[.int .u64 ((rd_T37 l0 x11_4).f0), .int .u64 ((rd_T37 l0 x11_4).f1), .int .u64 ((rd_T37 l0 x11_4).f2), .string ((rd_T37 l0 x11_4).f3), .string ((rd_T37 l0 x11_4).f4), .int .i64 ((rd_T37 l0 x11_4).f5), .int .i64 ((rd_T37 l0 x11_4).f6), .int .u64 ((rd_T37 l0 x11_4).f7), .int .u64 ((rd_T37 l0 x11_4).f8), .slice A247_9 ((rd_T37 l0 x11_4).f9).length c247_9], .agg #[.int .u64 t248, .int .u64 t249, .int .u64 t250, .string t251, .string t252, .int .i64 t253, .int .i64 t254, .int .u64 t255, .int .u64 t256, .slice Ao98 t257.length co98]] (by rfl) rfl rfl (by (try simp only [List.map_toArray, List.map_cons, List.map_nil]); first | done | rfl | (simp only [List.length_drop, List.length_take]; rfl)) ?_
                      with_reducible refine (tallyroomref06_Compare.calls ((rd_T37 l0 x11_4).f0) ((rd_T37 l0 x11_4).f1) ((rd_T37 l0 x11_4).f2) ((rd_T37 l0 x11_4).f3) ((rd_T37 l0 x11_4).f4) ((rd_T37 l0 x11_4).f5) ((rd_T37 l0 x11_4).f6) ((rd_T37 l0 x11_4).f7) ((rd_T37 l0 x11_4).f8) _ _ ((rd_T37 l0 x11_4).f9) t248 t249 t250 t251 t252 t253 t254 t255 t256 _ _ t257 t260 _ ?side1 ?side2 ?side3 ?side4 A89.out).mono ?_
                      (case side1 => repeat (first | exact (Kd.C_below HR247_9.out HB.out) | (with_reducible refine Kd.C_alloc ?_ _) | (with_reducible refine Kd.C_drewN ?_ _) | (with_reducible refine Kd.C_drew ?_)))
                      (case side2 => exact HC247_9.out)
                      (case side3 => repeat (first | exact (Kd.R_reads' HO259.out).2.2 | (with_reducible refine Kd.C_alloc ?_ _) | (with_reducible refine Kd.C_drewN ?_ _) | (with_reducible refine Kd.C_drew ?_)))
                      (case side4 => exact (Kd.R_reads' HO259.out).2.1)
                      rintro e w99 ⟨rfl, hb⟩
                      refine ⟨_, rfl, ?_⟩
                      have n0_ := Aside0.mk (Kd.R_below (by (with_reducible repeat (first | apply rA_ | apply rN_ | apply rD_)); exact HO_158009.out) hb)
                      have n1_ := Aside0.mk (Kd.R_below (by (with_reducible repeat (first | apply rA_ | apply rN_ | apply rD_)); exact HO_172009.out) hb)
                      have n2_ := Aside0.mk (Kd.R_below (by (with_reducible repeat (first | apply rA_ | apply rN_ | apply rD_)); exact HO259.out) hb)
                      have n3_ := Aside0.mk (bb_ (g := gb157) (o := .cells #[.int .u64 x158000_3, .int .u64 x158001_3, .int .u64 x158002_3, .string x158003_3, .string x158004_3, .int .i64 x158005_3, .int .i64 x158006_3, .int .u64 x158007_3, .int .u64 x158008_3, .slice Ao79 x158009_3.length co79] 40 (0, 0)) (by (with_reducible repeat (first | refine bN_ ?_ _ | refine bD_ ?_ | refine bA_ ?_ _)); exact BK157.out) hb)
                      have n4_ := Aside0.mk (bb_ (g := gb171) (o := .cells #[.int .u64 x172000_3, .int .u64 x172001_3, .int .u64 x172002_3, .string x172003_3, .string x172004_3, .int .i64 x172005_3, .int .i64 x172006_3, .int .u64 x172007_3, .int .u64 x172008_3, .slice Ao81 x172009_3.length co81] 40 (0, 0)) (by (with_reducible repeat (first | refine bN_ ?_ _ | refine bD_ ?_ | refine bA_ ?_ _)); exact BK171.out) hb)
                      have n5_ := Aside0.mk (ls_ (by repeat (first | (with_reducible first | exact HB.out | apply lA_ | apply lN_ | apply l1_ | refine below_set ?_ GE157.out | refine below_set ?_ GE171.out) | exact HB.out)) hb)
                      clear HO_158009
                      clear HO_172009
                      clear HO259
                      clear BK157
                      clear BK171
                      clear HB
                      have HO_158009 := n0_
                      have HO_172009 := n1_
                      have HO259 := n2_
                      have BK157 := n3_
                      have BK171 := n4_
                      have HB := n5_
                      clear n0_ n1_ n2_ n3_ n4_ n5_
                      (try clear hb)
                      (try clear hb2)
                      (try clear hk)
                      (try clear hi)
                      refine hK.out _ _ ⟨(bc1_ BK157.out 0).trans rfl, (bc1_ BK157.out 1).trans rfl, (bc1_ BK157.out 2).trans rfl, (bc1_ BK157.out 3).trans rfl, (bc1_ BK157.out 4).trans rfl, (bc1_ BK157.out 5).trans rfl, (bc1_ BK157.out 6).trans rfl, (bc1_ BK157.out 7).trans rfl, (bc1_ BK157.out 8).trans rfl, (bc1_ BK157.out 9).trans rfl, (bc_ HB.out hw247_0), (bc_ HB.out hw247_1), (bc_ HB.out hw247_2), (bc_ HB.out hw247_3), (bc_ HB.out hw247_4), (bc_ HB.out hw247_5), (bc_ HB.out hw247_6), (bc_ HB.out hw247_7), (bc_ HB.out hw247_8), (bc_ HB.out hw247_9)⟩ (fun hHeld => ?_)
                      clear hK K
                      refine norm_ (a' := ?_) ?_ ?_
                      rotate_left
                      ·show Act.put _ (some 95) _ = _
                       simp only [Act.put, sb_, sz_, ss_, i64_w, i32_w]
                       rfl
                      refine pure_ (i := 7) (N := some 12) (v := ?_) (a' := ?_) #[true, true, true, true, true, true, true, true] rfl rfl (any_of HT_.out (by kernel_rfl)) (fun _ _ _ h => h) (Or.inl ⟨by rfl, ?_⟩) ?_ ?_
                      rotate_left
                      ·intro w'
                       go_simp
                       with_reducible rfl
                      rotate_left
                      ·simp only [Act.put, sb_, sz_, ss_, i64_w, i32_w]
                       rfl
                      refine done_ (done_of HT_.out (by kernel_rfl)) ?_
                      try go_wp2
                      go_roundg k4
                      case measure => have := HJ4.out; have := HK2.out; have := HK3.out; have := HK4.out; omega
                      case rel => exact ⟨(true), (wrap64 (x11_4 + 1)), (by first | rfl | (simp; done) | (simp [*]; done)), (by first | rfl | (simp; done) | (simp [*]; done)), H', ⟨by have := HJ4.out; have := HK2.out; have := HK3.out; have := HK4.out; omega⟩, ⟨by (with_reducible repeat (first | apply rA_ | apply rN_ | apply rD_)); exact HO_158009.out⟩, ⟨by (with_reducible repeat (first | apply rA_ | apply rN_ | apply rD_)); exact HO_172009.out⟩, ⟨by (with_reducible repeat (first | refine bN_ ?_ _ | refine bD_ ?_ | refine bA_ ?_ _)); exact BK157.out⟩, ⟨by (with_reducible repeat (first | refine bN_ ?_ _ | refine bD_ ?_ | refine bA_ ?_ _)); exact BK171.out⟩, ⟨by repeat (first | (with_reducible first | exact HB.out | apply lA_ | apply lN_ | apply l1_ | refine below_set ?_ GE157.out | refine below_set ?_ GE171.out) | exact HB.out)⟩⟩
                    ·replace c90 := Bool.eq_false_iff.mpr c90
                     subst c90
                     have H1 : (if t260 < 0 then (some false) else (tallyroomlaw09_DigestPrefers.l2 k4 l0 (t260 == 0) (wrap64 (x11_4 + 1)) x158000_3 x158001_3 x158002_3 x158003_3 x158004_3 x158005_3 x158006_3 x158007_3 x158008_3 x158009_3)) = some r := by rw [if_neg (show ¬ (false = true) by decide)] at H; exact H
                     clear H
                     have H := H1
                     clear H1
                     by_cases c100 : t260 < 0
                     ·rw [if_pos c100] at H
                      have c100b0 : decide (t260 < 0) = true := decide_eq_true c100
                      clear c100
                      obtain rfl := Option.some.inj H
                      try go_wp2
                      have n0_ := Aside0.mk (rD_ HO_158009.out)
                      have n1_ := Aside0.mk (rD_ HO_172009.out)
                      have n2_ := Aside0.mk (bD_ BK157.out)
                      have n3_ := Aside0.mk (bD_ BK171.out)
                      have n4_ := Aside0.mk (l1_ HB.out)
                      clear HO_158009
                      clear HO_172009
                      clear BK157
                      clear BK171
                      clear HB
                      have HO_158009 := n0_
                      have HO_172009 := n1_
                      have BK157 := n2_
                      have BK171 := n3_
                      have HB := n4_
                      clear n0_ n1_ n2_ n3_ n4_
                      have p247 : 0 ≤ (x11_4 : Int) := of_decide_eq_true (by first | (with_reducible assumption) | assumption)
                      have q247 : x11_4 < (l0.length : Int) := of_decide_eq_true (by first | (with_reducible assumption) | assumption)
                      obtain ⟨ad247, A247_9, c247_9, e247, hx247_0, hx247_1, hx247_2, hx247_3, hx247_4, hx247_5, hx247_6, hx247_7, hx247_8, hx247_9, hl247_9, hi247_9⟩ := at_T37 HR0.out x11_4 p247 q247
                      have hw247_9 := hx247_9
                      have hw247_8 := hx247_8
                      have hw247_7 := hx247_7
                      have hw247_6 := hx247_6
                      have hw247_5 := hx247_5
                      have hw247_4 := hx247_4
                      have hw247_3 := hx247_3
                      have hw247_2 := hx247_2
                      have hw247_1 := hx247_1
                      have hw247_0 := hx247_0
                      obtain rfl : ad144 = ad247 := (by injection e247)
                      replace hx247_0 := bc_ HB.out hx247_0
                      replace hx247_1 := bc_ HB.out hx247_1
                      replace hx247_2 := bc_ HB.out hx247_2
                      replace hx247_3 := bc_ HB.out hx247_3
                      replace hx247_4 := bc_ HB.out hx247_4
                      replace hx247_5 := bc_ HB.out hx247_5
                      replace hx247_6 := bc_ HB.out hx247_6
                      replace hx247_7 := bc_ HB.out hx247_7
                      replace hx247_8 := bc_ HB.out hx247_8
                      replace hx247_9 := bc_ HB.out hx247_9
                      have HR247_9 := Aside0.mk hi247_9
                      have HC247_9 := Aside0.mk hl247_9
                      clear hi247_9 hl247_9
                      replace p247 := eq_true p247
                      replace q247 := eq_true q247
                      refine start_ (n := 8) (S := fun w' => w'.cell? ⟨gb157, 0, none⟩ = some (.int .u64 x158000_3) ∧ w'.cell? ⟨gb157, 1, none⟩ = some (.int .u64 x158001_3) ∧ w'.cell? ⟨gb157, 2, none⟩ = some (.int .u64 x158002_3) ∧ w'.cell? ⟨gb157, 3, none⟩ = some (.string x158003_3) ∧ w'.cell? ⟨gb157, 4, none⟩ = some (.string x158004_3) ∧ w'.cell? ⟨gb157, 5, none⟩ = some (.int .i64 x158005_3) ∧ w'.cell? ⟨gb157, 6, none⟩ = some (.int .i64 x158006_3) ∧ w'.cell? ⟨gb157, 7, none⟩ = some (.int .u64 x158007_3) ∧ w'.cell? ⟨gb157, 8, none⟩ = some (.int .u64 x158008_3) ∧ w'.cell? ⟨gb157, 9, none⟩ = some (.slice Ao79 x158009_3.length co79) ∧ w'.cell? (ad144.add ((x11_4).toNat * 10)) = some (.int .u64 ((rd_T37 l0 x11_4).f0)) ∧ w'.cell? ⟨(ad144.add ((x11_4).toNat * 10)).block, (ad144.add ((x11_4).toNat * 10)).off + 1, none⟩ = some (.int .u64 ((rd_T37 l0 x11_4).f1)) ∧ w'.cell? ⟨(ad144.add ((x11_4).toNat * 10)).block, (ad144.add ((x11_4).toNat * 10)).off + 2, none⟩ = some (.int .u64 ((rd_T37 l0 x11_4).f2)) ∧ w'.cell? ⟨(ad144.add ((x11_4).toNat * 10)).block, (ad144.add ((x11_4).toNat * 10)).off + 3, none⟩ = some (.string ((rd_T37 l0 x11_4).f3)) ∧ w'.cell? ⟨(ad144.add ((x11_4).toNat * 10)).block, (ad144.add ((x11_4).toNat * 10)).off + 4, none⟩ = some (.string ((rd_T37 l0 x11_4).f4)) ∧ w'.cell? ⟨(ad144.add ((x11_4).toNat * 10)).block, (ad144.add ((x11_4).toNat * 10)).off + 5, none⟩ = some (.int .i64 ((rd_T37 l0 x11_4).f5)) ∧ w'.cell? ⟨(ad144.add ((x11_4).toNat * 10)).block, (ad144.add ((x11_4).toNat * 10)).off + 6, none⟩ = some (.int .i64 ((rd_T37 l0 x11_4).f6)) ∧ w'.cell? ⟨(ad144.add ((x11_4).toNat * 10)).block, (ad144.add ((x11_4).toNat * 10)).off + 7, none⟩ = some (.int .u64 ((rd_T37 l0 x11_4).f7)) ∧ w'.cell? ⟨(ad144.add ((x11_4).toNat * 10)).block, (ad144.add ((x11_4).toNat * 10)).off + 8, none⟩ = some (.int .u64 ((rd_T37 l0 x11_4).f8)) ∧ w'.cell? ⟨(ad144.add ((x11_4).toNat * 10)).block, (ad144.add ((x11_4).toNat * 10)).off + 9, none⟩ = some (.slice A247_9 ((rd_T37 l0 x11_4).f9).length c247_9)) (ds := []) #[false, false, false, false, false, false, false, false] (by kernel_rfl) rfl rfl ⟨(bc1_ BK157.out 0).trans rfl, (bc1_ BK157.out 1).trans rfl, (bc1_ BK157.out 2).trans rfl, (bc1_ BK157.out 3).trans rfl, (bc1_ BK157.out 4).trans rfl, (bc1_ BK157.out 5).trans rfl, (bc1_ BK157.out 6).trans rfl, (bc1_ BK157.out 7).trans rfl, (bc1_ BK157.out 8).trans rfl, (bc1_ BK157.out 9).trans rfl, (bc_ HB.out hw247_0), (bc_ HB.out hw247_1), (bc_ HB.out hw247_2), (bc_ HB.out hw247_3), (bc_ HB.out hw247_4), (bc_ HB.out hw247_5), (bc_ HB.out hw247_6), (bc_ HB.out hw247_7), (bc_ HB.out hw247_8), (bc_ HB.out hw247_9)⟩ (fun hHeld => ?_); refine with_tabW tallyroomlaw09_DigestPrefers.tab24 tallyroomlaw09_DigestPrefers.bits24 (fun HT_ HW_ => ?_)
                      generalize wr.drew = w101 at HO_158009 HO_172009 BK157 BK171 HB HR247_9 hx247_0 hx247_1 hx247_2 hx247_3 hx247_4 hx247_5 hx247_6 hx247_7 hx247_8 hx247_9 hHeld ⊢
                      refine pure_ (i := 0) (N := some 89) (v := ?_) (a' := ?_) #[true, false, false, false, false, false, false, false] rfl rfl (any_of HT_.out (by kernel_rfl)) (fun _ _ _ h => h) (Or.inl ⟨by rfl, ?_⟩) ?_ ?_
                      rotate_left
                      ·intro w'
                       go_simp
                       with_reducible rfl
                      rotate_left
                      ·simp only [Act.put, sb_, sz_, ss_, i64_w, i32_w]
                       rfl
                      refine pure_ (i := 1) (N := some 90) (v := ?_) (a' := ?_) #[true, true, false, false, false, false, false, false] rfl rfl (any_of HT_.out (by kernel_rfl)) (fun _ _ _ h => h) (Or.inl ⟨by rfl, ?_⟩) ?_ ?_
                      rotate_left
                      ·intro w'
                       go_simp
                       with_reducible rfl
                      rotate_left
                      ·simp only [Act.put, sb_, sz_, ss_, i64_w, i32_w]
                       rfl
                      refine pure_ (i := 2) (N := some 91) (v := ?_) (a' := ?_) #[true, true, true, false, false, false, false, false] rfl rfl (any_of HT_.out (by kernel_rfl)) (fun _ _ _ h => h) (Or.inl ⟨by rfl, ?_⟩) ?_ ?_
                      rotate_left
                      ·intro w'
                       go_simp
                       with_reducible rfl
                      rotate_left
                      ·simp only [Act.put, sb_, sz_, ss_, i64_w, i32_w]
                       rfl
                      refine take_ (i := 3) (N := some 92) (v := ?_) (a' := ?_) #[true, true, true, true, false, false, false, false] rfl rfl (take_ofW HT_.out HW_.out (by kernel_rfl)) (fun _ _ _ h => h) (Or.inl ⟨by rfl, ?_⟩) hHeld ?_ ?_
                      rotate_left
                      ·rintro w' ⟨s0, s1, s2, s3, s4, s5, s6, s7, s8, s9, s10, s11, s12, s13, s14, s15, s16, s17, s18, s19⟩
                       go_simp
                       with_reducible rfl
                      rotate_left
                      ·simp only [Act.put, sb_, sz_, ss_, i64_w, i32_w]
                       rfl
                      refine take_ (i := 4) (N := some 93) (v := ?_) (a' := ?_) #[true, true, true, true, true, false, false, false] rfl rfl (take_ofW HT_.out HW_.out (by kernel_rfl)) (fun _ _ _ h => h) (Or.inl ⟨by rfl, ?_⟩) hHeld ?_ ?_
                      rotate_left
                      ·rintro w' ⟨s0, s1, s2, s3, s4, s5, s6, s7, s8, s9, s10, s11, s12, s13, s14, s15, s16, s17, s18, s19⟩
                       go_simp
                       with_reducible rfl
                      rotate_left
                      ·simp only [Act.put, sb_, sz_, ss_, i64_w, i32_w]
                       rfl
                      refine one_ (i := 5) (N := some 94) #[true, true, true, true, true, true, false, false] rfl rfl (one_of HT_.out (by kernel_rfl)) (by decide) (fun K hK => ?_)
                      refine goes_ Try.func24 (by kernel_rfl) rfl #[.agg #[.int .u64 x158000_3, .int .u64 x158001_3, .int .u64 x158002_3, .string x158003_3, .string x158004_3, .int .i64 x158005_3, .int .i64 x158006_3, .int .u64 x158007_3, .int .u64 x158008_3, .slice Ao79 x158009_3.length co79]] (by rfl) rfl rfl (by (try simp only [List.map_toArray, List.map_cons, List.map_nil]); first | done | rfl | (simp only [List.length_drop, List.length_take]; rfl)) ?_
                      with_reducible refine (tallyroomlaw06_To.calls k4 x158000_3 x158001_3 x158002_3 x158003_3 x158004_3 x158005_3 x158006_3 x158007_3 x158008_3 _ _ x158009_3 t248 t249 t250 t251 t252 t253 t254 t255 t256 t257 _ ?side1 ?side2 A88.out).mono ?_
                      (case side1 => repeat (first | exact (Kd.R_reads' HO_158009.out).2.2 | (with_reducible refine Kd.C_alloc ?_ _) | (with_reducible refine Kd.C_drewN ?_ _) | (with_reducible refine Kd.C_drew ?_)))
                      (case side2 => exact (Kd.R_reads' HO_158009.out).2.1)
                      rintro e w102 ⟨v258, rfl, ho0, hb⟩
                      refine ⟨_, rfl, ?_⟩
                      have n0_ := Aside0.mk (Kd.R_below (by (with_reducible repeat (first | apply rA_ | apply rN_ | apply rD_)); exact HO_158009.out) hb)
                      have n1_ := Aside0.mk (Kd.R_below (by (with_reducible repeat (first | apply rA_ | apply rN_ | apply rD_)); exact HO_172009.out) hb)
                      have n2_ := Aside0.mk (Kd.R_lower ho0 (bz_ (by repeat (first | (with_reducible first | exact HB.out | apply lA_ | apply lN_ | apply l1_ | refine below_set ?_ GE157.out | refine below_set ?_ GE171.out) | exact HB.out))))
                      have n3_ := Aside0.mk (bb_ (g := gb157) (o := .cells #[.int .u64 x158000_3, .int .u64 x158001_3, .int .u64 x158002_3, .string x158003_3, .string x158004_3, .int .i64 x158005_3, .int .i64 x158006_3, .int .u64 x158007_3, .int .u64 x158008_3, .slice Ao79 x158009_3.length co79] 40 (0, 0)) (by (with_reducible repeat (first | refine bN_ ?_ _ | refine bD_ ?_ | refine bA_ ?_ _)); exact BK157.out) hb)
                      have n4_ := Aside0.mk (bb_ (g := gb171) (o := .cells #[.int .u64 x172000_3, .int .u64 x172001_3, .int .u64 x172002_3, .string x172003_3, .string x172004_3, .int .i64 x172005_3, .int .i64 x172006_3, .int .u64 x172007_3, .int .u64 x172008_3, .slice Ao81 x172009_3.length co81] 40 (0, 0)) (by (with_reducible repeat (first | refine bN_ ?_ _ | refine bD_ ?_ | refine bA_ ?_ _)); exact BK171.out) hb)
                      have n5_ := Aside0.mk (ls_ (by repeat (first | (with_reducible first | exact HB.out | apply lA_ | apply lN_ | apply l1_ | refine below_set ?_ GE157.out | refine below_set ?_ GE171.out) | exact HB.out)) hb)
                      clear HO_158009
                      clear HO_172009
                      clear BK157
                      clear BK171
                      clear HB
                      have HO_158009 := n0_
                      have HO_172009 := n1_
                      have HO259 := n2_
                      have BK157 := n3_
                      have BK171 := n4_
                      have HB := n5_
                      clear n0_ n1_ n2_ n3_ n4_ n5_
                      (try clear hb)
                      (try clear hb2)
                      (try clear hk)
                      (try clear hi)
                      (try clear ho0)
                      obtain ⟨Ao103, co103, eo103⟩ := Kd.R_slice HO259.out
                      (first | subst eo103 | (injection eo103 with f1_ f2_ f3_; have f4_ := f1_.symm; have f5_ := f3_.symm; clear f1_ f2_ f3_; subst f4_; subst f5_))
                      refine hK.out _ _ ⟨(bc1_ BK157.out 0).trans rfl, (bc1_ BK157.out 1).trans rfl, (bc1_ BK157.out 2).trans rfl, (bc1_ BK157.out 3).trans rfl, (bc1_ BK157.out 4).trans rfl, (bc1_ BK157.out 5).trans rfl, (bc1_ BK157.out 6).trans rfl, (bc1_ BK157.out 7).trans rfl, (bc1_ BK157.out 8).trans rfl, (bc1_ BK157.out 9).trans rfl, (bc_ HB.out hw247_0), (bc_ HB.out hw247_1), (bc_ HB.out hw247_2), (bc_ HB.out hw247_3), (bc_ HB.out hw247_4), (bc_ HB.out hw247_5), (bc_ HB.out hw247_6), (bc_ HB.out hw247_7), (bc_ HB.out hw247_8), (bc_ HB.out hw247_9)⟩ (fun hHeld => ?_)
                      clear hK K
                      refine norm_ (a' := ?_) ?_ ?_
                      rotate_left
                      ·show Act.put _ (some 94) _ = _
                       simp only [Act.put, sb_, sz_, ss_, i64_w, i32_w]
                       rfl
                      refine one_ (i := 6) (N := some 95) #[true, true, true, true, true, true, true, false] rfl rfl (one_of HT_.out (by kernel_rfl)) (by decide) (fun K hK => ?_)
                      refine goes_ Try.func25 (by kernel_rfl) rfl #[.agg #[.int .u64 ((rd_T37 l0 x11_4).f0), .int .u64 ((rd_T37 l0 x11_4).f1), .int .u64 ((rd_T37 l0 x11_4).f2), .string ((rd_T37 l0 x11_4).f3), .string ((rd_T37 l0 x11_4).f4), .int .i64 ((rd_T37 l0 x11_4).f5), .int .i64 ((rd_T37 l0 x11_4).f6), .int .u64 ((rd_T37 l0 x11_4).f7), .int .u64 ((rd_T37 l0 x11_4).f8), .slice A247_9 ((rd_T37 l0 x11_4).f9).length c247_9], .agg #[.int .u64 t248, .int .u64 t249, .int .u64 t250, .string t251, .string t252, .int .i64 t253, .int .i64 t254, .int .u64 t255, .int .u64 t256, .slice Ao103 t257.length co103]] (by rfl) rfl rfl (by (try simp only [List.map_toArray, List.map_cons, List.map_nil]); first | done | rfl | (simp only [List.length_drop, List.length_take]; rfl)) ?_
                      with_reducible refine (tallyroomref06_Compare.calls ((rd_T37 l0 x11_4).f0) ((rd_T37 l0 x11_4).f1) ((rd_T37 l0 x11_4).f2) ((rd_T37 l0 x11_4).f3) ((rd_T37 l0 x11_4).f4) ((rd_T37 l0 x11_4).f5) ((rd_T37 l0 x11_4).f6) ((rd_T37 l0 x11_4).f7) ((rd_T37 l0 x11_4).f8) _ _ ((rd_T37 l0 x11_4).f9) t248 t249 t250 t251 t252 t253 t254 t255 t256 _ _ t257 t260 _ ?side1 ?side2 ?side3 ?side4 A89.out).mono ?_
                      (case side1 => repeat (first | exact (Kd.C_below HR247_9.out HB.out) | (with_reducible refine Kd.C_alloc ?_ _) | (with_reducible refine Kd.C_drewN ?_ _) | (with_reducible refine Kd.C_drew ?_)))
                      (case side2 => exact HC247_9.out)
                      (case side3 => repeat (first | exact (Kd.R_reads' HO259.out).2.2 | (with_reducible refine Kd.C_alloc ?_ _) | (with_reducible refine Kd.C_drewN ?_ _) | (with_reducible refine Kd.C_drew ?_)))
                      (case side4 => exact (Kd.R_reads' HO259.out).2.1)
                      rintro e w104 ⟨rfl, hb⟩
                      refine ⟨_, rfl, ?_⟩
                      have n0_ := Aside0.mk (Kd.R_below (by (with_reducible repeat (first | apply rA_ | apply rN_ | apply rD_)); exact HO_158009.out) hb)
                      have n1_ := Aside0.mk (Kd.R_below (by (with_reducible repeat (first | apply rA_ | apply rN_ | apply rD_)); exact HO_172009.out) hb)
                      have n2_ := Aside0.mk (Kd.R_below (by (with_reducible repeat (first | apply rA_ | apply rN_ | apply rD_)); exact HO259.out) hb)
                      have n3_ := Aside0.mk (bb_ (g := gb157) (o := .cells #[.int .u64 x158000_3, .int .u64 x158001_3, .int .u64 x158002_3, .string x158003_3, .string x158004_3, .int .i64 x158005_3, .int .i64 x158006_3, .int .u64 x158007_3, .int .u64 x158008_3, .slice Ao79 x158009_3.length co79] 40 (0, 0)) (by (with_reducible repeat (first | refine bN_ ?_ _ | refine bD_ ?_ | refine bA_ ?_ _)); exact BK157.out) hb)
                      have n4_ := Aside0.mk (bb_ (g := gb171) (o := .cells #[.int .u64 x172000_3, .int .u64 x172001_3, .int .u64 x172002_3, .string x172003_3, .string x172004_3, .int .i64 x172005_3, .int .i64 x172006_3, .int .u64 x172007_3, .int .u64 x172008_3, .slice Ao81 x172009_3.length co81] 40 (0, 0)) (by (with_reducible repeat (first | refine bN_ ?_ _ | refine bD_ ?_ | refine bA_ ?_ _)); exact BK171.out) hb)
                      have n5_ := Aside0.mk (ls_ (by repeat (first | (with_reducible first | exact HB.out | apply lA_ | apply lN_ | apply l1_ | refine below_set ?_ GE157.out | refine below_set ?_ GE171.out) | exact HB.out)) hb)
                      clear HO_158009
                      clear HO_172009
                      clear HO259
                      clear BK157
                      clear BK171
                      clear HB
                      have HO_158009 := n0_
                      have HO_172009 := n1_
                      have HO259 := n2_
                      have BK157 := n3_
                      have BK171 := n4_
                      have HB := n5_
                      clear n0_ n1_ n2_ n3_ n4_ n5_
                      (try clear hb)
                      (try clear hb2)
                      (try clear hk)
                      (try clear hi)
                      refine hK.out _ _ ⟨(bc1_ BK157.out 0).trans rfl, (bc1_ BK157.out 1).trans rfl, (bc1_ BK157.out 2).trans rfl, (bc1_ BK157.out 3).trans rfl, (bc1_ BK157.out 4).trans rfl, (bc1_ BK157.out 5).trans rfl, (bc1_ BK157.out 6).trans rfl, (bc1_ BK157.out 7).trans rfl, (bc1_ BK157.out 8).trans rfl, (bc1_ BK157.out 9).trans rfl, (bc_ HB.out hw247_0), (bc_ HB.out hw247_1), (bc_ HB.out hw247_2), (bc_ HB.out hw247_3), (bc_ HB.out hw247_4), (bc_ HB.out hw247_5), (bc_ HB.out hw247_6), (bc_ HB.out hw247_7), (bc_ HB.out hw247_8), (bc_ HB.out hw247_9)⟩ (fun hHeld => ?_)
                      clear hK K
                      refine norm_ (a' := ?_) ?_ ?_
                      rotate_left
                      ·show Act.put _ (some 95) _ = _
                       simp only [Act.put, sb_, sz_, ss_, i64_w, i32_w]
                       rfl
                      refine pure_ (i := 7) (N := some 12) (v := ?_) (a' := ?_) #[true, true, true, true, true, true, true, true] rfl rfl (any_of HT_.out (by kernel_rfl)) (fun _ _ _ h => h) (Or.inl ⟨by rfl, ?_⟩) ?_ ?_
                      rotate_left
                      ·intro w'
                       go_simp
                       with_reducible rfl
                      rotate_left
                      ·simp only [Act.put, sb_, sz_, ss_, i64_w, i32_w]
                       rfl
                      refine done_ (done_of HT_.out (by kernel_rfl)) ?_
                      try go_wp2
                      go_ret
                      exact ⟨by first | rfl | (have e_ := Option.some.inj (A16.out.symm.trans A21.out); simp only [Prod.mk.injEq] at e_; obtain ⟨rfl, rfl, rfl, rfl, rfl, rfl, rfl, rfl, rfl, rfl⟩ := e_; first | rfl | (simp [*, errW_none, errW_some] <;> rfl)) | (have e_ := Option.some.inj (A16.out.symm.trans A33.out); simp only [Prod.mk.injEq] at e_; obtain ⟨rfl, rfl, rfl, rfl, rfl, rfl, rfl, rfl, rfl, rfl⟩ := e_; first | rfl | (simp [*, errW_none, errW_some] <;> rfl)) | (have e_ := Option.some.inj (A21.out.symm.trans A33.out); simp only [Prod.mk.injEq] at e_; obtain ⟨rfl, rfl, rfl, rfl, rfl, rfl, rfl, rfl, rfl, rfl⟩ := e_; first | rfl | (simp [*, errW_none, errW_some] <;> rfl)) | (have e_ := Option.some.inj (A34.out.symm.trans A39.out); simp only [Prod.mk.injEq] at e_; obtain ⟨rfl, rfl, rfl, rfl, rfl, rfl, rfl, rfl, rfl, rfl⟩ := e_; first | rfl | (simp [*, errW_none, errW_some] <;> rfl)) | (have e_ := Option.some.inj (A40.out.symm.trans A74.out); simp only [Prod.mk.injEq] at e_; obtain ⟨rfl, rfl, rfl, rfl, rfl, rfl, rfl, rfl, rfl, rfl⟩ := e_; first | rfl | (simp [*, errW_none, errW_some] <;> rfl)) | (simp [errW_none, errW_some] <;> rfl) | (simp only [← hji18]; first | rfl | (simp [errW_none, errW_some] <;> rfl)) | (simp [*, errW_none, errW_some] <;> rfl), by repeat (first | (with_reducible first | exact HB.out | apply lA_ | apply lN_ | apply l1_ | refine below_set ?_ GE157.out | refine below_set ?_ GE171.out) | exact HB.out)⟩
                     ·rw [if_neg c100] at H
                      have c100b0 : decide (t260 < 0) = false := decide_eq_false c100
                      clear c100
                      have H' := Aside0.mk H
                      clear H
                      try go_wp2
                      have n0_ := Aside0.mk (rD_ HO_158009.out)
                      have n1_ := Aside0.mk (rD_ HO_172009.out)
                      have n2_ := Aside0.mk (bD_ BK157.out)
                      have n3_ := Aside0.mk (bD_ BK171.out)
                      have n4_ := Aside0.mk (l1_ HB.out)
                      clear HO_158009
                      clear HO_172009
                      clear BK157
                      clear BK171
                      clear HB
                      have HO_158009 := n0_
                      have HO_172009 := n1_
                      have BK157 := n2_
                      have BK171 := n3_
                      have HB := n4_
                      clear n0_ n1_ n2_ n3_ n4_
                      have p247 : 0 ≤ (x11_4 : Int) := of_decide_eq_true (by first | (with_reducible assumption) | assumption)
                      have q247 : x11_4 < (l0.length : Int) := of_decide_eq_true (by first | (with_reducible assumption) | assumption)
                      obtain ⟨ad247, A247_9, c247_9, e247, hx247_0, hx247_1, hx247_2, hx247_3, hx247_4, hx247_5, hx247_6, hx247_7, hx247_8, hx247_9, hl247_9, hi247_9⟩ := at_T37 HR0.out x11_4 p247 q247
                      have hw247_9 := hx247_9
                      have hw247_8 := hx247_8
                      have hw247_7 := hx247_7
                      have hw247_6 := hx247_6
                      have hw247_5 := hx247_5
                      have hw247_4 := hx247_4
                      have hw247_3 := hx247_3
                      have hw247_2 := hx247_2
                      have hw247_1 := hx247_1
                      have hw247_0 := hx247_0
                      obtain rfl : ad144 = ad247 := (by injection e247)
                      replace hx247_0 := bc_ HB.out hx247_0
                      replace hx247_1 := bc_ HB.out hx247_1
                      replace hx247_2 := bc_ HB.out hx247_2
                      replace hx247_3 := bc_ HB.out hx247_3
                      replace hx247_4 := bc_ HB.out hx247_4
                      replace hx247_5 := bc_ HB.out hx247_5
                      replace hx247_6 := bc_ HB.out hx247_6
                      replace hx247_7 := bc_ HB.out hx247_7
                      replace hx247_8 := bc_ HB.out hx247_8
                      replace hx247_9 := bc_ HB.out hx247_9
                      have HR247_9 := Aside0.mk hi247_9
                      have HC247_9 := Aside0.mk hl247_9
                      clear hi247_9 hl247_9
                      replace p247 := eq_true p247
                      replace q247 := eq_true q247
                      refine start_ (n := 8) (S := fun w' => w'.cell? ⟨gb157, 0, none⟩ = some (.int .u64 x158000_3) ∧ w'.cell? ⟨gb157, 1, none⟩ = some (.int .u64 x158001_3) ∧ w'.cell? ⟨gb157, 2, none⟩ = some (.int .u64 x158002_3) ∧ w'.cell? ⟨gb157, 3, none⟩ = some (.string x158003_3) ∧ w'.cell? ⟨gb157, 4, none⟩ = some (.string x158004_3) ∧ w'.cell? ⟨gb157, 5, none⟩ = some (.int .i64 x158005_3) ∧ w'.cell? ⟨gb157, 6, none⟩ = some (.int .i64 x158006_3) ∧ w'.cell? ⟨gb157, 7, none⟩ = some (.int .u64 x158007_3) ∧ w'.cell? ⟨gb157, 8, none⟩ = some (.int .u64 x158008_3) ∧ w'.cell? ⟨gb157, 9, none⟩ = some (.slice Ao79 x158009_3.length co79) ∧ w'.cell? (ad144.add ((x11_4).toNat * 10)) = some (.int .u64 ((rd_T37 l0 x11_4).f0)) ∧ w'.cell? ⟨(ad144.add ((x11_4).toNat * 10)).block, (ad144.add ((x11_4).toNat * 10)).off + 1, none⟩ = some (.int .u64 ((rd_T37 l0 x11_4).f1)) ∧ w'.cell? ⟨(ad144.add ((x11_4).toNat * 10)).block, (ad144.add ((x11_4).toNat * 10)).off + 2, none⟩ = some (.int .u64 ((rd_T37 l0 x11_4).f2)) ∧ w'.cell? ⟨(ad144.add ((x11_4).toNat * 10)).block, (ad144.add ((x11_4).toNat * 10)).off + 3, none⟩ = some (.string ((rd_T37 l0 x11_4).f3)) ∧ w'.cell? ⟨(ad144.add ((x11_4).toNat * 10)).block, (ad144.add ((x11_4).toNat * 10)).off + 4, none⟩ = some (.string ((rd_T37 l0 x11_4).f4)) ∧ w'.cell? ⟨(ad144.add ((x11_4).toNat * 10)).block, (ad144.add ((x11_4).toNat * 10)).off + 5, none⟩ = some (.int .i64 ((rd_T37 l0 x11_4).f5)) ∧ w'.cell? ⟨(ad144.add ((x11_4).toNat * 10)).block, (ad144.add ((x11_4).toNat * 10)).off + 6, none⟩ = some (.int .i64 ((rd_T37 l0 x11_4).f6)) ∧ w'.cell? ⟨(ad144.add ((x11_4).toNat * 10)).block, (ad144.add ((x11_4).toNat * 10)).off + 7, none⟩ = some (.int .u64 ((rd_T37 l0 x11_4).f7)) ∧ w'.cell? ⟨(ad144.add ((x11_4).toNat * 10)).block, (ad144.add ((x11_4).toNat * 10)).off + 8, none⟩ = some (.int .u64 ((rd_T37 l0 x11_4).f8)) ∧ w'.cell? ⟨(ad144.add ((x11_4).toNat * 10)).block, (ad144.add ((x11_4).toNat * 10)).off + 9, none⟩ = some (.slice A247_9 ((rd_T37 l0 x11_4).f9).length c247_9)) (ds := []) #[false, false, false, false, false, false, false, false] (by kernel_rfl) rfl rfl ⟨(bc1_ BK157.out 0).trans rfl, (bc1_ BK157.out 1).trans rfl, (bc1_ BK157.out 2).trans rfl, (bc1_ BK157.out 3).trans rfl, (bc1_ BK157.out 4).trans rfl, (bc1_ BK157.out 5).trans rfl, (bc1_ BK157.out 6).trans rfl, (bc1_ BK157.out 7).trans rfl, (bc1_ BK157.out 8).trans rfl, (bc1_ BK157.out 9).trans rfl, (bc_ HB.out hw247_0), (bc_ HB.out hw247_1), (bc_ HB.out hw247_2), (bc_ HB.out hw247_3), (bc_ HB.out hw247_4), (bc_ HB.out hw247_5), (bc_ HB.out hw247_6), (bc_ HB.out hw247_7), (bc_ HB.out hw247_8), (bc_ HB.out hw247_9)⟩ (fun hHeld => ?_); refine with_tabW tallyroomlaw09_DigestPrefers.tab24 tallyroomlaw09_DigestPrefers.bits24 (fun HT_ HW_ => ?_)
                      generalize wr.drew = w105 at HO_158009 HO_172009 BK157 BK171 HB HR247_9 hx247_0 hx247_1 hx247_2 hx247_3 hx247_4 hx247_5 hx247_6 hx247_7 hx247_8 hx247_9 hHeld ⊢
                      refine pure_ (i := 0) (N := some 89) (v := ?_) (a' := ?_) #[true, false, false, false, false, false, false, false] rfl rfl (any_of HT_.out (by kernel_rfl)) (fun _ _ _ h => h) (Or.inl ⟨by rfl, ?_⟩) ?_ ?_
                      rotate_left
                      ·intro w'
                       go_simp
                       with_reducible rfl
                      rotate_left
                      ·simp only [Act.put, sb_, sz_, ss_, i64_w, i32_w]
                       rfl
                      refine pure_ (i := 1) (N := some 90) (v := ?_) (a' := ?_) #[true, true, false, false, false, false, false, false] rfl rfl (any_of HT_.out (by kernel_rfl)) (fun _ _ _ h => h) (Or.inl ⟨by rfl, ?_⟩) ?_ ?_
                      rotate_left
                      ·intro w'
                       go_simp
                       with_reducible rfl
                      rotate_left
                      ·simp only [Act.put, sb_, sz_, ss_, i64_w, i32_w]
                       rfl
                      refine pure_ (i := 2) (N := some 91) (v := ?_) (a' := ?_) #[true, true, true, false, false, false, false, false] rfl rfl (any_of HT_.out (by kernel_rfl)) (fun _ _ _ h => h) (Or.inl ⟨by rfl, ?_⟩) ?_ ?_
                      rotate_left
                      ·intro w'
                       go_simp
                       with_reducible rfl
                      rotate_left
                      ·simp only [Act.put, sb_, sz_, ss_, i64_w, i32_w]
                       rfl
                      refine take_ (i := 3) (N := some 92) (v := ?_) (a' := ?_) #[true, true, true, true, false, false, false, false] rfl rfl (take_ofW HT_.out HW_.out (by kernel_rfl)) (fun _ _ _ h => h) (Or.inl ⟨by rfl, ?_⟩) hHeld ?_ ?_
                      rotate_left
                      ·rintro w' ⟨s0, s1, s2, s3, s4, s5, s6, s7, s8, s9, s10, s11, s12, s13, s14, s15, s16, s17, s18, s19⟩
                       go_simp
                       with_reducible rfl
                      rotate_left
                      ·simp only [Act.put, sb_, sz_, ss_, i64_w, i32_w]
                       rfl
                      refine take_ (i := 4) (N := some 93) (v := ?_) (a' := ?_) #[true, true, true, true, true, false, false, false] rfl rfl (take_ofW HT_.out HW_.out (by kernel_rfl)) (fun _ _ _ h => h) (Or.inl ⟨by rfl, ?_⟩) hHeld ?_ ?_
                      rotate_left
                      ·rintro w' ⟨s0, s1, s2, s3, s4, s5, s6, s7, s8, s9, s10, s11, s12, s13, s14, s15, s16, s17, s18, s19⟩
                       go_simp
                       with_reducible rfl
                      rotate_left
                      ·simp only [Act.put, sb_, sz_, ss_, i64_w, i32_w]
                       rfl
                      refine one_ (i := 5) (N := some 94) #[true, true, true, true, true, true, false, false] rfl rfl (one_of HT_.out (by kernel_rfl)) (by decide) (fun K hK => ?_)
                      refine goes_ Try.func24 (by kernel_rfl) rfl #[.agg #[.int .u64 x158000_3, .int .u64 x158001_3, .int .u64 x158002_3, .string x158003_3, .string x158004_3, .int .i64 x158005_3, .int .i64 x158006_3, .int .u64 x158007_3, .int .u64 x158008_3, .slice Ao79 x158009_3.length co79]] (by rfl) rfl rfl (by (try simp only [List.map_toArray, List.map_cons, List.map_nil]); first | done | rfl | (simp only [List.length_drop, List.length_take]; rfl)) ?_
                      with_reducible refine (tallyroomlaw06_To.calls k4 x158000_3 x158001_3 x158002_3 x158003_3 x158004_3 x158005_3 x158006_3 x158007_3 x158008_3 _ _ x158009_3 t248 t249 t250 t251 t252 t253 t254 t255 t256 t257 _ ?side1 ?side2 A88.out).mono ?_
                      (case side1 => repeat (first | exact (Kd.R_reads' HO_158009.out).2.2 | (with_reducible refine Kd.C_alloc ?_ _) | (with_reducible refine Kd.C_drewN ?_ _) | (with_reducible refine Kd.C_drew ?_)))
                      (case side2 => exact (Kd.R_reads' HO_158009.out).2.1)
                      rintro e w106 ⟨v258, rfl, ho0, hb⟩
                      refine ⟨_, rfl, ?_⟩
                      have n0_ := Aside0.mk (Kd.R_below (by (with_reducible repeat (first | apply rA_ | apply rN_ | apply rD_)); exact HO_158009.out) hb)
                      have n1_ := Aside0.mk (Kd.R_below (by (with_reducible repeat (first | apply rA_ | apply rN_ | apply rD_)); exact HO_172009.out) hb)
                      have n2_ := Aside0.mk (Kd.R_lower ho0 (bz_ (by repeat (first | (with_reducible first | exact HB.out | apply lA_ | apply lN_ | apply l1_ | refine below_set ?_ GE157.out | refine below_set ?_ GE171.out) | exact HB.out))))
                      have n3_ := Aside0.mk (bb_ (g := gb157) (o := .cells #[.int .u64 x158000_3, .int .u64 x158001_3, .int .u64 x158002_3, .string x158003_3, .string x158004_3, .int .i64 x158005_3, .int .i64 x158006_3, .int .u64 x158007_3, .int .u64 x158008_3, .slice Ao79 x158009_3.length co79] 40 (0, 0)) (by (with_reducible repeat (first | refine bN_ ?_ _ | refine bD_ ?_ | refine bA_ ?_ _)); exact BK157.out) hb)
                      have n4_ := Aside0.mk (bb_ (g := gb171) (o := .cells #[.int .u64 x172000_3, .int .u64 x172001_3, .int .u64 x172002_3, .string x172003_3, .string x172004_3, .int .i64 x172005_3, .int .i64 x172006_3, .int .u64 x172007_3, .int .u64 x172008_3, .slice Ao81 x172009_3.length co81] 40 (0, 0)) (by (with_reducible repeat (first | refine bN_ ?_ _ | refine bD_ ?_ | refine bA_ ?_ _)); exact BK171.out) hb)
                      have n5_ := Aside0.mk (ls_ (by repeat (first | (with_reducible first | exact HB.out | apply lA_ | apply lN_ | apply l1_ | refine below_set ?_ GE157.out | refine below_set ?_ GE171.out) | exact HB.out)) hb)
                      clear HO_158009
                      clear HO_172009
                      clear BK157
                      clear BK171
                      clear HB
                      have HO_158009 := n0_
                      have HO_172009 := n1_
                      have HO259 := n2_
                      have BK157 := n3_
                      have BK171 := n4_
                      have HB := n5_
                      clear n0_ n1_ n2_ n3_ n4_ n5_
                      (try clear hb)
                      (try clear hb2)
                      (try clear hk)
                      (try clear hi)
                      (try clear ho0)
                      obtain ⟨Ao107, co107, eo107⟩ := Kd.R_slice HO259.out
                      (first | subst eo107 | (injection eo107 with f1_ f2_ f3_; have f4_ := f1_.symm; have f5_ := f3_.symm; clear f1_ f2_ f3_; subst f4_; subst f5_))
                      refine hK.out _ _ ⟨(bc1_ BK157.out 0).trans rfl, (bc1_ BK157.out 1).trans rfl, (bc1_ BK157.out 2).trans rfl, (bc1_ BK157.out 3).trans rfl, (bc1_ BK157.out 4).trans rfl, (bc1_ BK157.out 5).trans rfl, (bc1_ BK157.out 6).trans rfl, (bc1_ BK157.out 7).trans rfl, (bc1_ BK157.out 8).trans rfl, (bc1_ BK157.out 9).trans rfl, (bc_ HB.out hw247_0), (bc_ HB.out hw247_1), (bc_ HB.out hw247_2), (bc_ HB.out hw247_3), (bc_ HB.out hw247_4), (bc_ HB.out hw247_5), (bc_ HB.out hw247_6), (bc_ HB.out hw247_7), (bc_ HB.out hw247_8), (bc_ HB.out hw247_9)⟩ (fun hHeld => ?_)
                      clear hK K
                      refine norm_ (a' := ?_) ?_ ?_
                      rotate_left
                      ·show Act.put _ (some 94) _ = _
                       simp only [Act.put, sb_, sz_, ss_, i64_w, i32_w]
                       rfl
                      refine one_ (i := 6) (N := some 95) #[true, true, true, true, true, true, true, false] rfl rfl (one_of HT_.out (by kernel_rfl)) (by decide) (fun K hK => ?_)
                      refine goes_ Try.func25 (by kernel_rfl) rfl #[.agg #[.int .u64 ((rd_T37 l0 x11_4).f0), .int .u64 ((rd_T37 l0 x11_4).f1), .int .u64 ((rd_T37 l0 x11_4).f2), .string ((rd_T37 l0 x11_4).f3), .string ((rd_T37 l0 x11_4).f4), .int .i64 ((rd_T37 l0 x11_4).f5), .int .i64 ((rd_T37 l0 x11_4).f6), .int .u64 ((rd_T37 l0 x11_4).f7), .int .u64 ((rd_T37 l0 x11_4).f8), .slice A247_9 ((rd_T37 l0 x11_4).f9).length c247_9], .agg #[.int .u64 t248, .int .u64 t249, .int .u64 t250, .string t251, .string t252, .int .i64 t253, .int .i64 t254, .int .u64 t255, .int .u64 t256, .slice Ao107 t257.length co107]] (by rfl) rfl rfl (by (try simp only [List.map_toArray, List.map_cons, List.map_nil]); first | done | rfl | (simp only [List.length_drop, List.length_take]; rfl)) ?_
                      with_reducible refine (tallyroomref06_Compare.calls ((rd_T37 l0 x11_4).f0) ((rd_T37 l0 x11_4).f1) ((rd_T37 l0 x11_4).f2) ((rd_T37 l0 x11_4).f3) ((rd_T37 l0 x11_4).f4) ((rd_T37 l0 x11_4).f5) ((rd_T37 l0 x11_4).f6) ((rd_T37 l0 x11_4).f7) ((rd_T37 l0 x11_4).f8) _ _ ((rd_T37 l0 x11_4).f9) t248 t249 t250 t251 t252 t253 t254 t255 t256 _ _ t257 t260 _ ?side1 ?side2 ?side3 ?side4 A89.out).mono ?_
                      (case side1 => repeat (first | exact (Kd.C_below HR247_9.out HB.out) | (with_reducible refine Kd.C_alloc ?_ _) | (with_reducible refine Kd.C_drewN ?_ _) | (with_reducible refine Kd.C_drew ?_)))
                      (case side2 => exact HC247_9.out)
                      (case side3 => repeat (first | exact (Kd.R_reads' HO259.out).2.2 | (with_reducible refine Kd.C_alloc ?_ _) | (with_reducible refine Kd.C_drewN ?_ _) | (with_reducible refine Kd.C_drew ?_)))
                      (case side4 => exact (Kd.R_reads' HO259.out).2.1)
                      rintro e w108 ⟨rfl, hb⟩
                      refine ⟨_, rfl, ?_⟩
                      have n0_ := Aside0.mk (Kd.R_below (by (with_reducible repeat (first | apply rA_ | apply rN_ | apply rD_)); exact HO_158009.out) hb)
                      have n1_ := Aside0.mk (Kd.R_below (by (with_reducible repeat (first | apply rA_ | apply rN_ | apply rD_)); exact HO_172009.out) hb)
                      have n2_ := Aside0.mk (Kd.R_below (by (with_reducible repeat (first | apply rA_ | apply rN_ | apply rD_)); exact HO259.out) hb)
                      have n3_ := Aside0.mk (bb_ (g := gb157) (o := .cells #[.int .u64 x158000_3, .int .u64 x158001_3, .int .u64 x158002_3, .string x158003_3, .string x158004_3, .int .i64 x158005_3, .int .i64 x158006_3, .int .u64 x158007_3, .int .u64 x158008_3, .slice Ao79 x158009_3.length co79] 40 (0, 0)) (by (with_reducible repeat (first | refine bN_ ?_ _ | refine bD_ ?_ | refine bA_ ?_ _)); exact BK157.out) hb)
                      have n4_ := Aside0.mk (bb_ (g := gb171) (o := .cells #[.int .u64 x172000_3, .int .u64 x172001_3, .int .u64 x172002_3, .string x172003_3, .string x172004_3, .int .i64 x172005_3, .int .i64 x172006_3, .int .u64 x172007_3, .int .u64 x172008_3, .slice Ao81 x172009_3.length co81] 40 (0, 0)) (by (with_reducible repeat (first | refine bN_ ?_ _ | refine bD_ ?_ | refine bA_ ?_ _)); exact BK171.out) hb)
                      have n5_ := Aside0.mk (ls_ (by repeat (first | (with_reducible first | exact HB.out | apply lA_ | apply lN_ | apply l1_ | refine below_set ?_ GE157.out | refine below_set ?_ GE171.out) | exact HB.out)) hb)
                      clear HO_158009
                      clear HO_172009
                      clear HO259
                      clear BK157
                      clear BK171
                      clear HB
                      have HO_158009 := n0_
                      have HO_172009 := n1_
                      have HO259 := n2_
                      have BK157 := n3_
                      have BK171 := n4_
                      have HB := n5_
                      clear n0_ n1_ n2_ n3_ n4_ n5_
                      (try clear hb)
                      (try clear hb2)
                      (try clear hk)
                      (try clear hi)
                      refine hK.out _ _ ⟨(bc1_ BK157.out 0).trans rfl, (bc1_ BK157.out 1).trans rfl, (bc1_ BK157.out 2).trans rfl, (bc1_ BK157.out 3).trans rfl, (bc1_ BK157.out 4).trans rfl, (bc1_ BK157.out 5).trans rfl, (bc1_ BK157.out 6).trans rfl, (bc1_ BK157.out 7).trans rfl, (bc1_ BK157.out 8).trans rfl, (bc1_ BK157.out 9).trans rfl, (bc_ HB.out hw247_0), (bc_ HB.out hw247_1), (bc_ HB.out hw247_2), (bc_ HB.out hw247_3), (bc_ HB.out hw247_4), (bc_ HB.out hw247_5), (bc_ HB.out hw247_6), (bc_ HB.out hw247_7), (bc_ HB.out hw247_8), (bc_ HB.out hw247_9)⟩ (fun hHeld => ?_)
                      clear hK K
                      refine norm_ (a' := ?_) ?_ ?_
                      rotate_left
                      ·show Act.put _ (some 95) _ = _
                       simp only [Act.put, sb_, sz_, ss_, i64_w, i32_w]
                       rfl
                      refine pure_ (i := 7) (N := some 12) (v := ?_) (a' := ?_) #[true, true, true, true, true, true, true, true] rfl rfl (any_of HT_.out (by kernel_rfl)) (fun _ _ _ h => h) (Or.inl ⟨by rfl, ?_⟩) ?_ ?_
                      rotate_left
                      ·intro w'
                       go_simp
                       with_reducible rfl
                      rotate_left
                      ·simp only [Act.put, sb_, sz_, ss_, i64_w, i32_w]
                       rfl
                      refine done_ (done_of HT_.out (by kernel_rfl)) ?_
                      try go_wp2
                      go_roundg k4
                      case measure => have := HJ4.out; have := HK2.out; have := HK3.out; have := HK4.out; omega
                      case rel => exact ⟨((t260 == 0)), (wrap64 (x11_4 + 1)), (by first | rfl | (simp; done) | (simp [*]; done)), (by first | rfl | (simp; done) | (simp [*]; done)), H', ⟨by have := HJ4.out; have := HK2.out; have := HK3.out; have := HK4.out; omega⟩, ⟨by (with_reducible repeat (first | apply rA_ | apply rN_ | apply rD_)); exact HO_158009.out⟩, ⟨by (with_reducible repeat (first | apply rA_ | apply rN_ | apply rD_)); exact HO_172009.out⟩, ⟨by (with_reducible repeat (first | refine bN_ ?_ _ | refine bD_ ?_ | refine bA_ ?_ _)); exact BK157.out⟩, ⟨by (with_reducible repeat (first | refine bN_ ?_ _ | refine bD_ ?_ | refine bA_ ?_ _)); exact BK171.out⟩, ⟨by repeat (first | (with_reducible first | exact HB.out | apply lA_ | apply lN_ | apply l1_ | refine below_set ?_ GE157.out | refine below_set ?_ GE171.out) | exact HB.out)⟩⟩
                   ·rw [if_neg c87] at H
                    exact absurd H (by simp)
                  ·rw [if_neg c86] at H
                   have c86b0 : decide (x11_4 < (l0.length : Int)) = false := decide_eq_false c86
                   clear c86
                   obtain rfl := Option.some.inj H
                   go_wp2
                   go_ret
                   exact ⟨by first | rfl | (have e_ := Option.some.inj (A16.out.symm.trans A21.out); simp only [Prod.mk.injEq] at e_; obtain ⟨rfl, rfl, rfl, rfl, rfl, rfl, rfl, rfl, rfl, rfl⟩ := e_; first | rfl | (simp [*, errW_none, errW_some] <;> rfl)) | (have e_ := Option.some.inj (A16.out.symm.trans A33.out); simp only [Prod.mk.injEq] at e_; obtain ⟨rfl, rfl, rfl, rfl, rfl, rfl, rfl, rfl, rfl, rfl⟩ := e_; first | rfl | (simp [*, errW_none, errW_some] <;> rfl)) | (have e_ := Option.some.inj (A21.out.symm.trans A33.out); simp only [Prod.mk.injEq] at e_; obtain ⟨rfl, rfl, rfl, rfl, rfl, rfl, rfl, rfl, rfl, rfl⟩ := e_; first | rfl | (simp [*, errW_none, errW_some] <;> rfl)) | (have e_ := Option.some.inj (A34.out.symm.trans A39.out); simp only [Prod.mk.injEq] at e_; obtain ⟨rfl, rfl, rfl, rfl, rfl, rfl, rfl, rfl, rfl, rfl⟩ := e_; first | rfl | (simp [*, errW_none, errW_some] <;> rfl)) | (have e_ := Option.some.inj (A40.out.symm.trans A74.out); simp only [Prod.mk.injEq] at e_; obtain ⟨rfl, rfl, rfl, rfl, rfl, rfl, rfl, rfl, rfl, rfl⟩ := e_; first | rfl | (simp [*, errW_none, errW_some] <;> rfl)) | (simp [errW_none, errW_some] <;> rfl) | (simp only [← hji18]; first | rfl | (simp [errW_none, errW_some] <;> rfl)) | (simp [*, errW_none, errW_some] <;> rfl), by repeat (first | (with_reducible first | exact HB.out | apply lA_ | apply lN_ | apply l1_ | refine below_set ?_ GE157.out | refine below_set ?_ GE171.out) | exact HB.out)⟩
               ·replace c77 := Bool.eq_false_iff.mpr c77
                subst c77
                have H1 : (some false) = some r := by rw [if_neg (show ¬ (false = true) by decide)] at H; exact H
                clear H
                have H := H1
                clear H1
                obtain rfl := Option.some.inj H
                try go_wp2
                have n0_ := Aside0.mk (rD_ HO_158009.out)
                have n1_ := Aside0.mk (rD_ HO_172009.out)
                have n2_ := Aside0.mk (bD_ BK157.out)
                have n3_ := Aside0.mk (bD_ BK171.out)
                have n4_ := Aside0.mk (l1_ HB.out)
                clear HO_158009
                clear HO_172009
                clear BK157
                clear BK171
                clear HB
                have HO_158009 := n0_
                have HO_172009 := n1_
                have BK157 := n2_
                have BK171 := n3_
                have HB := n4_
                clear n0_ n1_ n2_ n3_ n4_
                obtain ⟨Ao110, co110, eo110⟩ := Kd.R_slice HO_158009.out
                (first | subst eo110 | (injection eo110 with f1_ f2_ f3_; have f4_ := f1_.symm; have f5_ := f3_.symm; clear f1_ f2_ f3_; subst f4_; subst f5_))
                refine start_ (n := 6) (S := fun w' => w'.cell? ⟨gb157, 0, none⟩ = some (.int .u64 x158000_3) ∧ w'.cell? ⟨gb157, 1, none⟩ = some (.int .u64 x158001_3) ∧ w'.cell? ⟨gb157, 2, none⟩ = some (.int .u64 x158002_3) ∧ w'.cell? ⟨gb157, 3, none⟩ = some (.string x158003_3) ∧ w'.cell? ⟨gb157, 4, none⟩ = some (.string x158004_3) ∧ w'.cell? ⟨gb157, 5, none⟩ = some (.int .i64 x158005_3) ∧ w'.cell? ⟨gb157, 6, none⟩ = some (.int .i64 x158006_3) ∧ w'.cell? ⟨gb157, 7, none⟩ = some (.int .u64 x158007_3) ∧ w'.cell? ⟨gb157, 8, none⟩ = some (.int .u64 x158008_3) ∧ w'.cell? ⟨gb157, 9, none⟩ = some (.slice Ao110 x158009_3.length co110) ∧ w'.cell? ⟨gb171, 0, none⟩ = some (.int .u64 x172000_3) ∧ w'.cell? ⟨gb171, 1, none⟩ = some (.int .u64 x172001_3) ∧ w'.cell? ⟨gb171, 2, none⟩ = some (.int .u64 x172002_3) ∧ w'.cell? ⟨gb171, 3, none⟩ = some (.string x172003_3) ∧ w'.cell? ⟨gb171, 4, none⟩ = some (.string x172004_3) ∧ w'.cell? ⟨gb171, 5, none⟩ = some (.int .i64 x172005_3) ∧ w'.cell? ⟨gb171, 6, none⟩ = some (.int .i64 x172006_3) ∧ w'.cell? ⟨gb171, 7, none⟩ = some (.int .u64 x172007_3) ∧ w'.cell? ⟨gb171, 8, none⟩ = some (.int .u64 x172008_3) ∧ w'.cell? ⟨gb171, 9, none⟩ = some (u172009)) (ds := []) #[false, false, false, false, false, false] (by kernel_rfl) rfl rfl ⟨(bc1_ BK157.out 0).trans rfl, (bc1_ BK157.out 1).trans rfl, (bc1_ BK157.out 2).trans rfl, (bc1_ BK157.out 3).trans rfl, (bc1_ BK157.out 4).trans rfl, (bc1_ BK157.out 5).trans rfl, (bc1_ BK157.out 6).trans rfl, (bc1_ BK157.out 7).trans rfl, (bc1_ BK157.out 8).trans rfl, (bc1_ BK157.out 9).trans rfl, (bc1_ BK171.out 0).trans rfl, (bc1_ BK171.out 1).trans rfl, (bc1_ BK171.out 2).trans rfl, (bc1_ BK171.out 3).trans rfl, (bc1_ BK171.out 4).trans rfl, (bc1_ BK171.out 5).trans rfl, (bc1_ BK171.out 6).trans rfl, (bc1_ BK171.out 7).trans rfl, (bc1_ BK171.out 8).trans rfl, (bc1_ BK171.out 9).trans rfl⟩ (fun hHeld => ?_)
                generalize wr.drew = w109 at HO_158009 HO_172009 BK157 BK171 HB hHeld ⊢
                refine take_ (i := 0) (N := some 77) (v := ?_) (a' := ?_) #[true, false, false, false, false, false] rfl rfl (by kernel_rfl) (fun _ _ _ h => h) (Or.inl ⟨by rfl, ?_⟩) hHeld ?_ ?_
                rotate_left
                ·rintro w' ⟨s0, s1, s2, s3, s4, s5, s6, s7, s8, s9, s10, s11, s12, s13, s14, s15, s16, s17, s18, s19⟩
                 go_simp
                 with_reducible rfl
                rotate_left
                ·simp only [Act.put, sb_, sz_, ss_, i64_w, i32_w]
                 rfl
                refine take_ (i := 2) (N := some 79) (v := ?_) (a' := ?_) #[true, false, true, false, false, false] rfl rfl (by kernel_rfl) (fun _ _ _ h => h) (Or.inl ⟨by rfl, ?_⟩) hHeld ?_ ?_
                rotate_left
                ·rintro w' ⟨s0, s1, s2, s3, s4, s5, s6, s7, s8, s9, s10, s11, s12, s13, s14, s15, s16, s17, s18, s19⟩
                 go_simp
                 with_reducible rfl
                rotate_left
                ·simp only [Act.put, sb_, sz_, ss_, i64_w, i32_w]
                 rfl
                refine one_ (i := 1) (N := some 78) #[true, true, true, false, false, false] rfl rfl (by kernel_rfl) (by decide) (fun K hK => ?_)
                refine goes_ Try.func24 (by kernel_rfl) rfl #[.agg #[.int .u64 x158000_3, .int .u64 x158001_3, .int .u64 x158002_3, .string x158003_3, .string x158004_3, .int .i64 x158005_3, .int .i64 x158006_3, .int .u64 x158007_3, .int .u64 x158008_3, .slice Ao110 x158009_3.length co110]] (by rfl) rfl rfl (by (try simp only [List.map_toArray, List.map_cons, List.map_nil]); first | done | rfl | (simp only [List.length_drop, List.length_take]; rfl)) ?_
                with_reducible refine (tallyroomlaw06_To.calls k3 x158000_3 x158001_3 x158002_3 x158003_3 x158004_3 x158005_3 x158006_3 x158007_3 x158008_3 _ _ x158009_3 t222 t223 t224 t225 t226 t227 t228 t229 t230 t231 _ ?side1 ?side2 A74.out).mono ?_
                (case side1 => repeat (first | exact (Kd.R_reads' HO_158009.out).2.2 | (with_reducible refine Kd.C_alloc ?_ _) | (with_reducible refine Kd.C_drewN ?_ _) | (with_reducible refine Kd.C_drew ?_)))
                (case side2 => exact (Kd.R_reads' HO_158009.out).2.1)
                rintro e w111 ⟨v232, rfl, ho0, hb⟩
                refine ⟨_, rfl, ?_⟩
                have n0_ := Aside0.mk (Kd.R_below (by (with_reducible repeat (first | apply rA_ | apply rN_ | apply rD_)); exact HO_158009.out) hb)
                have n1_ := Aside0.mk (Kd.R_below (by (with_reducible repeat (first | apply rA_ | apply rN_ | apply rD_)); exact HO_172009.out) hb)
                have n2_ := Aside0.mk (Kd.R_lower ho0 (bz_ (by repeat (first | (with_reducible first | exact HB.out | apply lA_ | apply lN_ | apply l1_ | refine below_set ?_ GE157.out | refine below_set ?_ GE171.out) | exact HB.out))))
                have n3_ := Aside0.mk (bb_ (g := gb157) (o := .cells #[.int .u64 x158000_3, .int .u64 x158001_3, .int .u64 x158002_3, .string x158003_3, .string x158004_3, .int .i64 x158005_3, .int .i64 x158006_3, .int .u64 x158007_3, .int .u64 x158008_3, .slice Ao110 x158009_3.length co110] 40 (0, 0)) (by (with_reducible repeat (first | refine bN_ ?_ _ | refine bD_ ?_ | refine bA_ ?_ _)); exact BK157.out) hb)
                have n4_ := Aside0.mk (bb_ (g := gb171) (o := .cells #[.int .u64 x172000_3, .int .u64 x172001_3, .int .u64 x172002_3, .string x172003_3, .string x172004_3, .int .i64 x172005_3, .int .i64 x172006_3, .int .u64 x172007_3, .int .u64 x172008_3, u172009] 40 (0, 0)) (by (with_reducible repeat (first | refine bN_ ?_ _ | refine bD_ ?_ | refine bA_ ?_ _)); exact BK171.out) hb)
                have n5_ := Aside0.mk (ls_ (by repeat (first | (with_reducible first | exact HB.out | apply lA_ | apply lN_ | apply l1_ | refine below_set ?_ GE157.out | refine below_set ?_ GE171.out) | exact HB.out)) hb)
                clear HO_158009
                clear HO_172009
                clear BK157
                clear BK171
                clear HB
                have HO_158009 := n0_
                have HO_172009 := n1_
                have HO233 := n2_
                have BK157 := n3_
                have BK171 := n4_
                have HB := n5_
                clear n0_ n1_ n2_ n3_ n4_ n5_
                (try clear hb)
                (try clear hb2)
                (try clear hk)
                (try clear hi)
                (try clear ho0)
                obtain ⟨Ao112, co112, eo112⟩ := Kd.R_slice HO_172009.out
                (first | subst eo112 | (injection eo112 with f1_ f2_ f3_; have f4_ := f1_.symm; have f5_ := f3_.symm; clear f1_ f2_ f3_; subst f4_; subst f5_))
                refine hK.out _ _ ⟨(bc1_ BK157.out 0).trans rfl, (bc1_ BK157.out 1).trans rfl, (bc1_ BK157.out 2).trans rfl, (bc1_ BK157.out 3).trans rfl, (bc1_ BK157.out 4).trans rfl, (bc1_ BK157.out 5).trans rfl, (bc1_ BK157.out 6).trans rfl, (bc1_ BK157.out 7).trans rfl, (bc1_ BK157.out 8).trans rfl, (bc1_ BK157.out 9).trans rfl, (bc1_ BK171.out 0).trans rfl, (bc1_ BK171.out 1).trans rfl, (bc1_ BK171.out 2).trans rfl, (bc1_ BK171.out 3).trans rfl, (bc1_ BK171.out 4).trans rfl, (bc1_ BK171.out 5).trans rfl, (bc1_ BK171.out 6).trans rfl, (bc1_ BK171.out 7).trans rfl, (bc1_ BK171.out 8).trans rfl, (bc1_ BK171.out 9).trans rfl⟩ (fun hHeld => ?_)
                clear hK K
                refine norm_ (a' := ?_) ?_ ?_
                rotate_left
                ·show Act.put _ (some 78) _ = _
                 simp only [Act.put, sb_, sz_, ss_, i64_w, i32_w]
                 rfl
                refine one_ (i := 3) (N := some 80) #[true, true, true, true, false, false] rfl rfl (by kernel_rfl) (by decide) (fun K hK => ?_)
                refine goes_ Try.func24 (by kernel_rfl) rfl #[.agg #[.int .u64 x172000_3, .int .u64 x172001_3, .int .u64 x172002_3, .string x172003_3, .string x172004_3, .int .i64 x172005_3, .int .i64 x172006_3, .int .u64 x172007_3, .int .u64 x172008_3, .slice Ao112 x172009_3.length co112]] (by rfl) rfl rfl (by (try simp only [List.map_toArray, List.map_cons, List.map_nil]); first | done | rfl | (simp only [List.length_drop, List.length_take]; rfl)) ?_
                with_reducible refine (tallyroomlaw06_To.calls k3 x172000_3 x172001_3 x172002_3 x172003_3 x172004_3 x172005_3 x172006_3 x172007_3 x172008_3 _ _ x172009_3 t234 t235 t236 t237 t238 t239 t240 t241 t242 t243 _ ?side1 ?side2 A75.out).mono ?_
                (case side1 => repeat (first | exact (Kd.R_reads' HO_172009.out).2.2 | (with_reducible refine Kd.C_alloc ?_ _) | (with_reducible refine Kd.C_drewN ?_ _) | (with_reducible refine Kd.C_drew ?_)))
                (case side2 => exact (Kd.R_reads' HO_172009.out).2.1)
                rintro e w113 ⟨v244, rfl, ho0, hb⟩
                refine ⟨_, rfl, ?_⟩
                have n0_ := Aside0.mk (Kd.R_below (by (with_reducible repeat (first | apply rA_ | apply rN_ | apply rD_)); exact HO_158009.out) hb)
                have n1_ := Aside0.mk (Kd.R_below (by (with_reducible repeat (first | apply rA_ | apply rN_ | apply rD_)); exact HO_172009.out) hb)
                have n2_ := Aside0.mk (Kd.R_elder' (by (with_reducible repeat (first | apply rA_ | apply rN_ | apply rD_)); exact HO233.out) (Kd.R_base ho0) hb)
                have n3_ := Aside0.mk (Kd.R_lower (Kd.R_new' ho0 (Kd.R_lt (by (with_reducible repeat (first | apply rA_ | apply rN_ | apply rD_)); exact HO233.out))) (bz_ (by repeat (first | (with_reducible first | exact HB.out | apply lA_ | apply lN_ | apply l1_ | refine below_set ?_ GE157.out | refine below_set ?_ GE171.out) | exact HB.out))))
                have n4_ := Aside0.mk (bb_ (g := gb157) (o := .cells #[.int .u64 x158000_3, .int .u64 x158001_3, .int .u64 x158002_3, .string x158003_3, .string x158004_3, .int .i64 x158005_3, .int .i64 x158006_3, .int .u64 x158007_3, .int .u64 x158008_3, .slice Ao110 x158009_3.length co110] 40 (0, 0)) (by (with_reducible repeat (first | refine bN_ ?_ _ | refine bD_ ?_ | refine bA_ ?_ _)); exact BK157.out) hb)
                have n5_ := Aside0.mk (bb_ (g := gb171) (o := .cells #[.int .u64 x172000_3, .int .u64 x172001_3, .int .u64 x172002_3, .string x172003_3, .string x172004_3, .int .i64 x172005_3, .int .i64 x172006_3, .int .u64 x172007_3, .int .u64 x172008_3, .slice Ao112 x172009_3.length co112] 40 (0, 0)) (by (with_reducible repeat (first | refine bN_ ?_ _ | refine bD_ ?_ | refine bA_ ?_ _)); exact BK171.out) hb)
                have n6_ := Aside0.mk (ls_ (by repeat (first | (with_reducible first | exact HB.out | apply lA_ | apply lN_ | apply l1_ | refine below_set ?_ GE157.out | refine below_set ?_ GE171.out) | exact HB.out)) hb)
                clear HO_158009
                clear HO_172009
                clear HO233
                clear BK157
                clear BK171
                clear HB
                have HO_158009 := n0_
                have HO_172009 := n1_
                have HO233 := n2_
                have HO245 := n3_
                have BK157 := n4_
                have BK171 := n5_
                have HB := n6_
                clear n0_ n1_ n2_ n3_ n4_ n5_ n6_
                (try clear hb)
                (try clear hb2)
                (try clear hk)
                (try clear hi)
                (try clear ho0)
                obtain ⟨Ao114, co114, eo114⟩ := Kd.R_slice HO233.out
                (first | subst eo114 | (injection eo114 with f1_ f2_ f3_; have f4_ := f1_.symm; have f5_ := f3_.symm; clear f1_ f2_ f3_; subst f4_; subst f5_))
                obtain ⟨Ao115, co115, eo115⟩ := Kd.R_slice HO245.out
                (first | subst eo115 | (injection eo115 with f1_ f2_ f3_; have f4_ := f1_.symm; have f5_ := f3_.symm; clear f1_ f2_ f3_; subst f4_; subst f5_))
                refine hK.out _ _ ⟨(bc1_ BK157.out 0).trans rfl, (bc1_ BK157.out 1).trans rfl, (bc1_ BK157.out 2).trans rfl, (bc1_ BK157.out 3).trans rfl, (bc1_ BK157.out 4).trans rfl, (bc1_ BK157.out 5).trans rfl, (bc1_ BK157.out 6).trans rfl, (bc1_ BK157.out 7).trans rfl, (bc1_ BK157.out 8).trans rfl, (bc1_ BK157.out 9).trans rfl, (bc1_ BK171.out 0).trans rfl, (bc1_ BK171.out 1).trans rfl, (bc1_ BK171.out 2).trans rfl, (bc1_ BK171.out 3).trans rfl, (bc1_ BK171.out 4).trans rfl, (bc1_ BK171.out 5).trans rfl, (bc1_ BK171.out 6).trans rfl, (bc1_ BK171.out 7).trans rfl, (bc1_ BK171.out 8).trans rfl, (bc1_ BK171.out 9).trans rfl⟩ (fun hHeld => ?_)
                clear hK K
                refine norm_ (a' := ?_) ?_ ?_
                rotate_left
                ·show Act.put _ (some 80) _ = _
                 simp only [Act.put, sb_, sz_, ss_, i64_w, i32_w]
                 rfl
                refine one_ (i := 4) (N := some 81) #[true, true, true, true, true, false] rfl rfl (by kernel_rfl) (by decide) (fun K hK => ?_)
                refine goes_ Try.func23 (by kernel_rfl) rfl #[.agg #[.int .u64 t222, .int .u64 t223, .int .u64 t224, .string t225, .string t226, .int .i64 t227, .int .i64 t228, .int .u64 t229, .int .u64 t230, .slice Ao114 t231.length co114], .agg #[.int .u64 t234, .int .u64 t235, .int .u64 t236, .string t237, .string t238, .int .i64 t239, .int .i64 t240, .int .u64 t241, .int .u64 t242, .slice Ao115 t243.length co115]] (by rfl) rfl rfl (by (try simp only [List.map_toArray, List.map_cons, List.map_nil]); first | done | rfl | (simp only [List.length_drop, List.length_take]; rfl)) ?_
                with_reducible refine (tallyroomref06_Same.calls t222 t223 t224 t225 t226 t227 t228 t229 t230 _ _ t231 t234 t235 t236 t237 t238 t239 t240 t241 t242 _ _ t243 false _ ?side1 ?side2 ?side3 ?side4 A76.out).mono ?_
                (case side1 => repeat (first | exact (Kd.R_reads' HO233.out).2.2 | (with_reducible refine Kd.C_alloc ?_ _) | (with_reducible refine Kd.C_drewN ?_ _) | (with_reducible refine Kd.C_drew ?_)))
                (case side2 => exact (Kd.R_reads' HO233.out).2.1)
                (case side3 => repeat (first | exact (Kd.R_reads' HO245.out).2.2 | (with_reducible refine Kd.C_alloc ?_ _) | (with_reducible refine Kd.C_drewN ?_ _) | (with_reducible refine Kd.C_drew ?_)))
                (case side4 => exact (Kd.R_reads' HO245.out).2.1)
                rintro e w116 ⟨rfl, hb⟩
                refine ⟨_, rfl, ?_⟩
                have n0_ := Aside0.mk (Kd.R_below (by (with_reducible repeat (first | apply rA_ | apply rN_ | apply rD_)); exact HO_158009.out) hb)
                have n1_ := Aside0.mk (Kd.R_below (by (with_reducible repeat (first | apply rA_ | apply rN_ | apply rD_)); exact HO_172009.out) hb)
                have n2_ := Aside0.mk (Kd.R_below (by (with_reducible repeat (first | apply rA_ | apply rN_ | apply rD_)); exact HO233.out) hb)
                have n3_ := Aside0.mk (Kd.R_below (by (with_reducible repeat (first | apply rA_ | apply rN_ | apply rD_)); exact HO245.out) hb)
                have n4_ := Aside0.mk (bb_ (g := gb157) (o := .cells #[.int .u64 x158000_3, .int .u64 x158001_3, .int .u64 x158002_3, .string x158003_3, .string x158004_3, .int .i64 x158005_3, .int .i64 x158006_3, .int .u64 x158007_3, .int .u64 x158008_3, .slice Ao110 x158009_3.length co110] 40 (0, 0)) (by (with_reducible repeat (first | refine bN_ ?_ _ | refine bD_ ?_ | refine bA_ ?_ _)); exact BK157.out) hb)
                have n5_ := Aside0.mk (bb_ (g := gb171) (o := .cells #[.int .u64 x172000_3, .int .u64 x172001_3, .int .u64 x172002_3, .string x172003_3, .string x172004_3, .int .i64 x172005_3, .int .i64 x172006_3, .int .u64 x172007_3, .int .u64 x172008_3, .slice Ao112 x172009_3.length co112] 40 (0, 0)) (by (with_reducible repeat (first | refine bN_ ?_ _ | refine bD_ ?_ | refine bA_ ?_ _)); exact BK171.out) hb)
                have n6_ := Aside0.mk (ls_ (by repeat (first | (with_reducible first | exact HB.out | apply lA_ | apply lN_ | apply l1_ | refine below_set ?_ GE157.out | refine below_set ?_ GE171.out) | exact HB.out)) hb)
                clear HO_158009
                clear HO_172009
                clear HO233
                clear HO245
                clear BK157
                clear BK171
                clear HB
                have HO_158009 := n0_
                have HO_172009 := n1_
                have HO233 := n2_
                have HO245 := n3_
                have BK157 := n4_
                have BK171 := n5_
                have HB := n6_
                clear n0_ n1_ n2_ n3_ n4_ n5_ n6_
                (try clear hb)
                (try clear hb2)
                (try clear hk)
                (try clear hi)
                refine hK.out _ _ ⟨(bc1_ BK157.out 0).trans rfl, (bc1_ BK157.out 1).trans rfl, (bc1_ BK157.out 2).trans rfl, (bc1_ BK157.out 3).trans rfl, (bc1_ BK157.out 4).trans rfl, (bc1_ BK157.out 5).trans rfl, (bc1_ BK157.out 6).trans rfl, (bc1_ BK157.out 7).trans rfl, (bc1_ BK157.out 8).trans rfl, (bc1_ BK157.out 9).trans rfl, (bc1_ BK171.out 0).trans rfl, (bc1_ BK171.out 1).trans rfl, (bc1_ BK171.out 2).trans rfl, (bc1_ BK171.out 3).trans rfl, (bc1_ BK171.out 4).trans rfl, (bc1_ BK171.out 5).trans rfl, (bc1_ BK171.out 6).trans rfl, (bc1_ BK171.out 7).trans rfl, (bc1_ BK171.out 8).trans rfl, (bc1_ BK171.out 9).trans rfl⟩ (fun hHeld => ?_)
                clear hK K
                refine norm_ (a' := ?_) ?_ ?_
                rotate_left
                ·show Act.put _ (some 81) _ = _
                 simp only [Act.put, sb_, sz_, ss_, i64_w, i32_w]
                 rfl
                refine pure_ (i := 5) (N := some 82) (v := ?_) (a' := ?_) #[true, true, true, true, true, true] rfl rfl (by kernel_rfl) (fun _ _ _ h => h) (Or.inl ⟨by rfl, ?_⟩) ?_ ?_
                rotate_left
                ·intro w'
                 go_simp
                 with_reducible rfl
                rotate_left
                ·simp only [Act.put, sb_, sz_, ss_, i64_w, i32_w]
                 rfl
                refine done_ (by kernel_rfl) ?_
                try go_wp2
                go_ret
                exact ⟨by first | rfl | (have e_ := Option.some.inj (A16.out.symm.trans A21.out); simp only [Prod.mk.injEq] at e_; obtain ⟨rfl, rfl, rfl, rfl, rfl, rfl, rfl, rfl, rfl, rfl⟩ := e_; first | rfl | (simp [*, errW_none, errW_some] <;> rfl)) | (have e_ := Option.some.inj (A16.out.symm.trans A33.out); simp only [Prod.mk.injEq] at e_; obtain ⟨rfl, rfl, rfl, rfl, rfl, rfl, rfl, rfl, rfl, rfl⟩ := e_; first | rfl | (simp [*, errW_none, errW_some] <;> rfl)) | (have e_ := Option.some.inj (A21.out.symm.trans A33.out); simp only [Prod.mk.injEq] at e_; obtain ⟨rfl, rfl, rfl, rfl, rfl, rfl, rfl, rfl, rfl, rfl⟩ := e_; first | rfl | (simp [*, errW_none, errW_some] <;> rfl)) | (have e_ := Option.some.inj (A34.out.symm.trans A39.out); simp only [Prod.mk.injEq] at e_; obtain ⟨rfl, rfl, rfl, rfl, rfl, rfl, rfl, rfl, rfl, rfl⟩ := e_; first | rfl | (simp [*, errW_none, errW_some] <;> rfl)) | (have e_ := Option.some.inj (A40.out.symm.trans A74.out); simp only [Prod.mk.injEq] at e_; obtain ⟨rfl, rfl, rfl, rfl, rfl, rfl, rfl, rfl, rfl, rfl⟩ := e_; first | rfl | (simp [*, errW_none, errW_some] <;> rfl)) | (simp [errW_none, errW_some] <;> rfl) | (simp only [← hji18]; first | rfl | (simp [errW_none, errW_some] <;> rfl)) | (simp [*, errW_none, errW_some] <;> rfl), by repeat (first | (with_reducible first | exact HB.out | apply lA_ | apply lN_ | apply l1_ | refine below_set ?_ GE157.out | refine below_set ?_ GE171.out) | exact HB.out)⟩
           ·rw [if_neg c20] at H
            exact absurd H (by simp)
          ·rw [if_neg c19] at H
           exact absurd H (by simp)
        ·rw [if_neg c15] at H
         exact absurd H (by simp)
 ·replace c4 := Bool.eq_false_iff.mpr c4
  subst c4
  have H1 : (some false) = some r := by rw [if_neg (show ¬ (false = true) by decide)] at H; exact H
  clear H
  have H := H1
  clear H1
  obtain rfl := Option.some.inj H
  go_enter Try.func5, Try.ntmps5
  go_wp2_with (first | ((with_reducible refine gate_callee (f := 15) rfl ?_); refine goesL_ (some 13) rfl rfl Try.func15 (by kernel_rfl) rfl #[] rfl (by (try simp only [List.map_toArray, List.map_cons, List.map_nil]); first | done | rfl | (simp only [List.length_drop, List.length_take]; rfl)) ?_; (with_reducible refine (tallyroomlaw09_alive.calls  false _ A3.out).mono ?_); rintro e w117 ⟨rfl, hb⟩; refine ⟨_, rfl, ?_⟩; have n0_ := Aside0.mk (ls_ (by repeat (first | (with_reducible first | exact HB.out | apply lA_ | apply lN_ | apply l1_) | exact HB.out)) hb); clear HB; have HB := n0_; clear n0_; (try clear hb); (try clear hb2); (try clear hk); (try clear hi)))
  go_ret
  exact ⟨by first | rfl | (have e_ := Option.some.inj (A16.out.symm.trans A21.out); simp only [Prod.mk.injEq] at e_; obtain ⟨rfl, rfl, rfl, rfl, rfl, rfl, rfl, rfl, rfl, rfl⟩ := e_; first | rfl | (simp [*, errW_none, errW_some] <;> rfl)) | (have e_ := Option.some.inj (A16.out.symm.trans A33.out); simp only [Prod.mk.injEq] at e_; obtain ⟨rfl, rfl, rfl, rfl, rfl, rfl, rfl, rfl, rfl, rfl⟩ := e_; first | rfl | (simp [*, errW_none, errW_some] <;> rfl)) | (have e_ := Option.some.inj (A21.out.symm.trans A33.out); simp only [Prod.mk.injEq] at e_; obtain ⟨rfl, rfl, rfl, rfl, rfl, rfl, rfl, rfl, rfl, rfl⟩ := e_; first | rfl | (simp [*, errW_none, errW_some] <;> rfl)) | (have e_ := Option.some.inj (A34.out.symm.trans A39.out); simp only [Prod.mk.injEq] at e_; obtain ⟨rfl, rfl, rfl, rfl, rfl, rfl, rfl, rfl, rfl, rfl⟩ := e_; first | rfl | (simp [*, errW_none, errW_some] <;> rfl)) | (have e_ := Option.some.inj (A40.out.symm.trans A74.out); simp only [Prod.mk.injEq] at e_; obtain ⟨rfl, rfl, rfl, rfl, rfl, rfl, rfl, rfl, rfl, rfl⟩ := e_; first | rfl | (simp [*, errW_none, errW_some] <;> rfl)) | (simp [errW_none, errW_some] <;> rfl) | (simp [*, errW_none, errW_some] <;> rfl), by repeat (first | (with_reducible first | exact HB.out | apply lA_ | apply lN_ | apply l1_) | exact HB.out)⟩

end Go.Proofs.Ytllepjhimkogjaa.XDPr
