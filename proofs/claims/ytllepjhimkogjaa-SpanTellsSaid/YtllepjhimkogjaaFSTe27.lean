/- The law's proof, part 27: the text XSpx22 of this session, or words printed for this seat; what the theorem doesn't use is left out. No conditions. -/
import Derived.Test.YtllepjhimkogjaaFSTe26
import Derived.Test.YtllepjhimkogjaaFSTe9
namespace Go.Proofs.Ytllepjhimkogjaa.Shr
end Go.Proofs.Ytllepjhimkogjaa.Shr
namespace Go.Proofs.YtllepjhimkogjaaW.PrintLast
end Go.Proofs.YtllepjhimkogjaaW.PrintLast
namespace Go.Proofs.YtllepjhimkogjaaW.PrintMore
end Go.Proofs.YtllepjhimkogjaaW.PrintMore
namespace Go.Proofs.YtllepjhimkogjaaW.PrintWords
end Go.Proofs.YtllepjhimkogjaaW.PrintWords
namespace Go.Proofs.Ytllepjhimkogjaa.XSp
open Go.RowKit Go.Proofs.YtllepjhimkogjaaW.PrintWords Go.Proofs.YtllepjhimkogjaaW.PrintLast Go.Proofs.YtllepjhimkogjaaW.PrintMore Go.Proofs.Ytllepjhimkogjaa.Shr
set_option linter.unusedVariables false
set_option linter.unusedSimpArgs false
mutual
def tallyroomref06_Compare.l0 : Nat → List Int → Int → Int → Int → Int → ByteArray → ByteArray → Int → Int → Int → Int → List (S63) → Int → Int → Int → ByteArray → ByteArray → Int → Int → Int → Int → List (S63) → Option (Int)
 | 0, _, _, _, _, _, _, _, _, _, _, _, _, _, _, _, _, _, _, _, _, _, _ => none
 | k + 1, x5, x6, x141000, x141001, x141002, x141003, x141004, x141005, x141006, x141007, x141008, x141009, x142000, x142001, x142002, x142003, x142004, x142005, x142006, x142007, x142008, x142009 => if x6 < (x141009.length : Int) then (tallyroomref06_Compare.j1 k x5 x6 (decide (x6 < (x142009.length : Int))) x141000 x141001 x141002 x141003 x141004 x141005 x141006 x141007 x141008 x141009 x142000 x142001 x142002 x142003 x142004 x142005 x142006 x142007 x142008 x142009) else (tallyroomref06_Compare.j1 k x5 x6 false x141000 x141001 x141002 x141003 x141004 x141005 x141006 x141007 x141008 x141009 x142000 x142001 x142002 x142003 x142004 x142005 x142006 x142007 x142008 x142009)
def tallyroomref06_Compare.j1 : Nat → List Int → Int → Bool → Int → Int → Int → ByteArray → ByteArray → Int → Int → Int → Int → List (S63) → Int → Int → Int → ByteArray → ByteArray → Int → Int → Int → Int → List (S63) → Option (Int)
 | 0, _, _, _, _, _, _, _, _, _, _, _, _, _, _, _, _, _, _, _, _, _, _, _ => none
 | k + 1, x5, x6, x121, x141000, x141001, x141002, x141003, x141004, x141005, x141006, x141007, x141008, x141009, x142000, x142001, x142002, x142003, x142004, x142005, x142006, x142007, x142008, x142009 => if x121 = true then (if 0 ≤ x6 then (if x6 < (x141009.length : Int) then (if x6 < (x142009.length : Int) then ((tallyroomref06_order.f (Op.bytesLess (((rd_T63 x141009 x6).f0).toList) (((rd_T63 x142009 x6).f0).toList)) (((rd_T63 x141009 x6).f0).toList == ((rd_T63 x142009 x6).f0).toList)).bind fun t158 => ((tallyroomref04_Compare.f k ((rd_T63 x141009 x6).f1.f0) ((rd_T63 x141009 x6).f1.f1) ((rd_T63 x141009 x6).f1.f2) ((rd_T63 x142009 x6).f1.f0) ((rd_T63 x142009 x6).f1.f1) ((rd_T63 x142009 x6).f1.f2)).bind fun t159 => ((some (([t158, t159] : List Int) : List Int)).bind fun y160 => (if x5.length + y160.length < 17592186044416 then (tallyroomref06_Compare.l0 k (x5 ++ y160) (wrap64 (x6 + 1)) x141000 x141001 x141002 x141003 x141004 x141005 x141006 x141007 x141008 x141009 x142000 x142001 x142002 x142003 x142004 x142005 x142006 x142007 x142008 x142009) else (none))))) else (none)) else (none)) else (none)) else ((tallyroomref06_order.f (decide ((x141009.length : Int) < (x142009.length : Int))) ((x141009.length : Int) == (x142009.length : Int))).bind fun t166 => (if x5.length < 17592186044416 then (tallyroomref06_Compare.l1 k (x5 ++ [t166]) 0) else (none)))
def tallyroomref06_Compare.l1 : Nat → List Int → Int → Option (Int)
 | 0, _, _ => none
 | k + 1, x5, x9 => if x9 < (x5.length : Int) then (if 0 ≤ x9 then (if (rd x5 x9) = 0 then (tallyroomref06_Compare.l1 k x5 (wrap64 (x9 + 1))) else (some (rd x5 x9))) else (none)) else (some 0)
end
def tallyroomref06_Compare.f (k : Nat) (a0_0 : Int) (a0_1 : Int) (a0_2 : Int) (a0_3 : ByteArray) (a0_4 : ByteArray) (a0_5 : Int) (a0_6 : Int) (a0_7 : Int) (a0_8 : Int) (l0_9 : List (S63)) (a1_0 : Int) (a1_1 : Int) (a1_2 : Int) (a1_3 : ByteArray) (a1_4 : ByteArray) (a1_5 : Int) (a1_6 : Int) (a1_7 : Int) (a1_8 : Int) (l1_9 : List (S63)) : Option (Int) := (tallyroomref06_order.f (decide (a0_0 < a1_0)) (a0_0 == a1_0)).bind fun t142 => ((tallyroomref06_order.f (decide (a0_1 < a1_1)) (a0_1 == a1_1)).bind fun t143 => ((tallyroomref06_order.f (decide (a0_2 < a1_2)) (a0_2 == a1_2)).bind fun t144 => ((tallyroomref06_order.f (Op.bytesLess a0_3.toList a1_3.toList) (a0_3.toList == a1_3.toList)).bind fun t145 => ((tallyroomref06_order.f (Op.bytesLess a0_4.toList a1_4.toList) (a0_4.toList == a1_4.toList)).bind fun t146 => ((tallyroomref06_order.f (decide (a0_5 < a1_5)) (a0_5 == a1_5)).bind fun t147 => ((tallyroomref06_order.f (decide (a0_6 < a1_6)) (a0_6 == a1_6)).bind fun t148 => ((tallyroomref06_order.f (decide (a0_7 < a1_7)) (a0_7 == a1_7)).bind fun t149 => ((tallyroomref06_order.f (decide (a0_8 < a1_8)) (a0_8 == a1_8)).bind fun t150 => (tallyroomref06_Compare.l0 k (([t142, t143, t144, t145, t146, t147, t148, t149, t150] : List Int)) 0 a0_0 a0_1 a0_2 a0_3 a0_4 a0_5 a0_6 a0_7 a0_8 l0_9 a1_0 a1_1 a1_2 a1_3 a1_4 a1_5 a1_6 a1_7 a1_8 l1_9)))))))))
theorem tallyroomref06_Compare.mono_l : ∀ k, (∀ y0 y1 y2 y3 y4 y5 y6 y7 y8 y9 y10 y11 y12 y13 y14 y15 y16 y17 y18 y19 y20 y21, LeO (tallyroomref06_Compare.l0 k y0 y1 y2 y3 y4 y5 y6 y7 y8 y9 y10 y11 y12 y13 y14 y15 y16 y17 y18 y19 y20 y21) (tallyroomref06_Compare.l0 (k + 1) y0 y1 y2 y3 y4 y5 y6 y7 y8 y9 y10 y11 y12 y13 y14 y15 y16 y17 y18 y19 y20 y21)) ∧ (∀ y0 y1 y2 y3 y4 y5 y6 y7 y8 y9 y10 y11 y12 y13 y14 y15 y16 y17 y18 y19 y20 y21 y22, LeO (tallyroomref06_Compare.j1 k y0 y1 y2 y3 y4 y5 y6 y7 y8 y9 y10 y11 y12 y13 y14 y15 y16 y17 y18 y19 y20 y21 y22) (tallyroomref06_Compare.j1 (k + 1) y0 y1 y2 y3 y4 y5 y6 y7 y8 y9 y10 y11 y12 y13 y14 y15 y16 y17 y18 y19 y20 y21 y22)) ∧ (∀ y0 y1, LeO (tallyroomref06_Compare.l1 k y0 y1) (tallyroomref06_Compare.l1 (k + 1) y0 y1))
 | 0 => ⟨fun _ _ _ _ _ _ _ _ _ _ _ _ _ _ _ _ _ _ _ _ _ _ r h => by simp [tallyroomref06_Compare.l0] at h, fun _ _ _ _ _ _ _ _ _ _ _ _ _ _ _ _ _ _ _ _ _ _ _ r h => by simp [tallyroomref06_Compare.j1] at h, fun _ _ r h => by simp [tallyroomref06_Compare.l1] at h⟩
 | k + 1 => by
  obtain ⟨ih0, ih1, ih2⟩ := tallyroomref06_Compare.mono_l k
  refine ⟨?_, ?_, ?_⟩
  ·intro y0 y1 y2 y3 y4 y5 y6 y7 y8 y9 y10 y11 y12 y13 y14 y15 y16 y17 y18 y19 y20 y21
   unfold tallyroomref06_Compare.l0
   repeat' first
   | (with_reducible exact ih0 _ _ _ _ _ _ _ _ _ _ _ _ _ _ _ _ _ _ _ _ _ _)
   | (with_reducible exact ih1 _ _ _ _ _ _ _ _ _ _ _ _ _ _ _ _ _ _ _ _ _ _ _)
   | (with_reducible exact ih2 _ _)
   | (with_reducible exact tallyroomref04_Compare.mono _ _ _ _ _ _ _)
   | (with_reducible exact LeO.refl _)
   | (with_reducible exact LeO.none _)
   | (with_reducible refine LeO.ite ?_ ?_)
   | (with_reducible refine LeO.bind ?_ (fun _ => ?_))
   | exact ih0 _ _ _ _ _ _ _ _ _ _ _ _ _ _ _ _ _ _ _ _ _ _
   | exact ih1 _ _ _ _ _ _ _ _ _ _ _ _ _ _ _ _ _ _ _ _ _ _ _
   | exact ih2 _ _
   | exact tallyroomref04_Compare.mono _ _ _ _ _ _ _
   | exact LeO.none _
   | refine LeO.ite ?_ ?_
   | refine LeO.bind ?_ (fun _ => ?_)
  ·intro y0 y1 y2 y3 y4 y5 y6 y7 y8 y9 y10 y11 y12 y13 y14 y15 y16 y17 y18 y19 y20 y21 y22
   unfold tallyroomref06_Compare.j1
   repeat' first
   | (with_reducible exact ih0 _ _ _ _ _ _ _ _ _ _ _ _ _ _ _ _ _ _ _ _ _ _)
   | (with_reducible exact ih1 _ _ _ _ _ _ _ _ _ _ _ _ _ _ _ _ _ _ _ _ _ _ _)
   | (with_reducible exact ih2 _ _)
   | (with_reducible exact tallyroomref04_Compare.mono _ _ _ _ _ _ _)
   | (with_reducible exact LeO.refl _)
   | (with_reducible exact LeO.none _)
   | (with_reducible refine LeO.ite ?_ ?_)
   | (with_reducible refine LeO.bind ?_ (fun _ => ?_))
   | exact ih0 _ _ _ _ _ _ _ _ _ _ _ _ _ _ _ _ _ _ _ _ _ _
   | exact ih1 _ _ _ _ _ _ _ _ _ _ _ _ _ _ _ _ _ _ _ _ _ _ _
   | exact ih2 _ _
   | exact tallyroomref04_Compare.mono _ _ _ _ _ _ _
   | exact LeO.none _
   | refine LeO.ite ?_ ?_
   | refine LeO.bind ?_ (fun _ => ?_)
  ·intro y0 y1
   unfold tallyroomref06_Compare.l1
   repeat' first
   | (with_reducible exact ih0 _ _ _ _ _ _ _ _ _ _ _ _ _ _ _ _ _ _ _ _ _ _)
   | (with_reducible exact ih1 _ _ _ _ _ _ _ _ _ _ _ _ _ _ _ _ _ _ _ _ _ _ _)
   | (with_reducible exact ih2 _ _)
   | (with_reducible exact tallyroomref04_Compare.mono _ _ _ _ _ _ _)
   | (with_reducible exact LeO.refl _)
   | (with_reducible exact LeO.none _)
   | (with_reducible refine LeO.ite ?_ ?_)
   | (with_reducible refine LeO.bind ?_ (fun _ => ?_))
   | exact ih0 _ _ _ _ _ _ _ _ _ _ _ _ _ _ _ _ _ _ _ _ _ _
   | exact ih1 _ _ _ _ _ _ _ _ _ _ _ _ _ _ _ _ _ _ _ _ _ _ _
   | exact ih2 _ _
   | exact tallyroomref04_Compare.mono _ _ _ _ _ _ _
   | exact LeO.none _
   | refine LeO.ite ?_ ?_
   | refine LeO.bind ?_ (fun _ => ?_)
theorem tallyroomref06_Compare.mono : ∀ a0 a1 a2 a3 a4 a5 a6 a7 a8 a9 a10 a11 a12 a13 a14 a15 a16 a17 a18 a19 k, LeO (tallyroomref06_Compare.f k a0 a1 a2 a3 a4 a5 a6 a7 a8 a9 a10 a11 a12 a13 a14 a15 a16 a17 a18 a19) (tallyroomref06_Compare.f (k + 1) a0 a1 a2 a3 a4 a5 a6 a7 a8 a9 a10 a11 a12 a13 a14 a15 a16 a17 a18 a19) := by
 intro a0 a1 a2 a3 a4 a5 a6 a7 a8 a9 a10 a11 a12 a13 a14 a15 a16 a17 a18 a19 k
 obtain ⟨ih0, ih1, ih2⟩ := tallyroomref06_Compare.mono_l k
 unfold tallyroomref06_Compare.f
 repeat' first
   | (with_reducible exact ih0 _ _ _ _ _ _ _ _ _ _ _ _ _ _ _ _ _ _ _ _ _ _)
   | (with_reducible exact ih1 _ _ _ _ _ _ _ _ _ _ _ _ _ _ _ _ _ _ _ _ _ _ _)
   | (with_reducible exact ih2 _ _)
   | (with_reducible exact tallyroomref04_Compare.mono _ _ _ _ _ _ _)
   | (with_reducible exact LeO.refl _)
   | (with_reducible exact LeO.none _)
   | (with_reducible refine LeO.ite ?_ ?_)
   | (with_reducible refine LeO.bind ?_ (fun _ => ?_))
   | exact ih0 _ _ _ _ _ _ _ _ _ _ _ _ _ _ _ _ _ _ _ _ _ _
   | exact ih1 _ _ _ _ _ _ _ _ _ _ _ _ _ _ _ _ _ _ _ _ _ _ _
   | exact ih2 _ _
   | exact tallyroomref04_Compare.mono _ _ _ _ _ _ _
   | exact LeO.none _
   | refine LeO.ite ?_ ?_
   | refine LeO.bind ?_ (fun _ => ?_)
def tallyroomref06_Compare.T1 : Bool × List (List Nat × List Nat) := (true, [([], []), ([0], [0]), ([], []), ([2], [2]), ([1, 3], [1, 3]), ([], []), ([5], [5]), ([], []), ([7], [7]), ([6, 8], [6, 8]), ([4, 9], [4, 9]), ([], []), ([11], [11]), ([], []), ([13], [13]), ([12, 14], [12, 14]), ([], []), ([16], [16]), ([], []), ([18], [18]), ([17, 19], [17, 19]), ([15, 20, 10], [15, 20]), ([], []), ([22], [22]), ([], []), ([24], [24]), ([23, 25], [23, 25]), ([], []), ([27], [27]), ([], []), ([29], [29]), ([28, 30], [28, 30]), ([26, 31, 21], [26, 31]), ([], []), ([33], [33]), ([], []), ([35], [35]), ([34, 36], [34, 36]), ([], []), ([38], [38]), ([], []), ([40], [40]), ([39, 41], [39, 41]), ([37, 42, 32], [37, 42]), ([], []), ([44], [44]), ([], []), ([46], [46]), ([45, 47], [45, 47]), ([], []), ([49], [49]), ([], []), ([51], [51]), ([50, 52], [50, 52]), ([48, 53, 43], [48, 53]), ([], []), ([55], [55]), ([], []), ([57], [57]), ([56, 58], [56, 58]), ([], []), ([60], [60]), ([], []), ([62], [62]), ([61, 63], [61, 63]), ([59, 64, 54], [59, 64]), ([], []), ([66], [66]), ([], []), ([68], [68]), ([67, 69], [67, 69]), ([], []), ([71], [71]), ([], []), ([73], [73]), ([72, 74], [72, 74]), ([70, 75, 65], [70, 75]), ([], []), ([77], [77]), ([], []), ([79], [79]), ([78, 80], [78, 80]), ([], []), ([82], [82]), ([], []), ([84], [84]), ([83, 85], [83, 85]), ([81, 86, 76], [81, 86]), ([], []), ([88], [88]), ([], []), ([90], [90]), ([89, 91], [89, 91]), ([], []), ([93], [93]), ([], []), ([95], [95]), ([94, 96], [94, 96]), ([92, 97, 87], [92, 97]), ([10, 21, 32, 43, 54, 65, 76, 87, 98], [10, 21, 32, 43, 54, 65, 76, 87, 98]), ([99, 98, 0, 1, 2, 3, 4, 5, 6, 7, 8, 9, 10, 11, 12, 13, 14, 15, 16, 17, 18, 19, 20, 21, 22, 23, 24, 25, 26, 27, 28, 29, 30, 31, 32, 33, 34, 35, 36, 37, 38, 39, 40, 41, 42, 43, 44, 45, 46, 47, 48, 49, 50, 51, 52, 53, 54, 55, 56, 57, 58, 59, 60, 61, 62, 63, 64, 65, 66, 67, 68, 69, 70, 71, 72, 73, 74, 75, 76, 77, 78, 79, 80, 81, 82, 83, 84, 85, 86, 87, 88, 89, 90, 91, 92, 93, 94, 95, 96, 97, 98, 99], [99])])
def tallyroomref06_Compare.B1 : List Nat := [0, 1, 0, 4, 15, 0, 32, 0, 128, 480, 1023, 0, 2048, 0, 8192, 30720, 0, 65536, 0, 262144, 983040, 2097151, 0, 4194304, 0, 16777216, 62914560, 0, 134217728, 0, 536870912, 2013265920, 4294967295, 0, 8589934592, 0, 34359738368, 128849018880, 0, 274877906944, 0, 1099511627776, 4123168604160, 8796093022207, 0, 17592186044416, 0, 70368744177664, 263882790666240, 0, 562949953421312, 0, 2251799813685248, 8444249301319680, 18014398509481983, 0, 36028797018963968, 0, 144115188075855872, 540431955284459520, 0, 1152921504606846976, 0, 4611686018427387904, 17293822569102704640, 36893488147419103231, 0, 73786976294838206464, 0, 295147905179352825856, 1106804644422573096960, 0, 2361183241434822606848, 0, 9444732965739290427392, 35417748621522339102720, 75557863725914323419135, 0, 151115727451828646838272, 0, 604462909807314587353088, 2266735911777429702574080, 0, 4835703278458516698824704, 0, 19342813113834066795298816, 72535549176877750482370560, 154742504910672534362390527, 0, 309485009821345068724781056, 0, 1237940039285380274899124224, 4642275147320176030871715840, 0, 9903520314283042199192993792, 0, 39614081257132168796771975168, 148552804714245632987894906880, 316912650057057350374175801343, 633825300114114700748351602687, 1267650600228229401496703205375]
theorem tallyroomref06_Compare.tab1 : rtab .any (opsOf Try.f25 1) = tallyroomref06_Compare.T1 := by kernel_rfl
theorem tallyroomref06_Compare.bits1 : waitsOk tallyroomref06_Compare.T1.2 tallyroomref06_Compare.B1 = true := by kernel_rfl
def tallyroomref06_Compare.T5 : Bool × List (List Nat × List Nat) := (true, [([], []), ([0], [0]), ([], []), ([1, 2], [1, 2]), ([3], [3]), ([], []), ([5], [5]), ([], []), ([6, 7], [6, 7]), ([8], [8]), ([], []), ([], []), ([10, 4, 0, 1, 2, 3, 4, 10, 11], [4, 10]), ([11, 9, 12, 0, 1, 2, 3, 4, 5, 6, 7, 8, 9, 10, 11, 12], [9, 11])])
def tallyroomref06_Compare.B5 : List Nat := [0, 1, 0, 7, 15, 0, 32, 0, 224, 480, 0, 0, 3103, 8191]
theorem tallyroomref06_Compare.tab5 : rtab .any (opsOf Try.f25 5) = tallyroomref06_Compare.T5 := by kernel_rfl
theorem tallyroomref06_Compare.bits5 : waitsOk tallyroomref06_Compare.T5.2 tallyroomref06_Compare.B5 = true := by kernel_rfl
def tallyroomref06_Compare.T6 : Bool × List (List Nat × List Nat) := (true, [([], []), ([], []), ([1], [1]), ([], []), ([3], [3]), ([2, 4], [2, 4]), ([], []), ([6], [6]), ([], []), ([8], [8]), ([7, 9], [7, 9]), ([5, 10], [5, 10]), ([], []), ([12], [12]), ([], []), ([14], [14]), ([13, 15, 11], [13, 15]), ([11, 16], [11, 16]), ([0, 17, 16], [0, 17]), ([18, 18, 0, 1, 2, 3, 4, 5, 6, 7, 8, 9, 10, 11, 12, 13, 14, 15, 16, 17, 18], [0, 18])])
def tallyroomref06_Compare.B6 : List Nat := [0, 0, 2, 0, 8, 30, 0, 64, 0, 256, 960, 2046, 0, 4096, 0, 16384, 65534, 131070, 262143, 524287]
theorem tallyroomref06_Compare.tab6 : rtab .any (opsOf Try.f25 6) = tallyroomref06_Compare.T6 := by kernel_rfl
theorem tallyroomref06_Compare.bits6 : waitsOk tallyroomref06_Compare.T6.2 tallyroomref06_Compare.B6 = true := by kernel_rfl
set_option maxHeartbeats 8000000 in
set_option maxRecDepth 100000 in
theorem tallyroomref06_Compare.calls (k : Nat) (a0_0 : Int) (a0_1 : Int) (a0_2 : Int) (a0_3 : ByteArray) (a0_4 : ByteArray) (a0_5 : Int) (a0_6 : Int) (a0_7 : Int) (a0_8 : Int) (A0_9 : Option Addr) (c0_9 : Nat) (l0_9 : List (S63)) (a1_0 : Int) (a1_1 : Int) (a1_2 : Int) (a1_3 : ByteArray) (a1_4 : ByteArray) (a1_5 : Int) (a1_6 : Int) (a1_7 : Int) (a1_8 : Int) (A1_9 : Option Addr) (c1_9 : Nat) (l1_9 : List (S63)) (r : Int) (w : World) (hr0_9 : Kd.C k63 w A0_9 l0_9.length l0_9) (hc0_9 : l0_9.length ≤ c0_9) (hr1_9 : Kd.C k63 w A1_9 l1_9.length l1_9) (hc1_9 : l1_9.length ≤ c1_9) (h : tallyroomref06_Compare.f k a0_0 a0_1 a0_2 a0_3 a0_4 a0_5 a0_6 a0_7 a0_8 l0_9 a1_0 a1_1 a1_2 a1_3 a1_4 a1_5 a1_6 a1_7 a1_8 l1_9 = some r) :
  Calls Try.prog 25 #[.agg #[.int .u64 a0_0, .int .u64 a0_1, .int .u64 a0_2, .string a0_3, .string a0_4, .int .i64 a0_5, .int .i64 a0_6, .int .u64 a0_7, .int .u64 a0_8, .slice A0_9 l0_9.length c0_9], .agg #[.int .u64 a1_0, .int .u64 a1_1, .int .u64 a1_2, .string a1_3, .string a1_4, .int .i64 a1_5, .int .i64 a1_6, .int .u64 a1_7, .int .u64 a1_8, .slice A1_9 l1_9.length c1_9]] w fun e w' => e = .returned (.int .i64 r) ∧ Below w.heap.size w w' := by
 have hu37 := Try.underlying37
 have hu63 := Try.underlying63
 have hu61 := Try.underlying61
 have HR0_9 := Aside0.mk hr0_9
 have HC0_9 := Aside0.mk hc0_9
 clear hr0_9 hc0_9
 have HR1_9 := Aside0.mk hr1_9
 have HC1_9 := Aside0.mk hc1_9
 clear hr1_9 hc1_9
 have HB := Aside0.mk (Below.refl w.heap.size w)
 have H : ((tallyroomref06_order.f (decide (a0_0 < a1_0)) (a0_0 == a1_0)).bind fun t142 => ((tallyroomref06_order.f (decide (a0_1 < a1_1)) (a0_1 == a1_1)).bind fun t143 => ((tallyroomref06_order.f (decide (a0_2 < a1_2)) (a0_2 == a1_2)).bind fun t144 => ((tallyroomref06_order.f (Op.bytesLess a0_3.toList a1_3.toList) (a0_3.toList == a1_3.toList)).bind fun t145 => ((tallyroomref06_order.f (Op.bytesLess a0_4.toList a1_4.toList) (a0_4.toList == a1_4.toList)).bind fun t146 => ((tallyroomref06_order.f (decide (a0_5 < a1_5)) (a0_5 == a1_5)).bind fun t147 => ((tallyroomref06_order.f (decide (a0_6 < a1_6)) (a0_6 == a1_6)).bind fun t148 => ((tallyroomref06_order.f (decide (a0_7 < a1_7)) (a0_7 == a1_7)).bind fun t149 => ((tallyroomref06_order.f (decide (a0_8 < a1_8)) (a0_8 == a1_8)).bind fun t150 => (tallyroomref06_Compare.l0 k (([t142, t143, t144, t145, t146, t147, t148, t149, t150] : List Int)) 0 a0_0 a0_1 a0_2 a0_3 a0_4 a0_5 a0_6 a0_7 a0_8 l0_9 a1_0 a1_1 a1_2 a1_3 a1_4 a1_5 a1_6 a1_7 a1_8 l1_9)))))))))) = some r := h
 clear h
 replace H := Option.bind_eq_some_iff.mp H
 obtain ⟨t142, A30, H⟩ := H
 replace H : ((tallyroomref06_order.f (decide (a0_1 < a1_1)) (a0_1 == a1_1)).bind fun t143 => ((tallyroomref06_order.f (decide (a0_2 < a1_2)) (a0_2 == a1_2)).bind fun t144 => ((tallyroomref06_order.f (Op.bytesLess a0_3.toList a1_3.toList) (a0_3.toList == a1_3.toList)).bind fun t145 => ((tallyroomref06_order.f (Op.bytesLess a0_4.toList a1_4.toList) (a0_4.toList == a1_4.toList)).bind fun t146 => ((tallyroomref06_order.f (decide (a0_5 < a1_5)) (a0_5 == a1_5)).bind fun t147 => ((tallyroomref06_order.f (decide (a0_6 < a1_6)) (a0_6 == a1_6)).bind fun t148 => ((tallyroomref06_order.f (decide (a0_7 < a1_7)) (a0_7 == a1_7)).bind fun t149 => ((tallyroomref06_order.f (decide (a0_8 < a1_8)) (a0_8 == a1_8)).bind fun t150 => (tallyroomref06_Compare.l0 k (([t142, t143, t144, t145, t146, t147, t148, t149, t150] : List Int)) 0 a0_0 a0_1 a0_2 a0_3 a0_4 a0_5 a0_6 a0_7 a0_8 l0_9 a1_0 a1_1 a1_2 a1_3 a1_4 a1_5 a1_6 a1_7 a1_8 l1_9))))))))) = some r := H
 have A3 := Aside0.mk A30
 clear A30
 replace H := Option.bind_eq_some_iff.mp H
 obtain ⟨t143, A40, H⟩ := H
 replace H : ((tallyroomref06_order.f (decide (a0_2 < a1_2)) (a0_2 == a1_2)).bind fun t144 => ((tallyroomref06_order.f (Op.bytesLess a0_3.toList a1_3.toList) (a0_3.toList == a1_3.toList)).bind fun t145 => ((tallyroomref06_order.f (Op.bytesLess a0_4.toList a1_4.toList) (a0_4.toList == a1_4.toList)).bind fun t146 => ((tallyroomref06_order.f (decide (a0_5 < a1_5)) (a0_5 == a1_5)).bind fun t147 => ((tallyroomref06_order.f (decide (a0_6 < a1_6)) (a0_6 == a1_6)).bind fun t148 => ((tallyroomref06_order.f (decide (a0_7 < a1_7)) (a0_7 == a1_7)).bind fun t149 => ((tallyroomref06_order.f (decide (a0_8 < a1_8)) (a0_8 == a1_8)).bind fun t150 => (tallyroomref06_Compare.l0 k (([t142, t143, t144, t145, t146, t147, t148, t149, t150] : List Int)) 0 a0_0 a0_1 a0_2 a0_3 a0_4 a0_5 a0_6 a0_7 a0_8 l0_9 a1_0 a1_1 a1_2 a1_3 a1_4 a1_5 a1_6 a1_7 a1_8 l1_9)))))))) = some r := H
 have A4 := Aside0.mk A40
 clear A40
 replace H := Option.bind_eq_some_iff.mp H
 obtain ⟨t144, A50, H⟩ := H
 replace H : ((tallyroomref06_order.f (Op.bytesLess a0_3.toList a1_3.toList) (a0_3.toList == a1_3.toList)).bind fun t145 => ((tallyroomref06_order.f (Op.bytesLess a0_4.toList a1_4.toList) (a0_4.toList == a1_4.toList)).bind fun t146 => ((tallyroomref06_order.f (decide (a0_5 < a1_5)) (a0_5 == a1_5)).bind fun t147 => ((tallyroomref06_order.f (decide (a0_6 < a1_6)) (a0_6 == a1_6)).bind fun t148 => ((tallyroomref06_order.f (decide (a0_7 < a1_7)) (a0_7 == a1_7)).bind fun t149 => ((tallyroomref06_order.f (decide (a0_8 < a1_8)) (a0_8 == a1_8)).bind fun t150 => (tallyroomref06_Compare.l0 k (([t142, t143, t144, t145, t146, t147, t148, t149, t150] : List Int)) 0 a0_0 a0_1 a0_2 a0_3 a0_4 a0_5 a0_6 a0_7 a0_8 l0_9 a1_0 a1_1 a1_2 a1_3 a1_4 a1_5 a1_6 a1_7 a1_8 l1_9))))))) = some r := H
 have A5 := Aside0.mk A50
 clear A50
 replace H := Option.bind_eq_some_iff.mp H
 obtain ⟨t145, A60, H⟩ := H
 replace H : ((tallyroomref06_order.f (Op.bytesLess a0_4.toList a1_4.toList) (a0_4.toList == a1_4.toList)).bind fun t146 => ((tallyroomref06_order.f (decide (a0_5 < a1_5)) (a0_5 == a1_5)).bind fun t147 => ((tallyroomref06_order.f (decide (a0_6 < a1_6)) (a0_6 == a1_6)).bind fun t148 => ((tallyroomref06_order.f (decide (a0_7 < a1_7)) (a0_7 == a1_7)).bind fun t149 => ((tallyroomref06_order.f (decide (a0_8 < a1_8)) (a0_8 == a1_8)).bind fun t150 => (tallyroomref06_Compare.l0 k (([t142, t143, t144, t145, t146, t147, t148, t149, t150] : List Int)) 0 a0_0 a0_1 a0_2 a0_3 a0_4 a0_5 a0_6 a0_7 a0_8 l0_9 a1_0 a1_1 a1_2 a1_3 a1_4 a1_5 a1_6 a1_7 a1_8 l1_9)))))) = some r := H
 have A6 := Aside0.mk A60
 clear A60
 replace H := Option.bind_eq_some_iff.mp H
 obtain ⟨t146, A70, H⟩ := H
 replace H : ((tallyroomref06_order.f (decide (a0_5 < a1_5)) (a0_5 == a1_5)).bind fun t147 => ((tallyroomref06_order.f (decide (a0_6 < a1_6)) (a0_6 == a1_6)).bind fun t148 => ((tallyroomref06_order.f (decide (a0_7 < a1_7)) (a0_7 == a1_7)).bind fun t149 => ((tallyroomref06_order.f (decide (a0_8 < a1_8)) (a0_8 == a1_8)).bind fun t150 => (tallyroomref06_Compare.l0 k (([t142, t143, t144, t145, t146, t147, t148, t149, t150] : List Int)) 0 a0_0 a0_1 a0_2 a0_3 a0_4 a0_5 a0_6 a0_7 a0_8 l0_9 a1_0 a1_1 a1_2 a1_3 a1_4 a1_5 a1_6 a1_7 a1_8 l1_9))))) = some r := H
 have A7 := Aside0.mk A70
 clear A70
 replace H := Option.bind_eq_some_iff.mp H
 obtain ⟨t147, A80, H⟩ := H
 replace H : ((tallyroomref06_order.f (decide (a0_6 < a1_6)) (a0_6 == a1_6)).bind fun t148 => ((tallyroomref06_order.f (decide (a0_7 < a1_7)) (a0_7 == a1_7)).bind fun t149 => ((tallyroomref06_order.f (decide (a0_8 < a1_8)) (a0_8 == a1_8)).bind fun t150 => (tallyroomref06_Compare.l0 k (([t142, t143, t144, t145, t146, t147, t148, t149, t150] : List Int)) 0 a0_0 a0_1 a0_2 a0_3 a0_4 a0_5 a0_6 a0_7 a0_8 l0_9 a1_0 a1_1 a1_2 a1_3 a1_4 a1_5 a1_6 a1_7 a1_8 l1_9)))) = some r := H
 have A8 := Aside0.mk A80
 clear A80
 replace H := Option.bind_eq_some_iff.mp H
 obtain ⟨t148, A90, H⟩ := H
 replace H : ((tallyroomref06_order.f (decide (a0_7 < a1_7)) (a0_7 == a1_7)).bind fun t149 => ((tallyroomref06_order.f (decide (a0_8 < a1_8)) (a0_8 == a1_8)).bind fun t150 => (tallyroomref06_Compare.l0 k (([t142, t143, t144, t145, t146, t147, t148, t149, t150] : List Int)) 0 a0_0 a0_1 a0_2 a0_3 a0_4 a0_5 a0_6 a0_7 a0_8 l0_9 a1_0 a1_1 a1_2 a1_3 a1_4 a1_5 a1_6 a1_7 a1_8 l1_9))) = some r := H
 have A9 := Aside0.mk A90
 clear A90
 replace H := Option.bind_eq_some_iff.mp H
 obtain ⟨t149, A100, H⟩ := H
 replace H : ((tallyroomref06_order.f (decide (a0_8 < a1_8)) (a0_8 == a1_8)).bind fun t150 => (tallyroomref06_Compare.l0 k (([t142, t143, t144, t145, t146, t147, t148, t149, t150] : List Int)) 0 a0_0 a0_1 a0_2 a0_3 a0_4 a0_5 a0_6 a0_7 a0_8 l0_9 a1_0 a1_1 a1_2 a1_3 a1_4 a1_5 a1_6 a1_7 a1_8 l1_9)) = some r := H
 have A10 := Aside0.mk A100
 clear A100
 replace H := Option.bind_eq_some_iff.mp H
 obtain ⟨t150, A110, H⟩ := H
 replace H : (tallyroomref06_Compare.l0 k (([t142, t143, t144, t145, t146, t147, t148, t149, t150] : List Int)) 0 a0_0 a0_1 a0_2 a0_3 a0_4 a0_5 a0_6 a0_7 a0_8 l0_9 a1_0 a1_1 a1_2 a1_3 a1_4 a1_5 a1_6 a1_7 a1_8 l1_9) = some r := H
 have A11 := Aside0.mk A110
 clear A110
 obtain ⟨y151, hy151⟩ : ∃ y_ : List Int, y_ = (([t142, t143, t144, t145, t146, t147, t148, t149, t150] : List Int)) := ⟨_, rfl⟩
 replace H : (tallyroomref06_Compare.l0 k y151 0 a0_0 a0_1 a0_2 a0_3 a0_4 a0_5 a0_6 a0_7 a0_8 l0_9 a1_0 a1_1 a1_2 a1_3 a1_4 a1_5 a1_6 a1_7 a1_8 l1_9) = some r := by first | (rw [hy151]; with_reducible exact H) | (have H2_ := (Option.bind_some _ _).symm.trans H; rw [hy151]; with_reducible exact H2_) | (have H2_ := (Option.bind_some _ _).symm.trans H; with_reducible exact H2_) | with_reducible exact H | (rw [hy151]; exact H) | exact H
 have Ny151 := Aside0.mk hy151
 clear hy151
 have H' := Aside0.mk H
 clear H
 go_enter Try.func25, Try.ntmps25
 try go_wp2_with (first | ((with_reducible refine gate_dst (N := 2) rfl ?_); (try (refine gate_guard (by rfl) ?_; dsimp only)); refine box_event ?hg (N := 2) ?hd (cs := #[.int .u64 a0_0, .int .u64 a0_1, .int .u64 a0_2, .string a0_3, .string a0_4, .int .i64 a0_5, .int .i64 a0_6, .int .u64 a0_7, .int .u64 a0_8, .slice A0_9 l0_9.length c0_9]) (t := 37) ?hr ?_; (case hd => rfl); (case hg => rfl); (case hr => first | (go_simp; done) | (go_simp; rfl)); intro gb140 hg w12 hbox hb; have n0_ := Aside0.mk (ls_ (by repeat (first | (with_reducible first | exact HB.out | apply lA_ | apply lN_ | apply l1_) | exact HB.out)) hb); have n1_ := Aside0.mk (hbox); have n2_ := Aside0.mk ((by rw [hg]; exact (bz_ (by repeat (first | (with_reducible first | exact HB.out | apply lA_ | apply lN_ | apply l1_) | exact HB.out))) : w.heap.size ≤ gb140)); have n3_ := Aside0.mk ((by rw [hg]; exact (bz_ (by repeat (first | (with_reducible first | exact HB.out | apply lA_ | apply lN_ | apply l1_) | exact HB.out))) : w.heap.size ≤ gb140)); clear HB; have HB := n0_; have BK140 := n1_; have GW140 := n2_; have GE140 := n3_; clear n0_ n1_ n2_ n3_; clear hb hbox hg) | ((with_reducible refine gate_dst (N := 3) rfl ?_); (try (refine gate_guard (by rfl) ?_; dsimp only)); refine box_event ?hg (N := 3) ?hd (cs := #[.int .u64 a1_0, .int .u64 a1_1, .int .u64 a1_2, .string a1_3, .string a1_4, .int .i64 a1_5, .int .i64 a1_6, .int .u64 a1_7, .int .u64 a1_8, .slice A1_9 l1_9.length c1_9]) (t := 37) ?hr ?_; (case hd => rfl); (case hg => rfl); (case hr => first | (go_simp; done) | (go_simp; rfl)); intro gb141 hg w13 hbox hb; have n0_ := Aside0.mk (bb_ (g := gb140) (o := .cells #[.int .u64 a0_0, .int .u64 a0_1, .int .u64 a0_2, .string a0_3, .string a0_4, .int .i64 a0_5, .int .i64 a0_6, .int .u64 a0_7, .int .u64 a0_8, .slice A0_9 l0_9.length c0_9] 37 (0, 0)) (by (with_reducible repeat (first | refine bN_ ?_ _ | refine bD_ ?_ | refine bA_ ?_ _)); exact BK140.out) hb); have n1_ := Aside0.mk (ls_ (by repeat (first | (with_reducible first | exact HB.out | apply lA_ | apply lN_ | apply l1_ | refine below_set ?_ GE140.out) | exact HB.out)) hb); have n2_ := Aside0.mk (hbox); have n3_ := Aside0.mk ((by rw [hg]; exact (bz_ (by repeat (first | (with_reducible first | exact HB.out | apply lA_ | apply lN_ | apply l1_ | refine below_set ?_ GE140.out) | exact HB.out))) : w.heap.size ≤ gb141)); have n4_ := Aside0.mk ((by rw [hg]; exact (bz_ (by repeat (first | (with_reducible first | exact HB.out | apply lA_ | apply lN_ | apply l1_ | refine below_set ?_ GE140.out) | exact HB.out))) : w.heap.size ≤ gb141)); have n5_ := Aside0.mk ((by rw [hg]; exact Nat.ne_of_lt (blk_lt (g := gb140) (o := .cells #[.int .u64 a0_0, .int .u64 a0_1, .int .u64 a0_2, .string a0_3, .string a0_4, .int .i64 a0_5, .int .i64 a0_6, .int .u64 a0_7, .int .u64 a0_8, .slice A0_9 l0_9.length c0_9] 37 (0, 0)) (by (with_reducible repeat (first | refine bN_ ?_ _ | refine bD_ ?_ | refine bA_ ?_ _)); exact BK140.out)) : gb140 ≠ gb141)); have n6_ := Aside0.mk ((by rw [hg]; exact Nat.ne_of_gt (blk_lt (g := gb140) (o := .cells #[.int .u64 a0_0, .int .u64 a0_1, .int .u64 a0_2, .string a0_3, .string a0_4, .int .i64 a0_5, .int .i64 a0_6, .int .u64 a0_7, .int .u64 a0_8, .slice A0_9 l0_9.length c0_9] 37 (0, 0)) (by (with_reducible repeat (first | refine bN_ ?_ _ | refine bD_ ?_ | refine bA_ ?_ _)); exact BK140.out)) : gb141 ≠ gb140)); clear BK140; clear HB; have BK140 := n0_; have HB := n1_; have BK141 := n2_; have GW141 := n3_; have GE141 := n4_; have NB140_141 := n5_; have NB141_140 := n6_; clear n0_ n1_ n2_ n3_ n4_ n5_ n6_; clear hb hbox hg))
 have n0_ := Aside0.mk (bD_ BK140.out)
 have n1_ := Aside0.mk (bD_ BK141.out)
 have n2_ := Aside0.mk (l1_ HB.out)
 clear BK140
 clear BK141
 clear HB
 have BK140 := n0_
 have BK141 := n1_
 have HB := n2_
 clear n0_ n1_ n2_
 refine start_ (n := 101) (S := fun w' => w'.cell? ⟨gb140, 0, none⟩ = some (.int .u64 a0_0) ∧ w'.cell? ⟨gb140, 1, none⟩ = some (.int .u64 a0_1) ∧ w'.cell? ⟨gb140, 2, none⟩ = some (.int .u64 a0_2) ∧ w'.cell? ⟨gb140, 3, none⟩ = some (.string a0_3) ∧ w'.cell? ⟨gb140, 4, none⟩ = some (.string a0_4) ∧ w'.cell? ⟨gb140, 5, none⟩ = some (.int .i64 a0_5) ∧ w'.cell? ⟨gb140, 6, none⟩ = some (.int .i64 a0_6) ∧ w'.cell? ⟨gb140, 7, none⟩ = some (.int .u64 a0_7) ∧ w'.cell? ⟨gb140, 8, none⟩ = some (.int .u64 a0_8) ∧ w'.cell? ⟨gb140, 9, none⟩ = some (.slice A0_9 l0_9.length c0_9) ∧ w'.cell? ⟨gb141, 0, none⟩ = some (.int .u64 a1_0) ∧ w'.cell? ⟨gb141, 1, none⟩ = some (.int .u64 a1_1) ∧ w'.cell? ⟨gb141, 2, none⟩ = some (.int .u64 a1_2) ∧ w'.cell? ⟨gb141, 3, none⟩ = some (.string a1_3) ∧ w'.cell? ⟨gb141, 4, none⟩ = some (.string a1_4) ∧ w'.cell? ⟨gb141, 5, none⟩ = some (.int .i64 a1_5) ∧ w'.cell? ⟨gb141, 6, none⟩ = some (.int .i64 a1_6) ∧ w'.cell? ⟨gb141, 7, none⟩ = some (.int .u64 a1_7) ∧ w'.cell? ⟨gb141, 8, none⟩ = some (.int .u64 a1_8) ∧ w'.cell? ⟨gb141, 9, none⟩ = some (.slice A1_9 l1_9.length c1_9)) (ds := []) #[false, false, false, false, false, false, false, false, false, false, false, false, false, false, false, false, false, false, false, false, false, false, false, false, false, false, false, false, false, false, false, false, false, false, false, false, false, false, false, false, false, false, false, false, false, false, false, false, false, false, false, false, false, false, false, false, false, false, false, false, false, false, false, false, false, false, false, false, false, false, false, false, false, false, false, false, false, false, false, false, false, false, false, false, false, false, false, false, false, false, false, false, false, false, false, false, false, false, false, false, false] (by kernel_rfl) rfl rfl ⟨(bc1_ BK140.out 0).trans rfl, (bc1_ BK140.out 1).trans rfl, (bc1_ BK140.out 2).trans rfl, (bc1_ BK140.out 3).trans rfl, (bc1_ BK140.out 4).trans rfl, (bc1_ BK140.out 5).trans rfl, (bc1_ BK140.out 6).trans rfl, (bc1_ BK140.out 7).trans rfl, (bc1_ BK140.out 8).trans rfl, (bc1_ BK140.out 9).trans rfl, (bc1_ BK141.out 0).trans rfl, (bc1_ BK141.out 1).trans rfl, (bc1_ BK141.out 2).trans rfl, (bc1_ BK141.out 3).trans rfl, (bc1_ BK141.out 4).trans rfl, (bc1_ BK141.out 5).trans rfl, (bc1_ BK141.out 6).trans rfl, (bc1_ BK141.out 7).trans rfl, (bc1_ BK141.out 8).trans rfl, (bc1_ BK141.out 9).trans rfl⟩ (fun hHeld => ?_); refine with_tabW tallyroomref06_Compare.tab1 tallyroomref06_Compare.bits1 (fun HT_ HW_ => ?_)
 generalize w13.drew = w14 at BK140 BK141 HB hHeld ⊢
 refine pure_ (i := 0) (N := some 10) (v := ?_) (a' := ?_) (bl_ 101 1) rfl rfl (any_of HT_.out (by kernel_rfl)) (fun _ _ _ h => h) (Or.inl ⟨by rfl, ?_⟩) ?_ ?_
 rotate_left
 ·intro w'
  go_simp
  with_reducible rfl
 rotate_left
 ·simp only [Act.put, sb_, sz_, ss_, i64_w, i32_w]
  rfl
 refine pure_ (i := 2) (N := some 12) (v := ?_) (a' := ?_) (bl_ 101 5) rfl rfl (any_of HT_.out (by kernel_rfl)) (fun _ _ _ h => h) (Or.inl ⟨by rfl, ?_⟩) ?_ ?_
 rotate_left
 ·intro w'
  go_simp
  with_reducible rfl
 rotate_left
 ·simp only [Act.put, sb_, sz_, ss_, i64_w, i32_w]
  rfl
 refine pure_ (i := 5) (N := some 15) (v := ?_) (a' := ?_) (bl_ 101 37) rfl rfl (any_of HT_.out (by kernel_rfl)) (fun _ _ _ h => h) (Or.inl ⟨by rfl, ?_⟩) ?_ ?_
 rotate_left
 ·intro w'
  go_simp
  with_reducible rfl
 rotate_left
 ·simp only [Act.put, sb_, sz_, ss_, i64_w, i32_w]
  rfl
 refine pure_ (i := 7) (N := some 17) (v := ?_) (a' := ?_) (bl_ 101 165) rfl rfl (any_of HT_.out (by kernel_rfl)) (fun _ _ _ h => h) (Or.inl ⟨by rfl, ?_⟩) ?_ ?_
 rotate_left
 ·intro w'
  go_simp
  with_reducible rfl
 rotate_left
 ·simp only [Act.put, sb_, sz_, ss_, i64_w, i32_w]
  rfl
 refine pure_ (i := 11) (N := some 21) (v := ?_) (a' := ?_) (bl_ 101 2213) rfl rfl (any_of HT_.out (by kernel_rfl)) (fun _ _ _ h => h) (Or.inl ⟨by rfl, ?_⟩) ?_ ?_
 rotate_left
 ·intro w'
  go_simp
  with_reducible rfl
 rotate_left
 ·simp only [Act.put, sb_, sz_, ss_, i64_w, i32_w]
  rfl
 refine pure_ (i := 13) (N := some 23) (v := ?_) (a' := ?_) (bl_ 101 10405) rfl rfl (any_of HT_.out (by kernel_rfl)) (fun _ _ _ h => h) (Or.inl ⟨by rfl, ?_⟩) ?_ ?_
 rotate_left
 ·intro w'
  go_simp
  with_reducible rfl
 rotate_left
 ·simp only [Act.put, sb_, sz_, ss_, i64_w, i32_w]
  rfl
 refine pure_ (i := 16) (N := some 26) (v := ?_) (a' := ?_) (bl_ 101 75941) rfl rfl (any_of HT_.out (by kernel_rfl)) (fun _ _ _ h => h) (Or.inl ⟨by rfl, ?_⟩) ?_ ?_
 rotate_left
 ·intro w'
  go_simp
  with_reducible rfl
 rotate_left
 ·simp only [Act.put, sb_, sz_, ss_, i64_w, i32_w]
  rfl
 refine pure_ (i := 18) (N := some 28) (v := ?_) (a' := ?_) (bl_ 101 338085) rfl rfl (any_of HT_.out (by kernel_rfl)) (fun _ _ _ h => h) (Or.inl ⟨by rfl, ?_⟩) ?_ ?_
 rotate_left
 ·intro w'
  go_simp
  with_reducible rfl
 rotate_left
 ·simp only [Act.put, sb_, sz_, ss_, i64_w, i32_w]
  rfl
 refine pure_ (i := 22) (N := some 32) (v := ?_) (a' := ?_) (bl_ 101 4532389) rfl rfl (any_of HT_.out (by kernel_rfl)) (fun _ _ _ h => h) (Or.inl ⟨by rfl, ?_⟩) ?_ ?_
 rotate_left
 ·intro w'
  go_simp
  with_reducible rfl
 rotate_left
 ·simp only [Act.put, sb_, sz_, ss_, i64_w, i32_w]
  rfl
 refine pure_ (i := 24) (N := some 34) (v := ?_) (a' := ?_) (bl_ 101 21309605) rfl rfl (any_of HT_.out (by kernel_rfl)) (fun _ _ _ h => h) (Or.inl ⟨by rfl, ?_⟩) ?_ ?_
 rotate_left
 ·intro w'
  go_simp
  with_reducible rfl
 rotate_left
 ·simp only [Act.put, sb_, sz_, ss_, i64_w, i32_w]
  rfl
 refine pure_ (i := 27) (N := some 37) (v := ?_) (a' := ?_) (bl_ 101 155527333) rfl rfl (any_of HT_.out (by kernel_rfl)) (fun _ _ _ h => h) (Or.inl ⟨by rfl, ?_⟩) ?_ ?_
 rotate_left
 ·intro w'
  go_simp
  with_reducible rfl
 rotate_left
 ·simp only [Act.put, sb_, sz_, ss_, i64_w, i32_w]
  rfl
 refine pure_ (i := 29) (N := some 39) (v := ?_) (a' := ?_) (bl_ 101 692398245) rfl rfl (any_of HT_.out (by kernel_rfl)) (fun _ _ _ h => h) (Or.inl ⟨by rfl, ?_⟩) ?_ ?_
 rotate_left
 ·intro w'
  go_simp
  with_reducible rfl
 rotate_left
 ·simp only [Act.put, sb_, sz_, ss_, i64_w, i32_w]
  rfl
 refine pure_ (i := 33) (N := some 43) (v := ?_) (a' := ?_) (bl_ 101 9282332837) rfl rfl (any_of HT_.out (by kernel_rfl)) (fun _ _ _ h => h) (Or.inl ⟨by rfl, ?_⟩) ?_ ?_
 rotate_left
 ·intro w'
  go_simp
  with_reducible rfl
 rotate_left
 ·simp only [Act.put, sb_, sz_, ss_, i64_w, i32_w]
  rfl
 refine pure_ (i := 35) (N := some 45) (v := ?_) (a' := ?_) (bl_ 101 43642071205) rfl rfl (any_of HT_.out (by kernel_rfl)) (fun _ _ _ h => h) (Or.inl ⟨by rfl, ?_⟩) ?_ ?_
 rotate_left
 ·intro w'
  go_simp
  with_reducible rfl
 rotate_left
 ·simp only [Act.put, sb_, sz_, ss_, i64_w, i32_w]
  rfl
 refine pure_ (i := 38) (N := some 48) (v := ?_) (a' := ?_) (bl_ 101 318519978149) rfl rfl (any_of HT_.out (by kernel_rfl)) (fun _ _ _ h => h) (Or.inl ⟨by rfl, ?_⟩) ?_ ?_
 rotate_left
 ·intro w'
  go_simp
  with_reducible rfl
 rotate_left
 ·simp only [Act.put, sb_, sz_, ss_, i64_w, i32_w]
  rfl
 refine pure_ (i := 40) (N := some 50) (v := ?_) (a' := ?_) (bl_ 101 1418031605925) rfl rfl (any_of HT_.out (by kernel_rfl)) (fun _ _ _ h => h) (Or.inl ⟨by rfl, ?_⟩) ?_ ?_
 rotate_left
 ·intro w'
  go_simp
  with_reducible rfl
 rotate_left
 ·simp only [Act.put, sb_, sz_, ss_, i64_w, i32_w]
  rfl
 refine pure_ (i := 44) (N := some 54) (v := ?_) (a' := ?_) (bl_ 101 19010217650341) rfl rfl (any_of HT_.out (by kernel_rfl)) (fun _ _ _ h => h) (Or.inl ⟨by rfl, ?_⟩) ?_ ?_
 rotate_left
 ·intro w'
  go_simp
  with_reducible rfl
 rotate_left
 ·simp only [Act.put, sb_, sz_, ss_, i64_w, i32_w]
  rfl
 refine pure_ (i := 46) (N := some 56) (v := ?_) (a' := ?_) (bl_ 101 89378961828005) rfl rfl (any_of HT_.out (by kernel_rfl)) (fun _ _ _ h => h) (Or.inl ⟨by rfl, ?_⟩) ?_ ?_
 rotate_left
 ·intro w'
  go_simp
  with_reducible rfl
 rotate_left
 ·simp only [Act.put, sb_, sz_, ss_, i64_w, i32_w]
  rfl
 refine pure_ (i := 49) (N := some 59) (v := ?_) (a' := ?_) (bl_ 101 652328915249317) rfl rfl (any_of HT_.out (by kernel_rfl)) (fun _ _ _ h => h) (Or.inl ⟨by rfl, ?_⟩) ?_ ?_
 rotate_left
 ·intro w'
  go_simp
  with_reducible rfl
 rotate_left
 ·simp only [Act.put, sb_, sz_, ss_, i64_w, i32_w]
  rfl
 refine pure_ (i := 51) (N := some 61) (v := ?_) (a' := ?_) (bl_ 101 2904128728934565) rfl rfl (any_of HT_.out (by kernel_rfl)) (fun _ _ _ h => h) (Or.inl ⟨by rfl, ?_⟩) ?_ ?_
 rotate_left
 ·intro w'
  go_simp
  with_reducible rfl
 rotate_left
 ·simp only [Act.put, sb_, sz_, ss_, i64_w, i32_w]
  rfl
 refine pure_ (i := 55) (N := some 65) (v := ?_) (a' := ?_) (bl_ 101 38932925747898533) rfl rfl (any_of HT_.out (by kernel_rfl)) (fun _ _ _ h => h) (Or.inl ⟨by rfl, ?_⟩) ?_ ?_
 rotate_left
 ·intro w'
  go_simp
  with_reducible rfl
 rotate_left
 ·simp only [Act.put, sb_, sz_, ss_, i64_w, i32_w]
  rfl
 refine pure_ (i := 57) (N := some 67) (v := ?_) (a' := ?_) (bl_ 101 183048113823754405) rfl rfl (any_of HT_.out (by kernel_rfl)) (fun _ _ _ h => h) (Or.inl ⟨by rfl, ?_⟩) ?_ ?_
 rotate_left
 ·intro w'
  go_simp
  with_reducible rfl
 rotate_left
 ·simp only [Act.put, sb_, sz_, ss_, i64_w, i32_w]
  rfl
 refine pure_ (i := 60) (N := some 70) (v := ?_) (a' := ?_) (bl_ 101 1335969618430601381) rfl rfl (any_of HT_.out (by kernel_rfl)) (fun _ _ _ h => h) (Or.inl ⟨by rfl, ?_⟩) ?_ ?_
 rotate_left
 ·intro w'
  go_simp
  with_reducible rfl
 rotate_left
 ·simp only [Act.put, sb_, sz_, ss_, i64_w, i32_w]
  rfl
 refine pure_ (i := 62) (N := some 72) (v := ?_) (a' := ?_) (bl_ 101 5947655636857989285) rfl rfl (any_of HT_.out (by kernel_rfl)) (fun _ _ _ h => h) (Or.inl ⟨by rfl, ?_⟩) ?_ ?_
 rotate_left
 ·intro w'
  go_simp
  with_reducible rfl
 rotate_left
 ·simp only [Act.put, sb_, sz_, ss_, i64_w, i32_w]
  rfl
 refine pure_ (i := 66) (N := some 76) (v := ?_) (a' := ?_) (bl_ 101 79734631931696195749) rfl rfl (any_of HT_.out (by kernel_rfl)) (fun _ _ _ h => h) (Or.inl ⟨by rfl, ?_⟩) ?_ ?_
 rotate_left
 ·intro w'
  go_simp
  with_reducible rfl
 rotate_left
 ·simp only [Act.put, sb_, sz_, ss_, i64_w, i32_w]
  rfl
 refine pure_ (i := 68) (N := some 78) (v := ?_) (a' := ?_) (bl_ 101 374882537111049021605) rfl rfl (any_of HT_.out (by kernel_rfl)) (fun _ _ _ h => h) (Or.inl ⟨by rfl, ?_⟩) ?_ ?_
 rotate_left
 ·intro w'
  go_simp
  with_reducible rfl
 rotate_left
 ·simp only [Act.put, sb_, sz_, ss_, i64_w, i32_w]
  rfl
 refine pure_ (i := 71) (N := some 81) (v := ?_) (a' := ?_) (bl_ 101 2736065778545871628453) rfl rfl (any_of HT_.out (by kernel_rfl)) (fun _ _ _ h => h) (Or.inl ⟨by rfl, ?_⟩) ?_ ?_
 rotate_left
 ·intro w'
  go_simp
  with_reducible rfl
 rotate_left
 ·simp only [Act.put, sb_, sz_, ss_, i64_w, i32_w]
  rfl
 refine pure_ (i := 73) (N := some 83) (v := ?_) (a' := ?_) (bl_ 101 12180798744285162055845) rfl rfl (any_of HT_.out (by kernel_rfl)) (fun _ _ _ h => h) (Or.inl ⟨by rfl, ?_⟩) ?_ ?_
 rotate_left
 ·intro w'
  go_simp
  with_reducible rfl
 rotate_left
 ·simp only [Act.put, sb_, sz_, ss_, i64_w, i32_w]
  rfl
 refine pure_ (i := 77) (N := some 87) (v := ?_) (a' := ?_) (bl_ 101 163296526196113808894117) rfl rfl (any_of HT_.out (by kernel_rfl)) (fun _ _ _ h => h) (Or.inl ⟨by rfl, ?_⟩) ?_ ?_
 rotate_left
 ·intro w'
  go_simp
  with_reducible rfl
 rotate_left
 ·simp only [Act.put, sb_, sz_, ss_, i64_w, i32_w]
  rfl
 refine pure_ (i := 79) (N := some 89) (v := ?_) (a' := ?_) (bl_ 101 767759436003428396247205) rfl rfl (any_of HT_.out (by kernel_rfl)) (fun _ _ _ h => h) (Or.inl ⟨by rfl, ?_⟩) ?_ ?_
 rotate_left
 ·intro w'
  go_simp
  with_reducible rfl
 rotate_left
 ·simp only [Act.put, sb_, sz_, ss_, i64_w, i32_w]
  rfl
 refine pure_ (i := 82) (N := some 92) (v := ?_) (a' := ?_) (bl_ 101 5603462714461945095071909) rfl rfl (any_of HT_.out (by kernel_rfl)) (fun _ _ _ h => h) (Or.inl ⟨by rfl, ?_⟩) ?_ ?_
 rotate_left
 ·intro w'
  go_simp
  with_reducible rfl
 rotate_left
 ·simp only [Act.put, sb_, sz_, ss_, i64_w, i32_w]
  rfl
 refine pure_ (i := 84) (N := some 94) (v := ?_) (a' := ?_) (bl_ 101 24946275828296011890370725) rfl rfl (any_of HT_.out (by kernel_rfl)) (fun _ _ _ h => h) (Or.inl ⟨by rfl, ?_⟩) ?_ ?_
 rotate_left
 ·intro w'
  go_simp
  with_reducible rfl
 rotate_left
 ·simp only [Act.put, sb_, sz_, ss_, i64_w, i32_w]
  rfl
 refine pure_ (i := 88) (N := some 98) (v := ?_) (a' := ?_) (bl_ 101 334431285649641080615151781) rfl rfl (any_of HT_.out (by kernel_rfl)) (fun _ _ _ h => h) (Or.inl ⟨by rfl, ?_⟩) ?_ ?_
 rotate_left
 ·intro w'
  go_simp
  with_reducible rfl
 rotate_left
 ·simp only [Act.put, sb_, sz_, ss_, i64_w, i32_w]
  rfl
 refine pure_ (i := 90) (N := some 100) (v := ?_) (a' := ?_) (bl_ 101 1572371324935021355514276005) rfl rfl (any_of HT_.out (by kernel_rfl)) (fun _ _ _ h => h) (Or.inl ⟨by rfl, ?_⟩) ?_ ?_
 rotate_left
 ·intro w'
  go_simp
  with_reducible rfl
 rotate_left
 ·simp only [Act.put, sb_, sz_, ss_, i64_w, i32_w]
  rfl
 refine pure_ (i := 93) (N := some 103) (v := ?_) (a' := ?_) (bl_ 101 11475891639218063554707269797) rfl rfl (any_of HT_.out (by kernel_rfl)) (fun _ _ _ h => h) (Or.inl ⟨by rfl, ?_⟩) ?_ ?_
 rotate_left
 ·intro w'
  go_simp
  with_reducible rfl
 rotate_left
 ·simp only [Act.put, sb_, sz_, ss_, i64_w, i32_w]
  rfl
 refine pure_ (i := 95) (N := some 105) (v := ?_) (a' := ?_) (bl_ 101 51089972896350232351479244965) rfl rfl (any_of HT_.out (by kernel_rfl)) (fun _ _ _ h => h) (Or.inl ⟨by rfl, ?_⟩) ?_ ?_
 rotate_left
 ·intro w'
  go_simp
  with_reducible rfl
 rotate_left
 ·simp only [Act.put, sb_, sz_, ss_, i64_w, i32_w]
  rfl
 refine take_ (i := 1) (N := some 11) (v := ?_) (a' := ?_) (bl_ 101 51089972896350232351479244967) rfl rfl (take_ofW HT_.out HW_.out (by kernel_rfl)) (fun _ _ _ h => h) (Or.inl ⟨by rfl, ?_⟩) hHeld ?_ ?_
 rotate_left
 ·rintro w' ⟨s0, s1, s2, s3, s4, s5, s6, s7, s8, s9, s10, s11, s12, s13, s14, s15, s16, s17, s18, s19⟩
  go_simp
  with_reducible rfl
 rotate_left
 ·simp only [Act.put, sb_, sz_, ss_, i64_w, i32_w]
  rfl
 refine take_ (i := 3) (N := some 13) (v := ?_) (a' := ?_) (bl_ 101 51089972896350232351479244975) rfl rfl (take_ofW HT_.out HW_.out (by kernel_rfl)) (fun _ _ _ h => h) (Or.inl ⟨by rfl, ?_⟩) hHeld ?_ ?_
 rotate_left
 ·rintro w' ⟨s0, s1, s2, s3, s4, s5, s6, s7, s8, s9, s10, s11, s12, s13, s14, s15, s16, s17, s18, s19⟩
  go_simp
  with_reducible rfl
 rotate_left
 ·simp only [Act.put, sb_, sz_, ss_, i64_w, i32_w]
  rfl
 refine pure_ (i := 4) (N := some 14) (v := ?_) (a' := ?_) (bl_ 101 51089972896350232351479244991) rfl rfl (any_of HT_.out (by kernel_rfl)) (fun _ _ _ h => h) (Or.inl ⟨by rfl, ?_⟩) ?_ ?_
 rotate_left
 ·intro w'
  go_simp
  with_reducible rfl
 rotate_left
 ·simp only [Act.put, sb_, sz_, ss_, i64_w, i32_w]
  rfl
 refine take_ (i := 6) (N := some 16) (v := ?_) (a' := ?_) (bl_ 101 51089972896350232351479245055) rfl rfl (take_ofW HT_.out HW_.out (by kernel_rfl)) (fun _ _ _ h => h) (Or.inl ⟨by rfl, ?_⟩) hHeld ?_ ?_
 rotate_left
 ·rintro w' ⟨s0, s1, s2, s3, s4, s5, s6, s7, s8, s9, s10, s11, s12, s13, s14, s15, s16, s17, s18, s19⟩
  go_simp
  with_reducible rfl
 rotate_left
 ·simp only [Act.put, sb_, sz_, ss_, i64_w, i32_w]
  rfl
 refine take_ (i := 8) (N := some 18) (v := ?_) (a' := ?_) (bl_ 101 51089972896350232351479245311) rfl rfl (take_ofW HT_.out HW_.out (by kernel_rfl)) (fun _ _ _ h => h) (Or.inl ⟨by rfl, ?_⟩) hHeld ?_ ?_
 rotate_left
 ·rintro w' ⟨s0, s1, s2, s3, s4, s5, s6, s7, s8, s9, s10, s11, s12, s13, s14, s15, s16, s17, s18, s19⟩
  go_simp
  with_reducible rfl
 rotate_left
 ·simp only [Act.put, sb_, sz_, ss_, i64_w, i32_w]
  rfl
 refine pure_ (i := 9) (N := some 19) (v := ?_) (a' := ?_) (bl_ 101 51089972896350232351479245823) rfl rfl (any_of HT_.out (by kernel_rfl)) (fun _ _ _ h => h) (Or.inl ⟨by rfl, ?_⟩) ?_ ?_
 rotate_left
 ·intro w'
  go_simp
  with_reducible rfl
 rotate_left
 ·simp only [Act.put, sb_, sz_, ss_, i64_w, i32_w]
  rfl
 refine take_ (i := 12) (N := some 22) (v := ?_) (a' := ?_) (bl_ 101 51089972896350232351479249919) rfl rfl (take_ofW HT_.out HW_.out (by kernel_rfl)) (fun _ _ _ h => h) (Or.inl ⟨by rfl, ?_⟩) hHeld ?_ ?_
 rotate_left
 ·rintro w' ⟨s0, s1, s2, s3, s4, s5, s6, s7, s8, s9, s10, s11, s12, s13, s14, s15, s16, s17, s18, s19⟩
  go_simp
  with_reducible rfl
 rotate_left
 ·simp only [Act.put, sb_, sz_, ss_, i64_w, i32_w]
  rfl
 refine take_ (i := 14) (N := some 24) (v := ?_) (a' := ?_) (bl_ 101 51089972896350232351479266303) rfl rfl (take_ofW HT_.out HW_.out (by kernel_rfl)) (fun _ _ _ h => h) (Or.inl ⟨by rfl, ?_⟩) hHeld ?_ ?_
 rotate_left
 ·rintro w' ⟨s0, s1, s2, s3, s4, s5, s6, s7, s8, s9, s10, s11, s12, s13, s14, s15, s16, s17, s18, s19⟩
  go_simp
  with_reducible rfl
 rotate_left
 ·simp only [Act.put, sb_, sz_, ss_, i64_w, i32_w]
  rfl
 refine pure_ (i := 15) (N := some 25) (v := ?_) (a' := ?_) (bl_ 101 51089972896350232351479299071) rfl rfl (any_of HT_.out (by kernel_rfl)) (fun _ _ _ h => h) (Or.inl ⟨by rfl, ?_⟩) ?_ ?_
 rotate_left
 ·intro w'
  go_simp
  with_reducible rfl
 rotate_left
 ·simp only [Act.put, sb_, sz_, ss_, i64_w, i32_w]
  rfl
 refine take_ (i := 17) (N := some 27) (v := ?_) (a' := ?_) (bl_ 101 51089972896350232351479430143) rfl rfl (take_ofW HT_.out HW_.out (by kernel_rfl)) (fun _ _ _ h => h) (Or.inl ⟨by rfl, ?_⟩) hHeld ?_ ?_
 rotate_left
 ·rintro w' ⟨s0, s1, s2, s3, s4, s5, s6, s7, s8, s9, s10, s11, s12, s13, s14, s15, s16, s17, s18, s19⟩
  go_simp
  with_reducible rfl
 rotate_left
 ·simp only [Act.put, sb_, sz_, ss_, i64_w, i32_w]
  rfl
 refine take_ (i := 19) (N := some 29) (v := ?_) (a' := ?_) (bl_ 101 51089972896350232351479954431) rfl rfl (take_ofW HT_.out HW_.out (by kernel_rfl)) (fun _ _ _ h => h) (Or.inl ⟨by rfl, ?_⟩) hHeld ?_ ?_
 rotate_left
 ·rintro w' ⟨s0, s1, s2, s3, s4, s5, s6, s7, s8, s9, s10, s11, s12, s13, s14, s15, s16, s17, s18, s19⟩
  go_simp
  with_reducible rfl
 rotate_left
 ·simp only [Act.put, sb_, sz_, ss_, i64_w, i32_w]
  rfl
 refine pure_ (i := 20) (N := some 30) (v := ?_) (a' := ?_) (bl_ 101 51089972896350232351481003007) rfl rfl (any_of HT_.out (by kernel_rfl)) (fun _ _ _ h => h) (Or.inl ⟨by rfl, ?_⟩) ?_ ?_
 rotate_left
 ·intro w'
  go_simp
  with_reducible rfl
 rotate_left
 ·simp only [Act.put, sb_, sz_, ss_, i64_w, i32_w]
  rfl
 refine take_ (i := 23) (N := some 33) (v := ?_) (a' := ?_) (bl_ 101 51089972896350232351489391615) rfl rfl (take_ofW HT_.out HW_.out (by kernel_rfl)) (fun _ _ _ h => h) (Or.inl ⟨by rfl, ?_⟩) hHeld ?_ ?_
 rotate_left
 ·rintro w' ⟨s0, s1, s2, s3, s4, s5, s6, s7, s8, s9, s10, s11, s12, s13, s14, s15, s16, s17, s18, s19⟩
  go_simp
  with_reducible rfl
 rotate_left
 ·simp only [Act.put, sb_, sz_, ss_, i64_w, i32_w]
  rfl
 refine take_ (i := 25) (N := some 35) (v := ?_) (a' := ?_) (bl_ 101 51089972896350232351522946047) rfl rfl (take_ofW HT_.out HW_.out (by kernel_rfl)) (fun _ _ _ h => h) (Or.inl ⟨by rfl, ?_⟩) hHeld ?_ ?_
 rotate_left
 ·rintro w' ⟨s0, s1, s2, s3, s4, s5, s6, s7, s8, s9, s10, s11, s12, s13, s14, s15, s16, s17, s18, s19⟩
  go_simp
  with_reducible rfl
 rotate_left
 ·simp only [Act.put, sb_, sz_, ss_, i64_w, i32_w]
  rfl
 refine pure_ (i := 26) (N := some 36) (v := ?_) (a' := ?_) (bl_ 101 51089972896350232351590054911) rfl rfl (any_of HT_.out (by kernel_rfl)) (fun _ _ _ h => h) (Or.inl ⟨by rfl, ?_⟩) ?_ ?_
 rotate_left
 ·intro w'
  go_simp
  with_reducible rfl
 rotate_left
 ·simp only [Act.put, sb_, sz_, ss_, i64_w, i32_w]
  rfl
 refine take_ (i := 28) (N := some 38) (v := ?_) (a' := ?_) (bl_ 101 51089972896350232351858490367) rfl rfl (take_ofW HT_.out HW_.out (by kernel_rfl)) (fun _ _ _ h => h) (Or.inl ⟨by rfl, ?_⟩) hHeld ?_ ?_
 rotate_left
 ·rintro w' ⟨s0, s1, s2, s3, s4, s5, s6, s7, s8, s9, s10, s11, s12, s13, s14, s15, s16, s17, s18, s19⟩
  go_simp
  with_reducible rfl
 rotate_left
 ·simp only [Act.put, sb_, sz_, ss_, i64_w, i32_w]
  rfl
 refine take_ (i := 30) (N := some 40) (v := ?_) (a' := ?_) (bl_ 101 51089972896350232352932232191) rfl rfl (take_ofW HT_.out HW_.out (by kernel_rfl)) (fun _ _ _ h => h) (Or.inl ⟨by rfl, ?_⟩) hHeld ?_ ?_
 rotate_left
 ·rintro w' ⟨s0, s1, s2, s3, s4, s5, s6, s7, s8, s9, s10, s11, s12, s13, s14, s15, s16, s17, s18, s19⟩
  go_simp
  with_reducible rfl
 rotate_left
 ·simp only [Act.put, sb_, sz_, ss_, i64_w, i32_w]
  rfl
 refine pure_ (i := 31) (N := some 41) (v := ?_) (a' := ?_) (bl_ 101 51089972896350232355079715839) rfl rfl (any_of HT_.out (by kernel_rfl)) (fun _ _ _ h => h) (Or.inl ⟨by rfl, ?_⟩) ?_ ?_
 rotate_left
 ·intro w'
  go_simp
  with_reducible rfl
 rotate_left
 ·simp only [Act.put, sb_, sz_, ss_, i64_w, i32_w]
  rfl
 refine take_ (i := 34) (N := some 44) (v := ?_) (a' := ?_) (bl_ 101 51089972896350232372259585023) rfl rfl (take_ofW HT_.out HW_.out (by kernel_rfl)) (fun _ _ _ h => h) (Or.inl ⟨by rfl, ?_⟩) hHeld ?_ ?_
 rotate_left
 ·rintro w' ⟨s0, s1, s2, s3, s4, s5, s6, s7, s8, s9, s10, s11, s12, s13, s14, s15, s16, s17, s18, s19⟩
  go_simp
  with_reducible rfl
 rotate_left
 ·simp only [Act.put, sb_, sz_, ss_, i64_w, i32_w]
  rfl
 refine take_ (i := 36) (N := some 46) (v := ?_) (a' := ?_) (bl_ 101 51089972896350232440979061759) rfl rfl (take_ofW HT_.out HW_.out (by kernel_rfl)) (fun _ _ _ h => h) (Or.inl ⟨by rfl, ?_⟩) hHeld ?_ ?_
 rotate_left
 ·rintro w' ⟨s0, s1, s2, s3, s4, s5, s6, s7, s8, s9, s10, s11, s12, s13, s14, s15, s16, s17, s18, s19⟩
  go_simp
  with_reducible rfl
 rotate_left
 ·simp only [Act.put, sb_, sz_, ss_, i64_w, i32_w]
  rfl
 refine pure_ (i := 37) (N := some 47) (v := ?_) (a' := ?_) (bl_ 101 51089972896350232578418015231) rfl rfl (any_of HT_.out (by kernel_rfl)) (fun _ _ _ h => h) (Or.inl ⟨by rfl, ?_⟩) ?_ ?_
 rotate_left
 ·intro w'
  go_simp
  with_reducible rfl
 rotate_left
 ·simp only [Act.put, sb_, sz_, ss_, i64_w, i32_w]
  rfl
 refine take_ (i := 39) (N := some 49) (v := ?_) (a' := ?_) (bl_ 101 51089972896350233128173829119) rfl rfl (take_ofW HT_.out HW_.out (by kernel_rfl)) (fun _ _ _ h => h) (Or.inl ⟨by rfl, ?_⟩) hHeld ?_ ?_
 rotate_left
 ·rintro w' ⟨s0, s1, s2, s3, s4, s5, s6, s7, s8, s9, s10, s11, s12, s13, s14, s15, s16, s17, s18, s19⟩
  go_simp
  with_reducible rfl
 rotate_left
 ·simp only [Act.put, sb_, sz_, ss_, i64_w, i32_w]
  rfl
 refine take_ (i := 41) (N := some 51) (v := ?_) (a' := ?_) (bl_ 101 51089972896350235327197084671) rfl rfl (take_ofW HT_.out HW_.out (by kernel_rfl)) (fun _ _ _ h => h) (Or.inl ⟨by rfl, ?_⟩) hHeld ?_ ?_
 rotate_left
 ·rintro w' ⟨s0, s1, s2, s3, s4, s5, s6, s7, s8, s9, s10, s11, s12, s13, s14, s15, s16, s17, s18, s19⟩
  go_simp
  with_reducible rfl
 rotate_left
 ·simp only [Act.put, sb_, sz_, ss_, i64_w, i32_w]
  rfl
 refine pure_ (i := 42) (N := some 52) (v := ?_) (a' := ?_) (bl_ 101 51089972896350239725243595775) rfl rfl (any_of HT_.out (by kernel_rfl)) (fun _ _ _ h => h) (Or.inl ⟨by rfl, ?_⟩) ?_ ?_
 rotate_left
 ·intro w'
  go_simp
  with_reducible rfl
 rotate_left
 ·simp only [Act.put, sb_, sz_, ss_, i64_w, i32_w]
  rfl
 refine take_ (i := 45) (N := some 55) (v := ?_) (a' := ?_) (bl_ 101 51089972896350274909615684607) rfl rfl (take_ofW HT_.out HW_.out (by kernel_rfl)) (fun _ _ _ h => h) (Or.inl ⟨by rfl, ?_⟩) hHeld ?_ ?_
 rotate_left
 ·rintro w' ⟨s0, s1, s2, s3, s4, s5, s6, s7, s8, s9, s10, s11, s12, s13, s14, s15, s16, s17, s18, s19⟩
  go_simp
  with_reducible rfl
 rotate_left
 ·simp only [Act.put, sb_, sz_, ss_, i64_w, i32_w]
  rfl
 refine take_ (i := 47) (N := some 57) (v := ?_) (a' := ?_) (bl_ 101 51089972896350415647104039935) rfl rfl (take_ofW HT_.out HW_.out (by kernel_rfl)) (fun _ _ _ h => h) (Or.inl ⟨by rfl, ?_⟩) hHeld ?_ ?_
 rotate_left
 ·rintro w' ⟨s0, s1, s2, s3, s4, s5, s6, s7, s8, s9, s10, s11, s12, s13, s14, s15, s16, s17, s18, s19⟩
  go_simp
  with_reducible rfl
 rotate_left
 ·simp only [Act.put, sb_, sz_, ss_, i64_w, i32_w]
  rfl
 refine pure_ (i := 48) (N := some 58) (v := ?_) (a' := ?_) (bl_ 101 51089972896350697122080750591) rfl rfl (any_of HT_.out (by kernel_rfl)) (fun _ _ _ h => h) (Or.inl ⟨by rfl, ?_⟩) ?_ ?_
 rotate_left
 ·intro w'
  go_simp
  with_reducible rfl
 rotate_left
 ·simp only [Act.put, sb_, sz_, ss_, i64_w, i32_w]
  rfl
 refine take_ (i := 50) (N := some 60) (v := ?_) (a' := ?_) (bl_ 101 51089972896351823021987593215) rfl rfl (take_ofW HT_.out HW_.out (by kernel_rfl)) (fun _ _ _ h => h) (Or.inl ⟨by rfl, ?_⟩) hHeld ?_ ?_
 rotate_left
 ·rintro w' ⟨s0, s1, s2, s3, s4, s5, s6, s7, s8, s9, s10, s11, s12, s13, s14, s15, s16, s17, s18, s19⟩
  go_simp
  with_reducible rfl
 rotate_left
 ·simp only [Act.put, sb_, sz_, ss_, i64_w, i32_w]
  rfl
 refine take_ (i := 52) (N := some 62) (v := ?_) (a' := ?_) (bl_ 101 51089972896356326621614963711) rfl rfl (take_ofW HT_.out HW_.out (by kernel_rfl)) (fun _ _ _ h => h) (Or.inl ⟨by rfl, ?_⟩) hHeld ?_ ?_
 rotate_left
 ·rintro w' ⟨s0, s1, s2, s3, s4, s5, s6, s7, s8, s9, s10, s11, s12, s13, s14, s15, s16, s17, s18, s19⟩
  go_simp
  with_reducible rfl
 rotate_left
 ·simp only [Act.put, sb_, sz_, ss_, i64_w, i32_w]
  rfl
 refine pure_ (i := 53) (N := some 63) (v := ?_) (a' := ?_) (bl_ 101 51089972896365333820869704703) rfl rfl (any_of HT_.out (by kernel_rfl)) (fun _ _ _ h => h) (Or.inl ⟨by rfl, ?_⟩) ?_ ?_
 rotate_left
 ·intro w'
  go_simp
  with_reducible rfl
 rotate_left
 ·simp only [Act.put, sb_, sz_, ss_, i64_w, i32_w]
  rfl
 refine take_ (i := 56) (N := some 66) (v := ?_) (a' := ?_) (bl_ 101 51089972896437391414907632639) rfl rfl (take_ofW HT_.out HW_.out (by kernel_rfl)) (fun _ _ _ h => h) (Or.inl ⟨by rfl, ?_⟩) hHeld ?_ ?_
 rotate_left
 ·rintro w' ⟨s0, s1, s2, s3, s4, s5, s6, s7, s8, s9, s10, s11, s12, s13, s14, s15, s16, s17, s18, s19⟩
  go_simp
  with_reducible rfl
 rotate_left
 ·simp only [Act.put, sb_, sz_, ss_, i64_w, i32_w]
  rfl
 refine take_ (i := 58) (N := some 68) (v := ?_) (a' := ?_) (bl_ 101 51089972896725621791059344383) rfl rfl (take_ofW HT_.out HW_.out (by kernel_rfl)) (fun _ _ _ h => h) (Or.inl ⟨by rfl, ?_⟩) hHeld ?_ ?_
 rotate_left
 ·rintro w' ⟨s0, s1, s2, s3, s4, s5, s6, s7, s8, s9, s10, s11, s12, s13, s14, s15, s16, s17, s18, s19⟩
  go_simp
  with_reducible rfl
 rotate_left
 ·simp only [Act.put, sb_, sz_, ss_, i64_w, i32_w]
  rfl
 refine pure_ (i := 59) (N := some 69) (v := ?_) (a' := ?_) (bl_ 101 51089972897302082543362767871) rfl rfl (any_of HT_.out (by kernel_rfl)) (fun _ _ _ h => h) (Or.inl ⟨by rfl, ?_⟩) ?_ ?_
 rotate_left
 ·intro w'
  go_simp
  with_reducible rfl
 rotate_left
 ·simp only [Act.put, sb_, sz_, ss_, i64_w, i32_w]
  rfl
 refine take_ (i := 61) (N := some 71) (v := ?_) (a' := ?_) (bl_ 101 51089972899607925552576461823) rfl rfl (take_ofW HT_.out HW_.out (by kernel_rfl)) (fun _ _ _ h => h) (Or.inl ⟨by rfl, ?_⟩) hHeld ?_ ?_
 rotate_left
 ·rintro w' ⟨s0, s1, s2, s3, s4, s5, s6, s7, s8, s9, s10, s11, s12, s13, s14, s15, s16, s17, s18, s19⟩
  go_simp
  with_reducible rfl
 rotate_left
 ·simp only [Act.put, sb_, sz_, ss_, i64_w, i32_w]
  rfl
 refine take_ (i := 63) (N := some 73) (v := ?_) (a' := ?_) (bl_ 101 51089972908831297589431237631) rfl rfl (take_ofW HT_.out HW_.out (by kernel_rfl)) (fun _ _ _ h => h) (Or.inl ⟨by rfl, ?_⟩) hHeld ?_ ?_
 rotate_left
 ·rintro w' ⟨s0, s1, s2, s3, s4, s5, s6, s7, s8, s9, s10, s11, s12, s13, s14, s15, s16, s17, s18, s19⟩
  go_simp
  with_reducible rfl
 rotate_left
 ·simp only [Act.put, sb_, sz_, ss_, i64_w, i32_w]
  rfl
 refine pure_ (i := 64) (N := some 74) (v := ?_) (a' := ?_) (bl_ 101 51089972927278041663140789247) rfl rfl (any_of HT_.out (by kernel_rfl)) (fun _ _ _ h => h) (Or.inl ⟨by rfl, ?_⟩) ?_ ?_
 rotate_left
 ·intro w'
  go_simp
  with_reducible rfl
 rotate_left
 ·simp only [Act.put, sb_, sz_, ss_, i64_w, i32_w]
  rfl
 refine take_ (i := 67) (N := some 77) (v := ?_) (a' := ?_) (bl_ 101 51089973074851994252817202175) rfl rfl (take_ofW HT_.out HW_.out (by kernel_rfl)) (fun _ _ _ h => h) (Or.inl ⟨by rfl, ?_⟩) hHeld ?_ ?_
 rotate_left
 ·rintro w' ⟨s0, s1, s2, s3, s4, s5, s6, s7, s8, s9, s10, s11, s12, s13, s14, s15, s16, s17, s18, s19⟩
  go_simp
  with_reducible rfl
 rotate_left
 ·simp only [Act.put, sb_, sz_, ss_, i64_w, i32_w]
  rfl
 refine take_ (i := 69) (N := some 79) (v := ?_) (a' := ?_) (bl_ 101 51089973665147804611522853887) rfl rfl (take_ofW HT_.out HW_.out (by kernel_rfl)) (fun _ _ _ h => h) (Or.inl ⟨by rfl, ?_⟩) hHeld ?_ ?_
 rotate_left
 ·rintro w' ⟨s0, s1, s2, s3, s4, s5, s6, s7, s8, s9, s10, s11, s12, s13, s14, s15, s16, s17, s18, s19⟩
  go_simp
  with_reducible rfl
 rotate_left
 ·simp only [Act.put, sb_, sz_, ss_, i64_w, i32_w]
  rfl
 refine pure_ (i := 70) (N := some 80) (v := ?_) (a' := ?_) (bl_ 101 51089974845739425328934157311) rfl rfl (any_of HT_.out (by kernel_rfl)) (fun _ _ _ h => h) (Or.inl ⟨by rfl, ?_⟩) ?_ ?_
 rotate_left
 ·intro w'
  go_simp
  with_reducible rfl
 rotate_left
 ·simp only [Act.put, sb_, sz_, ss_, i64_w, i32_w]
  rfl
 refine take_ (i := 72) (N := some 82) (v := ?_) (a' := ?_) (bl_ 101 51089979568105908198579371007) rfl rfl (take_ofW HT_.out HW_.out (by kernel_rfl)) (fun _ _ _ h => h) (Or.inl ⟨by rfl, ?_⟩) hHeld ?_ ?_
 rotate_left
 ·rintro w' ⟨s0, s1, s2, s3, s4, s5, s6, s7, s8, s9, s10, s11, s12, s13, s14, s15, s16, s17, s18, s19⟩
  go_simp
  with_reducible rfl
 rotate_left
 ·simp only [Act.put, sb_, sz_, ss_, i64_w, i32_w]
  rfl
 refine take_ (i := 74) (N := some 84) (v := ?_) (a' := ?_) (bl_ 101 51089998457571839677160225791) rfl rfl (take_ofW HT_.out HW_.out (by kernel_rfl)) (fun _ _ _ h => h) (Or.inl ⟨by rfl, ?_⟩) hHeld ?_ ?_
 rotate_left
 ·rintro w' ⟨s0, s1, s2, s3, s4, s5, s6, s7, s8, s9, s10, s11, s12, s13, s14, s15, s16, s17, s18, s19⟩
  go_simp
  with_reducible rfl
 rotate_left
 ·simp only [Act.put, sb_, sz_, ss_, i64_w, i32_w]
  rfl
 refine pure_ (i := 75) (N := some 85) (v := ?_) (a' := ?_) (bl_ 101 51090036236503702634321935359) rfl rfl (any_of HT_.out (by kernel_rfl)) (fun _ _ _ h => h) (Or.inl ⟨by rfl, ?_⟩) ?_ ?_
 rotate_left
 ·intro w'
  go_simp
  with_reducible rfl
 rotate_left
 ·simp only [Act.put, sb_, sz_, ss_, i64_w, i32_w]
  rfl
 refine take_ (i := 78) (N := some 88) (v := ?_) (a' := ?_) (bl_ 101 51090338467958606291615611903) rfl rfl (take_ofW HT_.out HW_.out (by kernel_rfl)) (fun _ _ _ h => h) (Or.inl ⟨by rfl, ?_⟩) hHeld ?_ ?_
 rotate_left
 ·rintro w' ⟨s0, s1, s2, s3, s4, s5, s6, s7, s8, s9, s10, s11, s12, s13, s14, s15, s16, s17, s18, s19⟩
  go_simp
  with_reducible rfl
 rotate_left
 ·simp only [Act.put, sb_, sz_, ss_, i64_w, i32_w]
  rfl
 refine take_ (i := 80) (N := some 90) (v := ?_) (a' := ?_) (bl_ 101 51091547393778220920790318079) rfl rfl (take_ofW HT_.out HW_.out (by kernel_rfl)) (fun _ _ _ h => h) (Or.inl ⟨by rfl, ?_⟩) hHeld ?_ ?_
 rotate_left
 ·rintro w' ⟨s0, s1, s2, s3, s4, s5, s6, s7, s8, s9, s10, s11, s12, s13, s14, s15, s16, s17, s18, s19⟩
  go_simp
  with_reducible rfl
 rotate_left
 ·simp only [Act.put, sb_, sz_, ss_, i64_w, i32_w]
  rfl
 refine pure_ (i := 81) (N := some 91) (v := ?_) (a' := ?_) (bl_ 101 51093965245417450179139730431) rfl rfl (any_of HT_.out (by kernel_rfl)) (fun _ _ _ h => h) (Or.inl ⟨by rfl, ?_⟩) ?_ ?_
 rotate_left
 ·intro w'
  go_simp
  with_reducible rfl
 rotate_left
 ·simp only [Act.put, sb_, sz_, ss_, i64_w, i32_w]
  rfl
 refine take_ (i := 83) (N := some 93) (v := ?_) (a' := ?_) (bl_ 101 51103636651974367212537379839) rfl rfl (take_ofW HT_.out HW_.out (by kernel_rfl)) (fun _ _ _ h => h) (Or.inl ⟨by rfl, ?_⟩) hHeld ?_ ?_
 rotate_left
 ·rintro w' ⟨s0, s1, s2, s3, s4, s5, s6, s7, s8, s9, s10, s11, s12, s13, s14, s15, s16, s17, s18, s19⟩
  go_simp
  with_reducible rfl
 rotate_left
 ·simp only [Act.put, sb_, sz_, ss_, i64_w, i32_w]
  rfl
 refine take_ (i := 85) (N := some 95) (v := ?_) (a' := ?_) (bl_ 101 51142322278202035346127977471) rfl rfl (take_ofW HT_.out HW_.out (by kernel_rfl)) (fun _ _ _ h => h) (Or.inl ⟨by rfl, ?_⟩) hHeld ?_ ?_
 rotate_left
 ·rintro w' ⟨s0, s1, s2, s3, s4, s5, s6, s7, s8, s9, s10, s11, s12, s13, s14, s15, s16, s17, s18, s19⟩
  go_simp
  with_reducible rfl
 rotate_left
 ·simp only [Act.put, sb_, sz_, ss_, i64_w, i32_w]
  rfl
 refine pure_ (i := 86) (N := some 96) (v := ?_) (a' := ?_) (bl_ 101 51219693530657371613309172735) rfl rfl (any_of HT_.out (by kernel_rfl)) (fun _ _ _ h => h) (Or.inl ⟨by rfl, ?_⟩) ?_ ?_
 rotate_left
 ·intro w'
  go_simp
  with_reducible rfl
 rotate_left
 ·simp only [Act.put, sb_, sz_, ss_, i64_w, i32_w]
  rfl
 refine take_ (i := 89) (N := some 99) (v := ?_) (a' := ?_) (bl_ 101 51838663550300061750758734847) rfl rfl (take_ofW HT_.out HW_.out (by kernel_rfl)) (fun _ _ _ h => h) (Or.inl ⟨by rfl, ?_⟩) hHeld ?_ ?_
 rotate_left
 ·rintro w' ⟨s0, s1, s2, s3, s4, s5, s6, s7, s8, s9, s10, s11, s12, s13, s14, s15, s16, s17, s18, s19⟩
  go_simp
  with_reducible rfl
 rotate_left
 ·simp only [Act.put, sb_, sz_, ss_, i64_w, i32_w]
  rfl
 refine take_ (i := 91) (N := some 101) (v := ?_) (a' := ?_) (bl_ 101 54314543628870822300556983295) rfl rfl (take_ofW HT_.out HW_.out (by kernel_rfl)) (fun _ _ _ h => h) (Or.inl ⟨by rfl, ?_⟩) hHeld ?_ ?_
 rotate_left
 ·rintro w' ⟨s0, s1, s2, s3, s4, s5, s6, s7, s8, s9, s10, s11, s12, s13, s14, s15, s16, s17, s18, s19⟩
  go_simp
  with_reducible rfl
 rotate_left
 ·simp only [Act.put, sb_, sz_, ss_, i64_w, i32_w]
  rfl
 refine pure_ (i := 92) (N := some 102) (v := ?_) (a' := ?_) (bl_ 101 59266303786012343400153480191) rfl rfl (any_of HT_.out (by kernel_rfl)) (fun _ _ _ h => h) (Or.inl ⟨by rfl, ?_⟩) ?_ ?_
 rotate_left
 ·intro w'
  go_simp
  with_reducible rfl
 rotate_left
 ·simp only [Act.put, sb_, sz_, ss_, i64_w, i32_w]
  rfl
 refine take_ (i := 94) (N := some 104) (v := ?_) (a' := ?_) (bl_ 101 79073344414578427798539467775) rfl rfl (take_ofW HT_.out HW_.out (by kernel_rfl)) (fun _ _ _ h => h) (Or.inl ⟨by rfl, ?_⟩) hHeld ?_ ?_
 rotate_left
 ·rintro w' ⟨s0, s1, s2, s3, s4, s5, s6, s7, s8, s9, s10, s11, s12, s13, s14, s15, s16, s17, s18, s19⟩
  go_simp
  with_reducible rfl
 rotate_left
 ·simp only [Act.put, sb_, sz_, ss_, i64_w, i32_w]
  rfl
 refine take_ (i := 96) (N := some 106) (v := ?_) (a' := ?_) (bl_ 101 158301506928842765392083418111) rfl rfl (take_ofW HT_.out HW_.out (by kernel_rfl)) (fun _ _ _ h => h) (Or.inl ⟨by rfl, ?_⟩) hHeld ?_ ?_
 rotate_left
 ·rintro w' ⟨s0, s1, s2, s3, s4, s5, s6, s7, s8, s9, s10, s11, s12, s13, s14, s15, s16, s17, s18, s19⟩
  go_simp
  with_reducible rfl
 rotate_left
 ·simp only [Act.put, sb_, sz_, ss_, i64_w, i32_w]
  rfl
 refine pure_ (i := 97) (N := some 107) (v := ?_) (a' := ?_) (bl_ 101 316757831957371440579171318783) rfl rfl (any_of HT_.out (by kernel_rfl)) (fun _ _ _ h => h) (Or.inl ⟨by rfl, ?_⟩) ?_ ?_
 rotate_left
 ·intro w'
  go_simp
  with_reducible rfl
 rotate_left
 ·simp only [Act.put, sb_, sz_, ss_, i64_w, i32_w]
  rfl
 refine one_ (i := 10) (N := some 20) (bl_ 101 316757831957371440579171319807) rfl rfl (one_of HT_.out (by kernel_rfl)) (by decide) (fun K hK => ?_)
 refine goes_ Try.func55 (by kernel_rfl) rfl #[.bool (decide (a0_0 < a1_0)), .bool (a0_0 == a1_0)] (by rfl) rfl rfl (by (try simp only [List.map_toArray, List.map_cons, List.map_nil]); first | done | rfl | (simp only [List.length_drop, List.length_take]; rfl)) ?_
 with_reducible refine (tallyroomref06_order.calls (decide (a0_0 < a1_0)) (a0_0 == a1_0) t142 _ A3.out).mono ?_
 rintro e w' ⟨rfl, ⟨nd, rfl⟩⟩
 refine ⟨_, rfl, ?_⟩
 refine hK.out _ _ ⟨(bc1_ BK140.out 0).trans rfl, (bc1_ BK140.out 1).trans rfl, (bc1_ BK140.out 2).trans rfl, (bc1_ BK140.out 3).trans rfl, (bc1_ BK140.out 4).trans rfl, (bc1_ BK140.out 5).trans rfl, (bc1_ BK140.out 6).trans rfl, (bc1_ BK140.out 7).trans rfl, (bc1_ BK140.out 8).trans rfl, (bc1_ BK140.out 9).trans rfl, (bc1_ BK141.out 0).trans rfl, (bc1_ BK141.out 1).trans rfl, (bc1_ BK141.out 2).trans rfl, (bc1_ BK141.out 3).trans rfl, (bc1_ BK141.out 4).trans rfl, (bc1_ BK141.out 5).trans rfl, (bc1_ BK141.out 6).trans rfl, (bc1_ BK141.out 7).trans rfl, (bc1_ BK141.out 8).trans rfl, (bc1_ BK141.out 9).trans rfl⟩ (fun hHeld => ?_)
 clear hK K
 refine norm_ (a' := ?_) ?_ ?_
 rotate_left
 ·show Act.put _ (some 20) _ = _
  simp only [Act.put, sb_, sz_, ss_, i64_w, i32_w]
  rfl
 refine one_ (i := 21) (N := some 31) (bl_ 101 316757831957371440579173416959) rfl rfl (one_of HT_.out (by kernel_rfl)) (by decide) (fun K hK => ?_)
 refine goes_ Try.func55 (by kernel_rfl) rfl #[.bool (decide (a0_1 < a1_1)), .bool (a0_1 == a1_1)] (by rfl) rfl rfl (by (try simp only [List.map_toArray, List.map_cons, List.map_nil]); first | done | rfl | (simp only [List.length_drop, List.length_take]; rfl)) ?_
 with_reducible refine (tallyroomref06_order.calls (decide (a0_1 < a1_1)) (a0_1 == a1_1) t143 _ A4.out).mono ?_
 rintro e w' ⟨rfl, ⟨nd, rfl⟩⟩
 refine ⟨_, rfl, ?_⟩
 refine hK.out _ _ ⟨(bc1_ BK140.out 0).trans rfl, (bc1_ BK140.out 1).trans rfl, (bc1_ BK140.out 2).trans rfl, (bc1_ BK140.out 3).trans rfl, (bc1_ BK140.out 4).trans rfl, (bc1_ BK140.out 5).trans rfl, (bc1_ BK140.out 6).trans rfl, (bc1_ BK140.out 7).trans rfl, (bc1_ BK140.out 8).trans rfl, (bc1_ BK140.out 9).trans rfl, (bc1_ BK141.out 0).trans rfl, (bc1_ BK141.out 1).trans rfl, (bc1_ BK141.out 2).trans rfl, (bc1_ BK141.out 3).trans rfl, (bc1_ BK141.out 4).trans rfl, (bc1_ BK141.out 5).trans rfl, (bc1_ BK141.out 6).trans rfl, (bc1_ BK141.out 7).trans rfl, (bc1_ BK141.out 8).trans rfl, (bc1_ BK141.out 9).trans rfl⟩ (fun hHeld => ?_)
 clear hK K
 refine norm_ (a' := ?_) ?_ ?_
 rotate_left
 ·show Act.put _ (some 31) _ = _
  simp only [Act.put, sb_, sz_, ss_, i64_w, i32_w]
  rfl
 refine one_ (i := 32) (N := some 42) (bl_ 101 316757831957371440583468384255) rfl rfl (one_of HT_.out (by kernel_rfl)) (by decide) (fun K hK => ?_)
 refine goes_ Try.func55 (by kernel_rfl) rfl #[.bool (decide (a0_2 < a1_2)), .bool (a0_2 == a1_2)] (by rfl) rfl rfl (by (try simp only [List.map_toArray, List.map_cons, List.map_nil]); first | done | rfl | (simp only [List.length_drop, List.length_take]; rfl)) ?_
 with_reducible refine (tallyroomref06_order.calls (decide (a0_2 < a1_2)) (a0_2 == a1_2) t144 _ A5.out).mono ?_
 rintro e w' ⟨rfl, ⟨nd, rfl⟩⟩
 refine ⟨_, rfl, ?_⟩
 refine hK.out _ _ ⟨(bc1_ BK140.out 0).trans rfl, (bc1_ BK140.out 1).trans rfl, (bc1_ BK140.out 2).trans rfl, (bc1_ BK140.out 3).trans rfl, (bc1_ BK140.out 4).trans rfl, (bc1_ BK140.out 5).trans rfl, (bc1_ BK140.out 6).trans rfl, (bc1_ BK140.out 7).trans rfl, (bc1_ BK140.out 8).trans rfl, (bc1_ BK140.out 9).trans rfl, (bc1_ BK141.out 0).trans rfl, (bc1_ BK141.out 1).trans rfl, (bc1_ BK141.out 2).trans rfl, (bc1_ BK141.out 3).trans rfl, (bc1_ BK141.out 4).trans rfl, (bc1_ BK141.out 5).trans rfl, (bc1_ BK141.out 6).trans rfl, (bc1_ BK141.out 7).trans rfl, (bc1_ BK141.out 8).trans rfl, (bc1_ BK141.out 9).trans rfl⟩ (fun hHeld => ?_)
 clear hK K
 refine norm_ (a' := ?_) ?_ ?_
 rotate_left
 ·show Act.put _ (some 42) _ = _
  simp only [Act.put, sb_, sz_, ss_, i64_w, i32_w]
  rfl
 refine one_ (i := 43) (N := some 53) (bl_ 101 316757831957371449379561406463) rfl rfl (one_of HT_.out (by kernel_rfl)) (by decide) (fun K hK => ?_)
 refine goes_ Try.func55 (by kernel_rfl) rfl #[.bool (Op.bytesLess a0_3.toList a1_3.toList), .bool (a0_3.toList == a1_3.toList)] (by rfl) rfl rfl (by (try simp only [List.map_toArray, List.map_cons, List.map_nil]); first | done | rfl | (simp only [List.length_drop, List.length_take]; rfl)) ?_
 with_reducible refine (tallyroomref06_order.calls (Op.bytesLess a0_3.toList a1_3.toList) (a0_3.toList == a1_3.toList) t145 _ A6.out).mono ?_
 rintro e w' ⟨rfl, ⟨nd, rfl⟩⟩
 refine ⟨_, rfl, ?_⟩
 refine hK.out _ _ ⟨(bc1_ BK140.out 0).trans rfl, (bc1_ BK140.out 1).trans rfl, (bc1_ BK140.out 2).trans rfl, (bc1_ BK140.out 3).trans rfl, (bc1_ BK140.out 4).trans rfl, (bc1_ BK140.out 5).trans rfl, (bc1_ BK140.out 6).trans rfl, (bc1_ BK140.out 7).trans rfl, (bc1_ BK140.out 8).trans rfl, (bc1_ BK140.out 9).trans rfl, (bc1_ BK141.out 0).trans rfl, (bc1_ BK141.out 1).trans rfl, (bc1_ BK141.out 2).trans rfl, (bc1_ BK141.out 3).trans rfl, (bc1_ BK141.out 4).trans rfl, (bc1_ BK141.out 5).trans rfl, (bc1_ BK141.out 6).trans rfl, (bc1_ BK141.out 7).trans rfl, (bc1_ BK141.out 8).trans rfl, (bc1_ BK141.out 9).trans rfl⟩ (fun hHeld => ?_)
 clear hK K
 refine norm_ (a' := ?_) ?_ ?_
 rotate_left
 ·show Act.put _ (some 53) _ = _
  simp only [Act.put, sb_, sz_, ss_, i64_w, i32_w]
  rfl
 refine one_ (i := 54) (N := some 64) (bl_ 101 316757831957389463778070888447) rfl rfl (one_of HT_.out (by kernel_rfl)) (by decide) (fun K hK => ?_)
 refine goes_ Try.func55 (by kernel_rfl) rfl #[.bool (Op.bytesLess a0_4.toList a1_4.toList), .bool (a0_4.toList == a1_4.toList)] (by rfl) rfl rfl (by (try simp only [List.map_toArray, List.map_cons, List.map_nil]); first | done | rfl | (simp only [List.length_drop, List.length_take]; rfl)) ?_
 with_reducible refine (tallyroomref06_order.calls (Op.bytesLess a0_4.toList a1_4.toList) (a0_4.toList == a1_4.toList) t146 _ A7.out).mono ?_
 rintro e w' ⟨rfl, ⟨nd, rfl⟩⟩
 refine ⟨_, rfl, ?_⟩
 refine hK.out _ _ ⟨(bc1_ BK140.out 0).trans rfl, (bc1_ BK140.out 1).trans rfl, (bc1_ BK140.out 2).trans rfl, (bc1_ BK140.out 3).trans rfl, (bc1_ BK140.out 4).trans rfl, (bc1_ BK140.out 5).trans rfl, (bc1_ BK140.out 6).trans rfl, (bc1_ BK140.out 7).trans rfl, (bc1_ BK140.out 8).trans rfl, (bc1_ BK140.out 9).trans rfl, (bc1_ BK141.out 0).trans rfl, (bc1_ BK141.out 1).trans rfl, (bc1_ BK141.out 2).trans rfl, (bc1_ BK141.out 3).trans rfl, (bc1_ BK141.out 4).trans rfl, (bc1_ BK141.out 5).trans rfl, (bc1_ BK141.out 6).trans rfl, (bc1_ BK141.out 7).trans rfl, (bc1_ BK141.out 8).trans rfl, (bc1_ BK141.out 9).trans rfl⟩ (fun hHeld => ?_)
 clear hK K
 refine norm_ (a' := ?_) ?_ ?_
 rotate_left
 ·show Act.put _ (some 64) _ = _
  simp only [Act.put, sb_, sz_, ss_, i64_w, i32_w]
  rfl
 refine one_ (i := 65) (N := some 75) (bl_ 101 316757831994282951925489991679) rfl rfl (one_of HT_.out (by kernel_rfl)) (by decide) (fun K hK => ?_)
 refine goes_ Try.func55 (by kernel_rfl) rfl #[.bool (decide (a0_5 < a1_5)), .bool (a0_5 == a1_5)] (by rfl) rfl rfl (by (try simp only [List.map_toArray, List.map_cons, List.map_nil]); first | done | rfl | (simp only [List.length_drop, List.length_take]; rfl)) ?_
 with_reducible refine (tallyroomref06_order.calls (decide (a0_5 < a1_5)) (a0_5 == a1_5) t147 _ A8.out).mono ?_
 rintro e w' ⟨rfl, ⟨nd, rfl⟩⟩
 refine ⟨_, rfl, ?_⟩
 refine hK.out _ _ ⟨(bc1_ BK140.out 0).trans rfl, (bc1_ BK140.out 1).trans rfl, (bc1_ BK140.out 2).trans rfl, (bc1_ BK140.out 3).trans rfl, (bc1_ BK140.out 4).trans rfl, (bc1_ BK140.out 5).trans rfl, (bc1_ BK140.out 6).trans rfl, (bc1_ BK140.out 7).trans rfl, (bc1_ BK140.out 8).trans rfl, (bc1_ BK140.out 9).trans rfl, (bc1_ BK141.out 0).trans rfl, (bc1_ BK141.out 1).trans rfl, (bc1_ BK141.out 2).trans rfl, (bc1_ BK141.out 3).trans rfl, (bc1_ BK141.out 4).trans rfl, (bc1_ BK141.out 5).trans rfl, (bc1_ BK141.out 6).trans rfl, (bc1_ BK141.out 7).trans rfl, (bc1_ BK141.out 8).trans rfl, (bc1_ BK141.out 9).trans rfl⟩ (fun hHeld => ?_)
 clear hK K
 refine norm_ (a' := ?_) ?_ ?_
 rotate_left
 ·show Act.put _ (some 75) _ = _
  simp only [Act.put, sb_, sz_, ss_, i64_w, i32_w]
  rfl
 refine one_ (i := 76) (N := some 86) (bl_ 101 316757907552146677839813410815) rfl rfl (one_of HT_.out (by kernel_rfl)) (by decide) (fun K hK => ?_)
 refine goes_ Try.func55 (by kernel_rfl) rfl #[.bool (decide (a0_6 < a1_6)), .bool (a0_6 == a1_6)] (by rfl) rfl rfl (by (try simp only [List.map_toArray, List.map_cons, List.map_nil]); first | done | rfl | (simp only [List.length_drop, List.length_take]; rfl)) ?_
 with_reducible refine (tallyroomref06_order.calls (decide (a0_6 < a1_6)) (a0_6 == a1_6) t148 _ A9.out).mono ?_
 rintro e w' ⟨rfl, ⟨nd, rfl⟩⟩
 refine ⟨_, rfl, ?_⟩
 refine hK.out _ _ ⟨(bc1_ BK140.out 0).trans rfl, (bc1_ BK140.out 1).trans rfl, (bc1_ BK140.out 2).trans rfl, (bc1_ BK140.out 3).trans rfl, (bc1_ BK140.out 4).trans rfl, (bc1_ BK140.out 5).trans rfl, (bc1_ BK140.out 6).trans rfl, (bc1_ BK140.out 7).trans rfl, (bc1_ BK140.out 8).trans rfl, (bc1_ BK140.out 9).trans rfl, (bc1_ BK141.out 0).trans rfl, (bc1_ BK141.out 1).trans rfl, (bc1_ BK141.out 2).trans rfl, (bc1_ BK141.out 3).trans rfl, (bc1_ BK141.out 4).trans rfl, (bc1_ BK141.out 5).trans rfl, (bc1_ BK141.out 6).trans rfl, (bc1_ BK141.out 7).trans rfl, (bc1_ BK141.out 8).trans rfl, (bc1_ BK141.out 9).trans rfl⟩ (fun hHeld => ?_)
 clear hK K
 refine norm_ (a' := ?_) ?_ ?_
 rotate_left
 ·show Act.put _ (some 86) _ = _
  simp only [Act.put, sb_, sz_, ss_, i64_w, i32_w]
  rfl
 refine one_ (i := 87) (N := some 97) (bl_ 101 316912650057057350374175801343) rfl rfl (one_of HT_.out (by kernel_rfl)) (by decide) (fun K hK => ?_)
 refine goes_ Try.func55 (by kernel_rfl) rfl #[.bool (decide (a0_7 < a1_7)), .bool (a0_7 == a1_7)] (by rfl) rfl rfl (by (try simp only [List.map_toArray, List.map_cons, List.map_nil]); first | done | rfl | (simp only [List.length_drop, List.length_take]; rfl)) ?_
 with_reducible refine (tallyroomref06_order.calls (decide (a0_7 < a1_7)) (a0_7 == a1_7) t149 _ A10.out).mono ?_
 rintro e w' ⟨rfl, ⟨nd, rfl⟩⟩
 refine ⟨_, rfl, ?_⟩
 refine hK.out _ _ ⟨(bc1_ BK140.out 0).trans rfl, (bc1_ BK140.out 1).trans rfl, (bc1_ BK140.out 2).trans rfl, (bc1_ BK140.out 3).trans rfl, (bc1_ BK140.out 4).trans rfl, (bc1_ BK140.out 5).trans rfl, (bc1_ BK140.out 6).trans rfl, (bc1_ BK140.out 7).trans rfl, (bc1_ BK140.out 8).trans rfl, (bc1_ BK140.out 9).trans rfl, (bc1_ BK141.out 0).trans rfl, (bc1_ BK141.out 1).trans rfl, (bc1_ BK141.out 2).trans rfl, (bc1_ BK141.out 3).trans rfl, (bc1_ BK141.out 4).trans rfl, (bc1_ BK141.out 5).trans rfl, (bc1_ BK141.out 6).trans rfl, (bc1_ BK141.out 7).trans rfl, (bc1_ BK141.out 8).trans rfl, (bc1_ BK141.out 9).trans rfl⟩ (fun hHeld => ?_)
 clear hK K
 refine norm_ (a' := ?_) ?_ ?_
 rotate_left
 ·show Act.put _ (some 97) _ = _
  simp only [Act.put, sb_, sz_, ss_, i64_w, i32_w]
  rfl
 refine one_ (i := 98) (N := some 108) (bl_ 101 633825300114114700748351602687) rfl rfl (one_of HT_.out (by kernel_rfl)) (by decide) (fun K hK => ?_)
 refine goes_ Try.func55 (by kernel_rfl) rfl #[.bool (decide (a0_8 < a1_8)), .bool (a0_8 == a1_8)] (by rfl) rfl rfl (by (try simp only [List.map_toArray, List.map_cons, List.map_nil]); first | done | rfl | (simp only [List.length_drop, List.length_take]; rfl)) ?_
 with_reducible refine (tallyroomref06_order.calls (decide (a0_8 < a1_8)) (a0_8 == a1_8) t150 _ A11.out).mono ?_
 rintro e w' ⟨rfl, ⟨nd, rfl⟩⟩
 refine ⟨_, rfl, ?_⟩
 refine hK.out _ _ ⟨(bc1_ BK140.out 0).trans rfl, (bc1_ BK140.out 1).trans rfl, (bc1_ BK140.out 2).trans rfl, (bc1_ BK140.out 3).trans rfl, (bc1_ BK140.out 4).trans rfl, (bc1_ BK140.out 5).trans rfl, (bc1_ BK140.out 6).trans rfl, (bc1_ BK140.out 7).trans rfl, (bc1_ BK140.out 8).trans rfl, (bc1_ BK140.out 9).trans rfl, (bc1_ BK141.out 0).trans rfl, (bc1_ BK141.out 1).trans rfl, (bc1_ BK141.out 2).trans rfl, (bc1_ BK141.out 3).trans rfl, (bc1_ BK141.out 4).trans rfl, (bc1_ BK141.out 5).trans rfl, (bc1_ BK141.out 6).trans rfl, (bc1_ BK141.out 7).trans rfl, (bc1_ BK141.out 8).trans rfl, (bc1_ BK141.out 9).trans rfl⟩ (fun hHeld => ?_)
 clear hK K
 refine norm_ (a' := ?_) ?_ ?_
 rotate_left
 ·show Act.put _ (some 108) _ = _
  simp only [Act.put, sb_, sz_, ss_, i64_w, i32_w]
  rfl
 refine one_ (i := 99) (N := some 109) (bl_ 101 1267650600228229401496703205375) rfl rfl (one_of HT_.out (by kernel_rfl)) (by decide) (fun K hK => ?_)
 refine Kd.R_lit_step (Kd.int .i64) _ 3 ?hg (N := 109) ?hd (xs := ([t142, t143, t144, t145, t146, t147, t148, t149, t150] : List Int)) (inner := [.int .i64 t142, .int .i64 t143, .int .i64 t144, .int .i64 t145, .int .i64 t146, .int .i64 t147, .int .i64 t148, .int .i64 t149, .int .i64 t150]) (ok := fun _ => True) (okp := fun _ => True) ?hr ?hp (fun _ hk => hk) trivial (Below.refl _ _) (Nat.le_refl _) (by simp) ?_; (case hd => rfl); (case hg => rfl); (case hr => first | (go_simp; done) | (go_simp; rfl)); (case hp => exact (Reps.one (show Kd.M (Kd.int .i64) _ _ _ t142 [.int .i64 t142] from rfl) (Reps.one (show Kd.M (Kd.int .i64) _ _ _ t143 [.int .i64 t143] from rfl) (Reps.one (show Kd.M (Kd.int .i64) _ _ _ t144 [.int .i64 t144] from rfl) (Reps.one (show Kd.M (Kd.int .i64) _ _ _ t145 [.int .i64 t145] from rfl) (Reps.one (show Kd.M (Kd.int .i64) _ _ _ t146 [.int .i64 t146] from rfl) (Reps.one (show Kd.M (Kd.int .i64) _ _ _ t147 [.int .i64 t147] from rfl) (Reps.one (show Kd.M (Kd.int .i64) _ _ _ t148 [.int .i64 t148] from rfl) (Reps.one (show Kd.M (Kd.int .i64) _ _ _ t149 [.int .i64 t149] from rfl) (Reps.one (show Kd.M (Kd.int .i64) _ _ _ t150 [.int .i64 t150] from rfl) (Reps.none _ _)))))))))))
 intro v152 w15 ho16 hb hg_ hnew_
 clear hg_ hnew_
 (first | rw [← Ny151.out] at ho16 | (simp only [Int.reduceToNat] at ho16; rw [← Ny151.out] at ho16))
 have n0_ := Aside0.mk (Kd.R_lower ho16 (bz_ (by repeat (first | (with_reducible first | exact HB.out | apply lA_ | apply lN_ | apply l1_ | refine below_set ?_ GE140.out | refine below_set ?_ GE141.out) | exact HB.out))))
 have n1_ := Aside0.mk (bb_ (g := gb140) (o := .cells #[.int .u64 a0_0, .int .u64 a0_1, .int .u64 a0_2, .string a0_3, .string a0_4, .int .i64 a0_5, .int .i64 a0_6, .int .u64 a0_7, .int .u64 a0_8, .slice A0_9 l0_9.length c0_9] 37 (0, 0)) (by (with_reducible repeat (first | refine bN_ ?_ _ | refine bD_ ?_ | refine bA_ ?_ _)); exact BK140.out) hb)
 have n2_ := Aside0.mk (bb_ (g := gb141) (o := .cells #[.int .u64 a1_0, .int .u64 a1_1, .int .u64 a1_2, .string a1_3, .string a1_4, .int .i64 a1_5, .int .i64 a1_6, .int .u64 a1_7, .int .u64 a1_8, .slice A1_9 l1_9.length c1_9] 37 (0, 0)) (by (with_reducible repeat (first | refine bN_ ?_ _ | refine bD_ ?_ | refine bA_ ?_ _)); exact BK141.out) hb)
 have n3_ := Aside0.mk (ls_ (by repeat (first | (with_reducible first | exact HB.out | apply lA_ | apply lN_ | apply l1_ | refine below_set ?_ GE140.out | refine below_set ?_ GE141.out) | exact HB.out)) hb)
 clear BK140
 clear BK141
 clear HB
 have HO153 := n0_
 have BK140 := n1_
 have BK141 := n2_
 have HB := n3_
 clear n0_ n1_ n2_ n3_
 clear hb ho16
 refine hK.out _ _ ⟨(bc1_ BK140.out 0).trans rfl, (bc1_ BK140.out 1).trans rfl, (bc1_ BK140.out 2).trans rfl, (bc1_ BK140.out 3).trans rfl, (bc1_ BK140.out 4).trans rfl, (bc1_ BK140.out 5).trans rfl, (bc1_ BK140.out 6).trans rfl, (bc1_ BK140.out 7).trans rfl, (bc1_ BK140.out 8).trans rfl, (bc1_ BK140.out 9).trans rfl, (bc1_ BK141.out 0).trans rfl, (bc1_ BK141.out 1).trans rfl, (bc1_ BK141.out 2).trans rfl, (bc1_ BK141.out 3).trans rfl, (bc1_ BK141.out 4).trans rfl, (bc1_ BK141.out 5).trans rfl, (bc1_ BK141.out 6).trans rfl, (bc1_ BK141.out 7).trans rfl, (bc1_ BK141.out 8).trans rfl, (bc1_ BK141.out 9).trans rfl⟩ (fun hHeld => ?_)
 clear hK K
 refine norm_ (a' := ?_) ?_ ?_
 rotate_left
 ·show Act.put _ (some 109) _ = _
  simp only [Act.put, sb_, sz_, ss_, i64_w, i32_w]
  rfl
 refine pure_ (i := 100) (N := some 5) (v := ?_) (a' := ?_) (bl_ 101 2535301200456458802993406410751) rfl rfl (any_of HT_.out (by kernel_rfl)) (fun _ _ _ h => h) (Or.inl ⟨by rfl, ?_⟩) ?_ ?_
 rotate_left
 ·intro w'
  go_simp
  with_reducible rfl
 rotate_left
 ·simp only [Act.put, sb_, sz_, ss_, i64_w, i32_w]
  rfl
 refine done_ (done_of HT_.out (by kernel_rfl)) ?_
 try go_wp2
 go_loopg [5, 6] k (fun kq v5 v6 w' => ∃ (x5_1 : List Int) (x6_1 : Int), v6 = .int .i64 x6_1 ∧ Aside0 (tallyroomref06_Compare.l0 kq x5_1 x6_1 a0_0 a0_1 a0_2 a0_3 a0_4 a0_5 a0_6 a0_7 a0_8 l0_9 a1_0 a1_1 a1_2 a1_3 a1_4 a1_5 a1_6 a1_7 a1_8 l1_9 = some r) ∧ Aside0 (kq ≤ k) ∧ Aside0 (Kd.R (Kd.int .i64) 3 w' w.heap.size (fun _ => True) v5 x5_1) ∧ Aside0 (w'.heap[gb140]? = some (.cells #[.int .u64 a0_0, .int .u64 a0_1, .int .u64 a0_2, .string a0_3, .string a0_4, .int .i64 a0_5, .int .i64 a0_6, .int .u64 a0_7, .int .u64 a0_8, (.slice A0_9 l0_9.length c0_9)] 37 (0, 0))) ∧ Aside0 (w'.heap[gb141]? = some (.cells #[.int .u64 a1_0, .int .u64 a1_1, .int .u64 a1_2, .string a1_3, .string a1_4, .int .i64 a1_5, .int .i64 a1_6, .int .u64 a1_7, .int .u64 a1_8, (.slice A1_9 l1_9.length c1_9)] 37 (0, 0))) ∧ Aside0 (Below w.heap.size w w'))
 case atStart => exact ⟨(y151), (0), (by first | rfl | (simp; done) | (simp [*]; done)), H', ⟨Nat.le_refl _⟩, ⟨by (with_reducible repeat (first | apply rA_ | apply rN_ | apply rD_)); exact HO153.out⟩, ⟨by (with_reducible repeat (first | refine bN_ ?_ _ | refine bD_ ?_ | refine bA_ ?_ _)); exact BK140.out⟩, ⟨by (with_reducible repeat (first | refine bN_ ?_ _ | refine bD_ ?_ | refine bA_ ?_ _)); exact BK141.out⟩, ⟨by repeat (first | (with_reducible first | exact HB.out | apply lA_ | apply lN_ | apply l1_ | refine below_set ?_ GE140.out | refine below_set ?_ GE141.out) | exact HB.out)⟩⟩
 case round =>
  clear H'
  try clear c1
  try clear p2
  try clear c5
  obtain ⟨x5_1, x6_1, rfl, HA, HK1, HO_5, BK140, BK141, HB⟩ := hrel
  cases gk with
  | zero => exact absurd HA.out (by simp [tallyroomref06_Compare.l0])
  | succ k1 =>
   have H := HA.out
   clear HA
   simp only [tallyroomref06_Compare.l0] at H
   have HC17 := Aside0.mk H
   clear H
   go_upto_region 3 with (fail)
   go_cut [121] (fun v121 wc => ∃ (kq : Nat) (x121_16 : Bool), v121 = .bool x121_16 ∧ Aside0 (tallyroomref06_Compare.j1 kq x5_1 x6_1 x121_16 a0_0 a0_1 a0_2 a0_3 a0_4 a0_5 a0_6 a0_7 a0_8 l0_9 a1_0 a1_1 a1_2 a1_3 a1_4 a1_5 a1_6 a1_7 a1_8 l1_9 = some r) ∧ Aside0 (kq ≤ k1) ∧ Aside0 (Kd.R (Kd.int .i64) 3 wc w.heap.size (fun _ => True) u5 x5_1) ∧ Aside0 (wc.heap[gb140]? = some (.cells #[.int .u64 a0_0, .int .u64 a0_1, .int .u64 a0_2, .string a0_3, .string a0_4, .int .i64 a0_5, .int .i64 a0_6, .int .u64 a0_7, .int .u64 a0_8, (.slice A0_9 l0_9.length c0_9)] 37 (0, 0))) ∧ Aside0 (wc.heap[gb141]? = some (.cells #[.int .u64 a1_0, .int .u64 a1_1, .int .u64 a1_2, .string a1_3, .string a1_4, .int .i64 a1_5, .int .i64 a1_6, .int .u64 a1_7, .int .u64 a1_8, (.slice A1_9 l1_9.length c1_9)] 37 (0, 0))) ∧ Aside0 (Below w.heap.size w wc))
   case first =>
    have H := HC17.out
    clear HC17
    by_cases c18 : x6_1 < (l0_9.length : Int)
    ·rw [if_pos c18] at H
     have c18b0 : decide (x6_1 < (l0_9.length : Int)) = true := decide_eq_true c18
     clear c18
     (first | rw [c18b0] | (simp only [i64_w, i32_w]; rw [c18b0]) | skip)
     have H' := Aside0.mk H
     clear H
     have hnb19 := NB140_141.out
     have hnc19 := NB141_140.out
     have hcz20_0 : wr.cell? ⟨gb140, 0, none⟩ = some (.int .u64 a0_0) := (bc1_ BK140.out 0).trans rfl
     have hcz20_1 : wr.cell? ⟨gb140, 1, none⟩ = some (.int .u64 a0_1) := (bc1_ BK140.out 1).trans rfl
     have hcz20_2 : wr.cell? ⟨gb140, 2, none⟩ = some (.int .u64 a0_2) := (bc1_ BK140.out 2).trans rfl
     have hcz20_3 : wr.cell? ⟨gb140, 3, none⟩ = some (.string a0_3) := (bc1_ BK140.out 3).trans rfl
     have hcz20_4 : wr.cell? ⟨gb140, 4, none⟩ = some (.string a0_4) := (bc1_ BK140.out 4).trans rfl
     have hcz20_5 : wr.cell? ⟨gb140, 5, none⟩ = some (.int .i64 a0_5) := (bc1_ BK140.out 5).trans rfl
     have hcz20_6 : wr.cell? ⟨gb140, 6, none⟩ = some (.int .i64 a0_6) := (bc1_ BK140.out 6).trans rfl
     have hcz20_7 : wr.cell? ⟨gb140, 7, none⟩ = some (.int .u64 a0_7) := (bc1_ BK140.out 7).trans rfl
     have hcz20_8 : wr.cell? ⟨gb140, 8, none⟩ = some (.int .u64 a0_8) := (bc1_ BK140.out 8).trans rfl
     have hcz20_9 : wr.cell? ⟨gb140, 9, none⟩ = some (.slice A0_9 l0_9.length c0_9) := (bc1_ BK140.out 9).trans rfl
     have hfz20_0 := bf1_ BK140.out 0
     have hfz20_1 := bf1_ BK140.out 1
     have hfz20_2 := bf1_ BK140.out 2
     have hfz20_3 := bf1_ BK140.out 3
     have hfz20_4 := bf1_ BK140.out 4
     have hfz20_5 := bf1_ BK140.out 5
     have hfz20_6 := bf1_ BK140.out 6
     have hfz20_7 := bf1_ BK140.out 7
     have hfz20_8 := bf1_ BK140.out 8
     have hfz20_9 := bf1_ BK140.out 9
     have hcz21_0 : wr.cell? ⟨gb141, 0, none⟩ = some (.int .u64 a1_0) := (bc1_ BK141.out 0).trans rfl
     have hcz21_1 : wr.cell? ⟨gb141, 1, none⟩ = some (.int .u64 a1_1) := (bc1_ BK141.out 1).trans rfl
     have hcz21_2 : wr.cell? ⟨gb141, 2, none⟩ = some (.int .u64 a1_2) := (bc1_ BK141.out 2).trans rfl
     have hcz21_3 : wr.cell? ⟨gb141, 3, none⟩ = some (.string a1_3) := (bc1_ BK141.out 3).trans rfl
     have hcz21_4 : wr.cell? ⟨gb141, 4, none⟩ = some (.string a1_4) := (bc1_ BK141.out 4).trans rfl
     have hcz21_5 : wr.cell? ⟨gb141, 5, none⟩ = some (.int .i64 a1_5) := (bc1_ BK141.out 5).trans rfl
     have hcz21_6 : wr.cell? ⟨gb141, 6, none⟩ = some (.int .i64 a1_6) := (bc1_ BK141.out 6).trans rfl
     have hcz21_7 : wr.cell? ⟨gb141, 7, none⟩ = some (.int .u64 a1_7) := (bc1_ BK141.out 7).trans rfl
     have hcz21_8 : wr.cell? ⟨gb141, 8, none⟩ = some (.int .u64 a1_8) := (bc1_ BK141.out 8).trans rfl
     have hcz21_9 : wr.cell? ⟨gb141, 9, none⟩ = some (.slice A1_9 l1_9.length c1_9) := (bc1_ BK141.out 9).trans rfl
     have hfz21_0 := bf1_ BK141.out 0
     have hfz21_1 := bf1_ BK141.out 1
     have hfz21_2 := bf1_ BK141.out 2
     have hfz21_3 := bf1_ BK141.out 3
     have hfz21_4 := bf1_ BK141.out 4
     have hfz21_5 := bf1_ BK141.out 5
     have hfz21_6 := bf1_ BK141.out 6
     have hfz21_7 := bf1_ BK141.out 7
     have hfz21_8 := bf1_ BK141.out 8
     have hfz21_9 := bf1_ BK141.out 9
     go_wp2
     go_meet
     case rel => exact ⟨_, (decide (x6_1 < (l1_9.length : Int))), (by first | rfl | (simp; done) | (simp [*]; done)), H', ⟨by have := HK1.out; first | omega | exact Nat.le_refl _⟩, ⟨by (with_reducible repeat (first | apply rA_ | apply rN_ | apply rD_)); exact HO_5.out⟩, ⟨by (with_reducible repeat (first | refine bN_ ?_ _ | refine bD_ ?_ | refine bA_ ?_ _)); exact BK140.out⟩, ⟨by (with_reducible repeat (first | refine bN_ ?_ _ | refine bD_ ?_ | refine bA_ ?_ _)); exact BK141.out⟩, ⟨by repeat (first | (with_reducible first | exact HB.out | apply lA_ | apply lN_ | apply l1_ | refine below_set ?_ GE140.out | refine below_set ?_ GE141.out) | exact HB.out)⟩⟩
    ·rw [if_neg c18] at H
     have c18b0 : decide (x6_1 < (l0_9.length : Int)) = false := decide_eq_false c18
     clear c18
     (first | rw [c18b0] | (simp only [i64_w, i32_w]; rw [c18b0]) | skip)
     have H' := Aside0.mk H
     clear H
     have hnb22 := NB140_141.out
     have hnc22 := NB141_140.out
     have hcz23_0 : wr.cell? ⟨gb140, 0, none⟩ = some (.int .u64 a0_0) := (bc1_ BK140.out 0).trans rfl
     have hcz23_1 : wr.cell? ⟨gb140, 1, none⟩ = some (.int .u64 a0_1) := (bc1_ BK140.out 1).trans rfl
     have hcz23_2 : wr.cell? ⟨gb140, 2, none⟩ = some (.int .u64 a0_2) := (bc1_ BK140.out 2).trans rfl
     have hcz23_3 : wr.cell? ⟨gb140, 3, none⟩ = some (.string a0_3) := (bc1_ BK140.out 3).trans rfl
     have hcz23_4 : wr.cell? ⟨gb140, 4, none⟩ = some (.string a0_4) := (bc1_ BK140.out 4).trans rfl
     have hcz23_5 : wr.cell? ⟨gb140, 5, none⟩ = some (.int .i64 a0_5) := (bc1_ BK140.out 5).trans rfl
     have hcz23_6 : wr.cell? ⟨gb140, 6, none⟩ = some (.int .i64 a0_6) := (bc1_ BK140.out 6).trans rfl
     have hcz23_7 : wr.cell? ⟨gb140, 7, none⟩ = some (.int .u64 a0_7) := (bc1_ BK140.out 7).trans rfl
     have hcz23_8 : wr.cell? ⟨gb140, 8, none⟩ = some (.int .u64 a0_8) := (bc1_ BK140.out 8).trans rfl
     have hcz23_9 : wr.cell? ⟨gb140, 9, none⟩ = some (.slice A0_9 l0_9.length c0_9) := (bc1_ BK140.out 9).trans rfl
     have hfz23_0 := bf1_ BK140.out 0
     have hfz23_1 := bf1_ BK140.out 1
     have hfz23_2 := bf1_ BK140.out 2
     have hfz23_3 := bf1_ BK140.out 3
     have hfz23_4 := bf1_ BK140.out 4
     have hfz23_5 := bf1_ BK140.out 5
     have hfz23_6 := bf1_ BK140.out 6
     have hfz23_7 := bf1_ BK140.out 7
     have hfz23_8 := bf1_ BK140.out 8
     have hfz23_9 := bf1_ BK140.out 9
     go_wp2
     go_meet
     case rel => exact ⟨_, (false), (by first | rfl | (simp; done) | (simp [*]; done)), H', ⟨by have := HK1.out; first | omega | exact Nat.le_refl _⟩, ⟨by (with_reducible repeat (first | apply rA_ | apply rN_ | apply rD_)); exact HO_5.out⟩, ⟨by (with_reducible repeat (first | refine bN_ ?_ _ | refine bD_ ?_ | refine bA_ ?_ _)); exact BK140.out⟩, ⟨by (with_reducible repeat (first | refine bN_ ?_ _ | refine bD_ ?_ | refine bA_ ?_ _)); exact BK141.out⟩, ⟨by repeat (first | (with_reducible first | exact HB.out | apply lA_ | apply lN_ | apply l1_ | refine below_set ?_ GE140.out | refine below_set ?_ GE141.out) | exact HB.out)⟩⟩
   case rest =>
    clear HC17
    try clear c1
    try clear c2
    try clear p2
    try clear c5
    try clear c18
    try clear c18b0
    try clear c19
    try clear c22
    try clear hcz20_0
    try clear hcz20_1
    try clear hcz20_2
    try clear hcz20_3
    try clear hcz20_4
    try clear hcz20_5
    try clear hcz20_6
    try clear hcz20_7
    try clear hcz20_8
    try clear hcz20_9
    try clear hcz21_0
    try clear hcz21_1
    try clear hcz21_2
    try clear hcz21_3
    try clear hcz21_4
    try clear hcz21_5
    try clear hcz21_6
    try clear hcz21_7
    try clear hcz21_8
    try clear hcz21_9
    try clear hcz23_0
    try clear hcz23_1
    try clear hcz23_2
    try clear hcz23_3
    try clear hcz23_4
    try clear hcz23_5
    try clear hcz23_6
    try clear hcz23_7
    try clear hcz23_8
    try clear hcz23_9
    try clear hfz20_0
    try clear hfz20_1
    try clear hfz20_2
    try clear hfz20_3
    try clear hfz20_4
    try clear hfz20_5
    try clear hfz20_6
    try clear hfz20_7
    try clear hfz20_8
    try clear hfz20_9
    try clear hfz21_0
    try clear hfz21_1
    try clear hfz21_2
    try clear hfz21_3
    try clear hfz21_4
    try clear hfz21_5
    try clear hfz21_6
    try clear hfz21_7
    try clear hfz21_8
    try clear hfz21_9
    try clear hfz23_0
    try clear hfz23_1
    try clear hfz23_2
    try clear hfz23_3
    try clear hfz23_4
    try clear hfz23_5
    try clear hfz23_6
    try clear hfz23_7
    try clear hfz23_8
    try clear hfz23_9
    try clear p2
    obtain ⟨kq, x121_16, rfl, HA, HJ16, HO_5, BK140, BK141, HB⟩ := hcut
    cases kq with
    | zero => exact absurd HA.out (by simp [tallyroomref06_Compare.j1])
    | succ kj16 =>
     have H := HA.out
     clear HA
     simp only [tallyroomref06_Compare.j1] at H
     by_cases c24 : x121_16 = true
     ·subst c24
      have H1 : (if 0 ≤ x6_1 then (if x6_1 < (l0_9.length : Int) then (if x6_1 < (l1_9.length : Int) then ((tallyroomref06_order.f (Op.bytesLess (((rd_T63 l0_9 x6_1).f0).toList) (((rd_T63 l1_9 x6_1).f0).toList)) (((rd_T63 l0_9 x6_1).f0).toList == ((rd_T63 l1_9 x6_1).f0).toList)).bind fun t158 => ((tallyroomref04_Compare.f kj16 ((rd_T63 l0_9 x6_1).f1.f0) ((rd_T63 l0_9 x6_1).f1.f1) ((rd_T63 l0_9 x6_1).f1.f2) ((rd_T63 l1_9 x6_1).f1.f0) ((rd_T63 l1_9 x6_1).f1.f1) ((rd_T63 l1_9 x6_1).f1.f2)).bind fun t159 => ((some (([t158, t159] : List Int) : List Int)).bind fun y160 => (if x5_1.length + y160.length < 17592186044416 then (tallyroomref06_Compare.l0 kj16 (x5_1 ++ y160) (wrap64 (x6_1 + 1)) a0_0 a0_1 a0_2 a0_3 a0_4 a0_5 a0_6 a0_7 a0_8 l0_9 a1_0 a1_1 a1_2 a1_3 a1_4 a1_5 a1_6 a1_7 a1_8 l1_9) else (none))))) else (none)) else (none)) else (none)) = some r := by rw [if_pos rfl] at H; exact H
      clear H
      have H := H1
      clear H1
      by_cases c25 : 0 ≤ x6_1
      ·rw [if_pos c25] at H
       have c25b0 : decide (0 ≤ x6_1) = true := decide_eq_true c25
       clear c25
       by_cases c26 : x6_1 < (l0_9.length : Int)
       ·rw [if_pos c26] at H
        have c26b0 : decide (x6_1 < (l0_9.length : Int)) = true := decide_eq_true c26
        clear c26
        by_cases c27 : x6_1 < (l1_9.length : Int)
        ·rw [if_pos c27] at H
         have c27b0 : decide (x6_1 < (l1_9.length : Int)) = true := decide_eq_true c27
         clear c27
         replace H := Option.bind_eq_some_iff.mp H
         obtain ⟨t158, A280, H⟩ := H
         replace H : ((tallyroomref04_Compare.f kj16 ((rd_T63 l0_9 x6_1).f1.f0) ((rd_T63 l0_9 x6_1).f1.f1) ((rd_T63 l0_9 x6_1).f1.f2) ((rd_T63 l1_9 x6_1).f1.f0) ((rd_T63 l1_9 x6_1).f1.f1) ((rd_T63 l1_9 x6_1).f1.f2)).bind fun t159 => ((some (([t158, t159] : List Int) : List Int)).bind fun y160 => (if x5_1.length + y160.length < 17592186044416 then (tallyroomref06_Compare.l0 kj16 (x5_1 ++ y160) (wrap64 (x6_1 + 1)) a0_0 a0_1 a0_2 a0_3 a0_4 a0_5 a0_6 a0_7 a0_8 l0_9 a1_0 a1_1 a1_2 a1_3 a1_4 a1_5 a1_6 a1_7 a1_8 l1_9) else (none)))) = some r := H
         have A28 := Aside0.mk A280
         clear A280
         replace H := Option.bind_eq_some_iff.mp H
         obtain ⟨t159, A290, H⟩ := H
         replace H : ((some (([t158, t159] : List Int) : List Int)).bind fun y160 => (if x5_1.length + y160.length < 17592186044416 then (tallyroomref06_Compare.l0 kj16 (x5_1 ++ y160) (wrap64 (x6_1 + 1)) a0_0 a0_1 a0_2 a0_3 a0_4 a0_5 a0_6 a0_7 a0_8 l0_9 a1_0 a1_1 a1_2 a1_3 a1_4 a1_5 a1_6 a1_7 a1_8 l1_9) else (none))) = some r := H
         have A29 := Aside0.mk A290
         clear A290
         obtain ⟨y160, hy160⟩ : ∃ y_ : List Int, y_ = (([t158, t159] : List Int)) := ⟨_, rfl⟩
         replace H : (if x5_1.length + y160.length < 17592186044416 then (tallyroomref06_Compare.l0 kj16 (x5_1 ++ y160) (wrap64 (x6_1 + 1)) a0_0 a0_1 a0_2 a0_3 a0_4 a0_5 a0_6 a0_7 a0_8 l0_9 a1_0 a1_1 a1_2 a1_3 a1_4 a1_5 a1_6 a1_7 a1_8 l1_9) else (none)) = some r := by first | (rw [hy160]; with_reducible exact H) | (have H2_ := (Option.bind_some _ _).symm.trans H; rw [hy160]; with_reducible exact H2_) | (have H2_ := (Option.bind_some _ _).symm.trans H; with_reducible exact H2_) | with_reducible exact H | (rw [hy160]; exact H) | exact H
         have Ny160 := Aside0.mk hy160
         clear hy160
         by_cases c30 : x5_1.length + y160.length < 17592186044416
         ·rw [if_pos c30] at H
          have LMc30 := Aside0.mk c30
          clear c30
          obtain ⟨y163, hy163⟩ : ∃ y_ : List Int, y_ = (x5_1 ++ y160) := ⟨_, rfl⟩
          replace H : (tallyroomref06_Compare.l0 kj16 y163 (wrap64 (x6_1 + 1)) a0_0 a0_1 a0_2 a0_3 a0_4 a0_5 a0_6 a0_7 a0_8 l0_9 a1_0 a1_1 a1_2 a1_3 a1_4 a1_5 a1_6 a1_7 a1_8 l1_9) = some r := by first | (rw [hy163]; with_reducible exact H) | (have H2_ := (Option.bind_some _ _).symm.trans H; rw [hy163]; with_reducible exact H2_) | (have H2_ := (Option.bind_some _ _).symm.trans H; with_reducible exact H2_) | with_reducible exact H | (rw [hy163]; exact H) | exact H
          have Ny163 := Aside0.mk hy163
          clear hy163
          have H' := Aside0.mk H
          clear H
          try go_wp2
          have n0_ := Aside0.mk (rD_ HO_5.out)
          have n1_ := Aside0.mk (bD_ BK140.out)
          have n2_ := Aside0.mk (bD_ BK141.out)
          have n3_ := Aside0.mk (l1_ HB.out)
          clear HO_5
          clear BK140
          clear BK141
          clear HB
          have HO_5 := n0_
          have BK140 := n1_
          have BK141 := n2_
          have HB := n3_
          clear n0_ n1_ n2_ n3_
          have p154 : 0 ≤ (x6_1 : Int) := of_decide_eq_true (by first | (with_reducible assumption) | assumption)
          have q154 : x6_1 < (l0_9.length : Int) := of_decide_eq_true (by first | (with_reducible assumption) | assumption)
          obtain ⟨ad154, e154, hx154_0, hx154_1, hx154_2, hx154_3⟩ := at_T63 HR0_9.out x6_1 p154 q154
          have hw154_3 := hx154_3
          have hw154_2 := hx154_2
          have hw154_1 := hx154_1
          have hw154_0 := hx154_0
          cases e154
          replace hx154_0 := bc_ HB.out hx154_0
          replace hx154_1 := bc_ HB.out hx154_1
          replace hx154_2 := bc_ HB.out hx154_2
          replace hx154_3 := bc_ HB.out hx154_3
          replace p154 := eq_true p154
          replace q154 := eq_true q154
          have p155 : 0 ≤ (x6_1 : Int) := of_decide_eq_true (by first | (with_reducible assumption) | assumption)
          have q155 : x6_1 < (l1_9.length : Int) := of_decide_eq_true (by first | (with_reducible assumption) | assumption)
          obtain ⟨ad155, e155, hx155_0, hx155_1, hx155_2, hx155_3⟩ := at_T63 HR1_9.out x6_1 p155 q155
          have hw155_3 := hx155_3
          have hw155_2 := hx155_2
          have hw155_1 := hx155_1
          have hw155_0 := hx155_0
          cases e155
          replace hx155_0 := bc_ HB.out hx155_0
          replace hx155_1 := bc_ HB.out hx155_1
          replace hx155_2 := bc_ HB.out hx155_2
          replace hx155_3 := bc_ HB.out hx155_3
          replace p155 := eq_true p155
          replace q155 := eq_true q155
          refine start_ (n := 14) (S := fun w' => w'.cell? ⟨gb140, 0, none⟩ = some (.int .u64 a0_0) ∧ w'.cell? ⟨gb140, 1, none⟩ = some (.int .u64 a0_1) ∧ w'.cell? ⟨gb140, 2, none⟩ = some (.int .u64 a0_2) ∧ w'.cell? ⟨gb140, 3, none⟩ = some (.string a0_3) ∧ w'.cell? ⟨gb140, 4, none⟩ = some (.string a0_4) ∧ w'.cell? ⟨gb140, 5, none⟩ = some (.int .i64 a0_5) ∧ w'.cell? ⟨gb140, 6, none⟩ = some (.int .i64 a0_6) ∧ w'.cell? ⟨gb140, 7, none⟩ = some (.int .u64 a0_7) ∧ w'.cell? ⟨gb140, 8, none⟩ = some (.int .u64 a0_8) ∧ w'.cell? ⟨gb140, 9, none⟩ = some (.slice (some ad154) l0_9.length c0_9) ∧ w'.cell? ⟨gb141, 0, none⟩ = some (.int .u64 a1_0) ∧ w'.cell? ⟨gb141, 1, none⟩ = some (.int .u64 a1_1) ∧ w'.cell? ⟨gb141, 2, none⟩ = some (.int .u64 a1_2) ∧ w'.cell? ⟨gb141, 3, none⟩ = some (.string a1_3) ∧ w'.cell? ⟨gb141, 4, none⟩ = some (.string a1_4) ∧ w'.cell? ⟨gb141, 5, none⟩ = some (.int .i64 a1_5) ∧ w'.cell? ⟨gb141, 6, none⟩ = some (.int .i64 a1_6) ∧ w'.cell? ⟨gb141, 7, none⟩ = some (.int .u64 a1_7) ∧ w'.cell? ⟨gb141, 8, none⟩ = some (.int .u64 a1_8) ∧ w'.cell? ⟨gb141, 9, none⟩ = some (.slice (some ad155) l1_9.length c1_9) ∧ w'.cell? (ad154.add ((x6_1).toNat * 4)) = some (.string ((rd_T63 l0_9 x6_1).f0)) ∧ w'.cell? ⟨(ad154.add ((x6_1).toNat * 4)).block, (ad154.add ((x6_1).toNat * 4)).off + 1, none⟩ = some (.int .i64 ((rd_T63 l0_9 x6_1).f1.f0)) ∧ w'.cell? ⟨(ad154.add ((x6_1).toNat * 4)).block, (ad154.add ((x6_1).toNat * 4)).off + 2, none⟩ = some (.int .i64 ((rd_T63 l0_9 x6_1).f1.f1)) ∧ w'.cell? ⟨(ad154.add ((x6_1).toNat * 4)).block, (ad154.add ((x6_1).toNat * 4)).off + 3, none⟩ = some (.string ((rd_T63 l0_9 x6_1).f1.f2)) ∧ w'.cell? (ad155.add ((x6_1).toNat * 4)) = some (.string ((rd_T63 l1_9 x6_1).f0)) ∧ w'.cell? ⟨(ad155.add ((x6_1).toNat * 4)).block, (ad155.add ((x6_1).toNat * 4)).off + 1, none⟩ = some (.int .i64 ((rd_T63 l1_9 x6_1).f1.f0)) ∧ w'.cell? ⟨(ad155.add ((x6_1).toNat * 4)).block, (ad155.add ((x6_1).toNat * 4)).off + 2, none⟩ = some (.int .i64 ((rd_T63 l1_9 x6_1).f1.f1)) ∧ w'.cell? ⟨(ad155.add ((x6_1).toNat * 4)).block, (ad155.add ((x6_1).toNat * 4)).off + 3, none⟩ = some (.string ((rd_T63 l1_9 x6_1).f1.f2))) (ds := []) #[false, false, false, false, false, false, false, false, false, false, false, false, false, false] (by kernel_rfl) rfl rfl ⟨(bc1_ BK140.out 0).trans rfl, (bc1_ BK140.out 1).trans rfl, (bc1_ BK140.out 2).trans rfl, (bc1_ BK140.out 3).trans rfl, (bc1_ BK140.out 4).trans rfl, (bc1_ BK140.out 5).trans rfl, (bc1_ BK140.out 6).trans rfl, (bc1_ BK140.out 7).trans rfl, (bc1_ BK140.out 8).trans rfl, (bc1_ BK140.out 9).trans rfl, (bc1_ BK141.out 0).trans rfl, (bc1_ BK141.out 1).trans rfl, (bc1_ BK141.out 2).trans rfl, (bc1_ BK141.out 3).trans rfl, (bc1_ BK141.out 4).trans rfl, (bc1_ BK141.out 5).trans rfl, (bc1_ BK141.out 6).trans rfl, (bc1_ BK141.out 7).trans rfl, (bc1_ BK141.out 8).trans rfl, (bc1_ BK141.out 9).trans rfl, (bc_ HB.out hw154_0), (bc_ HB.out hw154_1), (bc_ HB.out hw154_2), (bc_ HB.out hw154_3), (bc_ HB.out hw155_0), (bc_ HB.out hw155_1), (bc_ HB.out hw155_2), (bc_ HB.out hw155_3)⟩ (fun hHeld => ?_); refine with_tabW tallyroomref06_Compare.tab5 tallyroomref06_Compare.bits5 (fun HT_ HW_ => ?_)
          generalize wc.drew = w31 at HO_5 BK140 BK141 HB hx154_0 hx154_1 hx154_2 hx154_3 hx155_0 hx155_1 hx155_2 hx155_3 hHeld ⊢
          refine pure_ (i := 0) (N := some 124) (v := ?_) (a' := ?_) (bl_ 14 1) rfl rfl (any_of HT_.out (by kernel_rfl)) (fun _ _ _ h => h) (Or.inl ⟨by rfl, ?_⟩) ?_ ?_
          rotate_left
          ·intro w'
           go_simp
           with_reducible rfl
          rotate_left
          ·simp only [Act.put, sb_, sz_, ss_, i64_w, i32_w]
           rfl
          refine pure_ (i := 2) (N := some 126) (v := ?_) (a' := ?_) (bl_ 14 5) rfl rfl (any_of HT_.out (by kernel_rfl)) (fun _ _ _ h => h) (Or.inl ⟨by rfl, ?_⟩) ?_ ?_
          rotate_left
          ·intro w'
           go_simp
           with_reducible rfl
          rotate_left
          ·simp only [Act.put, sb_, sz_, ss_, i64_w, i32_w]
           rfl
          refine pure_ (i := 5) (N := some 129) (v := ?_) (a' := ?_) (bl_ 14 37) rfl rfl (any_of HT_.out (by kernel_rfl)) (fun _ _ _ h => h) (Or.inl ⟨by rfl, ?_⟩) ?_ ?_
          rotate_left
          ·intro w'
           go_simp
           with_reducible rfl
          rotate_left
          ·simp only [Act.put, sb_, sz_, ss_, i64_w, i32_w]
           rfl
          refine pure_ (i := 7) (N := some 131) (v := ?_) (a' := ?_) (bl_ 14 165) rfl rfl (any_of HT_.out (by kernel_rfl)) (fun _ _ _ h => h) (Or.inl ⟨by rfl, ?_⟩) ?_ ?_
          rotate_left
          ·intro w'
           go_simp
           with_reducible rfl
          rotate_left
          ·simp only [Act.put, sb_, sz_, ss_, i64_w, i32_w]
           rfl
          refine take_ (i := 1) (N := some 125) (v := ?_) (a' := ?_) (bl_ 14 167) rfl rfl (take_ofW HT_.out HW_.out (by kernel_rfl)) (fun _ _ _ h => h) (Or.inl ⟨by rfl, ?_⟩) hHeld ?_ ?_
          rotate_left
          ·rintro w' ⟨s0, s1, s2, s3, s4, s5, s6, s7, s8, s9, s10, s11, s12, s13, s14, s15, s16, s17, s18, s19, s20, s21, s22, s23, s24, s25, s26, s27⟩
           go_simp
           with_reducible rfl
          rotate_left
          ·simp only [Act.put, sb_, sz_, ss_, i64_w, i32_w]
           rfl
          refine pure_ (i := 3) (N := some 127) (v := ?_) (a' := ?_) (bl_ 14 175) rfl rfl (any_of HT_.out (by kernel_rfl)) (fun _ _ _ h => h) (Or.inl ⟨by rfl, ?_⟩) ?_ ?_
          rotate_left
          ·intro w'
           go_simp
           with_reducible rfl
          rotate_left
          ·simp only [Act.put, sb_, sz_, ss_, i64_w, i32_w]
           rfl
          refine take_ (i := 4) (N := some 128) (v := ?_) (a' := ?_) (bl_ 14 191) rfl rfl (take_ofW HT_.out HW_.out (by kernel_rfl)) (fun _ _ _ h => h) (Or.inl ⟨by rfl, ?_⟩) hHeld ?_ ?_
          rotate_left
          ·rintro w' ⟨s0, s1, s2, s3, s4, s5, s6, s7, s8, s9, s10, s11, s12, s13, s14, s15, s16, s17, s18, s19, s20, s21, s22, s23, s24, s25, s26, s27⟩
           go_simp
           with_reducible rfl
          rotate_left
          ·simp only [Act.put, sb_, sz_, ss_, i64_w, i32_w]
           rfl
          refine take_ (i := 6) (N := some 130) (v := ?_) (a' := ?_) (bl_ 14 255) rfl rfl (take_ofW HT_.out HW_.out (by kernel_rfl)) (fun _ _ _ h => h) (Or.inl ⟨by rfl, ?_⟩) hHeld ?_ ?_
          rotate_left
          ·rintro w' ⟨s0, s1, s2, s3, s4, s5, s6, s7, s8, s9, s10, s11, s12, s13, s14, s15, s16, s17, s18, s19, s20, s21, s22, s23, s24, s25, s26, s27⟩
           go_simp
           with_reducible rfl
          rotate_left
          ·simp only [Act.put, sb_, sz_, ss_, i64_w, i32_w]
           rfl
          refine pure_ (i := 8) (N := some 132) (v := ?_) (a' := ?_) (bl_ 14 511) rfl rfl (any_of HT_.out (by kernel_rfl)) (fun _ _ _ h => h) (Or.inl ⟨by rfl, ?_⟩) ?_ ?_
          rotate_left
          ·intro w'
           go_simp
           with_reducible rfl
          rotate_left
          ·simp only [Act.put, sb_, sz_, ss_, i64_w, i32_w]
           rfl
          refine take_ (i := 9) (N := some 133) (v := ?_) (a' := ?_) (bl_ 14 1023) rfl rfl (take_ofW HT_.out HW_.out (by kernel_rfl)) (fun _ _ _ h => h) (Or.inl ⟨by rfl, ?_⟩) hHeld ?_ ?_
          rotate_left
          ·rintro w' ⟨s0, s1, s2, s3, s4, s5, s6, s7, s8, s9, s10, s11, s12, s13, s14, s15, s16, s17, s18, s19, s20, s21, s22, s23, s24, s25, s26, s27⟩
           go_simp
           with_reducible rfl
          rotate_left
          ·simp only [Act.put, sb_, sz_, ss_, i64_w, i32_w]
           rfl
          refine join_ (σ := Nat × Nat) 2 (bl_ 14 4095) (fun s_ => [(7, .pointer (some ⟨s_.1, 0, none⟩)), (8, .pointer (some ⟨s_.2, 0, none⟩))]) (fun s_ w' => (w'.cell? ⟨gb140, 0, none⟩ = some (.int .u64 a0_0) ∧ w'.cell? ⟨gb140, 1, none⟩ = some (.int .u64 a0_1) ∧ w'.cell? ⟨gb140, 2, none⟩ = some (.int .u64 a0_2) ∧ w'.cell? ⟨gb140, 3, none⟩ = some (.string a0_3) ∧ w'.cell? ⟨gb140, 4, none⟩ = some (.string a0_4) ∧ w'.cell? ⟨gb140, 5, none⟩ = some (.int .i64 a0_5) ∧ w'.cell? ⟨gb140, 6, none⟩ = some (.int .i64 a0_6) ∧ w'.cell? ⟨gb140, 7, none⟩ = some (.int .u64 a0_7) ∧ w'.cell? ⟨gb140, 8, none⟩ = some (.int .u64 a0_8) ∧ w'.cell? ⟨gb140, 9, none⟩ = some (.slice (some ad154) l0_9.length c0_9) ∧ w'.cell? ⟨gb141, 0, none⟩ = some (.int .u64 a1_0) ∧ w'.cell? ⟨gb141, 1, none⟩ = some (.int .u64 a1_1) ∧ w'.cell? ⟨gb141, 2, none⟩ = some (.int .u64 a1_2) ∧ w'.cell? ⟨gb141, 3, none⟩ = some (.string a1_3) ∧ w'.cell? ⟨gb141, 4, none⟩ = some (.string a1_4) ∧ w'.cell? ⟨gb141, 5, none⟩ = some (.int .i64 a1_5) ∧ w'.cell? ⟨gb141, 6, none⟩ = some (.int .i64 a1_6) ∧ w'.cell? ⟨gb141, 7, none⟩ = some (.int .u64 a1_7) ∧ w'.cell? ⟨gb141, 8, none⟩ = some (.int .u64 a1_8) ∧ w'.cell? ⟨gb141, 9, none⟩ = some (.slice (some ad155) l1_9.length c1_9) ∧ w'.cell? (ad154.add ((x6_1).toNat * 4)) = some (.string ((rd_T63 l0_9 x6_1).f0)) ∧ w'.cell? ⟨(ad154.add ((x6_1).toNat * 4)).block, (ad154.add ((x6_1).toNat * 4)).off + 1, none⟩ = some (.int .i64 ((rd_T63 l0_9 x6_1).f1.f0)) ∧ w'.cell? ⟨(ad154.add ((x6_1).toNat * 4)).block, (ad154.add ((x6_1).toNat * 4)).off + 2, none⟩ = some (.int .i64 ((rd_T63 l0_9 x6_1).f1.f1)) ∧ w'.cell? ⟨(ad154.add ((x6_1).toNat * 4)).block, (ad154.add ((x6_1).toNat * 4)).off + 3, none⟩ = some (.string ((rd_T63 l0_9 x6_1).f1.f2)) ∧ w'.cell? (ad155.add ((x6_1).toNat * 4)) = some (.string ((rd_T63 l1_9 x6_1).f0)) ∧ w'.cell? ⟨(ad155.add ((x6_1).toNat * 4)).block, (ad155.add ((x6_1).toNat * 4)).off + 1, none⟩ = some (.int .i64 ((rd_T63 l1_9 x6_1).f1.f0)) ∧ w'.cell? ⟨(ad155.add ((x6_1).toNat * 4)).block, (ad155.add ((x6_1).toNat * 4)).off + 2, none⟩ = some (.int .i64 ((rd_T63 l1_9 x6_1).f1.f1)) ∧ w'.cell? ⟨(ad155.add ((x6_1).toNat * 4)).block, (ad155.add ((x6_1).toNat * 4)).off + 3, none⟩ = some (.string ((rd_T63 l1_9 x6_1).f1.f2))) ∧ (Kd.R (Kd.int .i64) 3 w' w.heap.size (fun _ => True) u5 x5_1) ∧ (w'.heap[gb140]? = some (.cells #[.int .u64 a0_0, .int .u64 a0_1, .int .u64 a0_2, .string a0_3, .string a0_4, .int .i64 a0_5, .int .i64 a0_6, .int .u64 a0_7, .int .u64 a0_8, .slice (some ad154) l0_9.length c0_9] 37 (0, 0))) ∧ (w'.heap[gb141]? = some (.cells #[.int .u64 a1_0, .int .u64 a1_1, .int .u64 a1_2, .string a1_3, .string a1_4, .int .i64 a1_5, .int .i64 a1_6, .int .u64 a1_7, .int .u64 a1_8, .slice (some ad155) l1_9.length c1_9] 37 (0, 0))) ∧ (w'.heap[s_.1]? = some (.cells #[.string (⟨#[]⟩ : ByteArray), .int .i64 0, .int .i64 0, .string (⟨#[]⟩ : ByteArray)] 63 (0, 0))) ∧ (w'.heap[s_.2]? = some (.cells #[.string (⟨#[]⟩ : ByteArray), .int .i64 0, .int .i64 0, .string (⟨#[]⟩ : ByteArray)] 63 (0, 0))) ∧ (w.heap.size ≤ s_.1) ∧ (w.heap.size ≤ s_.1) ∧ (gb140 ≠ s_.1) ∧ (s_.1 ≠ gb140) ∧ (gb141 ≠ s_.1) ∧ (s_.1 ≠ gb141) ∧ (s_.2 ≠ s_.1) ∧ (s_.1 ≠ s_.2) ∧ (w.heap.size ≤ s_.2) ∧ (w.heap.size ≤ s_.2) ∧ (gb140 ≠ s_.2) ∧ (s_.2 ≠ gb140) ∧ (gb141 ≠ s_.2) ∧ (s_.2 ≠ gb141) ∧ (Below w.heap.size w w')) ?_ ?_
          rotate_left
          ·intro hCont
           refine two_ (i := 10) (j := 11) (Ni := some 7) (Nj := some 8) (bl_ 14 2047) (bl_ 14 3071) rfl rfl rfl rfl (two_of HT_.out (by kernel_rfl)) (by decide) (by decide) (fun K hK => ?_) (fun K hK => ?_)
           ·skip
            refine box_step ?hg (N := 7) ?hd (cs := #[.string (⟨#[]⟩ : ByteArray), .int .i64 0, .int .i64 0, .string (⟨#[]⟩ : ByteArray)]) (t := 63) ?hr ?_; (case hd => rfl); (case hg => rfl); (case hr => first | (go_simp; done) | (go_simp; rfl))
            intro gb156 hg w32 hbox hb
            have n0_ := Aside0.mk (Kd.R_below (by (with_reducible repeat (first | apply rA_ | apply rN_ | apply rD_)); exact HO_5.out) hb)
            have n1_ := Aside0.mk (bb_ (g := gb140) (o := .cells #[.int .u64 a0_0, .int .u64 a0_1, .int .u64 a0_2, .string a0_3, .string a0_4, .int .i64 a0_5, .int .i64 a0_6, .int .u64 a0_7, .int .u64 a0_8, .slice (some ad154) l0_9.length c0_9] 37 (0, 0)) (by (with_reducible repeat (first | refine bN_ ?_ _ | refine bD_ ?_ | refine bA_ ?_ _)); exact BK140.out) hb)
            have n2_ := Aside0.mk (bb_ (g := gb141) (o := .cells #[.int .u64 a1_0, .int .u64 a1_1, .int .u64 a1_2, .string a1_3, .string a1_4, .int .i64 a1_5, .int .i64 a1_6, .int .u64 a1_7, .int .u64 a1_8, .slice (some ad155) l1_9.length c1_9] 37 (0, 0)) (by (with_reducible repeat (first | refine bN_ ?_ _ | refine bD_ ?_ | refine bA_ ?_ _)); exact BK141.out) hb)
            have n3_ := Aside0.mk (ls_ (by repeat (first | (with_reducible first | exact HB.out | apply lA_ | apply lN_ | apply l1_ | refine below_set ?_ GE140.out | refine below_set ?_ GE141.out) | exact HB.out)) hb)
            have n4_ := Aside0.mk (hbox)
            have n5_ := Aside0.mk ((by rw [hg]; exact (bz_ (by repeat (first | (with_reducible first | exact HB.out | apply lA_ | apply lN_ | apply l1_ | refine below_set ?_ GE140.out | refine below_set ?_ GE141.out) | exact HB.out))) : w.heap.size ≤ gb156))
            have n6_ := Aside0.mk ((by rw [hg]; exact (bz_ (by repeat (first | (with_reducible first | exact HB.out | apply lA_ | apply lN_ | apply l1_ | refine below_set ?_ GE140.out | refine below_set ?_ GE141.out) | exact HB.out))) : w.heap.size ≤ gb156))
            have n7_ := Aside0.mk ((by rw [hg]; exact Nat.ne_of_lt (blk_lt (g := gb140) (o := .cells #[.int .u64 a0_0, .int .u64 a0_1, .int .u64 a0_2, .string a0_3, .string a0_4, .int .i64 a0_5, .int .i64 a0_6, .int .u64 a0_7, .int .u64 a0_8, .slice (some ad154) l0_9.length c0_9] 37 (0, 0)) (by (with_reducible repeat (first | refine bN_ ?_ _ | refine bD_ ?_ | refine bA_ ?_ _)); exact BK140.out)) : gb140 ≠ gb156))
            have n8_ := Aside0.mk ((by rw [hg]; exact Nat.ne_of_gt (blk_lt (g := gb140) (o := .cells #[.int .u64 a0_0, .int .u64 a0_1, .int .u64 a0_2, .string a0_3, .string a0_4, .int .i64 a0_5, .int .i64 a0_6, .int .u64 a0_7, .int .u64 a0_8, .slice (some ad154) l0_9.length c0_9] 37 (0, 0)) (by (with_reducible repeat (first | refine bN_ ?_ _ | refine bD_ ?_ | refine bA_ ?_ _)); exact BK140.out)) : gb156 ≠ gb140))
            have n9_ := Aside0.mk ((by rw [hg]; exact Nat.ne_of_lt (blk_lt (g := gb141) (o := .cells #[.int .u64 a1_0, .int .u64 a1_1, .int .u64 a1_2, .string a1_3, .string a1_4, .int .i64 a1_5, .int .i64 a1_6, .int .u64 a1_7, .int .u64 a1_8, .slice (some ad155) l1_9.length c1_9] 37 (0, 0)) (by (with_reducible repeat (first | refine bN_ ?_ _ | refine bD_ ?_ | refine bA_ ?_ _)); exact BK141.out)) : gb141 ≠ gb156))
            have n10_ := Aside0.mk ((by rw [hg]; exact Nat.ne_of_gt (blk_lt (g := gb141) (o := .cells #[.int .u64 a1_0, .int .u64 a1_1, .int .u64 a1_2, .string a1_3, .string a1_4, .int .i64 a1_5, .int .i64 a1_6, .int .u64 a1_7, .int .u64 a1_8, .slice (some ad155) l1_9.length c1_9] 37 (0, 0)) (by (with_reducible repeat (first | refine bN_ ?_ _ | refine bD_ ?_ | refine bA_ ?_ _)); exact BK141.out)) : gb156 ≠ gb141))
            clear HO_5
            clear BK140
            clear BK141
            clear HB
            have HO_5 := n0_
            have BK140 := n1_
            have BK141 := n2_
            have HB := n3_
            have BK156 := n4_
            have GW156 := n5_
            have GE156 := n6_
            have NB140_156 := n7_
            have NB156_140 := n8_
            have NB141_156 := n9_
            have NB156_141 := n10_
            clear n0_ n1_ n2_ n3_ n4_ n5_ n6_ n7_ n8_ n9_ n10_
            clear hb hbox hg
            refine hK.out _ _ ⟨(bc1_ BK140.out 0).trans rfl, (bc1_ BK140.out 1).trans rfl, (bc1_ BK140.out 2).trans rfl, (bc1_ BK140.out 3).trans rfl, (bc1_ BK140.out 4).trans rfl, (bc1_ BK140.out 5).trans rfl, (bc1_ BK140.out 6).trans rfl, (bc1_ BK140.out 7).trans rfl, (bc1_ BK140.out 8).trans rfl, (bc1_ BK140.out 9).trans rfl, (bc1_ BK141.out 0).trans rfl, (bc1_ BK141.out 1).trans rfl, (bc1_ BK141.out 2).trans rfl, (bc1_ BK141.out 3).trans rfl, (bc1_ BK141.out 4).trans rfl, (bc1_ BK141.out 5).trans rfl, (bc1_ BK141.out 6).trans rfl, (bc1_ BK141.out 7).trans rfl, (bc1_ BK141.out 8).trans rfl, (bc1_ BK141.out 9).trans rfl, (bc_ HB.out hw154_0), (bc_ HB.out hw154_1), (bc_ HB.out hw154_2), (bc_ HB.out hw154_3), (bc_ HB.out hw155_0), (bc_ HB.out hw155_1), (bc_ HB.out hw155_2), (bc_ HB.out hw155_3)⟩ (fun hHeld => ?_)
            clear hK K
            refine norm_ (a' := ?_) ?_ ?_
            rotate_left
            ·show Act.put _ (some 7) _ = _
             simp only [Act.put, sb_, sz_, ss_, i64_w, i32_w]
             rfl
            refine one_ (i := 11) (N := some 8) (bl_ 14 4095) rfl rfl (one_of HT_.out (by kernel_rfl)) (by decide) (fun K hK => ?_)
            refine box_step ?hg (N := 8) ?hd (cs := #[.string (⟨#[]⟩ : ByteArray), .int .i64 0, .int .i64 0, .string (⟨#[]⟩ : ByteArray)]) (t := 63) ?hr ?_; (case hd => rfl); (case hg => rfl); (case hr => first | (go_simp; done) | (go_simp; rfl))
            intro gb157 hg w33 hbox hb
            have n0_ := Aside0.mk (Kd.R_below (by (with_reducible repeat (first | apply rA_ | apply rN_ | apply rD_)); exact HO_5.out) hb)
            have n1_ := Aside0.mk (bb_ (g := gb140) (o := .cells #[.int .u64 a0_0, .int .u64 a0_1, .int .u64 a0_2, .string a0_3, .string a0_4, .int .i64 a0_5, .int .i64 a0_6, .int .u64 a0_7, .int .u64 a0_8, .slice (some ad154) l0_9.length c0_9] 37 (0, 0)) (by (with_reducible repeat (first | refine bN_ ?_ _ | refine bD_ ?_ | refine bA_ ?_ _)); exact BK140.out) hb)
            have n2_ := Aside0.mk (bb_ (g := gb141) (o := .cells #[.int .u64 a1_0, .int .u64 a1_1, .int .u64 a1_2, .string a1_3, .string a1_4, .int .i64 a1_5, .int .i64 a1_6, .int .u64 a1_7, .int .u64 a1_8, .slice (some ad155) l1_9.length c1_9] 37 (0, 0)) (by (with_reducible repeat (first | refine bN_ ?_ _ | refine bD_ ?_ | refine bA_ ?_ _)); exact BK141.out) hb)
            have n3_ := Aside0.mk (bb_ (g := gb156) (o := .cells #[.string (⟨#[]⟩ : ByteArray), .int .i64 0, .int .i64 0, .string (⟨#[]⟩ : ByteArray)] 63 (0, 0)) (by (with_reducible repeat (first | refine bN_ ?_ _ | refine bD_ ?_ | refine bA_ ?_ _)); exact BK156.out) hb)
            have n4_ := Aside0.mk (ls_ (by repeat (first | (with_reducible first | exact HB.out | apply lA_ | apply lN_ | apply l1_ | refine below_set ?_ GE140.out | refine below_set ?_ GE141.out | refine below_set ?_ GE156.out) | exact HB.out)) hb)
            have n5_ := Aside0.mk (hbox)
            have n6_ := Aside0.mk ((by rw [hg]; exact (bz_ (by repeat (first | (with_reducible first | exact HB.out | apply lA_ | apply lN_ | apply l1_ | refine below_set ?_ GE140.out | refine below_set ?_ GE141.out | refine below_set ?_ GE156.out) | exact HB.out))) : w.heap.size ≤ gb157))
            have n7_ := Aside0.mk ((by rw [hg]; exact (bz_ (by repeat (first | (with_reducible first | exact HB.out | apply lA_ | apply lN_ | apply l1_ | refine below_set ?_ GE140.out | refine below_set ?_ GE141.out | refine below_set ?_ GE156.out) | exact HB.out))) : w.heap.size ≤ gb157))
            have n8_ := Aside0.mk ((by rw [hg]; exact Nat.ne_of_lt (blk_lt (g := gb140) (o := .cells #[.int .u64 a0_0, .int .u64 a0_1, .int .u64 a0_2, .string a0_3, .string a0_4, .int .i64 a0_5, .int .i64 a0_6, .int .u64 a0_7, .int .u64 a0_8, .slice (some ad154) l0_9.length c0_9] 37 (0, 0)) (by (with_reducible repeat (first | refine bN_ ?_ _ | refine bD_ ?_ | refine bA_ ?_ _)); exact BK140.out)) : gb140 ≠ gb157))
            have n9_ := Aside0.mk ((by rw [hg]; exact Nat.ne_of_gt (blk_lt (g := gb140) (o := .cells #[.int .u64 a0_0, .int .u64 a0_1, .int .u64 a0_2, .string a0_3, .string a0_4, .int .i64 a0_5, .int .i64 a0_6, .int .u64 a0_7, .int .u64 a0_8, .slice (some ad154) l0_9.length c0_9] 37 (0, 0)) (by (with_reducible repeat (first | refine bN_ ?_ _ | refine bD_ ?_ | refine bA_ ?_ _)); exact BK140.out)) : gb157 ≠ gb140))
            have n10_ := Aside0.mk ((by rw [hg]; exact Nat.ne_of_lt (blk_lt (g := gb141) (o := .cells #[.int .u64 a1_0, .int .u64 a1_1, .int .u64 a1_2, .string a1_3, .string a1_4, .int .i64 a1_5, .int .i64 a1_6, .int .u64 a1_7, .int .u64 a1_8, .slice (some ad155) l1_9.length c1_9] 37 (0, 0)) (by (with_reducible repeat (first | refine bN_ ?_ _ | refine bD_ ?_ | refine bA_ ?_ _)); exact BK141.out)) : gb141 ≠ gb157))
            have n11_ := Aside0.mk ((by rw [hg]; exact Nat.ne_of_gt (blk_lt (g := gb141) (o := .cells #[.int .u64 a1_0, .int .u64 a1_1, .int .u64 a1_2, .string a1_3, .string a1_4, .int .i64 a1_5, .int .i64 a1_6, .int .u64 a1_7, .int .u64 a1_8, .slice (some ad155) l1_9.length c1_9] 37 (0, 0)) (by (with_reducible repeat (first | refine bN_ ?_ _ | refine bD_ ?_ | refine bA_ ?_ _)); exact BK141.out)) : gb157 ≠ gb141))
            have n12_ := Aside0.mk ((by rw [hg]; exact Nat.ne_of_lt (blk_lt (g := gb156) (o := .cells #[.string (⟨#[]⟩ : ByteArray), .int .i64 0, .int .i64 0, .string (⟨#[]⟩ : ByteArray)] 63 (0, 0)) (by (with_reducible repeat (first | refine bN_ ?_ _ | refine bD_ ?_ | refine bA_ ?_ _)); exact BK156.out)) : gb156 ≠ gb157))
            have n13_ := Aside0.mk ((by rw [hg]; exact Nat.ne_of_gt (blk_lt (g := gb156) (o := .cells #[.string (⟨#[]⟩ : ByteArray), .int .i64 0, .int .i64 0, .string (⟨#[]⟩ : ByteArray)] 63 (0, 0)) (by (with_reducible repeat (first | refine bN_ ?_ _ | refine bD_ ?_ | refine bA_ ?_ _)); exact BK156.out)) : gb157 ≠ gb156))
            clear HO_5
            clear BK140
            clear BK141
            clear BK156
            clear HB
            have HO_5 := n0_
            have BK140 := n1_
            have BK141 := n2_
            have BK156 := n3_
            have HB := n4_
            have BK157 := n5_
            have GW157 := n6_
            have GE157 := n7_
            have NB140_157 := n8_
            have NB157_140 := n9_
            have NB141_157 := n10_
            have NB157_141 := n11_
            have NB156_157 := n12_
            have NB157_156 := n13_
            clear n0_ n1_ n2_ n3_ n4_ n5_ n6_ n7_ n8_ n9_ n10_ n11_ n12_ n13_
            clear hb hbox hg
            refine hK.out _ _ ⟨(bc1_ BK140.out 0).trans rfl, (bc1_ BK140.out 1).trans rfl, (bc1_ BK140.out 2).trans rfl, (bc1_ BK140.out 3).trans rfl, (bc1_ BK140.out 4).trans rfl, (bc1_ BK140.out 5).trans rfl, (bc1_ BK140.out 6).trans rfl, (bc1_ BK140.out 7).trans rfl, (bc1_ BK140.out 8).trans rfl, (bc1_ BK140.out 9).trans rfl, (bc1_ BK141.out 0).trans rfl, (bc1_ BK141.out 1).trans rfl, (bc1_ BK141.out 2).trans rfl, (bc1_ BK141.out 3).trans rfl, (bc1_ BK141.out 4).trans rfl, (bc1_ BK141.out 5).trans rfl, (bc1_ BK141.out 6).trans rfl, (bc1_ BK141.out 7).trans rfl, (bc1_ BK141.out 8).trans rfl, (bc1_ BK141.out 9).trans rfl, (bc_ HB.out hw154_0), (bc_ HB.out hw154_1), (bc_ HB.out hw154_2), (bc_ HB.out hw154_3), (bc_ HB.out hw155_0), (bc_ HB.out hw155_1), (bc_ HB.out hw155_2), (bc_ HB.out hw155_3)⟩ (fun hHeld => ?_)
            clear hK K
            refine norm_ (a' := ?_) ?_ ?_
            rotate_left
            ·show Act.put _ (some 8) _ = _
             simp only [Act.put, sb_, sz_, ss_, i64_w, i32_w]
             rfl
            exact norm_ (by simp only [putAll, Act.put, sb_, sz_, ss_]) (hCont (gb156, gb157) _ ⟨hHeld, (by (with_reducible repeat (first | apply rA_ | apply rN_ | apply rD_)); exact HO_5.out), (by (with_reducible repeat (first | refine bN_ ?_ _ | refine bD_ ?_ | refine bA_ ?_ _)); exact BK140.out), (by (with_reducible repeat (first | refine bN_ ?_ _ | refine bD_ ?_ | refine bA_ ?_ _)); exact BK141.out), (by (with_reducible repeat (first | refine bN_ ?_ _ | refine bD_ ?_ | refine bA_ ?_ _)); exact BK156.out), (by (with_reducible repeat (first | refine bN_ ?_ _ | refine bD_ ?_ | refine bA_ ?_ _)); exact BK157.out), GW156.out, GE156.out, NB140_156.out, NB156_140.out, NB141_156.out, NB156_141.out, NB157_156.out, NB156_157.out, GW157.out, GE157.out, NB140_157.out, NB157_140.out, NB141_157.out, NB157_141.out, (by repeat (first | (with_reducible first | exact HB.out | apply lA_ | apply lN_ | apply l1_ | refine below_set ?_ GE140.out | refine below_set ?_ GE141.out | refine below_set ?_ GE156.out | refine below_set ?_ GE157.out) | exact HB.out))⟩)
           ·skip
            refine box_step ?hg (N := 8) ?hd (cs := #[.string (⟨#[]⟩ : ByteArray), .int .i64 0, .int .i64 0, .string (⟨#[]⟩ : ByteArray)]) (t := 63) ?hr ?_; (case hd => rfl); (case hg => rfl); (case hr => first | (go_simp; done) | (go_simp; rfl))
            intro gb157 hg w32 hbox hb
            have n0_ := Aside0.mk (Kd.R_below (by (with_reducible repeat (first | apply rA_ | apply rN_ | apply rD_)); exact HO_5.out) hb)
            have n1_ := Aside0.mk (bb_ (g := gb140) (o := .cells #[.int .u64 a0_0, .int .u64 a0_1, .int .u64 a0_2, .string a0_3, .string a0_4, .int .i64 a0_5, .int .i64 a0_6, .int .u64 a0_7, .int .u64 a0_8, .slice (some ad154) l0_9.length c0_9] 37 (0, 0)) (by (with_reducible repeat (first | refine bN_ ?_ _ | refine bD_ ?_ | refine bA_ ?_ _)); exact BK140.out) hb)
            have n2_ := Aside0.mk (bb_ (g := gb141) (o := .cells #[.int .u64 a1_0, .int .u64 a1_1, .int .u64 a1_2, .string a1_3, .string a1_4, .int .i64 a1_5, .int .i64 a1_6, .int .u64 a1_7, .int .u64 a1_8, .slice (some ad155) l1_9.length c1_9] 37 (0, 0)) (by (with_reducible repeat (first | refine bN_ ?_ _ | refine bD_ ?_ | refine bA_ ?_ _)); exact BK141.out) hb)
            have n3_ := Aside0.mk (ls_ (by repeat (first | (with_reducible first | exact HB.out | apply lA_ | apply lN_ | apply l1_ | refine below_set ?_ GE140.out | refine below_set ?_ GE141.out) | exact HB.out)) hb)
            have n4_ := Aside0.mk (hbox)
            have n5_ := Aside0.mk ((by rw [hg]; exact (bz_ (by repeat (first | (with_reducible first | exact HB.out | apply lA_ | apply lN_ | apply l1_ | refine below_set ?_ GE140.out | refine below_set ?_ GE141.out) | exact HB.out))) : w.heap.size ≤ gb157))
            have n6_ := Aside0.mk ((by rw [hg]; exact (bz_ (by repeat (first | (with_reducible first | exact HB.out | apply lA_ | apply lN_ | apply l1_ | refine below_set ?_ GE140.out | refine below_set ?_ GE141.out) | exact HB.out))) : w.heap.size ≤ gb157))
            have n7_ := Aside0.mk ((by rw [hg]; exact Nat.ne_of_lt (blk_lt (g := gb140) (o := .cells #[.int .u64 a0_0, .int .u64 a0_1, .int .u64 a0_2, .string a0_3, .string a0_4, .int .i64 a0_5, .int .i64 a0_6, .int .u64 a0_7, .int .u64 a0_8, .slice (some ad154) l0_9.length c0_9] 37 (0, 0)) (by (with_reducible repeat (first | refine bN_ ?_ _ | refine bD_ ?_ | refine bA_ ?_ _)); exact BK140.out)) : gb140 ≠ gb157))
            have n8_ := Aside0.mk ((by rw [hg]; exact Nat.ne_of_gt (blk_lt (g := gb140) (o := .cells #[.int .u64 a0_0, .int .u64 a0_1, .int .u64 a0_2, .string a0_3, .string a0_4, .int .i64 a0_5, .int .i64 a0_6, .int .u64 a0_7, .int .u64 a0_8, .slice (some ad154) l0_9.length c0_9] 37 (0, 0)) (by (with_reducible repeat (first | refine bN_ ?_ _ | refine bD_ ?_ | refine bA_ ?_ _)); exact BK140.out)) : gb157 ≠ gb140))
            have n9_ := Aside0.mk ((by rw [hg]; exact Nat.ne_of_lt (blk_lt (g := gb141) (o := .cells #[.int .u64 a1_0, .int .u64 a1_1, .int .u64 a1_2, .string a1_3, .string a1_4, .int .i64 a1_5, .int .i64 a1_6, .int .u64 a1_7, .int .u64 a1_8, .slice (some ad155) l1_9.length c1_9] 37 (0, 0)) (by (with_reducible repeat (first | refine bN_ ?_ _ | refine bD_ ?_ | refine bA_ ?_ _)); exact BK141.out)) : gb141 ≠ gb157))
            have n10_ := Aside0.mk ((by rw [hg]; exact Nat.ne_of_gt (blk_lt (g := gb141) (o := .cells #[.int .u64 a1_0, .int .u64 a1_1, .int .u64 a1_2, .string a1_3, .string a1_4, .int .i64 a1_5, .int .i64 a1_6, .int .u64 a1_7, .int .u64 a1_8, .slice (some ad155) l1_9.length c1_9] 37 (0, 0)) (by (with_reducible repeat (first | refine bN_ ?_ _ | refine bD_ ?_ | refine bA_ ?_ _)); exact BK141.out)) : gb157 ≠ gb141))
            clear HO_5
            clear BK140
            clear BK141
            clear HB
            have HO_5 := n0_
            have BK140 := n1_
            have BK141 := n2_
            have HB := n3_
            have BK157 := n4_
            have GW157 := n5_
            have GE157 := n6_
            have NB140_157 := n7_
            have NB157_140 := n8_
            have NB141_157 := n9_
            have NB157_141 := n10_
            clear n0_ n1_ n2_ n3_ n4_ n5_ n6_ n7_ n8_ n9_ n10_
            clear hb hbox hg
            refine hK.out _ _ ⟨(bc1_ BK140.out 0).trans rfl, (bc1_ BK140.out 1).trans rfl, (bc1_ BK140.out 2).trans rfl, (bc1_ BK140.out 3).trans rfl, (bc1_ BK140.out 4).trans rfl, (bc1_ BK140.out 5).trans rfl, (bc1_ BK140.out 6).trans rfl, (bc1_ BK140.out 7).trans rfl, (bc1_ BK140.out 8).trans rfl, (bc1_ BK140.out 9).trans rfl, (bc1_ BK141.out 0).trans rfl, (bc1_ BK141.out 1).trans rfl, (bc1_ BK141.out 2).trans rfl, (bc1_ BK141.out 3).trans rfl, (bc1_ BK141.out 4).trans rfl, (bc1_ BK141.out 5).trans rfl, (bc1_ BK141.out 6).trans rfl, (bc1_ BK141.out 7).trans rfl, (bc1_ BK141.out 8).trans rfl, (bc1_ BK141.out 9).trans rfl, (bc_ HB.out hw154_0), (bc_ HB.out hw154_1), (bc_ HB.out hw154_2), (bc_ HB.out hw154_3), (bc_ HB.out hw155_0), (bc_ HB.out hw155_1), (bc_ HB.out hw155_2), (bc_ HB.out hw155_3)⟩ (fun hHeld => ?_)
            clear hK K
            refine norm_ (a' := ?_) ?_ ?_
            rotate_left
            ·show Act.put _ (some 8) _ = _
             simp only [Act.put, sb_, sz_, ss_, i64_w, i32_w]
             rfl
            refine one_ (i := 10) (N := some 7) (bl_ 14 4095) rfl rfl (one_of HT_.out (by kernel_rfl)) (by decide) (fun K hK => ?_)
            refine box_step ?hg (N := 7) ?hd (cs := #[.string (⟨#[]⟩ : ByteArray), .int .i64 0, .int .i64 0, .string (⟨#[]⟩ : ByteArray)]) (t := 63) ?hr ?_; (case hd => rfl); (case hg => rfl); (case hr => first | (go_simp; done) | (go_simp; rfl))
            intro gb156 hg w33 hbox hb
            have n0_ := Aside0.mk (Kd.R_below (by (with_reducible repeat (first | apply rA_ | apply rN_ | apply rD_)); exact HO_5.out) hb)
            have n1_ := Aside0.mk (bb_ (g := gb140) (o := .cells #[.int .u64 a0_0, .int .u64 a0_1, .int .u64 a0_2, .string a0_3, .string a0_4, .int .i64 a0_5, .int .i64 a0_6, .int .u64 a0_7, .int .u64 a0_8, .slice (some ad154) l0_9.length c0_9] 37 (0, 0)) (by (with_reducible repeat (first | refine bN_ ?_ _ | refine bD_ ?_ | refine bA_ ?_ _)); exact BK140.out) hb)
            have n2_ := Aside0.mk (bb_ (g := gb141) (o := .cells #[.int .u64 a1_0, .int .u64 a1_1, .int .u64 a1_2, .string a1_3, .string a1_4, .int .i64 a1_5, .int .i64 a1_6, .int .u64 a1_7, .int .u64 a1_8, .slice (some ad155) l1_9.length c1_9] 37 (0, 0)) (by (with_reducible repeat (first | refine bN_ ?_ _ | refine bD_ ?_ | refine bA_ ?_ _)); exact BK141.out) hb)
            have n3_ := Aside0.mk (bb_ (g := gb157) (o := .cells #[.string (⟨#[]⟩ : ByteArray), .int .i64 0, .int .i64 0, .string (⟨#[]⟩ : ByteArray)] 63 (0, 0)) (by (with_reducible repeat (first | refine bN_ ?_ _ | refine bD_ ?_ | refine bA_ ?_ _)); exact BK157.out) hb)
            have n4_ := Aside0.mk (ls_ (by repeat (first | (with_reducible first | exact HB.out | apply lA_ | apply lN_ | apply l1_ | refine below_set ?_ GE140.out | refine below_set ?_ GE141.out | refine below_set ?_ GE157.out) | exact HB.out)) hb)
            have n5_ := Aside0.mk (hbox)
            have n6_ := Aside0.mk ((by rw [hg]; exact (bz_ (by repeat (first | (with_reducible first | exact HB.out | apply lA_ | apply lN_ | apply l1_ | refine below_set ?_ GE140.out | refine below_set ?_ GE141.out | refine below_set ?_ GE157.out) | exact HB.out))) : w.heap.size ≤ gb156))
            have n7_ := Aside0.mk ((by rw [hg]; exact (bz_ (by repeat (first | (with_reducible first | exact HB.out | apply lA_ | apply lN_ | apply l1_ | refine below_set ?_ GE140.out | refine below_set ?_ GE141.out | refine below_set ?_ GE157.out) | exact HB.out))) : w.heap.size ≤ gb156))
            have n8_ := Aside0.mk ((by rw [hg]; exact Nat.ne_of_lt (blk_lt (g := gb140) (o := .cells #[.int .u64 a0_0, .int .u64 a0_1, .int .u64 a0_2, .string a0_3, .string a0_4, .int .i64 a0_5, .int .i64 a0_6, .int .u64 a0_7, .int .u64 a0_8, .slice (some ad154) l0_9.length c0_9] 37 (0, 0)) (by (with_reducible repeat (first | refine bN_ ?_ _ | refine bD_ ?_ | refine bA_ ?_ _)); exact BK140.out)) : gb140 ≠ gb156))
            have n9_ := Aside0.mk ((by rw [hg]; exact Nat.ne_of_gt (blk_lt (g := gb140) (o := .cells #[.int .u64 a0_0, .int .u64 a0_1, .int .u64 a0_2, .string a0_3, .string a0_4, .int .i64 a0_5, .int .i64 a0_6, .int .u64 a0_7, .int .u64 a0_8, .slice (some ad154) l0_9.length c0_9] 37 (0, 0)) (by (with_reducible repeat (first | refine bN_ ?_ _ | refine bD_ ?_ | refine bA_ ?_ _)); exact BK140.out)) : gb156 ≠ gb140))
            have n10_ := Aside0.mk ((by rw [hg]; exact Nat.ne_of_lt (blk_lt (g := gb141) (o := .cells #[.int .u64 a1_0, .int .u64 a1_1, .int .u64 a1_2, .string a1_3, .string a1_4, .int .i64 a1_5, .int .i64 a1_6, .int .u64 a1_7, .int .u64 a1_8, .slice (some ad155) l1_9.length c1_9] 37 (0, 0)) (by (with_reducible repeat (first | refine bN_ ?_ _ | refine bD_ ?_ | refine bA_ ?_ _)); exact BK141.out)) : gb141 ≠ gb156))
            have n11_ := Aside0.mk ((by rw [hg]; exact Nat.ne_of_gt (blk_lt (g := gb141) (o := .cells #[.int .u64 a1_0, .int .u64 a1_1, .int .u64 a1_2, .string a1_3, .string a1_4, .int .i64 a1_5, .int .i64 a1_6, .int .u64 a1_7, .int .u64 a1_8, .slice (some ad155) l1_9.length c1_9] 37 (0, 0)) (by (with_reducible repeat (first | refine bN_ ?_ _ | refine bD_ ?_ | refine bA_ ?_ _)); exact BK141.out)) : gb156 ≠ gb141))
            have n12_ := Aside0.mk ((by rw [hg]; exact Nat.ne_of_lt (blk_lt (g := gb157) (o := .cells #[.string (⟨#[]⟩ : ByteArray), .int .i64 0, .int .i64 0, .string (⟨#[]⟩ : ByteArray)] 63 (0, 0)) (by (with_reducible repeat (first | refine bN_ ?_ _ | refine bD_ ?_ | refine bA_ ?_ _)); exact BK157.out)) : gb157 ≠ gb156))
            have n13_ := Aside0.mk ((by rw [hg]; exact Nat.ne_of_gt (blk_lt (g := gb157) (o := .cells #[.string (⟨#[]⟩ : ByteArray), .int .i64 0, .int .i64 0, .string (⟨#[]⟩ : ByteArray)] 63 (0, 0)) (by (with_reducible repeat (first | refine bN_ ?_ _ | refine bD_ ?_ | refine bA_ ?_ _)); exact BK157.out)) : gb156 ≠ gb157))
            clear HO_5
            clear BK140
            clear BK141
            clear BK157
            clear HB
            have HO_5 := n0_
            have BK140 := n1_
            have BK141 := n2_
            have BK157 := n3_
            have HB := n4_
            have BK156 := n5_
            have GW156 := n6_
            have GE156 := n7_
            have NB140_156 := n8_
            have NB156_140 := n9_
            have NB141_156 := n10_
            have NB156_141 := n11_
            have NB157_156 := n12_
            have NB156_157 := n13_
            clear n0_ n1_ n2_ n3_ n4_ n5_ n6_ n7_ n8_ n9_ n10_ n11_ n12_ n13_
            clear hb hbox hg
            refine hK.out _ _ ⟨(bc1_ BK140.out 0).trans rfl, (bc1_ BK140.out 1).trans rfl, (bc1_ BK140.out 2).trans rfl, (bc1_ BK140.out 3).trans rfl, (bc1_ BK140.out 4).trans rfl, (bc1_ BK140.out 5).trans rfl, (bc1_ BK140.out 6).trans rfl, (bc1_ BK140.out 7).trans rfl, (bc1_ BK140.out 8).trans rfl, (bc1_ BK140.out 9).trans rfl, (bc1_ BK141.out 0).trans rfl, (bc1_ BK141.out 1).trans rfl, (bc1_ BK141.out 2).trans rfl, (bc1_ BK141.out 3).trans rfl, (bc1_ BK141.out 4).trans rfl, (bc1_ BK141.out 5).trans rfl, (bc1_ BK141.out 6).trans rfl, (bc1_ BK141.out 7).trans rfl, (bc1_ BK141.out 8).trans rfl, (bc1_ BK141.out 9).trans rfl, (bc_ HB.out hw154_0), (bc_ HB.out hw154_1), (bc_ HB.out hw154_2), (bc_ HB.out hw154_3), (bc_ HB.out hw155_0), (bc_ HB.out hw155_1), (bc_ HB.out hw155_2), (bc_ HB.out hw155_3)⟩ (fun hHeld => ?_)
            clear hK K
            refine norm_ (a' := ?_) ?_ ?_
            rotate_left
            ·show Act.put _ (some 7) _ = _
             simp only [Act.put, sb_, sz_, ss_, i64_w, i32_w]
             rfl
            exact norm_ (by simp only [putAll, Act.put, sb_, sz_, ss_]) (hCont (gb156, gb157) _ ⟨hHeld, (by (with_reducible repeat (first | apply rA_ | apply rN_ | apply rD_)); exact HO_5.out), (by (with_reducible repeat (first | refine bN_ ?_ _ | refine bD_ ?_ | refine bA_ ?_ _)); exact BK140.out), (by (with_reducible repeat (first | refine bN_ ?_ _ | refine bD_ ?_ | refine bA_ ?_ _)); exact BK141.out), (by (with_reducible repeat (first | refine bN_ ?_ _ | refine bD_ ?_ | refine bA_ ?_ _)); exact BK156.out), (by (with_reducible repeat (first | refine bN_ ?_ _ | refine bD_ ?_ | refine bA_ ?_ _)); exact BK157.out), GW156.out, GE156.out, NB140_156.out, NB156_140.out, NB141_156.out, NB156_141.out, NB157_156.out, NB156_157.out, GW157.out, GE157.out, NB140_157.out, NB157_140.out, NB141_157.out, NB157_141.out, (by repeat (first | (with_reducible first | exact HB.out | apply lA_ | apply lN_ | apply l1_ | refine below_set ?_ GE140.out | refine below_set ?_ GE141.out | refine below_set ?_ GE157.out | refine below_set ?_ GE156.out) | exact HB.out))⟩)
          rintro ⟨gb156, gb157⟩ w34 ⟨hS_, h0_, h1_, h2_, h3_, h4_, h5_, h6_, h7_, h8_, h9_, h10_, h11_, h12_, h13_, h14_, h15_, h16_, h17_, h18_, h19_⟩
          have n0_ : Aside0 (Kd.R (Kd.int .i64) 3 w34 w.heap.size (fun _ => True) u5 x5_1) := ⟨h0_⟩
          have n1_ : Aside0 (w34.heap[gb140]? = some (.cells #[.int .u64 a0_0, .int .u64 a0_1, .int .u64 a0_2, .string a0_3, .string a0_4, .int .i64 a0_5, .int .i64 a0_6, .int .u64 a0_7, .int .u64 a0_8, .slice (some ad154) l0_9.length c0_9] 37 (0, 0))) := ⟨h1_⟩
          have n2_ : Aside0 (w34.heap[gb141]? = some (.cells #[.int .u64 a1_0, .int .u64 a1_1, .int .u64 a1_2, .string a1_3, .string a1_4, .int .i64 a1_5, .int .i64 a1_6, .int .u64 a1_7, .int .u64 a1_8, .slice (some ad155) l1_9.length c1_9] 37 (0, 0))) := ⟨h2_⟩
          have n3_ : Aside0 (w34.heap[gb156]? = some (.cells #[.string (⟨#[]⟩ : ByteArray), .int .i64 0, .int .i64 0, .string (⟨#[]⟩ : ByteArray)] 63 (0, 0))) := ⟨h3_⟩
          have n4_ : Aside0 (w34.heap[gb157]? = some (.cells #[.string (⟨#[]⟩ : ByteArray), .int .i64 0, .int .i64 0, .string (⟨#[]⟩ : ByteArray)] 63 (0, 0))) := ⟨h4_⟩
          have n5_ : Aside0 (w.heap.size ≤ gb156) := ⟨h5_⟩
          have n6_ : Aside0 (w.heap.size ≤ gb156) := ⟨h6_⟩
          have n7_ : Aside0 (gb140 ≠ gb156) := ⟨h7_⟩
          have n8_ : Aside0 (gb156 ≠ gb140) := ⟨h8_⟩
          have n9_ : Aside0 (gb141 ≠ gb156) := ⟨h9_⟩
          have n10_ : Aside0 (gb156 ≠ gb141) := ⟨h10_⟩
          have n11_ : Aside0 (gb157 ≠ gb156) := ⟨h11_⟩
          have n12_ : Aside0 (gb156 ≠ gb157) := ⟨h12_⟩
          have n13_ : Aside0 (w.heap.size ≤ gb157) := ⟨h13_⟩
          have n14_ : Aside0 (w.heap.size ≤ gb157) := ⟨h14_⟩
          have n15_ : Aside0 (gb140 ≠ gb157) := ⟨h15_⟩
          have n16_ : Aside0 (gb157 ≠ gb140) := ⟨h16_⟩
          have n17_ : Aside0 (gb141 ≠ gb157) := ⟨h17_⟩
          have n18_ : Aside0 (gb157 ≠ gb141) := ⟨h18_⟩
          have n19_ : Aside0 (Below w.heap.size w w34) := ⟨h19_⟩
          clear HO_5
          clear BK140
          clear BK141
          clear HB
          clear h0_ h1_ h2_ h3_ h4_ h5_ h6_ h7_ h8_ h9_ h10_ h11_ h12_ h13_ h14_ h15_ h16_ h17_ h18_ h19_
          have HO_5 := n0_
          have BK140 := n1_
          have BK141 := n2_
          have BK156 := n3_
          have BK157 := n4_
          have GW156 := n5_
          have GE156 := n6_
          have NB140_156 := n7_
          have NB156_140 := n8_
          have NB141_156 := n9_
          have NB156_141 := n10_
          have NB157_156 := n11_
          have NB156_157 := n12_
          have GW157 := n13_
          have GE157 := n14_
          have NB140_157 := n15_
          have NB157_140 := n16_
          have NB141_157 := n17_
          have NB157_141 := n18_
          have HB := n19_
          clear n0_ n1_ n2_ n3_ n4_ n5_ n6_ n7_ n8_ n9_ n10_ n11_ n12_ n13_ n14_ n15_ n16_ n17_ n18_ n19_
          have hHeld : w34.cell? ⟨gb140, 0, none⟩ = some (.int .u64 a0_0) ∧ w34.cell? ⟨gb140, 1, none⟩ = some (.int .u64 a0_1) ∧ w34.cell? ⟨gb140, 2, none⟩ = some (.int .u64 a0_2) ∧ w34.cell? ⟨gb140, 3, none⟩ = some (.string a0_3) ∧ w34.cell? ⟨gb140, 4, none⟩ = some (.string a0_4) ∧ w34.cell? ⟨gb140, 5, none⟩ = some (.int .i64 a0_5) ∧ w34.cell? ⟨gb140, 6, none⟩ = some (.int .i64 a0_6) ∧ w34.cell? ⟨gb140, 7, none⟩ = some (.int .u64 a0_7) ∧ w34.cell? ⟨gb140, 8, none⟩ = some (.int .u64 a0_8) ∧ w34.cell? ⟨gb140, 9, none⟩ = some (.slice (some ad154) l0_9.length c0_9) ∧ w34.cell? ⟨gb141, 0, none⟩ = some (.int .u64 a1_0) ∧ w34.cell? ⟨gb141, 1, none⟩ = some (.int .u64 a1_1) ∧ w34.cell? ⟨gb141, 2, none⟩ = some (.int .u64 a1_2) ∧ w34.cell? ⟨gb141, 3, none⟩ = some (.string a1_3) ∧ w34.cell? ⟨gb141, 4, none⟩ = some (.string a1_4) ∧ w34.cell? ⟨gb141, 5, none⟩ = some (.int .i64 a1_5) ∧ w34.cell? ⟨gb141, 6, none⟩ = some (.int .i64 a1_6) ∧ w34.cell? ⟨gb141, 7, none⟩ = some (.int .u64 a1_7) ∧ w34.cell? ⟨gb141, 8, none⟩ = some (.int .u64 a1_8) ∧ w34.cell? ⟨gb141, 9, none⟩ = some (.slice (some ad155) l1_9.length c1_9) ∧ w34.cell? (ad154.add ((x6_1).toNat * 4)) = some (.string ((rd_T63 l0_9 x6_1).f0)) ∧ w34.cell? ⟨(ad154.add ((x6_1).toNat * 4)).block, (ad154.add ((x6_1).toNat * 4)).off + 1, none⟩ = some (.int .i64 ((rd_T63 l0_9 x6_1).f1.f0)) ∧ w34.cell? ⟨(ad154.add ((x6_1).toNat * 4)).block, (ad154.add ((x6_1).toNat * 4)).off + 2, none⟩ = some (.int .i64 ((rd_T63 l0_9 x6_1).f1.f1)) ∧ w34.cell? ⟨(ad154.add ((x6_1).toNat * 4)).block, (ad154.add ((x6_1).toNat * 4)).off + 3, none⟩ = some (.string ((rd_T63 l0_9 x6_1).f1.f2)) ∧ w34.cell? (ad155.add ((x6_1).toNat * 4)) = some (.string ((rd_T63 l1_9 x6_1).f0)) ∧ w34.cell? ⟨(ad155.add ((x6_1).toNat * 4)).block, (ad155.add ((x6_1).toNat * 4)).off + 1, none⟩ = some (.int .i64 ((rd_T63 l1_9 x6_1).f1.f0)) ∧ w34.cell? ⟨(ad155.add ((x6_1).toNat * 4)).block, (ad155.add ((x6_1).toNat * 4)).off + 2, none⟩ = some (.int .i64 ((rd_T63 l1_9 x6_1).f1.f1)) ∧ w34.cell? ⟨(ad155.add ((x6_1).toNat * 4)).block, (ad155.add ((x6_1).toNat * 4)).off + 3, none⟩ = some (.string ((rd_T63 l1_9 x6_1).f1.f2)) := hS_
          refine norm_ (a' := ?_) ?_ ?_
          rotate_left
          ·simp only [putAll, Act.put, sb_, sz_, ss_]
           rfl
          refine one_ (i := 12) (N := none) (bl_ 14 8191) rfl rfl (one_of HT_.out (by kernel_rfl)) (by decide) (fun K hK => ?_)
          have hs35 : w34.cell? ⟨gb156, 0, none⟩ = some (.string (⟨#[]⟩ : ByteArray)) := (bc1_ BK156.out 0).trans rfl
          have hfs35 := bf1_ BK156.out 0
          have hns35_0 := NB140_156.out
          have hns35_1 := NB141_156.out
          have hns35_3 := NB157_156.out
          have hms35_0 := NB156_140.out
          have hms35_1 := NB156_141.out
          have hms35_3 := NB156_157.out
          have hs36 : w34.cell? ⟨gb156, 1, none⟩ = some (.int .i64 0) := (bc1_ BK156.out 1).trans rfl
          have hfs36 := bf1_ BK156.out 1
          have hns36_0 := NB140_156.out
          have hns36_1 := NB141_156.out
          have hns36_3 := NB157_156.out
          have hms36_0 := NB156_140.out
          have hms36_1 := NB156_141.out
          have hms36_3 := NB156_157.out
          have hs37 : w34.cell? ⟨gb156, 2, none⟩ = some (.int .i64 0) := (bc1_ BK156.out 2).trans rfl
          have hfs37 := bf1_ BK156.out 2
          have hns37_0 := NB140_156.out
          have hns37_1 := NB141_156.out
          have hns37_3 := NB157_156.out
          have hms37_0 := NB156_140.out
          have hms37_1 := NB156_141.out
          have hms37_3 := NB156_157.out
          have hs38 : w34.cell? ⟨gb156, 3, none⟩ = some (.string (⟨#[]⟩ : ByteArray)) := (bc1_ BK156.out 3).trans rfl
          have hfs38 := bf1_ BK156.out 3
          have hns38_0 := NB140_156.out
          have hns38_1 := NB141_156.out
          have hns38_3 := NB157_156.out
          have hms38_0 := NB156_140.out
          have hms38_1 := NB156_141.out
          have hms38_3 := NB156_157.out
          refine skip_ (w1 := ?_) (by rfl) rfl ?_ ?_
          rotate_left
          ·go_simp
           rfl
          refine hK.out _ _ ⟨(by (iterate 4 refine (cell_far (p := ⟨gb156, _, none⟩) NB140_156.out _).trans ?_); exact hHeld.1), (by (iterate 4 refine (cell_far (p := ⟨gb156, _, none⟩) NB140_156.out _).trans ?_); exact hHeld.2.1), (by (iterate 4 refine (cell_far (p := ⟨gb156, _, none⟩) NB140_156.out _).trans ?_); exact hHeld.2.2.1), (by (iterate 4 refine (cell_far (p := ⟨gb156, _, none⟩) NB140_156.out _).trans ?_); exact hHeld.2.2.2.1), (by (iterate 4 refine (cell_far (p := ⟨gb156, _, none⟩) NB140_156.out _).trans ?_); exact hHeld.2.2.2.2.1), (by (iterate 4 refine (cell_far (p := ⟨gb156, _, none⟩) NB140_156.out _).trans ?_); exact hHeld.2.2.2.2.2.1), (by (iterate 4 refine (cell_far (p := ⟨gb156, _, none⟩) NB140_156.out _).trans ?_); exact hHeld.2.2.2.2.2.2.1), (by (iterate 4 refine (cell_far (p := ⟨gb156, _, none⟩) NB140_156.out _).trans ?_); exact hHeld.2.2.2.2.2.2.2.1), (by (iterate 4 refine (cell_far (p := ⟨gb156, _, none⟩) NB140_156.out _).trans ?_); exact hHeld.2.2.2.2.2.2.2.2.1), (by (iterate 4 refine (cell_far (p := ⟨gb156, _, none⟩) NB140_156.out _).trans ?_); exact hHeld.2.2.2.2.2.2.2.2.2.1), (by (iterate 4 refine (cell_far (p := ⟨gb156, _, none⟩) NB141_156.out _).trans ?_); exact hHeld.2.2.2.2.2.2.2.2.2.2.1), (by (iterate 4 refine (cell_far (p := ⟨gb156, _, none⟩) NB141_156.out _).trans ?_); exact hHeld.2.2.2.2.2.2.2.2.2.2.2.1), (by (iterate 4 refine (cell_far (p := ⟨gb156, _, none⟩) NB141_156.out _).trans ?_); exact hHeld.2.2.2.2.2.2.2.2.2.2.2.2.1), (by (iterate 4 refine (cell_far (p := ⟨gb156, _, none⟩) NB141_156.out _).trans ?_); exact hHeld.2.2.2.2.2.2.2.2.2.2.2.2.2.1), (by (iterate 4 refine (cell_far (p := ⟨gb156, _, none⟩) NB141_156.out _).trans ?_); exact hHeld.2.2.2.2.2.2.2.2.2.2.2.2.2.2.1), (by (iterate 4 refine (cell_far (p := ⟨gb156, _, none⟩) NB141_156.out _).trans ?_); exact hHeld.2.2.2.2.2.2.2.2.2.2.2.2.2.2.2.1), (by (iterate 4 refine (cell_far (p := ⟨gb156, _, none⟩) NB141_156.out _).trans ?_); exact hHeld.2.2.2.2.2.2.2.2.2.2.2.2.2.2.2.2.1), (by (iterate 4 refine (cell_far (p := ⟨gb156, _, none⟩) NB141_156.out _).trans ?_); exact hHeld.2.2.2.2.2.2.2.2.2.2.2.2.2.2.2.2.2.1), (by (iterate 4 refine (cell_far (p := ⟨gb156, _, none⟩) NB141_156.out _).trans ?_); exact hHeld.2.2.2.2.2.2.2.2.2.2.2.2.2.2.2.2.2.2.1), (by (iterate 4 refine (cell_far (p := ⟨gb156, _, none⟩) NB141_156.out _).trans ?_); exact hHeld.2.2.2.2.2.2.2.2.2.2.2.2.2.2.2.2.2.2.2.1), ((cell_far (p := ⟨gb156, _, none⟩) (by first | exact Nat.ne_of_lt (Nat.lt_of_lt_of_le (by have := World.block_lt_of_cell? _ _ hw154_0; first | rwa [adb_] at this | exact this) GW156.out) | (rw [adb_]; exact Nat.ne_of_lt (Nat.lt_of_lt_of_le (by have := World.block_lt_of_cell? _ _ hw154_0; first | rwa [adb_] at this | exact this) GW156.out)) | (show (Addr.add _ _).block ≠ _; rw [adb_]; exact Nat.ne_of_lt (Nat.lt_of_lt_of_le (by have := World.block_lt_of_cell? _ _ hw154_0; first | rwa [adb_] at this | exact this) GW156.out)) | (dsimp only; exact Nat.ne_of_lt (Nat.lt_of_lt_of_le (by have := World.block_lt_of_cell? _ _ hw154_0; first | rwa [adb_] at this | exact this) GW156.out))) _).trans (((cell_far (p := ⟨gb156, _, none⟩) (by first | exact Nat.ne_of_lt (Nat.lt_of_lt_of_le (by have := World.block_lt_of_cell? _ _ hw154_0; first | rwa [adb_] at this | exact this) GW156.out) | (rw [adb_]; exact Nat.ne_of_lt (Nat.lt_of_lt_of_le (by have := World.block_lt_of_cell? _ _ hw154_0; first | rwa [adb_] at this | exact this) GW156.out)) | (show (Addr.add _ _).block ≠ _; rw [adb_]; exact Nat.ne_of_lt (Nat.lt_of_lt_of_le (by have := World.block_lt_of_cell? _ _ hw154_0; first | rwa [adb_] at this | exact this) GW156.out)) | (dsimp only; exact Nat.ne_of_lt (Nat.lt_of_lt_of_le (by have := World.block_lt_of_cell? _ _ hw154_0; first | rwa [adb_] at this | exact this) GW156.out))) _).trans (((cell_far (p := ⟨gb156, _, none⟩) (by first | exact Nat.ne_of_lt (Nat.lt_of_lt_of_le (by have := World.block_lt_of_cell? _ _ hw154_0; first | rwa [adb_] at this | exact this) GW156.out) | (rw [adb_]; exact Nat.ne_of_lt (Nat.lt_of_lt_of_le (by have := World.block_lt_of_cell? _ _ hw154_0; first | rwa [adb_] at this | exact this) GW156.out)) | (show (Addr.add _ _).block ≠ _; rw [adb_]; exact Nat.ne_of_lt (Nat.lt_of_lt_of_le (by have := World.block_lt_of_cell? _ _ hw154_0; first | rwa [adb_] at this | exact this) GW156.out)) | (dsimp only; exact Nat.ne_of_lt (Nat.lt_of_lt_of_le (by have := World.block_lt_of_cell? _ _ hw154_0; first | rwa [adb_] at this | exact this) GW156.out))) _).trans (((cell_far (p := ⟨gb156, _, none⟩) (by first | exact Nat.ne_of_lt (Nat.lt_of_lt_of_le (by have := World.block_lt_of_cell? _ _ hw154_0; first | rwa [adb_] at this | exact this) GW156.out) | (rw [adb_]; exact Nat.ne_of_lt (Nat.lt_of_lt_of_le (by have := World.block_lt_of_cell? _ _ hw154_0; first | rwa [adb_] at this | exact this) GW156.out)) | (show (Addr.add _ _).block ≠ _; rw [adb_]; exact Nat.ne_of_lt (Nat.lt_of_lt_of_le (by have := World.block_lt_of_cell? _ _ hw154_0; first | rwa [adb_] at this | exact this) GW156.out)) | (dsimp only; exact Nat.ne_of_lt (Nat.lt_of_lt_of_le (by have := World.block_lt_of_cell? _ _ hw154_0; first | rwa [adb_] at this | exact this) GW156.out))) _).trans (hHeld.2.2.2.2.2.2.2.2.2.2.2.2.2.2.2.2.2.2.2.2.1)))))))), ((cell_far (p := ⟨gb156, _, none⟩) (by first | exact Nat.ne_of_lt (Nat.lt_of_lt_of_le (by have := World.block_lt_of_cell? _ _ hw154_1; first | rwa [adb_] at this | exact this) GW156.out) | (rw [adb_]; exact Nat.ne_of_lt (Nat.lt_of_lt_of_le (by have := World.block_lt_of_cell? _ _ hw154_1; first | rwa [adb_] at this | exact this) GW156.out)) | (show (Addr.add _ _).block ≠ _; rw [adb_]; exact Nat.ne_of_lt (Nat.lt_of_lt_of_le (by have := World.block_lt_of_cell? _ _ hw154_1; first | rwa [adb_] at this | exact this) GW156.out)) | (dsimp only; exact Nat.ne_of_lt (Nat.lt_of_lt_of_le (by have := World.block_lt_of_cell? _ _ hw154_1; first | rwa [adb_] at this | exact this) GW156.out))) _).trans (((cell_far (p := ⟨gb156, _, none⟩) (by first | exact Nat.ne_of_lt (Nat.lt_of_lt_of_le (by have := World.block_lt_of_cell? _ _ hw154_1; first | rwa [adb_] at this | exact this) GW156.out) | (rw [adb_]; exact Nat.ne_of_lt (Nat.lt_of_lt_of_le (by have := World.block_lt_of_cell? _ _ hw154_1; first | rwa [adb_] at this | exact this) GW156.out)) | (show (Addr.add _ _).block ≠ _; rw [adb_]; exact Nat.ne_of_lt (Nat.lt_of_lt_of_le (by have := World.block_lt_of_cell? _ _ hw154_1; first | rwa [adb_] at this | exact this) GW156.out)) | (dsimp only; exact Nat.ne_of_lt (Nat.lt_of_lt_of_le (by have := World.block_lt_of_cell? _ _ hw154_1; first | rwa [adb_] at this | exact this) GW156.out))) _).trans (((cell_far (p := ⟨gb156, _, none⟩) (by first | exact Nat.ne_of_lt (Nat.lt_of_lt_of_le (by have := World.block_lt_of_cell? _ _ hw154_1; first | rwa [adb_] at this | exact this) GW156.out) | (rw [adb_]; exact Nat.ne_of_lt (Nat.lt_of_lt_of_le (by have := World.block_lt_of_cell? _ _ hw154_1; first | rwa [adb_] at this | exact this) GW156.out)) | (show (Addr.add _ _).block ≠ _; rw [adb_]; exact Nat.ne_of_lt (Nat.lt_of_lt_of_le (by have := World.block_lt_of_cell? _ _ hw154_1; first | rwa [adb_] at this | exact this) GW156.out)) | (dsimp only; exact Nat.ne_of_lt (Nat.lt_of_lt_of_le (by have := World.block_lt_of_cell? _ _ hw154_1; first | rwa [adb_] at this | exact this) GW156.out))) _).trans (((cell_far (p := ⟨gb156, _, none⟩) (by first | exact Nat.ne_of_lt (Nat.lt_of_lt_of_le (by have := World.block_lt_of_cell? _ _ hw154_1; first | rwa [adb_] at this | exact this) GW156.out) | (rw [adb_]; exact Nat.ne_of_lt (Nat.lt_of_lt_of_le (by have := World.block_lt_of_cell? _ _ hw154_1; first | rwa [adb_] at this | exact this) GW156.out)) | (show (Addr.add _ _).block ≠ _; rw [adb_]; exact Nat.ne_of_lt (Nat.lt_of_lt_of_le (by have := World.block_lt_of_cell? _ _ hw154_1; first | rwa [adb_] at this | exact this) GW156.out)) | (dsimp only; exact Nat.ne_of_lt (Nat.lt_of_lt_of_le (by have := World.block_lt_of_cell? _ _ hw154_1; first | rwa [adb_] at this | exact this) GW156.out))) _).trans (hHeld.2.2.2.2.2.2.2.2.2.2.2.2.2.2.2.2.2.2.2.2.2.1)))))))), ((cell_far (p := ⟨gb156, _, none⟩) (by first | exact Nat.ne_of_lt (Nat.lt_of_lt_of_le (by have := World.block_lt_of_cell? _ _ hw154_2; first | rwa [adb_] at this | exact this) GW156.out) | (rw [adb_]; exact Nat.ne_of_lt (Nat.lt_of_lt_of_le (by have := World.block_lt_of_cell? _ _ hw154_2; first | rwa [adb_] at this | exact this) GW156.out)) | (show (Addr.add _ _).block ≠ _; rw [adb_]; exact Nat.ne_of_lt (Nat.lt_of_lt_of_le (by have := World.block_lt_of_cell? _ _ hw154_2; first | rwa [adb_] at this | exact this) GW156.out)) | (dsimp only; exact Nat.ne_of_lt (Nat.lt_of_lt_of_le (by have := World.block_lt_of_cell? _ _ hw154_2; first | rwa [adb_] at this | exact this) GW156.out))) _).trans (((cell_far (p := ⟨gb156, _, none⟩) (by first | exact Nat.ne_of_lt (Nat.lt_of_lt_of_le (by have := World.block_lt_of_cell? _ _ hw154_2; first | rwa [adb_] at this | exact this) GW156.out) | (rw [adb_]; exact Nat.ne_of_lt (Nat.lt_of_lt_of_le (by have := World.block_lt_of_cell? _ _ hw154_2; first | rwa [adb_] at this | exact this) GW156.out)) | (show (Addr.add _ _).block ≠ _; rw [adb_]; exact Nat.ne_of_lt (Nat.lt_of_lt_of_le (by have := World.block_lt_of_cell? _ _ hw154_2; first | rwa [adb_] at this | exact this) GW156.out)) | (dsimp only; exact Nat.ne_of_lt (Nat.lt_of_lt_of_le (by have := World.block_lt_of_cell? _ _ hw154_2; first | rwa [adb_] at this | exact this) GW156.out))) _).trans (((cell_far (p := ⟨gb156, _, none⟩) (by first | exact Nat.ne_of_lt (Nat.lt_of_lt_of_le (by have := World.block_lt_of_cell? _ _ hw154_2; first | rwa [adb_] at this | exact this) GW156.out) | (rw [adb_]; exact Nat.ne_of_lt (Nat.lt_of_lt_of_le (by have := World.block_lt_of_cell? _ _ hw154_2; first | rwa [adb_] at this | exact this) GW156.out)) | (show (Addr.add _ _).block ≠ _; rw [adb_]; exact Nat.ne_of_lt (Nat.lt_of_lt_of_le (by have := World.block_lt_of_cell? _ _ hw154_2; first | rwa [adb_] at this | exact this) GW156.out)) | (dsimp only; exact Nat.ne_of_lt (Nat.lt_of_lt_of_le (by have := World.block_lt_of_cell? _ _ hw154_2; first | rwa [adb_] at this | exact this) GW156.out))) _).trans (((cell_far (p := ⟨gb156, _, none⟩) (by first | exact Nat.ne_of_lt (Nat.lt_of_lt_of_le (by have := World.block_lt_of_cell? _ _ hw154_2; first | rwa [adb_] at this | exact this) GW156.out) | (rw [adb_]; exact Nat.ne_of_lt (Nat.lt_of_lt_of_le (by have := World.block_lt_of_cell? _ _ hw154_2; first | rwa [adb_] at this | exact this) GW156.out)) | (show (Addr.add _ _).block ≠ _; rw [adb_]; exact Nat.ne_of_lt (Nat.lt_of_lt_of_le (by have := World.block_lt_of_cell? _ _ hw154_2; first | rwa [adb_] at this | exact this) GW156.out)) | (dsimp only; exact Nat.ne_of_lt (Nat.lt_of_lt_of_le (by have := World.block_lt_of_cell? _ _ hw154_2; first | rwa [adb_] at this | exact this) GW156.out))) _).trans (hHeld.2.2.2.2.2.2.2.2.2.2.2.2.2.2.2.2.2.2.2.2.2.2.1)))))))), ((cell_far (p := ⟨gb156, _, none⟩) (by first | exact Nat.ne_of_lt (Nat.lt_of_lt_of_le (by have := World.block_lt_of_cell? _ _ hw154_3; first | rwa [adb_] at this | exact this) GW156.out) | (rw [adb_]; exact Nat.ne_of_lt (Nat.lt_of_lt_of_le (by have := World.block_lt_of_cell? _ _ hw154_3; first | rwa [adb_] at this | exact this) GW156.out)) | (show (Addr.add _ _).block ≠ _; rw [adb_]; exact Nat.ne_of_lt (Nat.lt_of_lt_of_le (by have := World.block_lt_of_cell? _ _ hw154_3; first | rwa [adb_] at this | exact this) GW156.out)) | (dsimp only; exact Nat.ne_of_lt (Nat.lt_of_lt_of_le (by have := World.block_lt_of_cell? _ _ hw154_3; first | rwa [adb_] at this | exact this) GW156.out))) _).trans (((cell_far (p := ⟨gb156, _, none⟩) (by first | exact Nat.ne_of_lt (Nat.lt_of_lt_of_le (by have := World.block_lt_of_cell? _ _ hw154_3; first | rwa [adb_] at this | exact this) GW156.out) | (rw [adb_]; exact Nat.ne_of_lt (Nat.lt_of_lt_of_le (by have := World.block_lt_of_cell? _ _ hw154_3; first | rwa [adb_] at this | exact this) GW156.out)) | (show (Addr.add _ _).block ≠ _; rw [adb_]; exact Nat.ne_of_lt (Nat.lt_of_lt_of_le (by have := World.block_lt_of_cell? _ _ hw154_3; first | rwa [adb_] at this | exact this) GW156.out)) | (dsimp only; exact Nat.ne_of_lt (Nat.lt_of_lt_of_le (by have := World.block_lt_of_cell? _ _ hw154_3; first | rwa [adb_] at this | exact this) GW156.out))) _).trans (((cell_far (p := ⟨gb156, _, none⟩) (by first | exact Nat.ne_of_lt (Nat.lt_of_lt_of_le (by have := World.block_lt_of_cell? _ _ hw154_3; first | rwa [adb_] at this | exact this) GW156.out) | (rw [adb_]; exact Nat.ne_of_lt (Nat.lt_of_lt_of_le (by have := World.block_lt_of_cell? _ _ hw154_3; first | rwa [adb_] at this | exact this) GW156.out)) | (show (Addr.add _ _).block ≠ _; rw [adb_]; exact Nat.ne_of_lt (Nat.lt_of_lt_of_le (by have := World.block_lt_of_cell? _ _ hw154_3; first | rwa [adb_] at this | exact this) GW156.out)) | (dsimp only; exact Nat.ne_of_lt (Nat.lt_of_lt_of_le (by have := World.block_lt_of_cell? _ _ hw154_3; first | rwa [adb_] at this | exact this) GW156.out))) _).trans (((cell_far (p := ⟨gb156, _, none⟩) (by first | exact Nat.ne_of_lt (Nat.lt_of_lt_of_le (by have := World.block_lt_of_cell? _ _ hw154_3; first | rwa [adb_] at this | exact this) GW156.out) | (rw [adb_]; exact Nat.ne_of_lt (Nat.lt_of_lt_of_le (by have := World.block_lt_of_cell? _ _ hw154_3; first | rwa [adb_] at this | exact this) GW156.out)) | (show (Addr.add _ _).block ≠ _; rw [adb_]; exact Nat.ne_of_lt (Nat.lt_of_lt_of_le (by have := World.block_lt_of_cell? _ _ hw154_3; first | rwa [adb_] at this | exact this) GW156.out)) | (dsimp only; exact Nat.ne_of_lt (Nat.lt_of_lt_of_le (by have := World.block_lt_of_cell? _ _ hw154_3; first | rwa [adb_] at this | exact this) GW156.out))) _).trans (hHeld.2.2.2.2.2.2.2.2.2.2.2.2.2.2.2.2.2.2.2.2.2.2.2.1)))))))), ((cell_far (p := ⟨gb156, _, none⟩) (by first | exact Nat.ne_of_lt (Nat.lt_of_lt_of_le (by have := World.block_lt_of_cell? _ _ hw155_0; first | rwa [adb_] at this | exact this) GW156.out) | (rw [adb_]; exact Nat.ne_of_lt (Nat.lt_of_lt_of_le (by have := World.block_lt_of_cell? _ _ hw155_0; first | rwa [adb_] at this | exact this) GW156.out)) | (show (Addr.add _ _).block ≠ _; rw [adb_]; exact Nat.ne_of_lt (Nat.lt_of_lt_of_le (by have := World.block_lt_of_cell? _ _ hw155_0; first | rwa [adb_] at this | exact this) GW156.out)) | (dsimp only; exact Nat.ne_of_lt (Nat.lt_of_lt_of_le (by have := World.block_lt_of_cell? _ _ hw155_0; first | rwa [adb_] at this | exact this) GW156.out))) _).trans (((cell_far (p := ⟨gb156, _, none⟩) (by first | exact Nat.ne_of_lt (Nat.lt_of_lt_of_le (by have := World.block_lt_of_cell? _ _ hw155_0; first | rwa [adb_] at this | exact this) GW156.out) | (rw [adb_]; exact Nat.ne_of_lt (Nat.lt_of_lt_of_le (by have := World.block_lt_of_cell? _ _ hw155_0; first | rwa [adb_] at this | exact this) GW156.out)) | (show (Addr.add _ _).block ≠ _; rw [adb_]; exact Nat.ne_of_lt (Nat.lt_of_lt_of_le (by have := World.block_lt_of_cell? _ _ hw155_0; first | rwa [adb_] at this | exact this) GW156.out)) | (dsimp only; exact Nat.ne_of_lt (Nat.lt_of_lt_of_le (by have := World.block_lt_of_cell? _ _ hw155_0; first | rwa [adb_] at this | exact this) GW156.out))) _).trans (((cell_far (p := ⟨gb156, _, none⟩) (by first | exact Nat.ne_of_lt (Nat.lt_of_lt_of_le (by have := World.block_lt_of_cell? _ _ hw155_0; first | rwa [adb_] at this | exact this) GW156.out) | (rw [adb_]; exact Nat.ne_of_lt (Nat.lt_of_lt_of_le (by have := World.block_lt_of_cell? _ _ hw155_0; first | rwa [adb_] at this | exact this) GW156.out)) | (show (Addr.add _ _).block ≠ _; rw [adb_]; exact Nat.ne_of_lt (Nat.lt_of_lt_of_le (by have := World.block_lt_of_cell? _ _ hw155_0; first | rwa [adb_] at this | exact this) GW156.out)) | (dsimp only; exact Nat.ne_of_lt (Nat.lt_of_lt_of_le (by have := World.block_lt_of_cell? _ _ hw155_0; first | rwa [adb_] at this | exact this) GW156.out))) _).trans (((cell_far (p := ⟨gb156, _, none⟩) (by first | exact Nat.ne_of_lt (Nat.lt_of_lt_of_le (by have := World.block_lt_of_cell? _ _ hw155_0; first | rwa [adb_] at this | exact this) GW156.out) | (rw [adb_]; exact Nat.ne_of_lt (Nat.lt_of_lt_of_le (by have := World.block_lt_of_cell? _ _ hw155_0; first | rwa [adb_] at this | exact this) GW156.out)) | (show (Addr.add _ _).block ≠ _; rw [adb_]; exact Nat.ne_of_lt (Nat.lt_of_lt_of_le (by have := World.block_lt_of_cell? _ _ hw155_0; first | rwa [adb_] at this | exact this) GW156.out)) | (dsimp only; exact Nat.ne_of_lt (Nat.lt_of_lt_of_le (by have := World.block_lt_of_cell? _ _ hw155_0; first | rwa [adb_] at this | exact this) GW156.out))) _).trans (hHeld.2.2.2.2.2.2.2.2.2.2.2.2.2.2.2.2.2.2.2.2.2.2.2.2.1)))))))), ((cell_far (p := ⟨gb156, _, none⟩) (by first | exact Nat.ne_of_lt (Nat.lt_of_lt_of_le (by have := World.block_lt_of_cell? _ _ hw155_1; first | rwa [adb_] at this | exact this) GW156.out) | (rw [adb_]; exact Nat.ne_of_lt (Nat.lt_of_lt_of_le (by have := World.block_lt_of_cell? _ _ hw155_1; first | rwa [adb_] at this | exact this) GW156.out)) | (show (Addr.add _ _).block ≠ _; rw [adb_]; exact Nat.ne_of_lt (Nat.lt_of_lt_of_le (by have := World.block_lt_of_cell? _ _ hw155_1; first | rwa [adb_] at this | exact this) GW156.out)) | (dsimp only; exact Nat.ne_of_lt (Nat.lt_of_lt_of_le (by have := World.block_lt_of_cell? _ _ hw155_1; first | rwa [adb_] at this | exact this) GW156.out))) _).trans (((cell_far (p := ⟨gb156, _, none⟩) (by first | exact Nat.ne_of_lt (Nat.lt_of_lt_of_le (by have := World.block_lt_of_cell? _ _ hw155_1; first | rwa [adb_] at this | exact this) GW156.out) | (rw [adb_]; exact Nat.ne_of_lt (Nat.lt_of_lt_of_le (by have := World.block_lt_of_cell? _ _ hw155_1; first | rwa [adb_] at this | exact this) GW156.out)) | (show (Addr.add _ _).block ≠ _; rw [adb_]; exact Nat.ne_of_lt (Nat.lt_of_lt_of_le (by have := World.block_lt_of_cell? _ _ hw155_1; first | rwa [adb_] at this | exact this) GW156.out)) | (dsimp only; exact Nat.ne_of_lt (Nat.lt_of_lt_of_le (by have := World.block_lt_of_cell? _ _ hw155_1; first | rwa [adb_] at this | exact this) GW156.out))) _).trans (((cell_far (p := ⟨gb156, _, none⟩) (by first | exact Nat.ne_of_lt (Nat.lt_of_lt_of_le (by have := World.block_lt_of_cell? _ _ hw155_1; first | rwa [adb_] at this | exact this) GW156.out) | (rw [adb_]; exact Nat.ne_of_lt (Nat.lt_of_lt_of_le (by have := World.block_lt_of_cell? _ _ hw155_1; first | rwa [adb_] at this | exact this) GW156.out)) | (show (Addr.add _ _).block ≠ _; rw [adb_]; exact Nat.ne_of_lt (Nat.lt_of_lt_of_le (by have := World.block_lt_of_cell? _ _ hw155_1; first | rwa [adb_] at this | exact this) GW156.out)) | (dsimp only; exact Nat.ne_of_lt (Nat.lt_of_lt_of_le (by have := World.block_lt_of_cell? _ _ hw155_1; first | rwa [adb_] at this | exact this) GW156.out))) _).trans (((cell_far (p := ⟨gb156, _, none⟩) (by first | exact Nat.ne_of_lt (Nat.lt_of_lt_of_le (by have := World.block_lt_of_cell? _ _ hw155_1; first | rwa [adb_] at this | exact this) GW156.out) | (rw [adb_]; exact Nat.ne_of_lt (Nat.lt_of_lt_of_le (by have := World.block_lt_of_cell? _ _ hw155_1; first | rwa [adb_] at this | exact this) GW156.out)) | (show (Addr.add _ _).block ≠ _; rw [adb_]; exact Nat.ne_of_lt (Nat.lt_of_lt_of_le (by have := World.block_lt_of_cell? _ _ hw155_1; first | rwa [adb_] at this | exact this) GW156.out)) | (dsimp only; exact Nat.ne_of_lt (Nat.lt_of_lt_of_le (by have := World.block_lt_of_cell? _ _ hw155_1; first | rwa [adb_] at this | exact this) GW156.out))) _).trans (hHeld.2.2.2.2.2.2.2.2.2.2.2.2.2.2.2.2.2.2.2.2.2.2.2.2.2.1)))))))), ((cell_far (p := ⟨gb156, _, none⟩) (by first | exact Nat.ne_of_lt (Nat.lt_of_lt_of_le (by have := World.block_lt_of_cell? _ _ hw155_2; first | rwa [adb_] at this | exact this) GW156.out) | (rw [adb_]; exact Nat.ne_of_lt (Nat.lt_of_lt_of_le (by have := World.block_lt_of_cell? _ _ hw155_2; first | rwa [adb_] at this | exact this) GW156.out)) | (show (Addr.add _ _).block ≠ _; rw [adb_]; exact Nat.ne_of_lt (Nat.lt_of_lt_of_le (by have := World.block_lt_of_cell? _ _ hw155_2; first | rwa [adb_] at this | exact this) GW156.out)) | (dsimp only; exact Nat.ne_of_lt (Nat.lt_of_lt_of_le (by have := World.block_lt_of_cell? _ _ hw155_2; first | rwa [adb_] at this | exact this) GW156.out))) _).trans (((cell_far (p := ⟨gb156, _, none⟩) (by first | exact Nat.ne_of_lt (Nat.lt_of_lt_of_le (by have := World.block_lt_of_cell? _ _ hw155_2; first | rwa [adb_] at this | exact this) GW156.out) | (rw [adb_]; exact Nat.ne_of_lt (Nat.lt_of_lt_of_le (by have := World.block_lt_of_cell? _ _ hw155_2; first | rwa [adb_] at this | exact this) GW156.out)) | (show (Addr.add _ _).block ≠ _; rw [adb_]; exact Nat.ne_of_lt (Nat.lt_of_lt_of_le (by have := World.block_lt_of_cell? _ _ hw155_2; first | rwa [adb_] at this | exact this) GW156.out)) | (dsimp only; exact Nat.ne_of_lt (Nat.lt_of_lt_of_le (by have := World.block_lt_of_cell? _ _ hw155_2; first | rwa [adb_] at this | exact this) GW156.out))) _).trans (((cell_far (p := ⟨gb156, _, none⟩) (by first | exact Nat.ne_of_lt (Nat.lt_of_lt_of_le (by have := World.block_lt_of_cell? _ _ hw155_2; first | rwa [adb_] at this | exact this) GW156.out) | (rw [adb_]; exact Nat.ne_of_lt (Nat.lt_of_lt_of_le (by have := World.block_lt_of_cell? _ _ hw155_2; first | rwa [adb_] at this | exact this) GW156.out)) | (show (Addr.add _ _).block ≠ _; rw [adb_]; exact Nat.ne_of_lt (Nat.lt_of_lt_of_le (by have := World.block_lt_of_cell? _ _ hw155_2; first | rwa [adb_] at this | exact this) GW156.out)) | (dsimp only; exact Nat.ne_of_lt (Nat.lt_of_lt_of_le (by have := World.block_lt_of_cell? _ _ hw155_2; first | rwa [adb_] at this | exact this) GW156.out))) _).trans (((cell_far (p := ⟨gb156, _, none⟩) (by first | exact Nat.ne_of_lt (Nat.lt_of_lt_of_le (by have := World.block_lt_of_cell? _ _ hw155_2; first | rwa [adb_] at this | exact this) GW156.out) | (rw [adb_]; exact Nat.ne_of_lt (Nat.lt_of_lt_of_le (by have := World.block_lt_of_cell? _ _ hw155_2; first | rwa [adb_] at this | exact this) GW156.out)) | (show (Addr.add _ _).block ≠ _; rw [adb_]; exact Nat.ne_of_lt (Nat.lt_of_lt_of_le (by have := World.block_lt_of_cell? _ _ hw155_2; first | rwa [adb_] at this | exact this) GW156.out)) | (dsimp only; exact Nat.ne_of_lt (Nat.lt_of_lt_of_le (by have := World.block_lt_of_cell? _ _ hw155_2; first | rwa [adb_] at this | exact this) GW156.out))) _).trans (hHeld.2.2.2.2.2.2.2.2.2.2.2.2.2.2.2.2.2.2.2.2.2.2.2.2.2.2.1)))))))), ((cell_far (p := ⟨gb156, _, none⟩) (by first | exact Nat.ne_of_lt (Nat.lt_of_lt_of_le (by have := World.block_lt_of_cell? _ _ hw155_3; first | rwa [adb_] at this | exact this) GW156.out) | (rw [adb_]; exact Nat.ne_of_lt (Nat.lt_of_lt_of_le (by have := World.block_lt_of_cell? _ _ hw155_3; first | rwa [adb_] at this | exact this) GW156.out)) | (show (Addr.add _ _).block ≠ _; rw [adb_]; exact Nat.ne_of_lt (Nat.lt_of_lt_of_le (by have := World.block_lt_of_cell? _ _ hw155_3; first | rwa [adb_] at this | exact this) GW156.out)) | (dsimp only; exact Nat.ne_of_lt (Nat.lt_of_lt_of_le (by have := World.block_lt_of_cell? _ _ hw155_3; first | rwa [adb_] at this | exact this) GW156.out))) _).trans (((cell_far (p := ⟨gb156, _, none⟩) (by first | exact Nat.ne_of_lt (Nat.lt_of_lt_of_le (by have := World.block_lt_of_cell? _ _ hw155_3; first | rwa [adb_] at this | exact this) GW156.out) | (rw [adb_]; exact Nat.ne_of_lt (Nat.lt_of_lt_of_le (by have := World.block_lt_of_cell? _ _ hw155_3; first | rwa [adb_] at this | exact this) GW156.out)) | (show (Addr.add _ _).block ≠ _; rw [adb_]; exact Nat.ne_of_lt (Nat.lt_of_lt_of_le (by have := World.block_lt_of_cell? _ _ hw155_3; first | rwa [adb_] at this | exact this) GW156.out)) | (dsimp only; exact Nat.ne_of_lt (Nat.lt_of_lt_of_le (by have := World.block_lt_of_cell? _ _ hw155_3; first | rwa [adb_] at this | exact this) GW156.out))) _).trans (((cell_far (p := ⟨gb156, _, none⟩) (by first | exact Nat.ne_of_lt (Nat.lt_of_lt_of_le (by have := World.block_lt_of_cell? _ _ hw155_3; first | rwa [adb_] at this | exact this) GW156.out) | (rw [adb_]; exact Nat.ne_of_lt (Nat.lt_of_lt_of_le (by have := World.block_lt_of_cell? _ _ hw155_3; first | rwa [adb_] at this | exact this) GW156.out)) | (show (Addr.add _ _).block ≠ _; rw [adb_]; exact Nat.ne_of_lt (Nat.lt_of_lt_of_le (by have := World.block_lt_of_cell? _ _ hw155_3; first | rwa [adb_] at this | exact this) GW156.out)) | (dsimp only; exact Nat.ne_of_lt (Nat.lt_of_lt_of_le (by have := World.block_lt_of_cell? _ _ hw155_3; first | rwa [adb_] at this | exact this) GW156.out))) _).trans (((cell_far (p := ⟨gb156, _, none⟩) (by first | exact Nat.ne_of_lt (Nat.lt_of_lt_of_le (by have := World.block_lt_of_cell? _ _ hw155_3; first | rwa [adb_] at this | exact this) GW156.out) | (rw [adb_]; exact Nat.ne_of_lt (Nat.lt_of_lt_of_le (by have := World.block_lt_of_cell? _ _ hw155_3; first | rwa [adb_] at this | exact this) GW156.out)) | (show (Addr.add _ _).block ≠ _; rw [adb_]; exact Nat.ne_of_lt (Nat.lt_of_lt_of_le (by have := World.block_lt_of_cell? _ _ hw155_3; first | rwa [adb_] at this | exact this) GW156.out)) | (dsimp only; exact Nat.ne_of_lt (Nat.lt_of_lt_of_le (by have := World.block_lt_of_cell? _ _ hw155_3; first | rwa [adb_] at this | exact this) GW156.out))) _).trans (hHeld.2.2.2.2.2.2.2.2.2.2.2.2.2.2.2.2.2.2.2.2.2.2.2.2.2.2.2))))))))⟩ (fun hHeld => ?_)
          clear hK K
          refine one_ (i := 13) (N := none) (bl_ 14 16383) rfl rfl (one_of HT_.out (by kernel_rfl)) (by decide) (fun K hK => ?_)
          have hs39 : w34.cell? ⟨gb157, 0, none⟩ = some (.string (⟨#[]⟩ : ByteArray)) := (bc1_ BK157.out 0).trans rfl
          have hfs39 := bf1_ BK157.out 0
          have hns39_0 := NB140_157.out
          have hns39_1 := NB141_157.out
          have hns39_2 := NB156_157.out
          have hms39_0 := NB157_140.out
          have hms39_1 := NB157_141.out
          have hms39_2 := NB157_156.out
          have hs40 : w34.cell? ⟨gb157, 1, none⟩ = some (.int .i64 0) := (bc1_ BK157.out 1).trans rfl
          have hfs40 := bf1_ BK157.out 1
          have hns40_0 := NB140_157.out
          have hns40_1 := NB141_157.out
          have hns40_2 := NB156_157.out
          have hms40_0 := NB157_140.out
          have hms40_1 := NB157_141.out
          have hms40_2 := NB157_156.out
          have hs41 : w34.cell? ⟨gb157, 2, none⟩ = some (.int .i64 0) := (bc1_ BK157.out 2).trans rfl
          have hfs41 := bf1_ BK157.out 2
          have hns41_0 := NB140_157.out
          have hns41_1 := NB141_157.out
          have hns41_2 := NB156_157.out
          have hms41_0 := NB157_140.out
          have hms41_1 := NB157_141.out
          have hms41_2 := NB157_156.out
          have hs42 : w34.cell? ⟨gb157, 3, none⟩ = some (.string (⟨#[]⟩ : ByteArray)) := (bc1_ BK157.out 3).trans rfl
          have hfs42 := bf1_ BK157.out 3
          have hns42_0 := NB140_157.out
          have hns42_1 := NB141_157.out
          have hns42_2 := NB156_157.out
          have hms42_0 := NB157_140.out
          have hms42_1 := NB157_141.out
          have hms42_2 := NB157_156.out
          refine skip_ (w1 := ?_) (by rfl) rfl ?_ ?_
          rotate_left
          ·go_simp
           rfl
          refine hK.out _ _ ⟨(by (iterate 4 refine (cell_far (p := ⟨gb157, _, none⟩) NB140_157.out _).trans ?_); exact hHeld.1), (by (iterate 4 refine (cell_far (p := ⟨gb157, _, none⟩) NB140_157.out _).trans ?_); exact hHeld.2.1), (by (iterate 4 refine (cell_far (p := ⟨gb157, _, none⟩) NB140_157.out _).trans ?_); exact hHeld.2.2.1), (by (iterate 4 refine (cell_far (p := ⟨gb157, _, none⟩) NB140_157.out _).trans ?_); exact hHeld.2.2.2.1), (by (iterate 4 refine (cell_far (p := ⟨gb157, _, none⟩) NB140_157.out _).trans ?_); exact hHeld.2.2.2.2.1), (by (iterate 4 refine (cell_far (p := ⟨gb157, _, none⟩) NB140_157.out _).trans ?_); exact hHeld.2.2.2.2.2.1), (by (iterate 4 refine (cell_far (p := ⟨gb157, _, none⟩) NB140_157.out _).trans ?_); exact hHeld.2.2.2.2.2.2.1), (by (iterate 4 refine (cell_far (p := ⟨gb157, _, none⟩) NB140_157.out _).trans ?_); exact hHeld.2.2.2.2.2.2.2.1), (by (iterate 4 refine (cell_far (p := ⟨gb157, _, none⟩) NB140_157.out _).trans ?_); exact hHeld.2.2.2.2.2.2.2.2.1), (by (iterate 4 refine (cell_far (p := ⟨gb157, _, none⟩) NB140_157.out _).trans ?_); exact hHeld.2.2.2.2.2.2.2.2.2.1), (by (iterate 4 refine (cell_far (p := ⟨gb157, _, none⟩) NB141_157.out _).trans ?_); exact hHeld.2.2.2.2.2.2.2.2.2.2.1), (by (iterate 4 refine (cell_far (p := ⟨gb157, _, none⟩) NB141_157.out _).trans ?_); exact hHeld.2.2.2.2.2.2.2.2.2.2.2.1), (by (iterate 4 refine (cell_far (p := ⟨gb157, _, none⟩) NB141_157.out _).trans ?_); exact hHeld.2.2.2.2.2.2.2.2.2.2.2.2.1), (by (iterate 4 refine (cell_far (p := ⟨gb157, _, none⟩) NB141_157.out _).trans ?_); exact hHeld.2.2.2.2.2.2.2.2.2.2.2.2.2.1), (by (iterate 4 refine (cell_far (p := ⟨gb157, _, none⟩) NB141_157.out _).trans ?_); exact hHeld.2.2.2.2.2.2.2.2.2.2.2.2.2.2.1), (by (iterate 4 refine (cell_far (p := ⟨gb157, _, none⟩) NB141_157.out _).trans ?_); exact hHeld.2.2.2.2.2.2.2.2.2.2.2.2.2.2.2.1), (by (iterate 4 refine (cell_far (p := ⟨gb157, _, none⟩) NB141_157.out _).trans ?_); exact hHeld.2.2.2.2.2.2.2.2.2.2.2.2.2.2.2.2.1), (by (iterate 4 refine (cell_far (p := ⟨gb157, _, none⟩) NB141_157.out _).trans ?_); exact hHeld.2.2.2.2.2.2.2.2.2.2.2.2.2.2.2.2.2.1), (by (iterate 4 refine (cell_far (p := ⟨gb157, _, none⟩) NB141_157.out _).trans ?_); exact hHeld.2.2.2.2.2.2.2.2.2.2.2.2.2.2.2.2.2.2.1), (by (iterate 4 refine (cell_far (p := ⟨gb157, _, none⟩) NB141_157.out _).trans ?_); exact hHeld.2.2.2.2.2.2.2.2.2.2.2.2.2.2.2.2.2.2.2.1), ((cell_far (p := ⟨gb157, _, none⟩) (by first | exact Nat.ne_of_lt (Nat.lt_of_lt_of_le (by have := World.block_lt_of_cell? _ _ hw154_0; first | rwa [adb_] at this | exact this) GW157.out) | (rw [adb_]; exact Nat.ne_of_lt (Nat.lt_of_lt_of_le (by have := World.block_lt_of_cell? _ _ hw154_0; first | rwa [adb_] at this | exact this) GW157.out)) | (show (Addr.add _ _).block ≠ _; rw [adb_]; exact Nat.ne_of_lt (Nat.lt_of_lt_of_le (by have := World.block_lt_of_cell? _ _ hw154_0; first | rwa [adb_] at this | exact this) GW157.out)) | (dsimp only; exact Nat.ne_of_lt (Nat.lt_of_lt_of_le (by have := World.block_lt_of_cell? _ _ hw154_0; first | rwa [adb_] at this | exact this) GW157.out))) _).trans (((cell_far (p := ⟨gb157, _, none⟩) (by first | exact Nat.ne_of_lt (Nat.lt_of_lt_of_le (by have := World.block_lt_of_cell? _ _ hw154_0; first | rwa [adb_] at this | exact this) GW157.out) | (rw [adb_]; exact Nat.ne_of_lt (Nat.lt_of_lt_of_le (by have := World.block_lt_of_cell? _ _ hw154_0; first | rwa [adb_] at this | exact this) GW157.out)) | (show (Addr.add _ _).block ≠ _; rw [adb_]; exact Nat.ne_of_lt (Nat.lt_of_lt_of_le (by have := World.block_lt_of_cell? _ _ hw154_0; first | rwa [adb_] at this | exact this) GW157.out)) | (dsimp only; exact Nat.ne_of_lt (Nat.lt_of_lt_of_le (by have := World.block_lt_of_cell? _ _ hw154_0; first | rwa [adb_] at this | exact this) GW157.out))) _).trans (((cell_far (p := ⟨gb157, _, none⟩) (by first | exact Nat.ne_of_lt (Nat.lt_of_lt_of_le (by have := World.block_lt_of_cell? _ _ hw154_0; first | rwa [adb_] at this | exact this) GW157.out) | (rw [adb_]; exact Nat.ne_of_lt (Nat.lt_of_lt_of_le (by have := World.block_lt_of_cell? _ _ hw154_0; first | rwa [adb_] at this | exact this) GW157.out)) | (show (Addr.add _ _).block ≠ _; rw [adb_]; exact Nat.ne_of_lt (Nat.lt_of_lt_of_le (by have := World.block_lt_of_cell? _ _ hw154_0; first | rwa [adb_] at this | exact this) GW157.out)) | (dsimp only; exact Nat.ne_of_lt (Nat.lt_of_lt_of_le (by have := World.block_lt_of_cell? _ _ hw154_0; first | rwa [adb_] at this | exact this) GW157.out))) _).trans (((cell_far (p := ⟨gb157, _, none⟩) (by first | exact Nat.ne_of_lt (Nat.lt_of_lt_of_le (by have := World.block_lt_of_cell? _ _ hw154_0; first | rwa [adb_] at this | exact this) GW157.out) | (rw [adb_]; exact Nat.ne_of_lt (Nat.lt_of_lt_of_le (by have := World.block_lt_of_cell? _ _ hw154_0; first | rwa [adb_] at this | exact this) GW157.out)) | (show (Addr.add _ _).block ≠ _; rw [adb_]; exact Nat.ne_of_lt (Nat.lt_of_lt_of_le (by have := World.block_lt_of_cell? _ _ hw154_0; first | rwa [adb_] at this | exact this) GW157.out)) | (dsimp only; exact Nat.ne_of_lt (Nat.lt_of_lt_of_le (by have := World.block_lt_of_cell? _ _ hw154_0; first | rwa [adb_] at this | exact this) GW157.out))) _).trans (hHeld.2.2.2.2.2.2.2.2.2.2.2.2.2.2.2.2.2.2.2.2.1)))))))), ((cell_far (p := ⟨gb157, _, none⟩) (by first | exact Nat.ne_of_lt (Nat.lt_of_lt_of_le (by have := World.block_lt_of_cell? _ _ hw154_1; first | rwa [adb_] at this | exact this) GW157.out) | (rw [adb_]; exact Nat.ne_of_lt (Nat.lt_of_lt_of_le (by have := World.block_lt_of_cell? _ _ hw154_1; first | rwa [adb_] at this | exact this) GW157.out)) | (show (Addr.add _ _).block ≠ _; rw [adb_]; exact Nat.ne_of_lt (Nat.lt_of_lt_of_le (by have := World.block_lt_of_cell? _ _ hw154_1; first | rwa [adb_] at this | exact this) GW157.out)) | (dsimp only; exact Nat.ne_of_lt (Nat.lt_of_lt_of_le (by have := World.block_lt_of_cell? _ _ hw154_1; first | rwa [adb_] at this | exact this) GW157.out))) _).trans (((cell_far (p := ⟨gb157, _, none⟩) (by first | exact Nat.ne_of_lt (Nat.lt_of_lt_of_le (by have := World.block_lt_of_cell? _ _ hw154_1; first | rwa [adb_] at this | exact this) GW157.out) | (rw [adb_]; exact Nat.ne_of_lt (Nat.lt_of_lt_of_le (by have := World.block_lt_of_cell? _ _ hw154_1; first | rwa [adb_] at this | exact this) GW157.out)) | (show (Addr.add _ _).block ≠ _; rw [adb_]; exact Nat.ne_of_lt (Nat.lt_of_lt_of_le (by have := World.block_lt_of_cell? _ _ hw154_1; first | rwa [adb_] at this | exact this) GW157.out)) | (dsimp only; exact Nat.ne_of_lt (Nat.lt_of_lt_of_le (by have := World.block_lt_of_cell? _ _ hw154_1; first | rwa [adb_] at this | exact this) GW157.out))) _).trans (((cell_far (p := ⟨gb157, _, none⟩) (by first | exact Nat.ne_of_lt (Nat.lt_of_lt_of_le (by have := World.block_lt_of_cell? _ _ hw154_1; first | rwa [adb_] at this | exact this) GW157.out) | (rw [adb_]; exact Nat.ne_of_lt (Nat.lt_of_lt_of_le (by have := World.block_lt_of_cell? _ _ hw154_1; first | rwa [adb_] at this | exact this) GW157.out)) | (show (Addr.add _ _).block ≠ _; rw [adb_]; exact Nat.ne_of_lt (Nat.lt_of_lt_of_le (by have := World.block_lt_of_cell? _ _ hw154_1; first | rwa [adb_] at this | exact this) GW157.out)) | (dsimp only; exact Nat.ne_of_lt (Nat.lt_of_lt_of_le (by have := World.block_lt_of_cell? _ _ hw154_1; first | rwa [adb_] at this | exact this) GW157.out))) _).trans (((cell_far (p := ⟨gb157, _, none⟩) (by first | exact Nat.ne_of_lt (Nat.lt_of_lt_of_le (by have := World.block_lt_of_cell? _ _ hw154_1; first | rwa [adb_] at this | exact this) GW157.out) | (rw [adb_]; exact Nat.ne_of_lt (Nat.lt_of_lt_of_le (by have := World.block_lt_of_cell? _ _ hw154_1; first | rwa [adb_] at this | exact this) GW157.out)) | (show (Addr.add _ _).block ≠ _; rw [adb_]; exact Nat.ne_of_lt (Nat.lt_of_lt_of_le (by have := World.block_lt_of_cell? _ _ hw154_1; first | rwa [adb_] at this | exact this) GW157.out)) | (dsimp only; exact Nat.ne_of_lt (Nat.lt_of_lt_of_le (by have := World.block_lt_of_cell? _ _ hw154_1; first | rwa [adb_] at this | exact this) GW157.out))) _).trans (hHeld.2.2.2.2.2.2.2.2.2.2.2.2.2.2.2.2.2.2.2.2.2.1)))))))), ((cell_far (p := ⟨gb157, _, none⟩) (by first | exact Nat.ne_of_lt (Nat.lt_of_lt_of_le (by have := World.block_lt_of_cell? _ _ hw154_2; first | rwa [adb_] at this | exact this) GW157.out) | (rw [adb_]; exact Nat.ne_of_lt (Nat.lt_of_lt_of_le (by have := World.block_lt_of_cell? _ _ hw154_2; first | rwa [adb_] at this | exact this) GW157.out)) | (show (Addr.add _ _).block ≠ _; rw [adb_]; exact Nat.ne_of_lt (Nat.lt_of_lt_of_le (by have := World.block_lt_of_cell? _ _ hw154_2; first | rwa [adb_] at this | exact this) GW157.out)) | (dsimp only; exact Nat.ne_of_lt (Nat.lt_of_lt_of_le (by have := World.block_lt_of_cell? _ _ hw154_2; first | rwa [adb_] at this | exact this) GW157.out))) _).trans (((cell_far (p := ⟨gb157, _, none⟩) (by first | exact Nat.ne_of_lt (Nat.lt_of_lt_of_le (by have := World.block_lt_of_cell? _ _ hw154_2; first | rwa [adb_] at this | exact this) GW157.out) | (rw [adb_]; exact Nat.ne_of_lt (Nat.lt_of_lt_of_le (by have := World.block_lt_of_cell? _ _ hw154_2; first | rwa [adb_] at this | exact this) GW157.out)) | (show (Addr.add _ _).block ≠ _; rw [adb_]; exact Nat.ne_of_lt (Nat.lt_of_lt_of_le (by have := World.block_lt_of_cell? _ _ hw154_2; first | rwa [adb_] at this | exact this) GW157.out)) | (dsimp only; exact Nat.ne_of_lt (Nat.lt_of_lt_of_le (by have := World.block_lt_of_cell? _ _ hw154_2; first | rwa [adb_] at this | exact this) GW157.out))) _).trans (((cell_far (p := ⟨gb157, _, none⟩) (by first | exact Nat.ne_of_lt (Nat.lt_of_lt_of_le (by have := World.block_lt_of_cell? _ _ hw154_2; first | rwa [adb_] at this | exact this) GW157.out) | (rw [adb_]; exact Nat.ne_of_lt (Nat.lt_of_lt_of_le (by have := World.block_lt_of_cell? _ _ hw154_2; first | rwa [adb_] at this | exact this) GW157.out)) | (show (Addr.add _ _).block ≠ _; rw [adb_]; exact Nat.ne_of_lt (Nat.lt_of_lt_of_le (by have := World.block_lt_of_cell? _ _ hw154_2; first | rwa [adb_] at this | exact this) GW157.out)) | (dsimp only; exact Nat.ne_of_lt (Nat.lt_of_lt_of_le (by have := World.block_lt_of_cell? _ _ hw154_2; first | rwa [adb_] at this | exact this) GW157.out))) _).trans (((cell_far (p := ⟨gb157, _, none⟩) (by first | exact Nat.ne_of_lt (Nat.lt_of_lt_of_le (by have := World.block_lt_of_cell? _ _ hw154_2; first | rwa [adb_] at this | exact this) GW157.out) | (rw [adb_]; exact Nat.ne_of_lt (Nat.lt_of_lt_of_le (by have := World.block_lt_of_cell? _ _ hw154_2; first | rwa [adb_] at this | exact this) GW157.out)) | (show (Addr.add _ _).block ≠ _; rw [adb_]; exact Nat.ne_of_lt (Nat.lt_of_lt_of_le (by have := World.block_lt_of_cell? _ _ hw154_2; first | rwa [adb_] at this | exact this) GW157.out)) | (dsimp only; exact Nat.ne_of_lt (Nat.lt_of_lt_of_le (by have := World.block_lt_of_cell? _ _ hw154_2; first | rwa [adb_] at this | exact this) GW157.out))) _).trans (hHeld.2.2.2.2.2.2.2.2.2.2.2.2.2.2.2.2.2.2.2.2.2.2.1)))))))), ((cell_far (p := ⟨gb157, _, none⟩) (by first | exact Nat.ne_of_lt (Nat.lt_of_lt_of_le (by have := World.block_lt_of_cell? _ _ hw154_3; first | rwa [adb_] at this | exact this) GW157.out) | (rw [adb_]; exact Nat.ne_of_lt (Nat.lt_of_lt_of_le (by have := World.block_lt_of_cell? _ _ hw154_3; first | rwa [adb_] at this | exact this) GW157.out)) | (show (Addr.add _ _).block ≠ _; rw [adb_]; exact Nat.ne_of_lt (Nat.lt_of_lt_of_le (by have := World.block_lt_of_cell? _ _ hw154_3; first | rwa [adb_] at this | exact this) GW157.out)) | (dsimp only; exact Nat.ne_of_lt (Nat.lt_of_lt_of_le (by have := World.block_lt_of_cell? _ _ hw154_3; first | rwa [adb_] at this | exact this) GW157.out))) _).trans (((cell_far (p := ⟨gb157, _, none⟩) (by first | exact Nat.ne_of_lt (Nat.lt_of_lt_of_le (by have := World.block_lt_of_cell? _ _ hw154_3; first | rwa [adb_] at this | exact this) GW157.out) | (rw [adb_]; exact Nat.ne_of_lt (Nat.lt_of_lt_of_le (by have := World.block_lt_of_cell? _ _ hw154_3; first | rwa [adb_] at this | exact this) GW157.out)) | (show (Addr.add _ _).block ≠ _; rw [adb_]; exact Nat.ne_of_lt (Nat.lt_of_lt_of_le (by have := World.block_lt_of_cell? _ _ hw154_3; first | rwa [adb_] at this | exact this) GW157.out)) | (dsimp only; exact Nat.ne_of_lt (Nat.lt_of_lt_of_le (by have := World.block_lt_of_cell? _ _ hw154_3; first | rwa [adb_] at this | exact this) GW157.out))) _).trans (((cell_far (p := ⟨gb157, _, none⟩) (by first | exact Nat.ne_of_lt (Nat.lt_of_lt_of_le (by have := World.block_lt_of_cell? _ _ hw154_3; first | rwa [adb_] at this | exact this) GW157.out) | (rw [adb_]; exact Nat.ne_of_lt (Nat.lt_of_lt_of_le (by have := World.block_lt_of_cell? _ _ hw154_3; first | rwa [adb_] at this | exact this) GW157.out)) | (show (Addr.add _ _).block ≠ _; rw [adb_]; exact Nat.ne_of_lt (Nat.lt_of_lt_of_le (by have := World.block_lt_of_cell? _ _ hw154_3; first | rwa [adb_] at this | exact this) GW157.out)) | (dsimp only; exact Nat.ne_of_lt (Nat.lt_of_lt_of_le (by have := World.block_lt_of_cell? _ _ hw154_3; first | rwa [adb_] at this | exact this) GW157.out))) _).trans (((cell_far (p := ⟨gb157, _, none⟩) (by first | exact Nat.ne_of_lt (Nat.lt_of_lt_of_le (by have := World.block_lt_of_cell? _ _ hw154_3; first | rwa [adb_] at this | exact this) GW157.out) | (rw [adb_]; exact Nat.ne_of_lt (Nat.lt_of_lt_of_le (by have := World.block_lt_of_cell? _ _ hw154_3; first | rwa [adb_] at this | exact this) GW157.out)) | (show (Addr.add _ _).block ≠ _; rw [adb_]; exact Nat.ne_of_lt (Nat.lt_of_lt_of_le (by have := World.block_lt_of_cell? _ _ hw154_3; first | rwa [adb_] at this | exact this) GW157.out)) | (dsimp only; exact Nat.ne_of_lt (Nat.lt_of_lt_of_le (by have := World.block_lt_of_cell? _ _ hw154_3; first | rwa [adb_] at this | exact this) GW157.out))) _).trans (hHeld.2.2.2.2.2.2.2.2.2.2.2.2.2.2.2.2.2.2.2.2.2.2.2.1)))))))), ((cell_far (p := ⟨gb157, _, none⟩) (by first | exact Nat.ne_of_lt (Nat.lt_of_lt_of_le (by have := World.block_lt_of_cell? _ _ hw155_0; first | rwa [adb_] at this | exact this) GW157.out) | (rw [adb_]; exact Nat.ne_of_lt (Nat.lt_of_lt_of_le (by have := World.block_lt_of_cell? _ _ hw155_0; first | rwa [adb_] at this | exact this) GW157.out)) | (show (Addr.add _ _).block ≠ _; rw [adb_]; exact Nat.ne_of_lt (Nat.lt_of_lt_of_le (by have := World.block_lt_of_cell? _ _ hw155_0; first | rwa [adb_] at this | exact this) GW157.out)) | (dsimp only; exact Nat.ne_of_lt (Nat.lt_of_lt_of_le (by have := World.block_lt_of_cell? _ _ hw155_0; first | rwa [adb_] at this | exact this) GW157.out))) _).trans (((cell_far (p := ⟨gb157, _, none⟩) (by first | exact Nat.ne_of_lt (Nat.lt_of_lt_of_le (by have := World.block_lt_of_cell? _ _ hw155_0; first | rwa [adb_] at this | exact this) GW157.out) | (rw [adb_]; exact Nat.ne_of_lt (Nat.lt_of_lt_of_le (by have := World.block_lt_of_cell? _ _ hw155_0; first | rwa [adb_] at this | exact this) GW157.out)) | (show (Addr.add _ _).block ≠ _; rw [adb_]; exact Nat.ne_of_lt (Nat.lt_of_lt_of_le (by have := World.block_lt_of_cell? _ _ hw155_0; first | rwa [adb_] at this | exact this) GW157.out)) | (dsimp only; exact Nat.ne_of_lt (Nat.lt_of_lt_of_le (by have := World.block_lt_of_cell? _ _ hw155_0; first | rwa [adb_] at this | exact this) GW157.out))) _).trans (((cell_far (p := ⟨gb157, _, none⟩) (by first | exact Nat.ne_of_lt (Nat.lt_of_lt_of_le (by have := World.block_lt_of_cell? _ _ hw155_0; first | rwa [adb_] at this | exact this) GW157.out) | (rw [adb_]; exact Nat.ne_of_lt (Nat.lt_of_lt_of_le (by have := World.block_lt_of_cell? _ _ hw155_0; first | rwa [adb_] at this | exact this) GW157.out)) | (show (Addr.add _ _).block ≠ _; rw [adb_]; exact Nat.ne_of_lt (Nat.lt_of_lt_of_le (by have := World.block_lt_of_cell? _ _ hw155_0; first | rwa [adb_] at this | exact this) GW157.out)) | (dsimp only; exact Nat.ne_of_lt (Nat.lt_of_lt_of_le (by have := World.block_lt_of_cell? _ _ hw155_0; first | rwa [adb_] at this | exact this) GW157.out))) _).trans (((cell_far (p := ⟨gb157, _, none⟩) (by first | exact Nat.ne_of_lt (Nat.lt_of_lt_of_le (by have := World.block_lt_of_cell? _ _ hw155_0; first | rwa [adb_] at this | exact this) GW157.out) | (rw [adb_]; exact Nat.ne_of_lt (Nat.lt_of_lt_of_le (by have := World.block_lt_of_cell? _ _ hw155_0; first | rwa [adb_] at this | exact this) GW157.out)) | (show (Addr.add _ _).block ≠ _; rw [adb_]; exact Nat.ne_of_lt (Nat.lt_of_lt_of_le (by have := World.block_lt_of_cell? _ _ hw155_0; first | rwa [adb_] at this | exact this) GW157.out)) | (dsimp only; exact Nat.ne_of_lt (Nat.lt_of_lt_of_le (by have := World.block_lt_of_cell? _ _ hw155_0; first | rwa [adb_] at this | exact this) GW157.out))) _).trans (hHeld.2.2.2.2.2.2.2.2.2.2.2.2.2.2.2.2.2.2.2.2.2.2.2.2.1)))))))), ((cell_far (p := ⟨gb157, _, none⟩) (by first | exact Nat.ne_of_lt (Nat.lt_of_lt_of_le (by have := World.block_lt_of_cell? _ _ hw155_1; first | rwa [adb_] at this | exact this) GW157.out) | (rw [adb_]; exact Nat.ne_of_lt (Nat.lt_of_lt_of_le (by have := World.block_lt_of_cell? _ _ hw155_1; first | rwa [adb_] at this | exact this) GW157.out)) | (show (Addr.add _ _).block ≠ _; rw [adb_]; exact Nat.ne_of_lt (Nat.lt_of_lt_of_le (by have := World.block_lt_of_cell? _ _ hw155_1; first | rwa [adb_] at this | exact this) GW157.out)) | (dsimp only; exact Nat.ne_of_lt (Nat.lt_of_lt_of_le (by have := World.block_lt_of_cell? _ _ hw155_1; first | rwa [adb_] at this | exact this) GW157.out))) _).trans (((cell_far (p := ⟨gb157, _, none⟩) (by first | exact Nat.ne_of_lt (Nat.lt_of_lt_of_le (by have := World.block_lt_of_cell? _ _ hw155_1; first | rwa [adb_] at this | exact this) GW157.out) | (rw [adb_]; exact Nat.ne_of_lt (Nat.lt_of_lt_of_le (by have := World.block_lt_of_cell? _ _ hw155_1; first | rwa [adb_] at this | exact this) GW157.out)) | (show (Addr.add _ _).block ≠ _; rw [adb_]; exact Nat.ne_of_lt (Nat.lt_of_lt_of_le (by have := World.block_lt_of_cell? _ _ hw155_1; first | rwa [adb_] at this | exact this) GW157.out)) | (dsimp only; exact Nat.ne_of_lt (Nat.lt_of_lt_of_le (by have := World.block_lt_of_cell? _ _ hw155_1; first | rwa [adb_] at this | exact this) GW157.out))) _).trans (((cell_far (p := ⟨gb157, _, none⟩) (by first | exact Nat.ne_of_lt (Nat.lt_of_lt_of_le (by have := World.block_lt_of_cell? _ _ hw155_1; first | rwa [adb_] at this | exact this) GW157.out) | (rw [adb_]; exact Nat.ne_of_lt (Nat.lt_of_lt_of_le (by have := World.block_lt_of_cell? _ _ hw155_1; first | rwa [adb_] at this | exact this) GW157.out)) | (show (Addr.add _ _).block ≠ _; rw [adb_]; exact Nat.ne_of_lt (Nat.lt_of_lt_of_le (by have := World.block_lt_of_cell? _ _ hw155_1; first | rwa [adb_] at this | exact this) GW157.out)) | (dsimp only; exact Nat.ne_of_lt (Nat.lt_of_lt_of_le (by have := World.block_lt_of_cell? _ _ hw155_1; first | rwa [adb_] at this | exact this) GW157.out))) _).trans (((cell_far (p := ⟨gb157, _, none⟩) (by first | exact Nat.ne_of_lt (Nat.lt_of_lt_of_le (by have := World.block_lt_of_cell? _ _ hw155_1; first | rwa [adb_] at this | exact this) GW157.out) | (rw [adb_]; exact Nat.ne_of_lt (Nat.lt_of_lt_of_le (by have := World.block_lt_of_cell? _ _ hw155_1; first | rwa [adb_] at this | exact this) GW157.out)) | (show (Addr.add _ _).block ≠ _; rw [adb_]; exact Nat.ne_of_lt (Nat.lt_of_lt_of_le (by have := World.block_lt_of_cell? _ _ hw155_1; first | rwa [adb_] at this | exact this) GW157.out)) | (dsimp only; exact Nat.ne_of_lt (Nat.lt_of_lt_of_le (by have := World.block_lt_of_cell? _ _ hw155_1; first | rwa [adb_] at this | exact this) GW157.out))) _).trans (hHeld.2.2.2.2.2.2.2.2.2.2.2.2.2.2.2.2.2.2.2.2.2.2.2.2.2.1)))))))), ((cell_far (p := ⟨gb157, _, none⟩) (by first | exact Nat.ne_of_lt (Nat.lt_of_lt_of_le (by have := World.block_lt_of_cell? _ _ hw155_2; first | rwa [adb_] at this | exact this) GW157.out) | (rw [adb_]; exact Nat.ne_of_lt (Nat.lt_of_lt_of_le (by have := World.block_lt_of_cell? _ _ hw155_2; first | rwa [adb_] at this | exact this) GW157.out)) | (show (Addr.add _ _).block ≠ _; rw [adb_]; exact Nat.ne_of_lt (Nat.lt_of_lt_of_le (by have := World.block_lt_of_cell? _ _ hw155_2; first | rwa [adb_] at this | exact this) GW157.out)) | (dsimp only; exact Nat.ne_of_lt (Nat.lt_of_lt_of_le (by have := World.block_lt_of_cell? _ _ hw155_2; first | rwa [adb_] at this | exact this) GW157.out))) _).trans (((cell_far (p := ⟨gb157, _, none⟩) (by first | exact Nat.ne_of_lt (Nat.lt_of_lt_of_le (by have := World.block_lt_of_cell? _ _ hw155_2; first | rwa [adb_] at this | exact this) GW157.out) | (rw [adb_]; exact Nat.ne_of_lt (Nat.lt_of_lt_of_le (by have := World.block_lt_of_cell? _ _ hw155_2; first | rwa [adb_] at this | exact this) GW157.out)) | (show (Addr.add _ _).block ≠ _; rw [adb_]; exact Nat.ne_of_lt (Nat.lt_of_lt_of_le (by have := World.block_lt_of_cell? _ _ hw155_2; first | rwa [adb_] at this | exact this) GW157.out)) | (dsimp only; exact Nat.ne_of_lt (Nat.lt_of_lt_of_le (by have := World.block_lt_of_cell? _ _ hw155_2; first | rwa [adb_] at this | exact this) GW157.out))) _).trans (((cell_far (p := ⟨gb157, _, none⟩) (by first | exact Nat.ne_of_lt (Nat.lt_of_lt_of_le (by have := World.block_lt_of_cell? _ _ hw155_2; first | rwa [adb_] at this | exact this) GW157.out) | (rw [adb_]; exact Nat.ne_of_lt (Nat.lt_of_lt_of_le (by have := World.block_lt_of_cell? _ _ hw155_2; first | rwa [adb_] at this | exact this) GW157.out)) | (show (Addr.add _ _).block ≠ _; rw [adb_]; exact Nat.ne_of_lt (Nat.lt_of_lt_of_le (by have := World.block_lt_of_cell? _ _ hw155_2; first | rwa [adb_] at this | exact this) GW157.out)) | (dsimp only; exact Nat.ne_of_lt (Nat.lt_of_lt_of_le (by have := World.block_lt_of_cell? _ _ hw155_2; first | rwa [adb_] at this | exact this) GW157.out))) _).trans (((cell_far (p := ⟨gb157, _, none⟩) (by first | exact Nat.ne_of_lt (Nat.lt_of_lt_of_le (by have := World.block_lt_of_cell? _ _ hw155_2; first | rwa [adb_] at this | exact this) GW157.out) | (rw [adb_]; exact Nat.ne_of_lt (Nat.lt_of_lt_of_le (by have := World.block_lt_of_cell? _ _ hw155_2; first | rwa [adb_] at this | exact this) GW157.out)) | (show (Addr.add _ _).block ≠ _; rw [adb_]; exact Nat.ne_of_lt (Nat.lt_of_lt_of_le (by have := World.block_lt_of_cell? _ _ hw155_2; first | rwa [adb_] at this | exact this) GW157.out)) | (dsimp only; exact Nat.ne_of_lt (Nat.lt_of_lt_of_le (by have := World.block_lt_of_cell? _ _ hw155_2; first | rwa [adb_] at this | exact this) GW157.out))) _).trans (hHeld.2.2.2.2.2.2.2.2.2.2.2.2.2.2.2.2.2.2.2.2.2.2.2.2.2.2.1)))))))), ((cell_far (p := ⟨gb157, _, none⟩) (by first | exact Nat.ne_of_lt (Nat.lt_of_lt_of_le (by have := World.block_lt_of_cell? _ _ hw155_3; first | rwa [adb_] at this | exact this) GW157.out) | (rw [adb_]; exact Nat.ne_of_lt (Nat.lt_of_lt_of_le (by have := World.block_lt_of_cell? _ _ hw155_3; first | rwa [adb_] at this | exact this) GW157.out)) | (show (Addr.add _ _).block ≠ _; rw [adb_]; exact Nat.ne_of_lt (Nat.lt_of_lt_of_le (by have := World.block_lt_of_cell? _ _ hw155_3; first | rwa [adb_] at this | exact this) GW157.out)) | (dsimp only; exact Nat.ne_of_lt (Nat.lt_of_lt_of_le (by have := World.block_lt_of_cell? _ _ hw155_3; first | rwa [adb_] at this | exact this) GW157.out))) _).trans (((cell_far (p := ⟨gb157, _, none⟩) (by first | exact Nat.ne_of_lt (Nat.lt_of_lt_of_le (by have := World.block_lt_of_cell? _ _ hw155_3; first | rwa [adb_] at this | exact this) GW157.out) | (rw [adb_]; exact Nat.ne_of_lt (Nat.lt_of_lt_of_le (by have := World.block_lt_of_cell? _ _ hw155_3; first | rwa [adb_] at this | exact this) GW157.out)) | (show (Addr.add _ _).block ≠ _; rw [adb_]; exact Nat.ne_of_lt (Nat.lt_of_lt_of_le (by have := World.block_lt_of_cell? _ _ hw155_3; first | rwa [adb_] at this | exact this) GW157.out)) | (dsimp only; exact Nat.ne_of_lt (Nat.lt_of_lt_of_le (by have := World.block_lt_of_cell? _ _ hw155_3; first | rwa [adb_] at this | exact this) GW157.out))) _).trans (((cell_far (p := ⟨gb157, _, none⟩) (by first | exact Nat.ne_of_lt (Nat.lt_of_lt_of_le (by have := World.block_lt_of_cell? _ _ hw155_3; first | rwa [adb_] at this | exact this) GW157.out) | (rw [adb_]; exact Nat.ne_of_lt (Nat.lt_of_lt_of_le (by have := World.block_lt_of_cell? _ _ hw155_3; first | rwa [adb_] at this | exact this) GW157.out)) | (show (Addr.add _ _).block ≠ _; rw [adb_]; exact Nat.ne_of_lt (Nat.lt_of_lt_of_le (by have := World.block_lt_of_cell? _ _ hw155_3; first | rwa [adb_] at this | exact this) GW157.out)) | (dsimp only; exact Nat.ne_of_lt (Nat.lt_of_lt_of_le (by have := World.block_lt_of_cell? _ _ hw155_3; first | rwa [adb_] at this | exact this) GW157.out))) _).trans (((cell_far (p := ⟨gb157, _, none⟩) (by first | exact Nat.ne_of_lt (Nat.lt_of_lt_of_le (by have := World.block_lt_of_cell? _ _ hw155_3; first | rwa [adb_] at this | exact this) GW157.out) | (rw [adb_]; exact Nat.ne_of_lt (Nat.lt_of_lt_of_le (by have := World.block_lt_of_cell? _ _ hw155_3; first | rwa [adb_] at this | exact this) GW157.out)) | (show (Addr.add _ _).block ≠ _; rw [adb_]; exact Nat.ne_of_lt (Nat.lt_of_lt_of_le (by have := World.block_lt_of_cell? _ _ hw155_3; first | rwa [adb_] at this | exact this) GW157.out)) | (dsimp only; exact Nat.ne_of_lt (Nat.lt_of_lt_of_le (by have := World.block_lt_of_cell? _ _ hw155_3; first | rwa [adb_] at this | exact this) GW157.out))) _).trans (hHeld.2.2.2.2.2.2.2.2.2.2.2.2.2.2.2.2.2.2.2.2.2.2.2.2.2.2.2))))))))⟩ (fun hHeld => ?_)
          clear hK K
          refine done_ (done_of HT_.out (by kernel_rfl)) ?_
          try go_wp2
          have n0_ : Aside0 (Kd.R (Kd.int .i64) 3 ((((((((w34.setCell ⟨gb156, 0, none⟩ (.string ((rd_T63 l0_9 x6_1).f0))).setCell ⟨gb156, 1, none⟩ (.int .i64 ((rd_T63 l0_9 x6_1).f1.f0))).setCell ⟨gb156, 2, none⟩ (.int .i64 ((rd_T63 l0_9 x6_1).f1.f1))).setCell ⟨gb156, 3, none⟩ (.string ((rd_T63 l0_9 x6_1).f1.f2))).setCell ⟨gb157, 0, none⟩ (.string ((rd_T63 l1_9 x6_1).f0))).setCell ⟨gb157, 1, none⟩ (.int .i64 ((rd_T63 l1_9 x6_1).f1.f0))).setCell ⟨gb157, 2, none⟩ (.int .i64 ((rd_T63 l1_9 x6_1).f1.f1))).setCell ⟨gb157, 3, none⟩ (.string ((rd_T63 l1_9 x6_1).f1.f2))) w.heap.size (fun _ => True) u5 x5_1) := ⟨by (with_reducible repeat (first | apply rA_ | apply rN_ | apply rD_)); exact Kd.R_mono (Kd.R_far (p := ⟨gb157, 3, none⟩) (Kd.R_far (p := ⟨gb157, 2, none⟩) (Kd.R_far (p := ⟨gb157, 1, none⟩) (Kd.R_far (p := ⟨gb157, 0, none⟩) (Kd.R_far (p := ⟨gb156, 3, none⟩) (Kd.R_far (p := ⟨gb156, 2, none⟩) (Kd.R_far (p := ⟨gb156, 1, none⟩) (Kd.R_far (p := ⟨gb156, 0, none⟩) (Kd.R_types (Kd.R_types HO_5.out BK156.out (by decide)) BK157.out (by decide)) (fun _ hk => hk.1.2) (.string ((rd_T63 l0_9 x6_1).f0))) (fun _ hk => hk.1.2) (.int .i64 ((rd_T63 l0_9 x6_1).f1.f0))) (fun _ hk => hk.1.2) (.int .i64 ((rd_T63 l0_9 x6_1).f1.f1))) (fun _ hk => hk.1.2) (.string ((rd_T63 l0_9 x6_1).f1.f2))) (fun _ hk => hk.2) (.string ((rd_T63 l1_9 x6_1).f0))) (fun _ hk => hk.2) (.int .i64 ((rd_T63 l1_9 x6_1).f1.f0))) (fun _ hk => hk.2) (.int .i64 ((rd_T63 l1_9 x6_1).f1.f1))) (fun _ hk => hk.2) (.string ((rd_T63 l1_9 x6_1).f1.f2))) (fun _ hk => trivial)⟩
          have n1_ : Aside0 (((((((((w34.setCell ⟨gb156, 0, none⟩ (.string ((rd_T63 l0_9 x6_1).f0))).setCell ⟨gb156, 1, none⟩ (.int .i64 ((rd_T63 l0_9 x6_1).f1.f0))).setCell ⟨gb156, 2, none⟩ (.int .i64 ((rd_T63 l0_9 x6_1).f1.f1))).setCell ⟨gb156, 3, none⟩ (.string ((rd_T63 l0_9 x6_1).f1.f2))).setCell ⟨gb157, 0, none⟩ (.string ((rd_T63 l1_9 x6_1).f0))).setCell ⟨gb157, 1, none⟩ (.int .i64 ((rd_T63 l1_9 x6_1).f1.f0))).setCell ⟨gb157, 2, none⟩ (.int .i64 ((rd_T63 l1_9 x6_1).f1.f1))).setCell ⟨gb157, 3, none⟩ (.string ((rd_T63 l1_9 x6_1).f1.f2))).heap[gb140]? = some (.cells #[.int .u64 a0_0, .int .u64 a0_1, .int .u64 a0_2, .string a0_3, .string a0_4, .int .i64 a0_5, .int .i64 a0_6, .int .u64 a0_7, .int .u64 a0_8, .slice (some ad154) l0_9.length c0_9] 37 (0, 0))) := ⟨by (with_reducible repeat (first | refine bN_ ?_ _ | refine bD_ ?_ | refine bA_ ?_ _)); refine blk_far ?_ NB140_157.out _; (with_reducible repeat (first | refine bN_ ?_ _ | refine bD_ ?_ | refine bA_ ?_ _)); refine blk_far ?_ NB140_157.out _; (with_reducible repeat (first | refine bN_ ?_ _ | refine bD_ ?_ | refine bA_ ?_ _)); refine blk_far ?_ NB140_157.out _; (with_reducible repeat (first | refine bN_ ?_ _ | refine bD_ ?_ | refine bA_ ?_ _)); refine blk_far ?_ NB140_157.out _; (with_reducible repeat (first | refine bN_ ?_ _ | refine bD_ ?_ | refine bA_ ?_ _)); refine blk_far ?_ NB140_156.out _; (with_reducible repeat (first | refine bN_ ?_ _ | refine bD_ ?_ | refine bA_ ?_ _)); refine blk_far ?_ NB140_156.out _; (with_reducible repeat (first | refine bN_ ?_ _ | refine bD_ ?_ | refine bA_ ?_ _)); refine blk_far ?_ NB140_156.out _; (with_reducible repeat (first | refine bN_ ?_ _ | refine bD_ ?_ | refine bA_ ?_ _)); refine blk_far ?_ NB140_156.out _; (with_reducible repeat (first | refine bN_ ?_ _ | refine bD_ ?_ | refine bA_ ?_ _)); exact BK140.out⟩
          have n2_ : Aside0 (((((((((w34.setCell ⟨gb156, 0, none⟩ (.string ((rd_T63 l0_9 x6_1).f0))).setCell ⟨gb156, 1, none⟩ (.int .i64 ((rd_T63 l0_9 x6_1).f1.f0))).setCell ⟨gb156, 2, none⟩ (.int .i64 ((rd_T63 l0_9 x6_1).f1.f1))).setCell ⟨gb156, 3, none⟩ (.string ((rd_T63 l0_9 x6_1).f1.f2))).setCell ⟨gb157, 0, none⟩ (.string ((rd_T63 l1_9 x6_1).f0))).setCell ⟨gb157, 1, none⟩ (.int .i64 ((rd_T63 l1_9 x6_1).f1.f0))).setCell ⟨gb157, 2, none⟩ (.int .i64 ((rd_T63 l1_9 x6_1).f1.f1))).setCell ⟨gb157, 3, none⟩ (.string ((rd_T63 l1_9 x6_1).f1.f2))).heap[gb141]? = some (.cells #[.int .u64 a1_0, .int .u64 a1_1, .int .u64 a1_2, .string a1_3, .string a1_4, .int .i64 a1_5, .int .i64 a1_6, .int .u64 a1_7, .int .u64 a1_8, .slice (some ad155) l1_9.length c1_9] 37 (0, 0))) := ⟨by (with_reducible repeat (first | refine bN_ ?_ _ | refine bD_ ?_ | refine bA_ ?_ _)); refine blk_far ?_ NB141_157.out _; (with_reducible repeat (first | refine bN_ ?_ _ | refine bD_ ?_ | refine bA_ ?_ _)); refine blk_far ?_ NB141_157.out _; (with_reducible repeat (first | refine bN_ ?_ _ | refine bD_ ?_ | refine bA_ ?_ _)); refine blk_far ?_ NB141_157.out _; (with_reducible repeat (first | refine bN_ ?_ _ | refine bD_ ?_ | refine bA_ ?_ _)); refine blk_far ?_ NB141_157.out _; (with_reducible repeat (first | refine bN_ ?_ _ | refine bD_ ?_ | refine bA_ ?_ _)); refine blk_far ?_ NB141_156.out _; (with_reducible repeat (first | refine bN_ ?_ _ | refine bD_ ?_ | refine bA_ ?_ _)); refine blk_far ?_ NB141_156.out _; (with_reducible repeat (first | refine bN_ ?_ _ | refine bD_ ?_ | refine bA_ ?_ _)); refine blk_far ?_ NB141_156.out _; (with_reducible repeat (first | refine bN_ ?_ _ | refine bD_ ?_ | refine bA_ ?_ _)); refine blk_far ?_ NB141_156.out _; (with_reducible repeat (first | refine bN_ ?_ _ | refine bD_ ?_ | refine bA_ ?_ _)); exact BK141.out⟩
          have n3_ : Aside0 (((((((((w34.setCell ⟨gb156, 0, none⟩ (.string ((rd_T63 l0_9 x6_1).f0))).setCell ⟨gb156, 1, none⟩ (.int .i64 ((rd_T63 l0_9 x6_1).f1.f0))).setCell ⟨gb156, 2, none⟩ (.int .i64 ((rd_T63 l0_9 x6_1).f1.f1))).setCell ⟨gb156, 3, none⟩ (.string ((rd_T63 l0_9 x6_1).f1.f2))).setCell ⟨gb157, 0, none⟩ (.string ((rd_T63 l1_9 x6_1).f0))).setCell ⟨gb157, 1, none⟩ (.int .i64 ((rd_T63 l1_9 x6_1).f1.f0))).setCell ⟨gb157, 2, none⟩ (.int .i64 ((rd_T63 l1_9 x6_1).f1.f1))).setCell ⟨gb157, 3, none⟩ (.string ((rd_T63 l1_9 x6_1).f1.f2))).heap[gb156]? = some (.cells #[.string ((rd_T63 l0_9 x6_1).f0), .int .i64 ((rd_T63 l0_9 x6_1).f1.f0), .int .i64 ((rd_T63 l0_9 x6_1).f1.f1), .string ((rd_T63 l0_9 x6_1).f1.f2)] 63 (0, 0))) := ⟨by (with_reducible repeat (first | refine bN_ ?_ _ | refine bD_ ?_ | refine bA_ ?_ _)); refine blk_far ?_ NB156_157.out _; (with_reducible repeat (first | refine bN_ ?_ _ | refine bD_ ?_ | refine bA_ ?_ _)); refine blk_far ?_ NB156_157.out _; (with_reducible repeat (first | refine bN_ ?_ _ | refine bD_ ?_ | refine bA_ ?_ _)); refine blk_far ?_ NB156_157.out _; (with_reducible repeat (first | refine bN_ ?_ _ | refine bD_ ?_ | refine bA_ ?_ _)); refine blk_far ?_ NB156_157.out _; (with_reducible repeat (first | refine bN_ ?_ _ | refine bD_ ?_ | refine bA_ ?_ _)); refine blk_put (cs := #[.string ((rd_T63 l0_9 x6_1).f0), .int .i64 ((rd_T63 l0_9 x6_1).f1.f0), .int .i64 ((rd_T63 l0_9 x6_1).f1.f1), .string (⟨#[]⟩ : ByteArray)]) ?_ 3 _ rfl; (with_reducible repeat (first | refine bN_ ?_ _ | refine bD_ ?_ | refine bA_ ?_ _)); refine blk_put (cs := #[.string ((rd_T63 l0_9 x6_1).f0), .int .i64 ((rd_T63 l0_9 x6_1).f1.f0), .int .i64 0, .string (⟨#[]⟩ : ByteArray)]) ?_ 2 _ rfl; (with_reducible repeat (first | refine bN_ ?_ _ | refine bD_ ?_ | refine bA_ ?_ _)); refine blk_put (cs := #[.string ((rd_T63 l0_9 x6_1).f0), .int .i64 0, .int .i64 0, .string (⟨#[]⟩ : ByteArray)]) ?_ 1 _ rfl; (with_reducible repeat (first | refine bN_ ?_ _ | refine bD_ ?_ | refine bA_ ?_ _)); refine blk_put (cs := #[.string (⟨#[]⟩ : ByteArray), .int .i64 0, .int .i64 0, .string (⟨#[]⟩ : ByteArray)]) ?_ 0 _ rfl; (with_reducible repeat (first | refine bN_ ?_ _ | refine bD_ ?_ | refine bA_ ?_ _)); exact BK156.out⟩
          have n4_ : Aside0 (((((((((w34.setCell ⟨gb156, 0, none⟩ (.string ((rd_T63 l0_9 x6_1).f0))).setCell ⟨gb156, 1, none⟩ (.int .i64 ((rd_T63 l0_9 x6_1).f1.f0))).setCell ⟨gb156, 2, none⟩ (.int .i64 ((rd_T63 l0_9 x6_1).f1.f1))).setCell ⟨gb156, 3, none⟩ (.string ((rd_T63 l0_9 x6_1).f1.f2))).setCell ⟨gb157, 0, none⟩ (.string ((rd_T63 l1_9 x6_1).f0))).setCell ⟨gb157, 1, none⟩ (.int .i64 ((rd_T63 l1_9 x6_1).f1.f0))).setCell ⟨gb157, 2, none⟩ (.int .i64 ((rd_T63 l1_9 x6_1).f1.f1))).setCell ⟨gb157, 3, none⟩ (.string ((rd_T63 l1_9 x6_1).f1.f2))).heap[gb157]? = some (.cells #[.string ((rd_T63 l1_9 x6_1).f0), .int .i64 ((rd_T63 l1_9 x6_1).f1.f0), .int .i64 ((rd_T63 l1_9 x6_1).f1.f1), .string ((rd_T63 l1_9 x6_1).f1.f2)] 63 (0, 0))) := ⟨by (with_reducible repeat (first | refine bN_ ?_ _ | refine bD_ ?_ | refine bA_ ?_ _)); refine blk_put (cs := #[.string ((rd_T63 l1_9 x6_1).f0), .int .i64 ((rd_T63 l1_9 x6_1).f1.f0), .int .i64 ((rd_T63 l1_9 x6_1).f1.f1), .string (⟨#[]⟩ : ByteArray)]) ?_ 3 _ rfl; (with_reducible repeat (first | refine bN_ ?_ _ | refine bD_ ?_ | refine bA_ ?_ _)); refine blk_put (cs := #[.string ((rd_T63 l1_9 x6_1).f0), .int .i64 ((rd_T63 l1_9 x6_1).f1.f0), .int .i64 0, .string (⟨#[]⟩ : ByteArray)]) ?_ 2 _ rfl; (with_reducible repeat (first | refine bN_ ?_ _ | refine bD_ ?_ | refine bA_ ?_ _)); refine blk_put (cs := #[.string ((rd_T63 l1_9 x6_1).f0), .int .i64 0, .int .i64 0, .string (⟨#[]⟩ : ByteArray)]) ?_ 1 _ rfl; (with_reducible repeat (first | refine bN_ ?_ _ | refine bD_ ?_ | refine bA_ ?_ _)); refine blk_put (cs := #[.string (⟨#[]⟩ : ByteArray), .int .i64 0, .int .i64 0, .string (⟨#[]⟩ : ByteArray)]) ?_ 0 _ rfl; (with_reducible repeat (first | refine bN_ ?_ _ | refine bD_ ?_ | refine bA_ ?_ _)); refine blk_far ?_ NB157_156.out _; (with_reducible repeat (first | refine bN_ ?_ _ | refine bD_ ?_ | refine bA_ ?_ _)); refine blk_far ?_ NB157_156.out _; (with_reducible repeat (first | refine bN_ ?_ _ | refine bD_ ?_ | refine bA_ ?_ _)); refine blk_far ?_ NB157_156.out _; (with_reducible repeat (first | refine bN_ ?_ _ | refine bD_ ?_ | refine bA_ ?_ _)); refine blk_far ?_ NB157_156.out _; (with_reducible repeat (first | refine bN_ ?_ _ | refine bD_ ?_ | refine bA_ ?_ _)); exact BK157.out⟩
          have n5_ : Aside0 (Below w.heap.size w ((((((((w34.setCell ⟨gb156, 0, none⟩ (.string ((rd_T63 l0_9 x6_1).f0))).setCell ⟨gb156, 1, none⟩ (.int .i64 ((rd_T63 l0_9 x6_1).f1.f0))).setCell ⟨gb156, 2, none⟩ (.int .i64 ((rd_T63 l0_9 x6_1).f1.f1))).setCell ⟨gb156, 3, none⟩ (.string ((rd_T63 l0_9 x6_1).f1.f2))).setCell ⟨gb157, 0, none⟩ (.string ((rd_T63 l1_9 x6_1).f0))).setCell ⟨gb157, 1, none⟩ (.int .i64 ((rd_T63 l1_9 x6_1).f1.f0))).setCell ⟨gb157, 2, none⟩ (.int .i64 ((rd_T63 l1_9 x6_1).f1.f1))).setCell ⟨gb157, 3, none⟩ (.string ((rd_T63 l1_9 x6_1).f1.f2)))) := ⟨by repeat (first | (with_reducible first | exact HB.out | apply lA_ | apply lN_ | apply l1_ | refine below_set ?_ GE140.out | refine below_set ?_ GE141.out | refine below_set ?_ GE156.out | refine below_set ?_ GE157.out) | exact HB.out)⟩
          (try clear HO_5)
          (try clear BK140)
          (try clear BK141)
          (try clear BK156)
          (try clear BK157)
          (try clear HB)
          generalize ((((((((w34.setCell ⟨gb156, 0, none⟩ (.string ((rd_T63 l0_9 x6_1).f0))).setCell ⟨gb156, 1, none⟩ (.int .i64 ((rd_T63 l0_9 x6_1).f1.f0))).setCell ⟨gb156, 2, none⟩ (.int .i64 ((rd_T63 l0_9 x6_1).f1.f1))).setCell ⟨gb156, 3, none⟩ (.string ((rd_T63 l0_9 x6_1).f1.f2))).setCell ⟨gb157, 0, none⟩ (.string ((rd_T63 l1_9 x6_1).f0))).setCell ⟨gb157, 1, none⟩ (.int .i64 ((rd_T63 l1_9 x6_1).f1.f0))).setCell ⟨gb157, 2, none⟩ (.int .i64 ((rd_T63 l1_9 x6_1).f1.f1))).setCell ⟨gb157, 3, none⟩ (.string ((rd_T63 l1_9 x6_1).f1.f2))) = w43 at n0_ n1_ n2_ n3_ n4_ n5_ ⊢
          have HO_5 := n0_
          have BK140 := n1_
          have BK141 := n2_
          have BK156 := n3_
          have BK157 := n4_
          have HB := n5_
          clear n0_ n1_ n2_ n3_ n4_ n5_
          have n0_ := Aside0.mk (rD_ HO_5.out)
          have n1_ := Aside0.mk (bD_ BK140.out)
          have n2_ := Aside0.mk (bD_ BK141.out)
          have n3_ := Aside0.mk (bD_ BK156.out)
          have n4_ := Aside0.mk (bD_ BK157.out)
          have n5_ := Aside0.mk (l1_ HB.out)
          clear HO_5
          clear BK140
          clear BK141
          clear BK156
          clear BK157
          clear HB
          have HO_5 := n0_
          have BK140 := n1_
          have BK141 := n2_
          have BK156 := n3_
          have BK157 := n4_
          have HB := n5_
          clear n0_ n1_ n2_ n3_ n4_ n5_
          refine start_ (n := 20) (S := fun w' => w'.cell? ⟨gb156, 0, none⟩ = some (.string ((rd_T63 l0_9 x6_1).f0)) ∧ w'.cell? ⟨gb156, 1, none⟩ = some (.int .i64 ((rd_T63 l0_9 x6_1).f1.f0)) ∧ w'.cell? ⟨gb156, 2, none⟩ = some (.int .i64 ((rd_T63 l0_9 x6_1).f1.f1)) ∧ w'.cell? ⟨gb156, 3, none⟩ = some (.string ((rd_T63 l0_9 x6_1).f1.f2)) ∧ w'.cell? ⟨gb157, 0, none⟩ = some (.string ((rd_T63 l1_9 x6_1).f0)) ∧ w'.cell? ⟨gb157, 1, none⟩ = some (.int .i64 ((rd_T63 l1_9 x6_1).f1.f0)) ∧ w'.cell? ⟨gb157, 2, none⟩ = some (.int .i64 ((rd_T63 l1_9 x6_1).f1.f1)) ∧ w'.cell? ⟨gb157, 3, none⟩ = some (.string ((rd_T63 l1_9 x6_1).f1.f2))) (ds := []) #[false, false, false, false, false, false, false, false, false, false, false, false, false, false, false, false, false, false, false, false] (by kernel_rfl) rfl rfl ⟨(bc1_ BK156.out 0).trans rfl, (bc1_ BK156.out 1).trans rfl, (bc1_ BK156.out 2).trans rfl, (bc1_ BK156.out 3).trans rfl, (bc1_ BK157.out 0).trans rfl, (bc1_ BK157.out 1).trans rfl, (bc1_ BK157.out 2).trans rfl, (bc1_ BK157.out 3).trans rfl⟩ (fun hHeld => ?_); refine with_tabW tallyroomref06_Compare.tab6 tallyroomref06_Compare.bits6 (fun HT_ HW_ => ?_)
          generalize w43.drew = w44 at HO_5 BK140 BK141 BK156 BK157 HB hHeld ⊢
          refine pure_ (i := 0) (N := some 134) (v := ?_) (a' := ?_) (bl_ 20 1) rfl rfl (any_of HT_.out (by kernel_rfl)) (fun _ _ _ h => h) (Or.inl ⟨by rfl, ?_⟩) ?_ ?_
          rotate_left
          ·intro w'
           go_simp
           with_reducible rfl
          rotate_left
          ·simp only [Act.put, sb_, sz_, ss_, i64_w, i32_w]
           rfl
          refine pure_ (i := 1) (N := some 135) (v := ?_) (a' := ?_) (bl_ 20 3) rfl rfl (any_of HT_.out (by kernel_rfl)) (fun _ _ _ h => h) (Or.inl ⟨by rfl, ?_⟩) ?_ ?_
          rotate_left
          ·intro w'
           go_simp
           with_reducible rfl
          rotate_left
          ·simp only [Act.put, sb_, sz_, ss_, i64_w, i32_w]
           rfl
          refine pure_ (i := 3) (N := some 137) (v := ?_) (a' := ?_) (bl_ 20 11) rfl rfl (any_of HT_.out (by kernel_rfl)) (fun _ _ _ h => h) (Or.inl ⟨by rfl, ?_⟩) ?_ ?_
          rotate_left
          ·intro w'
           go_simp
           with_reducible rfl
          rotate_left
          ·simp only [Act.put, sb_, sz_, ss_, i64_w, i32_w]
           rfl
          refine pure_ (i := 6) (N := some 140) (v := ?_) (a' := ?_) (bl_ 20 75) rfl rfl (any_of HT_.out (by kernel_rfl)) (fun _ _ _ h => h) (Or.inl ⟨by rfl, ?_⟩) ?_ ?_
          rotate_left
          ·intro w'
           go_simp
           with_reducible rfl
          rotate_left
          ·simp only [Act.put, sb_, sz_, ss_, i64_w, i32_w]
           rfl
          refine pure_ (i := 8) (N := some 142) (v := ?_) (a' := ?_) (bl_ 20 331) rfl rfl (any_of HT_.out (by kernel_rfl)) (fun _ _ _ h => h) (Or.inl ⟨by rfl, ?_⟩) ?_ ?_
          rotate_left
          ·intro w'
           go_simp
           with_reducible rfl
          rotate_left
          ·simp only [Act.put, sb_, sz_, ss_, i64_w, i32_w]
           rfl
          refine pure_ (i := 12) (N := some 146) (v := ?_) (a' := ?_) (bl_ 20 4427) rfl rfl (any_of HT_.out (by kernel_rfl)) (fun _ _ _ h => h) (Or.inl ⟨by rfl, ?_⟩) ?_ ?_
          rotate_left
          ·intro w'
           go_simp
           with_reducible rfl
          rotate_left
          ·simp only [Act.put, sb_, sz_, ss_, i64_w, i32_w]
           rfl
          refine pure_ (i := 14) (N := some 148) (v := ?_) (a' := ?_) (bl_ 20 20811) rfl rfl (any_of HT_.out (by kernel_rfl)) (fun _ _ _ h => h) (Or.inl ⟨by rfl, ?_⟩) ?_ ?_
          rotate_left
          ·intro w'
           go_simp
           with_reducible rfl
          rotate_left
          ·simp only [Act.put, sb_, sz_, ss_, i64_w, i32_w]
           rfl
          refine take_ (i := 2) (N := some 136) (v := ?_) (a' := ?_) (bl_ 20 20815) rfl rfl (take_ofW HT_.out HW_.out (by kernel_rfl)) (fun _ _ _ h => h) (Or.inl ⟨by rfl, ?_⟩) hHeld ?_ ?_
          rotate_left
          ·rintro w' ⟨s0, s1, s2, s3, s4, s5, s6, s7⟩
           go_simp
           with_reducible rfl
          rotate_left
          ·simp only [Act.put, sb_, sz_, ss_, i64_w, i32_w]
           rfl
          refine take_ (i := 4) (N := some 138) (v := ?_) (a' := ?_) (bl_ 20 20831) rfl rfl (take_ofW HT_.out HW_.out (by kernel_rfl)) (fun _ _ _ h => h) (Or.inl ⟨by rfl, ?_⟩) hHeld ?_ ?_
          rotate_left
          ·rintro w' ⟨s0, s1, s2, s3, s4, s5, s6, s7⟩
           go_simp
           with_reducible rfl
          rotate_left
          ·simp only [Act.put, sb_, sz_, ss_, i64_w, i32_w]
           rfl
          refine pure_ (i := 5) (N := some 139) (v := ?_) (a' := ?_) (bl_ 20 20863) rfl rfl (any_of HT_.out (by kernel_rfl)) (fun _ _ _ h => h) (Or.inl ⟨by rfl, ?_⟩) ?_ ?_
          rotate_left
          ·intro w'
           go_simp
           with_reducible rfl
          rotate_left
          ·simp only [Act.put, sb_, sz_, ss_, i64_w, i32_w]
           rfl
          refine take_ (i := 7) (N := some 141) (v := ?_) (a' := ?_) (bl_ 20 20991) rfl rfl (take_ofW HT_.out HW_.out (by kernel_rfl)) (fun _ _ _ h => h) (Or.inl ⟨by rfl, ?_⟩) hHeld ?_ ?_
          rotate_left
          ·rintro w' ⟨s0, s1, s2, s3, s4, s5, s6, s7⟩
           go_simp
           with_reducible rfl
          rotate_left
          ·simp only [Act.put, sb_, sz_, ss_, i64_w, i32_w]
           rfl
          refine take_ (i := 9) (N := some 143) (v := ?_) (a' := ?_) (bl_ 20 21503) rfl rfl (take_ofW HT_.out HW_.out (by kernel_rfl)) (fun _ _ _ h => h) (Or.inl ⟨by rfl, ?_⟩) hHeld ?_ ?_
          rotate_left
          ·rintro w' ⟨s0, s1, s2, s3, s4, s5, s6, s7⟩
           go_simp
           with_reducible rfl
          rotate_left
          ·simp only [Act.put, sb_, sz_, ss_, i64_w, i32_w]
           rfl
          refine pure_ (i := 10) (N := some 144) (v := ?_) (a' := ?_) (bl_ 20 22527) rfl rfl (any_of HT_.out (by kernel_rfl)) (fun _ _ _ h => h) (Or.inl ⟨by rfl, ?_⟩) ?_ ?_
          rotate_left
          ·intro w'
           go_simp
           with_reducible rfl
          rotate_left
          ·simp only [Act.put, sb_, sz_, ss_, i64_w, i32_w]
           rfl
          refine take_ (i := 13) (N := some 147) (v := ?_) (a' := ?_) (bl_ 20 30719) rfl rfl (take_ofW HT_.out HW_.out (by kernel_rfl)) (fun _ _ _ h => h) (Or.inl ⟨by rfl, ?_⟩) hHeld ?_ ?_
          rotate_left
          ·rintro w' ⟨s0, s1, s2, s3, s4, s5, s6, s7⟩
           go_simp
           with_reducible rfl
          rotate_left
          ·simp only [Act.put, sb_, sz_, ss_, i64_w, i32_w]
           rfl
          refine take_ (i := 15) (N := some 149) (v := ?_) (a' := ?_) (bl_ 20 63487) rfl rfl (take_ofW HT_.out HW_.out (by kernel_rfl)) (fun _ _ _ h => h) (Or.inl ⟨by rfl, ?_⟩) hHeld ?_ ?_
          rotate_left
          ·rintro w' ⟨s0, s1, s2, s3, s4, s5, s6, s7⟩
           go_simp
           with_reducible rfl
          rotate_left
          ·simp only [Act.put, sb_, sz_, ss_, i64_w, i32_w]
           rfl
          refine one_ (i := 11) (N := some 145) (bl_ 20 65535) rfl rfl (one_of HT_.out (by kernel_rfl)) (by decide) (fun K hK => ?_)
          refine goes_ Try.func55 (by kernel_rfl) rfl #[.bool (Op.bytesLess (((rd_T63 l0_9 x6_1).f0).toList) (((rd_T63 l1_9 x6_1).f0).toList)), .bool (((rd_T63 l0_9 x6_1).f0).toList == ((rd_T63 l1_9 x6_1).f0).toList)] (by rfl) rfl rfl (by (try simp only [List.map_toArray, List.map_cons, List.map_nil]); first | done | rfl | (simp only [List.length_drop, List.length_take]; rfl)) ?_
          with_reducible refine (tallyroomref06_order.calls (Op.bytesLess (((rd_T63 l0_9 x6_1).f0).toList) (((rd_T63 l1_9 x6_1).f0).toList)) (((rd_T63 l0_9 x6_1).f0).toList == ((rd_T63 l1_9 x6_1).f0).toList) t158 _ A28.out).mono ?_
          rintro e w' ⟨rfl, ⟨nd, rfl⟩⟩
          refine ⟨_, rfl, ?_⟩
          refine hK.out _ _ ⟨(bc1_ BK156.out 0).trans rfl, (bc1_ BK156.out 1).trans rfl, (bc1_ BK156.out 2).trans rfl, (bc1_ BK156.out 3).trans rfl, (bc1_ BK157.out 0).trans rfl, (bc1_ BK157.out 1).trans rfl, (bc1_ BK157.out 2).trans rfl, (bc1_ BK157.out 3).trans rfl⟩ (fun hHeld => ?_)
          clear hK K
          refine norm_ (a' := ?_) ?_ ?_
          rotate_left
          ·show Act.put _ (some 145) _ = _
           simp only [Act.put, sb_, sz_, ss_, i64_w, i32_w]
           rfl
          refine one_ (i := 16) (N := some 150) (bl_ 20 131071) rfl rfl (one_of HT_.out (by kernel_rfl)) (by decide) (fun K hK => ?_)
          refine goes_ Try.func56 (by kernel_rfl) rfl #[.agg #[.int .i64 ((rd_T63 l0_9 x6_1).f1.f0), .int .i64 ((rd_T63 l0_9 x6_1).f1.f1), .string ((rd_T63 l0_9 x6_1).f1.f2)], .agg #[.int .i64 ((rd_T63 l1_9 x6_1).f1.f0), .int .i64 ((rd_T63 l1_9 x6_1).f1.f1), .string ((rd_T63 l1_9 x6_1).f1.f2)]] (by rfl) rfl rfl (by (try simp only [List.map_toArray, List.map_cons, List.map_nil]); first | done | rfl | (simp only [List.length_drop, List.length_take]; rfl)) ?_
          with_reducible refine (tallyroomref04_Compare.calls kj16 ((rd_T63 l0_9 x6_1).f1.f0) ((rd_T63 l0_9 x6_1).f1.f1) ((rd_T63 l0_9 x6_1).f1.f2) ((rd_T63 l1_9 x6_1).f1.f0) ((rd_T63 l1_9 x6_1).f1.f1) ((rd_T63 l1_9 x6_1).f1.f2) t159 _ A29.out).mono ?_
          rintro e w45 ⟨rfl, hb⟩
          refine ⟨_, rfl, ?_⟩
          have n0_ := Aside0.mk (Kd.R_below (by (with_reducible repeat (first | apply rA_ | apply rN_ | apply rD_)); exact HO_5.out) hb)
          have n1_ := Aside0.mk (bb_ (g := gb140) (o := .cells #[.int .u64 a0_0, .int .u64 a0_1, .int .u64 a0_2, .string a0_3, .string a0_4, .int .i64 a0_5, .int .i64 a0_6, .int .u64 a0_7, .int .u64 a0_8, .slice (some ad154) l0_9.length c0_9] 37 (0, 0)) (by (with_reducible repeat (first | refine bN_ ?_ _ | refine bD_ ?_ | refine bA_ ?_ _)); exact BK140.out) hb)
          have n2_ := Aside0.mk (bb_ (g := gb141) (o := .cells #[.int .u64 a1_0, .int .u64 a1_1, .int .u64 a1_2, .string a1_3, .string a1_4, .int .i64 a1_5, .int .i64 a1_6, .int .u64 a1_7, .int .u64 a1_8, .slice (some ad155) l1_9.length c1_9] 37 (0, 0)) (by (with_reducible repeat (first | refine bN_ ?_ _ | refine bD_ ?_ | refine bA_ ?_ _)); exact BK141.out) hb)
          have n3_ := Aside0.mk (bb_ (g := gb156) (o := .cells #[.string ((rd_T63 l0_9 x6_1).f0), .int .i64 ((rd_T63 l0_9 x6_1).f1.f0), .int .i64 ((rd_T63 l0_9 x6_1).f1.f1), .string ((rd_T63 l0_9 x6_1).f1.f2)] 63 (0, 0)) (by (with_reducible repeat (first | refine bN_ ?_ _ | refine bD_ ?_ | refine bA_ ?_ _)); exact BK156.out) hb)
          have n4_ := Aside0.mk (bb_ (g := gb157) (o := .cells #[.string ((rd_T63 l1_9 x6_1).f0), .int .i64 ((rd_T63 l1_9 x6_1).f1.f0), .int .i64 ((rd_T63 l1_9 x6_1).f1.f1), .string ((rd_T63 l1_9 x6_1).f1.f2)] 63 (0, 0)) (by (with_reducible repeat (first | refine bN_ ?_ _ | refine bD_ ?_ | refine bA_ ?_ _)); exact BK157.out) hb)
          have n5_ := Aside0.mk (ls_ (by repeat (first | (with_reducible first | exact HB.out | apply lA_ | apply lN_ | apply l1_ | refine below_set ?_ GE140.out | refine below_set ?_ GE141.out | refine below_set ?_ GE156.out | refine below_set ?_ GE157.out) | exact HB.out)) hb)
          clear HO_5
          clear BK140
          clear BK141
          clear BK156
          clear BK157
          clear HB
          have HO_5 := n0_
          have BK140 := n1_
          have BK141 := n2_
          have BK156 := n3_
          have BK157 := n4_
          have HB := n5_
          clear n0_ n1_ n2_ n3_ n4_ n5_
          (try clear hb)
          (try clear hb2)
          (try clear hk)
          (try clear hi)
          refine hK.out _ _ ⟨(bc1_ BK156.out 0).trans rfl, (bc1_ BK156.out 1).trans rfl, (bc1_ BK156.out 2).trans rfl, (bc1_ BK156.out 3).trans rfl, (bc1_ BK157.out 0).trans rfl, (bc1_ BK157.out 1).trans rfl, (bc1_ BK157.out 2).trans rfl, (bc1_ BK157.out 3).trans rfl⟩ (fun hHeld => ?_)
          clear hK K
          refine norm_ (a' := ?_) ?_ ?_
          rotate_left
          ·show Act.put _ (some 150) _ = _
           simp only [Act.put, sb_, sz_, ss_, i64_w, i32_w]
           rfl
          refine one_ (i := 17) (N := some 151) (bl_ 20 262143) rfl rfl (one_of HT_.out (by kernel_rfl)) (by decide) (fun K hK => ?_)
          refine Kd.R_lit_step (Kd.int .i64) _ 3 ?hg (N := 151) ?hd (xs := ([t158, t159] : List Int)) (inner := [.int .i64 t158, .int .i64 t159]) (ok := fun _ => True) (okp := fun _ => True) ?hr ?hp (fun _ hk => hk) trivial (Below.refl _ _) (Nat.le_refl _) (by simp) ?_; (case hd => rfl); (case hg => rfl); (case hr => first | (go_simp; done) | (go_simp; rfl)); (case hp => exact (Reps.one (show Kd.M (Kd.int .i64) _ _ _ t158 [.int .i64 t158] from rfl) (Reps.one (show Kd.M (Kd.int .i64) _ _ _ t159 [.int .i64 t159] from rfl) (Reps.none _ _))))
          intro v161 w46 ho47 hb hg_ hnew_
          clear hg_ hnew_
          (first | rw [← Ny160.out] at ho47 | (simp only [Int.reduceToNat] at ho47; rw [← Ny160.out] at ho47))
          have n0_ := Aside0.mk (Kd.R_elder' (by (with_reducible repeat (first | apply rA_ | apply rN_ | apply rD_)); exact HO_5.out) (Kd.R_base ho47) hb)
          have n1_ := Aside0.mk (Kd.R_lower (Kd.R_new' ho47 (Kd.R_lt (by (with_reducible repeat (first | apply rA_ | apply rN_ | apply rD_)); exact HO_5.out))) (bz_ (by repeat (first | (with_reducible first | exact HB.out | apply lA_ | apply lN_ | apply l1_ | refine below_set ?_ GE140.out | refine below_set ?_ GE141.out | refine below_set ?_ GE156.out | refine below_set ?_ GE157.out) | exact HB.out))))
          have n2_ := Aside0.mk (bb_ (g := gb140) (o := .cells #[.int .u64 a0_0, .int .u64 a0_1, .int .u64 a0_2, .string a0_3, .string a0_4, .int .i64 a0_5, .int .i64 a0_6, .int .u64 a0_7, .int .u64 a0_8, .slice (some ad154) l0_9.length c0_9] 37 (0, 0)) (by (with_reducible repeat (first | refine bN_ ?_ _ | refine bD_ ?_ | refine bA_ ?_ _)); exact BK140.out) hb)
          have n3_ := Aside0.mk (bb_ (g := gb141) (o := .cells #[.int .u64 a1_0, .int .u64 a1_1, .int .u64 a1_2, .string a1_3, .string a1_4, .int .i64 a1_5, .int .i64 a1_6, .int .u64 a1_7, .int .u64 a1_8, .slice (some ad155) l1_9.length c1_9] 37 (0, 0)) (by (with_reducible repeat (first | refine bN_ ?_ _ | refine bD_ ?_ | refine bA_ ?_ _)); exact BK141.out) hb)
          have n4_ := Aside0.mk (bb_ (g := gb156) (o := .cells #[.string ((rd_T63 l0_9 x6_1).f0), .int .i64 ((rd_T63 l0_9 x6_1).f1.f0), .int .i64 ((rd_T63 l0_9 x6_1).f1.f1), .string ((rd_T63 l0_9 x6_1).f1.f2)] 63 (0, 0)) (by (with_reducible repeat (first | refine bN_ ?_ _ | refine bD_ ?_ | refine bA_ ?_ _)); exact BK156.out) hb)
          have n5_ := Aside0.mk (bb_ (g := gb157) (o := .cells #[.string ((rd_T63 l1_9 x6_1).f0), .int .i64 ((rd_T63 l1_9 x6_1).f1.f0), .int .i64 ((rd_T63 l1_9 x6_1).f1.f1), .string ((rd_T63 l1_9 x6_1).f1.f2)] 63 (0, 0)) (by (with_reducible repeat (first | refine bN_ ?_ _ | refine bD_ ?_ | refine bA_ ?_ _)); exact BK157.out) hb)
          have n6_ := Aside0.mk (ls_ (by repeat (first | (with_reducible first | exact HB.out | apply lA_ | apply lN_ | apply l1_ | refine below_set ?_ GE140.out | refine below_set ?_ GE141.out | refine below_set ?_ GE156.out | refine below_set ?_ GE157.out) | exact HB.out)) hb)
          clear HO_5
          clear BK140
          clear BK141
          clear BK156
          clear BK157
          clear HB
          have HO_5 := n0_
          have HO162 := n1_
          have BK140 := n2_
          have BK141 := n3_
          have BK156 := n4_
          have BK157 := n5_
          have HB := n6_
          clear n0_ n1_ n2_ n3_ n4_ n5_ n6_
          clear hb ho47
          obtain ⟨Ao49, co49, eo49⟩ := Kd.R_slice HO162.out
          (first | subst eo49 | (injection eo49 with f1_ f2_ f3_; have f4_ := f1_.symm; have f5_ := f3_.symm; clear f1_ f2_ f3_; subst f4_; subst f5_))
          refine hK.out _ _ ⟨(bc1_ BK156.out 0).trans rfl, (bc1_ BK156.out 1).trans rfl, (bc1_ BK156.out 2).trans rfl, (bc1_ BK156.out 3).trans rfl, (bc1_ BK157.out 0).trans rfl, (bc1_ BK157.out 1).trans rfl, (bc1_ BK157.out 2).trans rfl, (bc1_ BK157.out 3).trans rfl⟩ (fun hHeld => ?_)
          clear hK K
          refine norm_ (a' := ?_) ?_ ?_
          rotate_left
          ·show Act.put _ (some 151) _ = _
           simp only [Act.put, sb_, sz_, ss_, i64_w, i32_w]
           rfl
          refine one_ (i := 18) (N := some 152) (bl_ 20 524287) rfl rfl (one_of HT_.out (by kernel_rfl)) (by decide) (fun K hK => ?_)
          refine Kd.R_append_rows_step (Kd.int .i64) (w0 := w) w.heap.size (by rfl) (.tmp 134) (.tmp 151) 88 3 (.int .i64 0) 8 rfl Try.underlying88 info3 rfl (by decide) (by omega) u5 x5_1 y160 _ _ _ (fun k_ => some k_ ≠ (.slice Ao49 y160.length co49 : Value).ownBlock) (fun _ => False) rfl rfl ?aO ?aR (fun _ _ h => h) (fun _ h => h.elim) ?aF ?aB ?aS ?aL ?_
          (case aR => repeat (first | exact (Kd.R_reads' HO162.out).2.2 | (with_reducible refine Kd.C_alloc ?_ _) | (with_reducible refine Kd.C_drewN ?_ _) | (with_reducible refine Kd.C_drew ?_)))
          (case aB => exact (by repeat (first | (with_reducible first | exact HB.out | apply lA_ | apply lN_ | apply l1_ | refine below_set ?_ GE140.out | refine below_set ?_ GE141.out | refine below_set ?_ GE156.out | refine below_set ?_ GE157.out) | exact HB.out)))
          (case aF => exact (fun k_ hk => Kd.fresh' (Kd.R_lt (by (with_reducible repeat (first | apply rA_ | apply rN_ | apply rD_)); exact HO162.out)) k_ hk))
          (case aO => exact (by (with_reducible repeat (first | apply rA_ | apply rN_ | apply rD_)); exact Kd.R_mono HO_5.out (fun _ hk => hk.2)))
          (case aS => exact (bz_ (by repeat (first | (with_reducible first | exact HB.out | apply lA_ | apply lN_ | apply l1_ | refine below_set ?_ GE140.out | refine below_set ?_ GE141.out | refine below_set ?_ GE156.out | refine below_set ?_ GE157.out) | exact HB.out))))
          (case aL => have := LMc30.out; omega)
          intro v164 w48 ho hb hg hat
          rw [← Ny163.out] at ho
          have n0_ := Aside0.mk (blk_grown (g := gb140) (o := .cells #[.int .u64 a0_0, .int .u64 a0_1, .int .u64 a0_2, .string a0_3, .string a0_4, .int .i64 a0_5, .int .i64 a0_6, .int .u64 a0_7, .int .u64 a0_8, .slice (some ad154) l0_9.length c0_9] 37 (0, 0)) (by (with_reducible repeat (first | refine bN_ ?_ _ | refine bD_ ?_ | refine bA_ ?_ _)); exact BK140.out) hg (Kd.R_ne HO_5.out BK140.out (by decide)))
          have n1_ := Aside0.mk (blk_grown (g := gb141) (o := .cells #[.int .u64 a1_0, .int .u64 a1_1, .int .u64 a1_2, .string a1_3, .string a1_4, .int .i64 a1_5, .int .i64 a1_6, .int .u64 a1_7, .int .u64 a1_8, .slice (some ad155) l1_9.length c1_9] 37 (0, 0)) (by (with_reducible repeat (first | refine bN_ ?_ _ | refine bD_ ?_ | refine bA_ ?_ _)); exact BK141.out) hg (Kd.R_ne HO_5.out BK141.out (by decide)))
          have n2_ := Aside0.mk (blk_grown (g := gb156) (o := .cells #[.string ((rd_T63 l0_9 x6_1).f0), .int .i64 ((rd_T63 l0_9 x6_1).f1.f0), .int .i64 ((rd_T63 l0_9 x6_1).f1.f1), .string ((rd_T63 l0_9 x6_1).f1.f2)] 63 (0, 0)) (by (with_reducible repeat (first | refine bN_ ?_ _ | refine bD_ ?_ | refine bA_ ?_ _)); exact BK156.out) hg (Kd.R_ne HO_5.out BK156.out (by decide)))
          have n3_ := Aside0.mk (blk_grown (g := gb157) (o := .cells #[.string ((rd_T63 l1_9 x6_1).f0), .int .i64 ((rd_T63 l1_9 x6_1).f1.f0), .int .i64 ((rd_T63 l1_9 x6_1).f1.f1), .string ((rd_T63 l1_9 x6_1).f1.f2)] 63 (0, 0)) (by (with_reducible repeat (first | refine bN_ ?_ _ | refine bD_ ?_ | refine bA_ ?_ _)); exact BK157.out) hg (Kd.R_ne HO_5.out BK157.out (by decide)))
          have n4_ := Aside0.mk (Kd.R_after (ok := (fun _ => True)) (by (with_reducible repeat (first | apply rA_ | apply rN_ | apply rD_)); exact HO162.out) hg hat)
          have n5_ := Aside0.mk (hb)
          have n6_ := Aside0.mk (ho)
          clear BK140
          clear BK141
          clear BK156
          clear BK157
          clear HO162
          clear HB
          clear HO_5
          have BK140 := n0_
          have BK141 := n1_
          have BK156 := n2_
          have BK157 := n3_
          have HO162 := n4_
          have HB := n5_
          have HO165 := n6_
          clear n0_ n1_ n2_ n3_ n4_ n5_ n6_
          clear ho hb hg hat
          refine hK.out _ _ ⟨(bc1_ BK156.out 0).trans rfl, (bc1_ BK156.out 1).trans rfl, (bc1_ BK156.out 2).trans rfl, (bc1_ BK156.out 3).trans rfl, (bc1_ BK157.out 0).trans rfl, (bc1_ BK157.out 1).trans rfl, (bc1_ BK157.out 2).trans rfl, (bc1_ BK157.out 3).trans rfl⟩ (fun hHeld => ?_)
          clear hK K
          refine norm_ (a' := ?_) ?_ ?_
          rotate_left
          ·show Act.put _ (some 152) _ = _
           simp only [Act.put, sb_, sz_, ss_, i64_w, i32_w]
           rfl
          refine pure_ (i := 19) (N := some 5) (v := ?_) (a' := ?_) (bl_ 20 1048575) rfl rfl (any_of HT_.out (by kernel_rfl)) (fun _ _ _ h => h) (Or.inl ⟨by rfl, ?_⟩) ?_ ?_
          rotate_left
          ·intro w'
           go_simp
           with_reducible rfl
          rotate_left
          ·simp only [Act.put, sb_, sz_, ss_, i64_w, i32_w]
           rfl
          refine done_ (done_of HT_.out (by kernel_rfl)) ?_
          try go_wp2
          go_roundg kj16
          case measure => have := HK1.out; have := HJ16.out; omega
          case rel => exact ⟨(y163), (wrap64 (x6_1 + 1)), (by first | rfl | (simp; done) | (simp [*]; done)), H', ⟨by have := HK1.out; have := HJ16.out; omega⟩, ⟨by (with_reducible repeat (first | apply rA_ | apply rN_ | apply rD_)); exact Kd.R_mono HO165.out (fun _ hk => trivial)⟩, ⟨by (with_reducible repeat (first | refine bN_ ?_ _ | refine bD_ ?_ | refine bA_ ?_ _)); exact BK140.out⟩, ⟨by (with_reducible repeat (first | refine bN_ ?_ _ | refine bD_ ?_ | refine bA_ ?_ _)); exact BK141.out⟩, ⟨by repeat (first | (with_reducible first | exact HB.out | apply lA_ | apply lN_ | apply l1_ | refine below_set ?_ GE140.out | refine below_set ?_ GE141.out | refine below_set ?_ GE156.out | refine below_set ?_ GE157.out) | exact HB.out)⟩⟩
         ·rw [if_neg c30] at H
          exact absurd H (by simp)
        ·rw [if_neg c27] at H
         exact absurd H (by simp)
       ·rw [if_neg c26] at H
        exact absurd H (by simp)
      ·rw [if_neg c25] at H
       exact absurd H (by simp)
     ·replace c24 := Bool.eq_false_iff.mpr c24
      subst c24
      have H1 : ((tallyroomref06_order.f (decide ((l0_9.length : Int) < (l1_9.length : Int))) ((l0_9.length : Int) == (l1_9.length : Int))).bind fun t166 => (if x5_1.length < 17592186044416 then (tallyroomref06_Compare.l1 kj16 (x5_1 ++ [t166]) 0) else (none))) = some r := by rw [if_neg (show ¬ (false = true) by decide)] at H; exact H
      clear H
      have H := H1
      clear H1
      replace H := Option.bind_eq_some_iff.mp H
      obtain ⟨t166, A500, H⟩ := H
      replace H : (if x5_1.length < 17592186044416 then (tallyroomref06_Compare.l1 kj16 (x5_1 ++ [t166]) 0) else (none)) = some r := H
      have A50 := Aside0.mk A500
      clear A500
      by_cases c51 : x5_1.length < 17592186044416
      ·rw [if_pos c51] at H
       have LMc51 := Aside0.mk c51
       clear c51
       obtain ⟨y167, hy167⟩ : ∃ y_ : List Int, y_ = (x5_1 ++ [t166]) := ⟨_, rfl⟩
       replace H : (tallyroomref06_Compare.l1 kj16 y167 0) = some r := by first | (rw [hy167]; with_reducible exact H) | (have H2_ := (Option.bind_some _ _).symm.trans H; rw [hy167]; with_reducible exact H2_) | (have H2_ := (Option.bind_some _ _).symm.trans H; with_reducible exact H2_) | with_reducible exact H | (rw [hy167]; exact H) | exact H
       have Ny167 := Aside0.mk hy167
       clear hy167
       have H' := Aside0.mk H
       clear H
       have hnb52 := NB140_141.out
       have hnc52 := NB141_140.out
       have hcz53_0 : wc.cell? ⟨gb140, 0, none⟩ = some (.int .u64 a0_0) := (bc1_ BK140.out 0).trans rfl
       have hcz53_1 : wc.cell? ⟨gb140, 1, none⟩ = some (.int .u64 a0_1) := (bc1_ BK140.out 1).trans rfl
       have hcz53_2 : wc.cell? ⟨gb140, 2, none⟩ = some (.int .u64 a0_2) := (bc1_ BK140.out 2).trans rfl
       have hcz53_3 : wc.cell? ⟨gb140, 3, none⟩ = some (.string a0_3) := (bc1_ BK140.out 3).trans rfl
       have hcz53_4 : wc.cell? ⟨gb140, 4, none⟩ = some (.string a0_4) := (bc1_ BK140.out 4).trans rfl
       have hcz53_5 : wc.cell? ⟨gb140, 5, none⟩ = some (.int .i64 a0_5) := (bc1_ BK140.out 5).trans rfl
       have hcz53_6 : wc.cell? ⟨gb140, 6, none⟩ = some (.int .i64 a0_6) := (bc1_ BK140.out 6).trans rfl
       have hcz53_7 : wc.cell? ⟨gb140, 7, none⟩ = some (.int .u64 a0_7) := (bc1_ BK140.out 7).trans rfl
       have hcz53_8 : wc.cell? ⟨gb140, 8, none⟩ = some (.int .u64 a0_8) := (bc1_ BK140.out 8).trans rfl
       have hcz53_9 : wc.cell? ⟨gb140, 9, none⟩ = some (.slice A0_9 l0_9.length c0_9) := (bc1_ BK140.out 9).trans rfl
       have hfz53_0 := bf1_ BK140.out 0
       have hfz53_1 := bf1_ BK140.out 1
       have hfz53_2 := bf1_ BK140.out 2
       have hfz53_3 := bf1_ BK140.out 3
       have hfz53_4 := bf1_ BK140.out 4
       have hfz53_5 := bf1_ BK140.out 5
       have hfz53_6 := bf1_ BK140.out 6
       have hfz53_7 := bf1_ BK140.out 7
       have hfz53_8 := bf1_ BK140.out 8
       have hfz53_9 := bf1_ BK140.out 9
       have hcz54_0 : wc.cell? ⟨gb141, 0, none⟩ = some (.int .u64 a1_0) := (bc1_ BK141.out 0).trans rfl
       have hcz54_1 : wc.cell? ⟨gb141, 1, none⟩ = some (.int .u64 a1_1) := (bc1_ BK141.out 1).trans rfl
       have hcz54_2 : wc.cell? ⟨gb141, 2, none⟩ = some (.int .u64 a1_2) := (bc1_ BK141.out 2).trans rfl
       have hcz54_3 : wc.cell? ⟨gb141, 3, none⟩ = some (.string a1_3) := (bc1_ BK141.out 3).trans rfl
       have hcz54_4 : wc.cell? ⟨gb141, 4, none⟩ = some (.string a1_4) := (bc1_ BK141.out 4).trans rfl
       have hcz54_5 : wc.cell? ⟨gb141, 5, none⟩ = some (.int .i64 a1_5) := (bc1_ BK141.out 5).trans rfl
       have hcz54_6 : wc.cell? ⟨gb141, 6, none⟩ = some (.int .i64 a1_6) := (bc1_ BK141.out 6).trans rfl
       have hcz54_7 : wc.cell? ⟨gb141, 7, none⟩ = some (.int .u64 a1_7) := (bc1_ BK141.out 7).trans rfl
       have hcz54_8 : wc.cell? ⟨gb141, 8, none⟩ = some (.int .u64 a1_8) := (bc1_ BK141.out 8).trans rfl
       have hcz54_9 : wc.cell? ⟨gb141, 9, none⟩ = some (.slice A1_9 l1_9.length c1_9) := (bc1_ BK141.out 9).trans rfl
       have hfz54_0 := bf1_ BK141.out 0
       have hfz54_1 := bf1_ BK141.out 1
       have hfz54_2 := bf1_ BK141.out 2
       have hfz54_3 := bf1_ BK141.out 3
       have hfz54_4 := bf1_ BK141.out 4
       have hfz54_5 := bf1_ BK141.out 5
       have hfz54_6 := bf1_ BK141.out 6
       have hfz54_7 := bf1_ BK141.out 7
       have hfz54_8 := bf1_ BK141.out 8
       have hfz54_9 := bf1_ BK141.out 9
       go_wp2_with (first | ((with_reducible refine gate_callee (f := 55) rfl ?_); refine goesL_ (some 168) rfl rfl Try.func55 (by kernel_rfl) rfl #[.bool (decide (l0_9.length < l1_9.length)), .bool ((l0_9.length : Int) == (l1_9.length : Int))] rfl (by (try simp only [List.map_toArray, List.map_cons, List.map_nil]); first | done | rfl | (simp only [List.length_drop, List.length_take]; rfl)) ?_; (with_reducible refine (tallyroomref06_order.calls (decide (l0_9.length < l1_9.length)) ((l0_9.length : Int) == (l1_9.length : Int)) t166 _ (by have h_ := A50.out; rw [show decide ((l0_9.length : Int) < (l1_9.length : Int)) = decide (l0_9.length < l1_9.length) by simp] at h_; exact h_)).mono ?_); rintro e w' ⟨rfl, ⟨nd, rfl⟩⟩; refine ⟨_, rfl, ?_⟩) | ((with_reducible refine gate_builtin (b := .append) (xs := #[.tmp 153, .tmp 169]) rfl ?_); (try (refine gate_guard (by rfl) ?_; dsimp only)); at_builtin; refine Kd.R_append (Kd.int .i64) (w0 := w) w.heap.size rfl (.tmp 153) (.tmp 169) 88 3 (.int .i64 0) 8 rfl Try.underlying88 info3 rfl (by decide) (by omega) u5 x5_1 t166 [.int .i64 t166] (fun _ => True) (fun _ => False) rfl rfl ?aP (fun _ hk => hk.elim) ?aF ?aO ?aB ?aS ?aL ?_; (case aP => exact rfl); (case aB => exact (by repeat (first | (with_reducible first | exact HB.out | apply lA_ | apply lN_ | apply l1_ | refine below_set ?_ GE140.out | refine below_set ?_ GE141.out) | exact HB.out))); (case aF => exact (fun _ _ => trivial)); (case aO => exact (by (with_reducible repeat (first | apply rA_ | apply rN_ | apply rD_)); exact HO_5.out)); (case aS => exact (bz_ (by repeat (first | (with_reducible first | exact HB.out | apply lA_ | apply lN_ | apply l1_ | refine below_set ?_ GE140.out | refine below_set ?_ GE141.out) | exact HB.out)))); (case aL => have := LMc51.out; omega); intro v168 w55 ho hb hg hat; rw [← Ny167.out] at ho; have n0_ := Aside0.mk (blk_grown (g := gb140) (o := .cells #[.int .u64 a0_0, .int .u64 a0_1, .int .u64 a0_2, .string a0_3, .string a0_4, .int .i64 a0_5, .int .i64 a0_6, .int .u64 a0_7, .int .u64 a0_8, .slice A0_9 l0_9.length c0_9] 37 (0, 0)) (by (with_reducible repeat (first | refine bN_ ?_ _ | refine bD_ ?_ | refine bA_ ?_ _)); exact BK140.out) hg (Kd.R_ne HO_5.out BK140.out (by decide))); have n1_ := Aside0.mk (blk_grown (g := gb141) (o := .cells #[.int .u64 a1_0, .int .u64 a1_1, .int .u64 a1_2, .string a1_3, .string a1_4, .int .i64 a1_5, .int .i64 a1_6, .int .u64 a1_7, .int .u64 a1_8, .slice A1_9 l1_9.length c1_9] 37 (0, 0)) (by (with_reducible repeat (first | refine bN_ ?_ _ | refine bD_ ?_ | refine bA_ ?_ _)); exact BK141.out) hg (Kd.R_ne HO_5.out BK141.out (by decide))); have n2_ := Aside0.mk (hb); have n3_ := Aside0.mk (ho); clear BK140; clear BK141; clear HB; clear HO_5; have BK140 := n0_; have BK141 := n1_; have HB := n2_; have HO169 := n3_; clear n0_ n1_ n2_ n3_; clear ho hb hg hat))
       go_loopg [9] kj16 (fun kq v9 w' => ∃ (x9_3 : Int), v9 = .int .i64 x9_3 ∧ Aside0 (tallyroomref06_Compare.l1 kq y167 x9_3 = some r) ∧ Aside0 (kq ≤ kj16) ∧ Aside0 (Kd.R (Kd.int .i64) 3 w' w.heap.size (fun _ => True) v168 y167) ∧ Aside0 (w'.heap[gb140]? = some (.cells #[.int .u64 a0_0, .int .u64 a0_1, .int .u64 a0_2, .string a0_3, .string a0_4, .int .i64 a0_5, .int .i64 a0_6, .int .u64 a0_7, .int .u64 a0_8, (.slice A0_9 l0_9.length c0_9)] 37 (0, 0))) ∧ Aside0 (w'.heap[gb141]? = some (.cells #[.int .u64 a1_0, .int .u64 a1_1, .int .u64 a1_2, .string a1_3, .string a1_4, .int .i64 a1_5, .int .i64 a1_6, .int .u64 a1_7, .int .u64 a1_8, (.slice A1_9 l1_9.length c1_9)] 37 (0, 0))) ∧ Aside0 (Below w.heap.size w w'))
       case atStart => exact ⟨(0), (by first | rfl | (simp; done) | (simp [*]; done)), H', ⟨Nat.le_refl _⟩, ⟨by (with_reducible repeat (first | apply rA_ | apply rN_ | apply rD_)); exact HO169.out⟩, ⟨by (with_reducible repeat (first | refine bN_ ?_ _ | refine bD_ ?_ | refine bA_ ?_ _)); exact BK140.out⟩, ⟨by (with_reducible repeat (first | refine bN_ ?_ _ | refine bD_ ?_ | refine bA_ ?_ _)); exact BK141.out⟩, ⟨by repeat (first | (with_reducible first | exact HB.out | apply lA_ | apply lN_ | apply l1_ | refine below_set ?_ GE140.out | refine below_set ?_ GE141.out) | exact HB.out)⟩⟩
       case round =>
        clear H'
        try clear c1
        try clear c2
        try clear p2
        try clear c3
        try clear c5
        try clear p6
        try clear c24
        try clear c25
        try clear c26
        try clear c27
        try clear c30
        try clear c51
        try clear c52
        try clear c55
        try clear hcz53_0
        try clear hcz53_1
        try clear hcz53_2
        try clear hcz53_3
        try clear hcz53_4
        try clear hcz53_5
        try clear hcz53_6
        try clear hcz53_7
        try clear hcz53_8
        try clear hcz53_9
        try clear hcz54_0
        try clear hcz54_1
        try clear hcz54_2
        try clear hcz54_3
        try clear hcz54_4
        try clear hcz54_5
        try clear hcz54_6
        try clear hcz54_7
        try clear hcz54_8
        try clear hcz54_9
        try clear hfz53_0
        try clear hfz53_1
        try clear hfz53_2
        try clear hfz53_3
        try clear hfz53_4
        try clear hfz53_5
        try clear hfz53_6
        try clear hfz53_7
        try clear hfz53_8
        try clear hfz53_9
        try clear hfz54_0
        try clear hfz54_1
        try clear hfz54_2
        try clear hfz54_3
        try clear hfz54_4
        try clear hfz54_5
        try clear hfz54_6
        try clear hfz54_7
        try clear hfz54_8
        try clear hfz54_9
        obtain ⟨x9_3, rfl, HA, HK3, HO_5, BK140, BK141, HB⟩ := hrel
        cases gk with
        | zero => exact absurd HA.out (by simp [tallyroomref06_Compare.l1])
        | succ k3 =>
         have H := HA.out
         clear HA
         simp only [tallyroomref06_Compare.l1] at H
         by_cases c56 : x9_3 < (y167.length : Int)
         ·rw [if_pos c56] at H
          have c56b0 : decide (x9_3 < (y167.length : Int)) = true := decide_eq_true c56
          clear c56
          by_cases c57 : 0 ≤ x9_3
          ·rw [if_pos c57] at H
           have c57b0 : decide (0 ≤ x9_3) = true := decide_eq_true c57
           clear c57
           by_cases c58 : (rd y167 x9_3) = 0
           ·rw [if_pos c58] at H
            have c58b0 : ((rd y167 x9_3) == 0) = true := beq_iff_eq.mpr c58
            have c58b1 : ((rd y167 x9_3) != 0) = false := bne_eq_false_iff_eq.mpr c58
            clear c58
            have H' := Aside0.mk H
            clear H
            obtain ⟨Ao59, co59, eo59⟩ := Kd.R_slice HO_5.out
            subst eo59
            have p170 : 0 ≤ (x9_3 : Int) := of_decide_eq_true (by first | (with_reducible assumption) | assumption)
            have q170 : x9_3 < (y167.length : Int) := of_decide_eq_true (by first | (with_reducible assumption) | assumption)
            obtain ⟨ad170, e170, hx170_0⟩ := Kd.at_int (Kd.R_reads' HO_5.out).2.2 x9_3 p170 q170
            cases e170
            replace p170 := eq_true p170
            replace q170 := eq_true q170
            go_wp2
            go_roundg k3
            case measure => have := HK1.out; have := HJ16.out; have := HK3.out; omega
            case rel => exact ⟨(wrap64 (x9_3 + 1)), (by first | rfl | (simp; done) | (simp [*]; done)), H', ⟨by have := HK1.out; have := HJ16.out; have := HK3.out; omega⟩, ⟨by (with_reducible repeat (first | apply rA_ | apply rN_ | apply rD_)); exact HO_5.out⟩, ⟨by (with_reducible repeat (first | refine bN_ ?_ _ | refine bD_ ?_ | refine bA_ ?_ _)); exact BK140.out⟩, ⟨by (with_reducible repeat (first | refine bN_ ?_ _ | refine bD_ ?_ | refine bA_ ?_ _)); exact BK141.out⟩, ⟨by repeat (first | (with_reducible first | exact HB.out | apply lA_ | apply lN_ | apply l1_ | refine below_set ?_ GE140.out | refine below_set ?_ GE141.out) | exact HB.out)⟩⟩
           ·rw [if_neg c58] at H
            have c58b0 : ((rd y167 x9_3) == 0) = false := beq_eq_false_iff_ne.mpr c58
            have c58b1 : ((rd y167 x9_3) != 0) = true := bne_iff_ne.mpr c58
            obtain rfl := Option.some.inj H
            obtain ⟨Ao60, co60, eo60⟩ := Kd.R_slice HO_5.out
            subst eo60
            have p170 : 0 ≤ (x9_3 : Int) := of_decide_eq_true (by first | (with_reducible assumption) | assumption)
            have q170 : x9_3 < (y167.length : Int) := of_decide_eq_true (by first | (with_reducible assumption) | assumption)
            obtain ⟨ad170, e170, hx170_0⟩ := Kd.at_int (Kd.R_reads' HO_5.out).2.2 x9_3 p170 q170
            cases e170
            replace p170 := eq_true p170
            replace q170 := eq_true q170
            have p171 : 0 ≤ (x9_3 : Int) := of_decide_eq_true (by first | (with_reducible assumption) | assumption)
            have q171 : x9_3 < (y167.length : Int) := of_decide_eq_true (by first | (with_reducible assumption) | assumption)
            obtain ⟨ad171, e171, hx171_0⟩ := Kd.at_int (Kd.R_reads' HO_5.out).2.2 x9_3 p171 q171
            obtain rfl : ad170 = ad171 := (by injection e171)
            replace p171 := eq_true p171
            replace q171 := eq_true q171
            go_wp2
            go_ret
            exact ⟨by first | rfl | (simp [errW_none, errW_some] <;> rfl) | (simp [*, errW_none, errW_some] <;> rfl), by repeat (first | (with_reducible first | exact HB.out | apply lA_ | apply lN_ | apply l1_ | refine below_set ?_ GE140.out | refine below_set ?_ GE141.out) | exact HB.out)⟩
          ·rw [if_neg c57] at H
           exact absurd H (by simp)
         ·rw [if_neg c56] at H
          have c56b0 : decide (x9_3 < (y167.length : Int)) = false := decide_eq_false c56
          clear c56
          obtain rfl := Option.some.inj H
          obtain ⟨Ao61, co61, eo61⟩ := Kd.R_slice HO_5.out
          subst eo61
          go_wp2
          go_ret
          exact ⟨by first | rfl | (simp [errW_none, errW_some] <;> rfl) | (simp [*, errW_none, errW_some] <;> rfl), by repeat (first | (with_reducible first | exact HB.out | apply lA_ | apply lN_ | apply l1_ | refine below_set ?_ GE140.out | refine below_set ?_ GE141.out) | exact HB.out)⟩
      ·rw [if_neg c51] at H
       exact absurd H (by simp)
end Go.Proofs.Ytllepjhimkogjaa.XSp
