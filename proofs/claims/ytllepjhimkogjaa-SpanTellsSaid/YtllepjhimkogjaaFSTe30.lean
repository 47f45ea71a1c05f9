/- The law's proof, part 30: the text XSfx3 of this session, or words printed for this seat; what the theorem doesn't use is left out. No conditions. -/
import Derived.Test.YtllepjhimkogjaaFSTe7
import Derived.Test.YtllepjhimkogjaaProg
import Derived.Below
import Derived.Deep.Draws
import Derived.Deep.AppendLies
import Derived.Maps.AppendAt
import Derived.OwnWalk
import Derived.Laws.BytesArg
import Derived.Laws.MakeOwn
import Derived.Laws.OwnMore
import Derived.Deep.OwnRows
import Derived.Tactics
import Derived.Lib.ConvBytes
import Derived.Laws.Slices
import Derived.WalkKit
import Derived.KernelRfl
import Derived.RowKit3
import Derived.Deep.LoopGhost
import Derived.Deep.QuietTactic
import Derived.BigQuiet
import Derived.WideLaws
import Derived.Deep.DeepCutAuto
import Derived.Deep.CutBlock
import Derived.Deep.RegionHeld3
import Derived.Laws.Rows
import Derived.Lib.AppendStr
import Derived.ArgAppend
import Derived.Laws.IdiomCopy
import Derived.OrdersHeld
import Derived.Laws.BitsLemmas
import Derived.RowKit
import Derived.WalkSpells
import Derived.Lib.SlBytesConst
import Derived.Test.YtllepjhimkogjaaFSTe9
namespace Go.Proofs.Ytllepjhimkogjaa.Shr
end Go.Proofs.Ytllepjhimkogjaa.Shr
namespace Go.Proofs.YtllepjhimkogjaaW.PrintLast
end Go.Proofs.YtllepjhimkogjaaW.PrintLast
namespace Go.Proofs.YtllepjhimkogjaaW.PrintMore
end Go.Proofs.YtllepjhimkogjaaW.PrintMore
namespace Go.Proofs.YtllepjhimkogjaaW.PrintWords
end Go.Proofs.YtllepjhimkogjaaW.PrintWords
namespace Go.Proofs.Ytllepjhimkogjaa.XSf
open Go.RowKit Go.Proofs.YtllepjhimkogjaaW.PrintWords Go.Proofs.YtllepjhimkogjaaW.PrintLast Go.Proofs.YtllepjhimkogjaaW.PrintMore
set_option linter.unusedVariables false
set_option linter.unusedSimpArgs false
def errW : Option Int → Value
  | none => .nilIface
  | some c => .iface 0 (.int .i64 c)
theorem errW_none : errW none = .nilIface := rfl
theorem errW_some (c : Int) : errW (some c) = .iface 0 (.int .i64 c) := rfl
theorem info51 : (Try.prog.info? 51).map (fun i => (i.zero, i.size, i.bytes)) = some (some (.agg #[(.string ⟨#[]⟩), (.int .i64 0), (.int .i64 0), (.string ⟨#[]⟩)]), 4, 48) := by kernel_rfl
theorem info63 : (Try.prog.info? 63).map (fun i => (i.zero, i.size, i.bytes)) = some (some (.agg #[(.string ⟨#[]⟩), (.int .i64 0), (.int .i64 0), (.string ⟨#[]⟩)]), 4, 48) := by kernel_rfl
structure S61 where
  f0 : Int
  f1 : Int
  f2 : ByteArray
def z61 : S61 := ⟨(0 : Int), (0 : Int), (⟨#[]⟩ : ByteArray)⟩
def k61 : Kd S61 := Kd.iso (Kd.pair (Kd.int .i64) (Kd.pair (Kd.int .i64) Kd.string)) (fun x : S61 => (x.f0, x.f1, x.f2))
theorem k61_open {w : World} {x : S61} {cs : List Value} (h : k61.K w x cs) : cs = [.int .i64 x.f0, .int .i64 x.f1, .string x.f2] := by
  obtain ⟨_, _, rfl, rfl, ⟨_, _, rfl, rfl, rfl⟩⟩ := h
  exact rfl
theorem k61_mk (w : World) (x : S61)  : k61.K w x [.int .i64 x.f0, .int .i64 x.f1, .string x.f2] := ⟨[.int .i64 x.f0], [.int .i64 x.f1, .string x.f2], rfl, rfl, ⟨[.int .i64 x.f1], [.string x.f2], rfl, rfl, rfl⟩⟩
theorem k61_mkM (w : World) (base : Nat) (ok : Nat → Prop) (x : S61)  : k61.M w base ok x [.int .i64 x.f0, .int .i64 x.f1, .string x.f2] := ⟨[.int .i64 x.f0], [.int .i64 x.f1, .string x.f2], rfl, rfl, ⟨[.int .i64 x.f1], [.string x.f2], rfl, rfl, rfl⟩⟩
structure S63 where
  f0 : ByteArray
  f1 : S61
def z63 : S63 := ⟨(⟨#[]⟩ : ByteArray), z61⟩
def k63 : Kd S63 := Kd.iso (Kd.pair Kd.string k61) (fun x : S63 => (x.f0, x.f1))
theorem k63_open {w : World} {x : S63} {cs : List Value} (h : k63.K w x cs) : cs = [.string x.f0, .int .i64 x.f1.f0, .int .i64 x.f1.f1, .string x.f1.f2] := by
  obtain ⟨_, _, rfl, rfl, s1⟩ := h
  obtain rfl := k61_open s1
  exact rfl
theorem k63_mk (w : World) (x : S63)  : k63.K w x [.string x.f0, .int .i64 x.f1.f0, .int .i64 x.f1.f1, .string x.f1.f2] := ⟨[.string x.f0], [.int .i64 x.f1.f0, .int .i64 x.f1.f1, .string x.f1.f2], rfl, rfl, (k61_mk w x.f1 )⟩
theorem k63_mkM (w : World) (base : Nat) (ok : Nat → Prop) (x : S63)  : k63.M w base ok x [.string x.f0, .int .i64 x.f1.f0, .int .i64 x.f1.f1, .string x.f1.f2] := ⟨[.string x.f0], [.int .i64 x.f1.f0, .int .i64 x.f1.f1, .string x.f1.f2], rfl, rfl, (k61_mkM w base ok x.f1 )⟩
def rd_T63 (xs : List S63) (i : Int) : S63 := xs.getD i.toNat z63
theorem at_T63 {w : World} {A : Option Addr} {n : Nat} {xs : List S63} (h : Kd.C k63 w A n xs) (i : Int) (h0 : 0 ≤ i) (h1 : i < n) : ∃ ad , A = some ad ∧ w.cell? (ad.add (i.toNat * 4)) = some (.string (rd_T63 xs i).f0) ∧ w.cell? ⟨(ad.add (i.toNat * 4)).block, (ad.add (i.toNat * 4)).off + 1, none⟩ = some (.int .i64 (rd_T63 xs i).f1.f0) ∧ w.cell? ⟨(ad.add (i.toNat * 4)).block, (ad.add (i.toNat * 4)).off + 2, none⟩ = some (.int .i64 (rd_T63 xs i).f1.f1) ∧ w.cell? ⟨(ad.add (i.toNat * 4)).block, (ad.add (i.toNat * 4)).off + 3, none⟩ = some (.string (rd_T63 xs i).f1.f2) := by
  obtain ⟨ad, c, e, _, hK, hc0⟩ := Kd.C_get h z63 i h0 h1
  have hc : ∀ j u, c[j]? = some u → w.cell? (ad.add (i.toNat * 4 + j)) = some u := hc0
  obtain rfl := k63_open hK
  exact ⟨ad, e, hc 0 _ rfl, by rw [← add_field _ _ 1 (by omega)]; exact hc 1 _ rfl, by rw [← add_field _ _ 2 (by omega)]; exact hc 2 _ rfl, by rw [← add_field _ _ 3 (by omega)]; exact hc 3 _ rfl⟩
structure S49 where
  f0 : Int
  f1 : Int
  f2 : ByteArray
def z49 : S49 := ⟨(0 : Int), (0 : Int), (⟨#[]⟩ : ByteArray)⟩
def k49 : Kd S49 := Kd.iso (Kd.pair (Kd.int .i64) (Kd.pair (Kd.int .i64) Kd.string)) (fun x : S49 => (x.f0, x.f1, x.f2))
theorem k49_open {w : World} {x : S49} {cs : List Value} (h : k49.K w x cs) : cs = [.int .i64 x.f0, .int .i64 x.f1, .string x.f2] := by
  obtain ⟨_, _, rfl, rfl, ⟨_, _, rfl, rfl, rfl⟩⟩ := h
  exact rfl
theorem k49_openM {w : World} {base : Nat} {ok : Nat → Prop} {x : S49} {cs : List Value} (h : k49.M w base ok x cs) : cs = [.int .i64 x.f0, .int .i64 x.f1, .string x.f2] := by
  obtain ⟨_, _, rfl, rfl, ⟨_, _, rfl, rfl, rfl⟩⟩ := h
  exact rfl
theorem k49_mk (w : World) (x : S49)  : k49.K w x [.int .i64 x.f0, .int .i64 x.f1, .string x.f2] := ⟨[.int .i64 x.f0], [.int .i64 x.f1, .string x.f2], rfl, rfl, ⟨[.int .i64 x.f1], [.string x.f2], rfl, rfl, rfl⟩⟩
theorem k49_mkM (w : World) (base : Nat) (ok : Nat → Prop) (x : S49)  : k49.M w base ok x [.int .i64 x.f0, .int .i64 x.f1, .string x.f2] := ⟨[.int .i64 x.f0], [.int .i64 x.f1, .string x.f2], rfl, rfl, ⟨[.int .i64 x.f1], [.string x.f2], rfl, rfl, rfl⟩⟩
structure S51 where
  f0 : ByteArray
  f1 : S49
def z51 : S51 := ⟨(⟨#[]⟩ : ByteArray), z49⟩
def k51 : Kd S51 := Kd.iso (Kd.pair Kd.string k49) (fun x : S51 => (x.f0, x.f1))
theorem k51_open {w : World} {x : S51} {cs : List Value} (h : k51.K w x cs) : cs = [.string x.f0, .int .i64 x.f1.f0, .int .i64 x.f1.f1, .string x.f1.f2] := by
  obtain ⟨_, _, rfl, rfl, s1⟩ := h
  obtain rfl := k49_open s1
  exact rfl
theorem k51_openM {w : World} {base : Nat} {ok : Nat → Prop} {x : S51} {cs : List Value} (h : k51.M w base ok x cs) : cs = [.string x.f0, .int .i64 x.f1.f0, .int .i64 x.f1.f1, .string x.f1.f2] := by
  obtain ⟨_, _, rfl, rfl, s1⟩ := h
  obtain rfl := k49_openM s1
  exact rfl
theorem k51_mk (w : World) (x : S51)  : k51.K w x [.string x.f0, .int .i64 x.f1.f0, .int .i64 x.f1.f1, .string x.f1.f2] := ⟨[.string x.f0], [.int .i64 x.f1.f0, .int .i64 x.f1.f1, .string x.f1.f2], rfl, rfl, (k49_mk w x.f1 )⟩
theorem k51_mkM (w : World) (base : Nat) (ok : Nat → Prop) (x : S51)  : k51.M w base ok x [.string x.f0, .int .i64 x.f1.f0, .int .i64 x.f1.f1, .string x.f1.f2] := ⟨[.string x.f0], [.int .i64 x.f1.f0, .int .i64 x.f1.f1, .string x.f1.f2], rfl, rfl, (k49_mkM w base ok x.f1 )⟩
def rd_T51 (xs : List S51) (i : Int) : S51 := xs.getD i.toNat z51
theorem at_T51 {w : World} {A : Option Addr} {n : Nat} {xs : List S51} (h : Kd.C k51 w A n xs) (i : Int) (h0 : 0 ≤ i) (h1 : i < n) : ∃ ad , A = some ad ∧ w.cell? (ad.add (i.toNat * 4)) = some (.string (rd_T51 xs i).f0) ∧ w.cell? ⟨(ad.add (i.toNat * 4)).block, (ad.add (i.toNat * 4)).off + 1, none⟩ = some (.int .i64 (rd_T51 xs i).f1.f0) ∧ w.cell? ⟨(ad.add (i.toNat * 4)).block, (ad.add (i.toNat * 4)).off + 2, none⟩ = some (.int .i64 (rd_T51 xs i).f1.f1) ∧ w.cell? ⟨(ad.add (i.toNat * 4)).block, (ad.add (i.toNat * 4)).off + 3, none⟩ = some (.string (rd_T51 xs i).f1.f2) := by
  obtain ⟨ad, c, e, _, hK, hc0⟩ := Kd.C_get h z51 i h0 h1
  have hc : ∀ j u, c[j]? = some u → w.cell? (ad.add (i.toNat * 4 + j)) = some u := hc0
  obtain rfl := k51_open hK
  exact ⟨ad, e, hc 0 _ rfl, by rw [← add_field _ _ 1 (by omega)]; exact hc 1 _ rfl, by rw [← add_field _ _ 2 (by omega)]; exact hc 2 _ rfl, by rw [← add_field _ _ 3 (by omega)]; exact hc 3 _ rfl⟩
end Go.Proofs.Ytllepjhimkogjaa.XSf
namespace Go.Proofs.Ytllepjhimkogjaa.XSf
open Go.RowKit Go.Proofs.YtllepjhimkogjaaW.PrintWords Go.Proofs.YtllepjhimkogjaaW.PrintLast Go.Proofs.YtllepjhimkogjaaW.PrintMore Go.Proofs.Ytllepjhimkogjaa.Shr
set_option linter.unusedVariables false
set_option linter.unusedSimpArgs false
def tallyroomlaw06_Of.l0 : Nat → Int → Int → Int → Int → ByteArray → ByteArray → Int → Int → Int → Int → List (S63) → Int → Int → Int → ByteArray → ByteArray → Int → Int → Int → Int → List (S51) → Option (Int × Int × Int × ByteArray × ByteArray × Int × Int × Int × Int × (List (S51)))
  | 0, _, _, _, _, _, _, _, _, _, _, _, _, _, _, _, _, _, _, _, _, _ => none
  | k + 1, x4, x105000, x105001, x105002, x105003, x105004, x105005, x105006, x105007, x105008, x105009, x107000, x107001, x107002, x107003, x107004, x107005, x107006, x107007, x107008, x107009 => if x4 < (x105009.length : Int) then (if 0 ≤ x4 then (if x107009.length < 2932031007402 then (tallyroomlaw06_Of.l0 k (wrap64 (x4 + 1)) x105000 x105001 x105002 x105003 x105004 x105005 x105006 x105007 x105008 x105009 x107000 x107001 x107002 x107003 x107004 x107005 x107006 x107007 x107008 (x107009 ++ [(⟨(rd_T63 x105009 x4).f0, (⟨(rd_T63 x105009 x4).f1.f0, (rd_T63 x105009 x4).f1.f1, (rd_T63 x105009 x4).f1.f2⟩ : S49)⟩ : S51)])) else (none)) else (none)) else (some (x107000, x107001, x107002, x107003, x107004, x107005, x107006, x107007, x107008, x107009))
def tallyroomlaw06_Of.f (k : Nat) (a0_0 : Int) (a0_1 : Int) (a0_2 : Int) (a0_3 : ByteArray) (a0_4 : ByteArray) (a0_5 : Int) (a0_6 : Int) (a0_7 : Int) (a0_8 : Int) (l0_9 : List (S63)) : Option (Int × Int × Int × ByteArray × ByteArray × Int × Int × Int × Int × (List (S51))) := tallyroomlaw06_Of.l0 k 0 a0_0 a0_1 a0_2 a0_3 a0_4 a0_5 a0_6 a0_7 a0_8 l0_9 a0_0 a0_1 a0_2 a0_3 a0_4 a0_5 a0_6 a0_7 a0_8 ([] : List (S51))
theorem tallyroomlaw06_Of.mono_l : ∀ k, (∀ y0 y1 y2 y3 y4 y5 y6 y7 y8 y9 y10 y11 y12 y13 y14 y15 y16 y17 y18 y19 y20, LeO (tallyroomlaw06_Of.l0 k y0 y1 y2 y3 y4 y5 y6 y7 y8 y9 y10 y11 y12 y13 y14 y15 y16 y17 y18 y19 y20) (tallyroomlaw06_Of.l0 (k + 1) y0 y1 y2 y3 y4 y5 y6 y7 y8 y9 y10 y11 y12 y13 y14 y15 y16 y17 y18 y19 y20))
  | 0 => fun _ _ _ _ _ _ _ _ _ _ _ _ _ _ _ _ _ _ _ _ _ r h => by simp [tallyroomlaw06_Of.l0] at h
  | k + 1 => by
    have ih0 := tallyroomlaw06_Of.mono_l k
    · intro y0 y1 y2 y3 y4 y5 y6 y7 y8 y9 y10 y11 y12 y13 y14 y15 y16 y17 y18 y19 y20
      unfold tallyroomlaw06_Of.l0
      repeat' first
      | (with_reducible exact ih0 _ _ _ _ _ _ _ _ _ _ _ _ _ _ _ _ _ _ _ _ _)
      | (with_reducible exact LeO.refl _)
      | (with_reducible exact LeO.none _)
      | (with_reducible refine LeO.ite ?_ ?_)
      | (with_reducible refine LeO.bind ?_ (fun _ => ?_))
      | exact ih0 _ _ _ _ _ _ _ _ _ _ _ _ _ _ _ _ _ _ _ _ _
      | exact LeO.none _
      | refine LeO.ite ?_ ?_
      | refine LeO.bind ?_ (fun _ => ?_)
theorem tallyroomlaw06_Of.mono : ∀ a0 a1 a2 a3 a4 a5 a6 a7 a8 a9 k, LeO (tallyroomlaw06_Of.f k a0 a1 a2 a3 a4 a5 a6 a7 a8 a9) (tallyroomlaw06_Of.f (k + 1) a0 a1 a2 a3 a4 a5 a6 a7 a8 a9) := by
  intro a0 a1 a2 a3 a4 a5 a6 a7 a8 a9 k
  have ih0 := tallyroomlaw06_Of.mono_l k
  unfold tallyroomlaw06_Of.f
  repeat' first
      | (with_reducible exact ih0 _ _ _ _ _ _ _ _ _ _ _ _ _ _ _ _ _ _ _ _ _)
      | (with_reducible exact LeO.refl _)
      | (with_reducible exact LeO.none _)
      | (with_reducible refine LeO.ite ?_ ?_)
      | (with_reducible refine LeO.bind ?_ (fun _ => ?_))
      | exact ih0 _ _ _ _ _ _ _ _ _ _ _ _ _ _ _ _ _ _ _ _ _
      | exact LeO.none _
      | refine LeO.ite ?_ ?_
      | refine LeO.bind ?_ (fun _ => ?_)
def tallyroomlaw06_Of.T5 : Bool × List (List Nat × List Nat) := (true, [([], []), ([0], [0]), ([], []), ([2], [2]), ([], []), ([3, 4], [3, 4]), ([5], [5]), ([6], [6]), ([], []), ([8], [8]), ([], []), ([9, 10], [9, 10]), ([11], [11]), ([12], [12]), ([7, 13], [7, 13]), ([14], [14]), ([1, 15], [1, 15]), ([0, 1, 2, 3, 4, 5, 6, 7, 8, 9, 10, 11, 12, 13, 14, 15, 16], []), ([17, 16, 16, 0, 1, 2, 3, 4, 5, 6, 7, 8, 9, 10, 11, 12, 13, 14, 15, 16], [16, 17])])
def tallyroomlaw06_Of.B5 : List Nat := [0, 1, 0, 4, 0, 28, 60, 124, 0, 256, 0, 1792, 3840, 7936, 16380, 32764, 65535, 131071, 262143]
theorem tallyroomlaw06_Of.tab5 : rtab .any (opsOf Try.f21 5) = tallyroomlaw06_Of.T5 := by kernel_rfl
theorem tallyroomlaw06_Of.bits5 : waitsOk tallyroomlaw06_Of.T5.2 tallyroomlaw06_Of.B5 = true := by kernel_rfl
set_option maxHeartbeats 8000000 in
set_option maxRecDepth 100000 in
theorem tallyroomlaw06_Of.calls (k : Nat) (a0_0 : Int) (a0_1 : Int) (a0_2 : Int) (a0_3 : ByteArray) (a0_4 : ByteArray) (a0_5 : Int) (a0_6 : Int) (a0_7 : Int) (a0_8 : Int) (A0_9 : Option Addr) (c0_9 : Nat) (l0_9 : List (S63)) (r1 : Int) (r2 : Int) (r3 : Int) (r4 : ByteArray) (r5 : ByteArray) (r6 : Int) (r7 : Int) (r8 : Int) (r9 : Int) (r10 : List (S51)) (w : World) (hr0_9 : Kd.C k63 w A0_9 l0_9.length l0_9) (hc0_9 : l0_9.length ≤ c0_9) (h : tallyroomlaw06_Of.f k a0_0 a0_1 a0_2 a0_3 a0_4 a0_5 a0_6 a0_7 a0_8 l0_9 = some (r1, r2, r3, r4, r5, r6, r7, r8, r9, r10)) :
    Calls Try.prog 21 #[.agg #[.int .u64 a0_0, .int .u64 a0_1, .int .u64 a0_2, .string a0_3, .string a0_4, .int .i64 a0_5, .int .i64 a0_6, .int .u64 a0_7, .int .u64 a0_8, .slice A0_9 l0_9.length c0_9]] w fun e w' => ∃ v9_ : Value, e = .returned (.agg #[.int .u64 r1, .int .u64 r2, .int .u64 r3, .string r4, .string r5, .int .i64 r6, .int .i64 r7, .int .u64 r8, .int .u64 r9, v9_]) ∧ Kd.R k51 51 w' w.heap.size (fun _ => True) v9_ r10 ∧ Below w.heap.size w w' := by
  have hu37 := Try.underlying37
  have hu40 := Try.underlying40
  have hu61 := Try.underlying61
  have hu51 := Try.underlying51
  have HR0_9 := Aside0.mk hr0_9
  have HC0_9 := Aside0.mk hc0_9
  clear hr0_9 hc0_9
  have HB := Aside0.mk (Below.refl w.heap.size w)
  have H : (tallyroomlaw06_Of.l0 k 0 a0_0 a0_1 a0_2 a0_3 a0_4 a0_5 a0_6 a0_7 a0_8 l0_9 a0_0 a0_1 a0_2 a0_3 a0_4 a0_5 a0_6 a0_7 a0_8 ([] : List (S51))) = some (r1, r2, r3, r4, r5, r6, r7, r8, r9, r10) := h
  clear h
  have H' := Aside0.mk H
  clear H
  go_enter Try.func21, Try.ntmps21
  go_wp2_with (first | ((with_reducible refine gate_dst (N := 1) rfl ?_); refine box_event ?hg (N := 1) ?hd (cs := #[.int .u64 a0_0, .int .u64 a0_1, .int .u64 a0_2, .string a0_3, .string a0_4, .int .i64 a0_5, .int .i64 a0_6, .int .u64 a0_7, .int .u64 a0_8, .slice A0_9 l0_9.length c0_9]) (t := 37) ?hr ?_; (case hd => rfl); (case hg => rfl); (case hr => first | (go_simp; done) | (go_simp; rfl)); intro gb104 hg w2 hbox hb; have n0_ := Aside0.mk (ls_ (by repeat (first | (with_reducible first | exact HB.out | apply lA_ | apply lN_ | apply l1_) | exact HB.out)) hb); have n1_ := Aside0.mk (hbox); have n2_ := Aside0.mk ((by rw [hg]; exact (bz_ (by repeat (first | (with_reducible first | exact HB.out | apply lA_ | apply lN_ | apply l1_) | exact HB.out))) : w.heap.size ≤ gb104)); have n3_ := Aside0.mk ((by rw [hg]; exact (bz_ (by repeat (first | (with_reducible first | exact HB.out | apply lA_ | apply lN_ | apply l1_) | exact HB.out))) : w.heap.size ≤ gb104)); clear HB; have HB := n0_; have BK104 := n1_; have GW104 := n2_; have GE104 := n3_; clear n0_ n1_ n2_ n3_; clear hb hbox hg) | ((with_reducible refine gate_dst (N := 2) rfl ?_); refine box_event ?hg (N := 2) ?hd (cs := #[.int .u64 0, .int .u64 0, .int .u64 0, .string (⟨#[]⟩ : ByteArray), .string (⟨#[]⟩ : ByteArray), .int .i64 0, .int .i64 0, .int .u64 0, .int .u64 0, .slice none 0 0]) (t := 40) ?hr ?_; (case hd => rfl); (case hg => rfl); (case hr => first | (go_simp; done) | (go_simp; rfl)); intro gb105 hg w3 hbox hb; have n0_ := Aside0.mk (bb_ (g := gb104) (o := .cells #[.int .u64 a0_0, .int .u64 a0_1, .int .u64 a0_2, .string a0_3, .string a0_4, .int .i64 a0_5, .int .i64 a0_6, .int .u64 a0_7, .int .u64 a0_8, .slice A0_9 l0_9.length c0_9] 37 (0, 0)) (by (with_reducible repeat (first | refine bN_ ?_ _ | refine bD_ ?_ | refine bA_ ?_ _)); exact BK104.out) hb); have n1_ := Aside0.mk (ls_ (by repeat (first | (with_reducible first | exact HB.out | apply lA_ | apply lN_ | apply l1_ | refine below_set ?_ GE104.out) | exact HB.out)) hb); have n2_ := Aside0.mk (hbox); have n3_ := Aside0.mk ((by rw [hg]; exact (bz_ (by repeat (first | (with_reducible first | exact HB.out | apply lA_ | apply lN_ | apply l1_ | refine below_set ?_ GE104.out) | exact HB.out))) : w.heap.size ≤ gb105)); have n4_ := Aside0.mk ((by rw [hg]; exact (bz_ (by repeat (first | (with_reducible first | exact HB.out | apply lA_ | apply lN_ | apply l1_ | refine below_set ?_ GE104.out) | exact HB.out))) : w.heap.size ≤ gb105)); have n5_ := Aside0.mk ((by rw [hg]; exact Nat.ne_of_lt (blk_lt (g := gb104) (o := .cells #[.int .u64 a0_0, .int .u64 a0_1, .int .u64 a0_2, .string a0_3, .string a0_4, .int .i64 a0_5, .int .i64 a0_6, .int .u64 a0_7, .int .u64 a0_8, .slice A0_9 l0_9.length c0_9] 37 (0, 0)) (by (with_reducible repeat (first | refine bN_ ?_ _ | refine bD_ ?_ | refine bA_ ?_ _)); exact BK104.out)) : gb104 ≠ gb105)); have n6_ := Aside0.mk ((by rw [hg]; exact Nat.ne_of_gt (blk_lt (g := gb104) (o := .cells #[.int .u64 a0_0, .int .u64 a0_1, .int .u64 a0_2, .string a0_3, .string a0_4, .int .i64 a0_5, .int .i64 a0_6, .int .u64 a0_7, .int .u64 a0_8, .slice A0_9 l0_9.length c0_9] 37 (0, 0)) (by (with_reducible repeat (first | refine bN_ ?_ _ | refine bD_ ?_ | refine bA_ ?_ _)); exact BK104.out)) : gb105 ≠ gb104)); clear BK104; clear HB; have BK104 := n0_; have HB := n1_; have BK105 := n2_; have GW105 := n3_; have GE105 := n4_; have NB104_105 := n5_; have NB105_104 := n6_; clear n0_ n1_ n2_ n3_ n4_ n5_ n6_; clear hb hbox hg; have hnb4 := NB104_105.out; have hnc4 := NB105_104.out; have hcz5_0 : w3.cell? ⟨gb104, 0, none⟩ = some (.int .u64 a0_0) := (bc1_ BK104.out 0).trans rfl; have hcz5_1 : w3.cell? ⟨gb104, 1, none⟩ = some (.int .u64 a0_1) := (bc1_ BK104.out 1).trans rfl; have hcz5_2 : w3.cell? ⟨gb104, 2, none⟩ = some (.int .u64 a0_2) := (bc1_ BK104.out 2).trans rfl; have hcz5_3 : w3.cell? ⟨gb104, 3, none⟩ = some (.string a0_3) := (bc1_ BK104.out 3).trans rfl; have hcz5_4 : w3.cell? ⟨gb104, 4, none⟩ = some (.string a0_4) := (bc1_ BK104.out 4).trans rfl; have hcz5_5 : w3.cell? ⟨gb104, 5, none⟩ = some (.int .i64 a0_5) := (bc1_ BK104.out 5).trans rfl; have hcz5_6 : w3.cell? ⟨gb104, 6, none⟩ = some (.int .i64 a0_6) := (bc1_ BK104.out 6).trans rfl; have hcz5_7 : w3.cell? ⟨gb104, 7, none⟩ = some (.int .u64 a0_7) := (bc1_ BK104.out 7).trans rfl; have hcz5_8 : w3.cell? ⟨gb104, 8, none⟩ = some (.int .u64 a0_8) := (bc1_ BK104.out 8).trans rfl; have hcz5_9 : w3.cell? ⟨gb104, 9, none⟩ = some (.slice A0_9 l0_9.length c0_9) := (bc1_ BK104.out 9).trans rfl; have hfz5_0 := bf1_ BK104.out 0; have hfz5_1 := bf1_ BK104.out 1; have hfz5_2 := bf1_ BK104.out 2; have hfz5_3 := bf1_ BK104.out 3; have hfz5_4 := bf1_ BK104.out 4; have hfz5_5 := bf1_ BK104.out 5; have hfz5_6 := bf1_ BK104.out 6; have hfz5_7 := bf1_ BK104.out 7; have hfz5_8 := bf1_ BK104.out 8; have hfz5_9 := bf1_ BK104.out 9) | ((with_reducible refine gate_dst (N := 3) rfl ?_); refine box_event ?hg (N := 3) ?hd (cs := #[.int .u64 0, .int .u64 0, .int .u64 0, .string (⟨#[]⟩ : ByteArray), .string (⟨#[]⟩ : ByteArray), .int .i64 0, .int .i64 0, .int .u64 0, .int .u64 0, .slice none 0 0]) (t := 40) ?hr ?_; (case hd => rfl); (case hg => rfl); (case hr => first | (go_simp; done) | (go_simp; rfl)); intro gb106 hg w6 hbox hb; have n0_ := Aside0.mk (bb_ (g := gb104) (o := .cells #[.int .u64 a0_0, .int .u64 a0_1, .int .u64 a0_2, .string a0_3, .string a0_4, .int .i64 a0_5, .int .i64 a0_6, .int .u64 a0_7, .int .u64 a0_8, .slice A0_9 l0_9.length c0_9] 37 (0, 0)) (by (with_reducible repeat (first | refine bN_ ?_ _ | refine bD_ ?_ | refine bA_ ?_ _)); exact BK104.out) hb); have n1_ := Aside0.mk (bb_ (g := gb105) (o := .cells #[.int .u64 0, .int .u64 0, .int .u64 0, .string (⟨#[]⟩ : ByteArray), .string (⟨#[]⟩ : ByteArray), .int .i64 0, .int .i64 0, .int .u64 0, .int .u64 0, .slice none 0 0] 40 (0, 0)) (by (with_reducible repeat (first | refine bN_ ?_ _ | refine bD_ ?_ | refine bA_ ?_ _)); exact BK105.out) hb); have n2_ := Aside0.mk (ls_ (by repeat (first | (with_reducible first | exact HB.out | apply lA_ | apply lN_ | apply l1_ | refine below_set ?_ GE104.out | refine below_set ?_ GE105.out) | exact HB.out)) hb); have n3_ := Aside0.mk (hbox); have n4_ := Aside0.mk ((by rw [hg]; exact (bz_ (by repeat (first | (with_reducible first | exact HB.out | apply lA_ | apply lN_ | apply l1_ | refine below_set ?_ GE104.out | refine below_set ?_ GE105.out) | exact HB.out))) : w.heap.size ≤ gb106)); have n5_ := Aside0.mk ((by rw [hg]; exact (bz_ (by repeat (first | (with_reducible first | exact HB.out | apply lA_ | apply lN_ | apply l1_ | refine below_set ?_ GE104.out | refine below_set ?_ GE105.out) | exact HB.out))) : w.heap.size ≤ gb106)); have n6_ := Aside0.mk ((by rw [hg]; exact Nat.ne_of_lt (blk_lt (g := gb104) (o := .cells #[.int .u64 a0_0, .int .u64 a0_1, .int .u64 a0_2, .string a0_3, .string a0_4, .int .i64 a0_5, .int .i64 a0_6, .int .u64 a0_7, .int .u64 a0_8, .slice A0_9 l0_9.length c0_9] 37 (0, 0)) (by (with_reducible repeat (first | refine bN_ ?_ _ | refine bD_ ?_ | refine bA_ ?_ _)); exact BK104.out)) : gb104 ≠ gb106)); have n7_ := Aside0.mk ((by rw [hg]; exact Nat.ne_of_gt (blk_lt (g := gb104) (o := .cells #[.int .u64 a0_0, .int .u64 a0_1, .int .u64 a0_2, .string a0_3, .string a0_4, .int .i64 a0_5, .int .i64 a0_6, .int .u64 a0_7, .int .u64 a0_8, .slice A0_9 l0_9.length c0_9] 37 (0, 0)) (by (with_reducible repeat (first | refine bN_ ?_ _ | refine bD_ ?_ | refine bA_ ?_ _)); exact BK104.out)) : gb106 ≠ gb104)); have n8_ := Aside0.mk ((by rw [hg]; exact Nat.ne_of_lt (blk_lt (g := gb105) (o := .cells #[.int .u64 0, .int .u64 0, .int .u64 0, .string (⟨#[]⟩ : ByteArray), .string (⟨#[]⟩ : ByteArray), .int .i64 0, .int .i64 0, .int .u64 0, .int .u64 0, .slice none 0 0] 40 (0, 0)) (by (with_reducible repeat (first | refine bN_ ?_ _ | refine bD_ ?_ | refine bA_ ?_ _)); exact BK105.out)) : gb105 ≠ gb106)); have n9_ := Aside0.mk ((by rw [hg]; exact Nat.ne_of_gt (blk_lt (g := gb105) (o := .cells #[.int .u64 0, .int .u64 0, .int .u64 0, .string (⟨#[]⟩ : ByteArray), .string (⟨#[]⟩ : ByteArray), .int .i64 0, .int .i64 0, .int .u64 0, .int .u64 0, .slice none 0 0] 40 (0, 0)) (by (with_reducible repeat (first | refine bN_ ?_ _ | refine bD_ ?_ | refine bA_ ?_ _)); exact BK105.out)) : gb106 ≠ gb105)); clear BK104; clear BK105; clear HB; have BK104 := n0_; have BK105 := n1_; have HB := n2_; have BK106 := n3_; have GW106 := n4_; have GE106 := n5_; have NB104_106 := n6_; have NB106_104 := n7_; have NB105_106 := n8_; have NB106_105 := n9_; clear n0_ n1_ n2_ n3_ n4_ n5_ n6_ n7_ n8_ n9_; clear hb hbox hg; have hnb7 := NB106_104.out; have hnc7 := NB104_106.out; have hnb8 := NB106_105.out; have hnc8 := NB105_106.out; have hcz9_0 : w6.cell? ⟨gb106, 0, none⟩ = some (.int .u64 0) := (bc1_ BK106.out 0).trans rfl; have hcz9_1 : w6.cell? ⟨gb106, 1, none⟩ = some (.int .u64 0) := (bc1_ BK106.out 1).trans rfl; have hcz9_2 : w6.cell? ⟨gb106, 2, none⟩ = some (.int .u64 0) := (bc1_ BK106.out 2).trans rfl; have hcz9_3 : w6.cell? ⟨gb106, 3, none⟩ = some (.string (⟨#[]⟩ : ByteArray)) := (bc1_ BK106.out 3).trans rfl; have hcz9_4 : w6.cell? ⟨gb106, 4, none⟩ = some (.string (⟨#[]⟩ : ByteArray)) := (bc1_ BK106.out 4).trans rfl; have hcz9_5 : w6.cell? ⟨gb106, 5, none⟩ = some (.int .i64 0) := (bc1_ BK106.out 5).trans rfl; have hcz9_6 : w6.cell? ⟨gb106, 6, none⟩ = some (.int .i64 0) := (bc1_ BK106.out 6).trans rfl; have hcz9_7 : w6.cell? ⟨gb106, 7, none⟩ = some (.int .u64 0) := (bc1_ BK106.out 7).trans rfl; have hcz9_8 : w6.cell? ⟨gb106, 8, none⟩ = some (.int .u64 0) := (bc1_ BK106.out 8).trans rfl; have hcz9_9 : w6.cell? ⟨gb106, 9, none⟩ = some (.slice none 0 0) := (bc1_ BK106.out 9).trans rfl; have hfz9_0 := bf1_ BK106.out 0; have hfz9_1 := bf1_ BK106.out 1; have hfz9_2 := bf1_ BK106.out 2; have hfz9_3 := bf1_ BK106.out 3; have hfz9_4 := bf1_ BK106.out 4; have hfz9_5 := bf1_ BK106.out 5; have hfz9_6 := bf1_ BK106.out 6; have hfz9_7 := bf1_ BK106.out 7; have hfz9_8 := bf1_ BK106.out 8; have hfz9_9 := bf1_ BK106.out 9))
  go_loopg [4] k (fun kq v4 w' => ∃ (x4_1 : Int) (x107009_1 : List (S51)) (u107009 : Value), v4 = .int .i64 x4_1 ∧ Aside0 (tallyroomlaw06_Of.l0 kq x4_1 a0_0 a0_1 a0_2 a0_3 a0_4 a0_5 a0_6 a0_7 a0_8 l0_9 a0_0 a0_1 a0_2 a0_3 a0_4 a0_5 a0_6 a0_7 a0_8 x107009_1 = some (r1, r2, r3, r4, r5, r6, r7, r8, r9, r10)) ∧ Aside0 (kq ≤ k) ∧ Aside0 (Kd.R k51 51 w' w.heap.size (fun _ => True) u107009 x107009_1) ∧ Aside0 (w'.heap[gb104]? = some (.cells #[.int .u64 a0_0, .int .u64 a0_1, .int .u64 a0_2, .string a0_3, .string a0_4, .int .i64 a0_5, .int .i64 a0_6, .int .u64 a0_7, .int .u64 a0_8, (.slice A0_9 l0_9.length c0_9)] 37 (0, 0))) ∧ Aside0 (w'.heap[gb105]? = some (.cells #[.int .u64 0, .int .u64 0, .int .u64 0, .string (⟨#[]⟩ : ByteArray), .string (⟨#[]⟩ : ByteArray), .int .i64 0, .int .i64 0, .int .u64 0, .int .u64 0, (.slice none 0 0)] 40 (0, 0))) ∧ Aside0 (w'.heap[gb106]? = some (.cells #[.int .u64 a0_0, .int .u64 a0_1, .int .u64 a0_2, .string a0_3, .string a0_4, .int .i64 a0_5, .int .i64 a0_6, .int .u64 a0_7, .int .u64 a0_8, u107009] 40 (0, 0))) ∧ Aside0 (Below w.heap.size w w'))
  case atStart => exact ⟨(0), (([] : List (S51))), (.slice none 0 0), (by first | rfl | (simp; done) | (simp [*]; done)), H', ⟨Nat.le_refl _⟩, ⟨by first | exact Kd.R_nil _ _ _ _ _ | exact Kd.N_nil _ _ _ _ _ | exact Kd.V_nil _ _ _ _ _ | exact Kd.Q_nil _ _ _ _ _ | exact Kd.S_nil _ _ _ _ _⟩, ⟨by (with_reducible repeat (first | refine bN_ ?_ _ | refine bD_ ?_ | refine bA_ ?_ _)); refine blk_far ?_ NB104_106.out _; (with_reducible repeat (first | refine bN_ ?_ _ | refine bD_ ?_ | refine bA_ ?_ _)); refine blk_far ?_ NB104_106.out _; (with_reducible repeat (first | refine bN_ ?_ _ | refine bD_ ?_ | refine bA_ ?_ _)); refine blk_far ?_ NB104_106.out _; (with_reducible repeat (first | refine bN_ ?_ _ | refine bD_ ?_ | refine bA_ ?_ _)); refine blk_far ?_ NB104_106.out _; (with_reducible repeat (first | refine bN_ ?_ _ | refine bD_ ?_ | refine bA_ ?_ _)); refine blk_far ?_ NB104_106.out _; (with_reducible repeat (first | refine bN_ ?_ _ | refine bD_ ?_ | refine bA_ ?_ _)); refine blk_far ?_ NB104_106.out _; (with_reducible repeat (first | refine bN_ ?_ _ | refine bD_ ?_ | refine bA_ ?_ _)); refine blk_far ?_ NB104_106.out _; (with_reducible repeat (first | refine bN_ ?_ _ | refine bD_ ?_ | refine bA_ ?_ _)); refine blk_far ?_ NB104_106.out _; (with_reducible repeat (first | refine bN_ ?_ _ | refine bD_ ?_ | refine bA_ ?_ _)); refine blk_far ?_ NB104_106.out _; (with_reducible repeat (first | refine bN_ ?_ _ | refine bD_ ?_ | refine bA_ ?_ _)); refine blk_far ?_ NB104_106.out _; (with_reducible repeat (first | refine bN_ ?_ _ | refine bD_ ?_ | refine bA_ ?_ _)); exact BK104.out⟩, ⟨by (with_reducible repeat (first | refine bN_ ?_ _ | refine bD_ ?_ | refine bA_ ?_ _)); refine blk_far ?_ NB105_106.out _; (with_reducible repeat (first | refine bN_ ?_ _ | refine bD_ ?_ | refine bA_ ?_ _)); refine blk_far ?_ NB105_106.out _; (with_reducible repeat (first | refine bN_ ?_ _ | refine bD_ ?_ | refine bA_ ?_ _)); refine blk_far ?_ NB105_106.out _; (with_reducible repeat (first | refine bN_ ?_ _ | refine bD_ ?_ | refine bA_ ?_ _)); refine blk_far ?_ NB105_106.out _; (with_reducible repeat (first | refine bN_ ?_ _ | refine bD_ ?_ | refine bA_ ?_ _)); refine blk_far ?_ NB105_106.out _; (with_reducible repeat (first | refine bN_ ?_ _ | refine bD_ ?_ | refine bA_ ?_ _)); refine blk_far ?_ NB105_106.out _; (with_reducible repeat (first | refine bN_ ?_ _ | refine bD_ ?_ | refine bA_ ?_ _)); refine blk_far ?_ NB105_106.out _; (with_reducible repeat (first | refine bN_ ?_ _ | refine bD_ ?_ | refine bA_ ?_ _)); refine blk_far ?_ NB105_106.out _; (with_reducible repeat (first | refine bN_ ?_ _ | refine bD_ ?_ | refine bA_ ?_ _)); refine blk_far ?_ NB105_106.out _; (with_reducible repeat (first | refine bN_ ?_ _ | refine bD_ ?_ | refine bA_ ?_ _)); refine blk_far ?_ NB105_106.out _; (with_reducible repeat (first | refine bN_ ?_ _ | refine bD_ ?_ | refine bA_ ?_ _)); exact BK105.out⟩, ⟨by (with_reducible repeat (first | refine bN_ ?_ _ | refine bD_ ?_ | refine bA_ ?_ _)); refine blk_put (cs := #[.int .u64 a0_0, .int .u64 a0_1, .int .u64 a0_2, .string a0_3, .string a0_4, .int .i64 a0_5, .int .i64 a0_6, .int .u64 a0_7, .int .u64 a0_8, .slice none 0 0]) ?_ 9 _ rfl; (with_reducible repeat (first | refine bN_ ?_ _ | refine bD_ ?_ | refine bA_ ?_ _)); refine blk_put (cs := #[.int .u64 a0_0, .int .u64 a0_1, .int .u64 a0_2, .string a0_3, .string a0_4, .int .i64 a0_5, .int .i64 a0_6, .int .u64 a0_7, .int .u64 0, .slice none 0 0]) ?_ 8 _ rfl; (with_reducible repeat (first | refine bN_ ?_ _ | refine bD_ ?_ | refine bA_ ?_ _)); refine blk_put (cs := #[.int .u64 a0_0, .int .u64 a0_1, .int .u64 a0_2, .string a0_3, .string a0_4, .int .i64 a0_5, .int .i64 a0_6, .int .u64 0, .int .u64 0, .slice none 0 0]) ?_ 7 _ rfl; (with_reducible repeat (first | refine bN_ ?_ _ | refine bD_ ?_ | refine bA_ ?_ _)); refine blk_put (cs := #[.int .u64 a0_0, .int .u64 a0_1, .int .u64 a0_2, .string a0_3, .string a0_4, .int .i64 a0_5, .int .i64 0, .int .u64 0, .int .u64 0, .slice none 0 0]) ?_ 6 _ rfl; (with_reducible repeat (first | refine bN_ ?_ _ | refine bD_ ?_ | refine bA_ ?_ _)); refine blk_put (cs := #[.int .u64 a0_0, .int .u64 a0_1, .int .u64 a0_2, .string a0_3, .string a0_4, .int .i64 0, .int .i64 0, .int .u64 0, .int .u64 0, .slice none 0 0]) ?_ 5 _ rfl; (with_reducible repeat (first | refine bN_ ?_ _ | refine bD_ ?_ | refine bA_ ?_ _)); refine blk_put (cs := #[.int .u64 a0_0, .int .u64 a0_1, .int .u64 a0_2, .string a0_3, .string (⟨#[]⟩ : ByteArray), .int .i64 0, .int .i64 0, .int .u64 0, .int .u64 0, .slice none 0 0]) ?_ 4 _ rfl; (with_reducible repeat (first | refine bN_ ?_ _ | refine bD_ ?_ | refine bA_ ?_ _)); refine blk_put (cs := #[.int .u64 a0_0, .int .u64 a0_1, .int .u64 a0_2, .string (⟨#[]⟩ : ByteArray), .string (⟨#[]⟩ : ByteArray), .int .i64 0, .int .i64 0, .int .u64 0, .int .u64 0, .slice none 0 0]) ?_ 3 _ rfl; (with_reducible repeat (first | refine bN_ ?_ _ | refine bD_ ?_ | refine bA_ ?_ _)); refine blk_put (cs := #[.int .u64 a0_0, .int .u64 a0_1, .int .u64 0, .string (⟨#[]⟩ : ByteArray), .string (⟨#[]⟩ : ByteArray), .int .i64 0, .int .i64 0, .int .u64 0, .int .u64 0, .slice none 0 0]) ?_ 2 _ rfl; (with_reducible repeat (first | refine bN_ ?_ _ | refine bD_ ?_ | refine bA_ ?_ _)); refine blk_put (cs := #[.int .u64 a0_0, .int .u64 0, .int .u64 0, .string (⟨#[]⟩ : ByteArray), .string (⟨#[]⟩ : ByteArray), .int .i64 0, .int .i64 0, .int .u64 0, .int .u64 0, .slice none 0 0]) ?_ 1 _ rfl; (with_reducible repeat (first | refine bN_ ?_ _ | refine bD_ ?_ | refine bA_ ?_ _)); refine blk_put (cs := #[.int .u64 0, .int .u64 0, .int .u64 0, .string (⟨#[]⟩ : ByteArray), .string (⟨#[]⟩ : ByteArray), .int .i64 0, .int .i64 0, .int .u64 0, .int .u64 0, .slice none 0 0]) ?_ 0 _ rfl; (with_reducible repeat (first | refine bN_ ?_ _ | refine bD_ ?_ | refine bA_ ?_ _)); exact BK106.out⟩, ⟨by repeat (first | (with_reducible first | exact HB.out | apply lA_ | apply lN_ | apply l1_ | refine below_set ?_ GE104.out | refine below_set ?_ GE105.out | refine below_set ?_ GE106.out) | exact HB.out)⟩⟩
  case round =>
    clear H'
    try clear c2
    try clear p2
    try clear c4
    try clear c7
    try clear c8
    try clear hcz5_0
    try clear hcz5_1
    try clear hcz5_2
    try clear hcz5_3
    try clear hcz5_4
    try clear hcz5_5
    try clear hcz5_6
    try clear hcz5_7
    try clear hcz5_8
    try clear hcz5_9
    try clear hcz9_0
    try clear hcz9_1
    try clear hcz9_2
    try clear hcz9_3
    try clear hcz9_4
    try clear hcz9_5
    try clear hcz9_6
    try clear hcz9_7
    try clear hcz9_8
    try clear hcz9_9
    try clear hfz5_0
    try clear hfz5_1
    try clear hfz5_2
    try clear hfz5_3
    try clear hfz5_4
    try clear hfz5_5
    try clear hfz5_6
    try clear hfz5_7
    try clear hfz5_8
    try clear hfz5_9
    try clear hfz9_0
    try clear hfz9_1
    try clear hfz9_2
    try clear hfz9_3
    try clear hfz9_4
    try clear hfz9_5
    try clear hfz9_6
    try clear hfz9_7
    try clear hfz9_8
    try clear hfz9_9
    obtain ⟨x4_1, x107009_1, u107009, rfl, HA, HK1, HO_107009, BK104, BK105, BK106, HB⟩ := hrel
    cases gk with
    | zero => exact absurd HA.out (by simp [tallyroomlaw06_Of.l0])
    | succ k1 =>
      have H := HA.out
      clear HA
      simp only [tallyroomlaw06_Of.l0] at H
      by_cases c10 : x4_1 < (l0_9.length : Int)
      · rw [if_pos c10] at H
        have c10b0 : decide (x4_1 < (l0_9.length : Int)) = true := decide_eq_true c10
        clear c10
        by_cases c11 : 0 ≤ x4_1
        · rw [if_pos c11] at H
          have c11b0 : decide (0 ≤ x4_1) = true := decide_eq_true c11
          clear c11
          by_cases c12 : x107009_1.length < 2932031007402
          · rw [if_pos c12] at H
            have LMc12 := Aside0.mk c12
            clear c12
            obtain ⟨y109, hy109⟩ : ∃ y_ : List (S51), y_ = (x107009_1 ++ [(⟨(rd_T63 l0_9 x4_1).f0, (⟨(rd_T63 l0_9 x4_1).f1.f0, (rd_T63 l0_9 x4_1).f1.f1, (rd_T63 l0_9 x4_1).f1.f2⟩ : S49)⟩ : S51)]) := ⟨_, rfl⟩
            replace H : (tallyroomlaw06_Of.l0 k1 (wrap64 (x4_1 + 1)) a0_0 a0_1 a0_2 a0_3 a0_4 a0_5 a0_6 a0_7 a0_8 l0_9 a0_0 a0_1 a0_2 a0_3 a0_4 a0_5 a0_6 a0_7 a0_8 y109) = some (r1, r2, r3, r4, r5, r6, r7, r8, r9, r10) := by first | (rw [hy109]; with_reducible exact H) | (have H2_ := (Option.bind_some _ _).symm.trans H; rw [hy109]; with_reducible exact H2_) | (have H2_ := (Option.bind_some _ _).symm.trans H; with_reducible exact H2_) | with_reducible exact H | (rw [hy109]; exact H) | exact H
            have Ny109 := Aside0.mk hy109
            clear hy109
            have H' := Aside0.mk H
            clear H
            have hnb13 := NB104_105.out
            have hnc13 := NB105_104.out
            have hnb14 := NB104_106.out
            have hnc14 := NB106_104.out
            have hcz15_0 : wr.cell? ⟨gb104, 0, none⟩ = some (.int .u64 a0_0) := (bc1_ BK104.out 0).trans rfl
            have hcz15_1 : wr.cell? ⟨gb104, 1, none⟩ = some (.int .u64 a0_1) := (bc1_ BK104.out 1).trans rfl
            have hcz15_2 : wr.cell? ⟨gb104, 2, none⟩ = some (.int .u64 a0_2) := (bc1_ BK104.out 2).trans rfl
            have hcz15_3 : wr.cell? ⟨gb104, 3, none⟩ = some (.string a0_3) := (bc1_ BK104.out 3).trans rfl
            have hcz15_4 : wr.cell? ⟨gb104, 4, none⟩ = some (.string a0_4) := (bc1_ BK104.out 4).trans rfl
            have hcz15_5 : wr.cell? ⟨gb104, 5, none⟩ = some (.int .i64 a0_5) := (bc1_ BK104.out 5).trans rfl
            have hcz15_6 : wr.cell? ⟨gb104, 6, none⟩ = some (.int .i64 a0_6) := (bc1_ BK104.out 6).trans rfl
            have hcz15_7 : wr.cell? ⟨gb104, 7, none⟩ = some (.int .u64 a0_7) := (bc1_ BK104.out 7).trans rfl
            have hcz15_8 : wr.cell? ⟨gb104, 8, none⟩ = some (.int .u64 a0_8) := (bc1_ BK104.out 8).trans rfl
            have hcz15_9 : wr.cell? ⟨gb104, 9, none⟩ = some (.slice A0_9 l0_9.length c0_9) := (bc1_ BK104.out 9).trans rfl
            have hfz15_0 := bf1_ BK104.out 0
            have hfz15_1 := bf1_ BK104.out 1
            have hfz15_2 := bf1_ BK104.out 2
            have hfz15_3 := bf1_ BK104.out 3
            have hfz15_4 := bf1_ BK104.out 4
            have hfz15_5 := bf1_ BK104.out 5
            have hfz15_6 := bf1_ BK104.out 6
            have hfz15_7 := bf1_ BK104.out 7
            have hfz15_8 := bf1_ BK104.out 8
            have hfz15_9 := bf1_ BK104.out 9
            try go_wp2
            have n0_ := Aside0.mk (rD_ HO_107009.out)
            have n1_ := Aside0.mk (bD_ BK104.out)
            have n2_ := Aside0.mk (bD_ BK105.out)
            have n3_ := Aside0.mk (bD_ BK106.out)
            have n4_ := Aside0.mk (l1_ HB.out)
            clear HO_107009
            clear BK104
            clear BK105
            clear BK106
            clear HB
            have HO_107009 := n0_
            have BK104 := n1_
            have BK105 := n2_
            have BK106 := n3_
            have HB := n4_
            clear n0_ n1_ n2_ n3_ n4_
            have p107 : 0 ≤ (x4_1 : Int) := of_decide_eq_true (by first | (with_reducible assumption) | assumption)
            have q107 : x4_1 < (l0_9.length : Int) := of_decide_eq_true (by first | (with_reducible assumption) | assumption)
            obtain ⟨ad107, e107, hx107_0, hx107_1, hx107_2, hx107_3⟩ := at_T63 HR0_9.out x4_1 p107 q107
            have hw107_3 := hx107_3
            have hw107_2 := hx107_2
            have hw107_1 := hx107_1
            have hw107_0 := hx107_0
            cases e107
            replace hx107_0 := bc_ HB.out hx107_0
            replace hx107_1 := bc_ HB.out hx107_1
            replace hx107_2 := bc_ HB.out hx107_2
            replace hx107_3 := bc_ HB.out hx107_3
            replace p107 := eq_true p107
            replace q107 := eq_true q107
            have p108 : 0 ≤ (x4_1 : Int) := of_decide_eq_true (by first | (with_reducible assumption) | assumption)
            have q108 : x4_1 < (l0_9.length : Int) := of_decide_eq_true (by first | (with_reducible assumption) | assumption)
            obtain ⟨ad108, e108, hx108_0, hx108_1, hx108_2, hx108_3⟩ := at_T63 HR0_9.out x4_1 p108 q108
            have hw108_3 := hx108_3
            have hw108_2 := hx108_2
            have hw108_1 := hx108_1
            have hw108_0 := hx108_0
            obtain rfl : ad107 = ad108 := (by injection e108)
            replace hx108_0 := bc_ HB.out hx108_0
            replace hx108_1 := bc_ HB.out hx108_1
            replace hx108_2 := bc_ HB.out hx108_2
            replace hx108_3 := bc_ HB.out hx108_3
            replace p108 := eq_true p108
            replace q108 := eq_true q108
            refine start_ (n := 19) (S := fun w' => w'.cell? ⟨gb106, 0, none⟩ = some (.int .u64 a0_0) ∧ w'.cell? ⟨gb106, 1, none⟩ = some (.int .u64 a0_1) ∧ w'.cell? ⟨gb106, 2, none⟩ = some (.int .u64 a0_2) ∧ w'.cell? ⟨gb106, 3, none⟩ = some (.string a0_3) ∧ w'.cell? ⟨gb106, 4, none⟩ = some (.string a0_4) ∧ w'.cell? ⟨gb106, 5, none⟩ = some (.int .i64 a0_5) ∧ w'.cell? ⟨gb106, 6, none⟩ = some (.int .i64 a0_6) ∧ w'.cell? ⟨gb106, 7, none⟩ = some (.int .u64 a0_7) ∧ w'.cell? ⟨gb106, 8, none⟩ = some (.int .u64 a0_8) ∧ w'.cell? ⟨gb106, 9, none⟩ = some (u107009) ∧ w'.cell? ⟨gb104, 0, none⟩ = some (.int .u64 a0_0) ∧ w'.cell? ⟨gb104, 1, none⟩ = some (.int .u64 a0_1) ∧ w'.cell? ⟨gb104, 2, none⟩ = some (.int .u64 a0_2) ∧ w'.cell? ⟨gb104, 3, none⟩ = some (.string a0_3) ∧ w'.cell? ⟨gb104, 4, none⟩ = some (.string a0_4) ∧ w'.cell? ⟨gb104, 5, none⟩ = some (.int .i64 a0_5) ∧ w'.cell? ⟨gb104, 6, none⟩ = some (.int .i64 a0_6) ∧ w'.cell? ⟨gb104, 7, none⟩ = some (.int .u64 a0_7) ∧ w'.cell? ⟨gb104, 8, none⟩ = some (.int .u64 a0_8) ∧ w'.cell? ⟨gb104, 9, none⟩ = some (.slice (some ad107) l0_9.length c0_9) ∧ w'.cell? (ad107.add ((x4_1).toNat * 4)) = some (.string ((rd_T63 l0_9 x4_1).f0)) ∧ w'.cell? ⟨(ad107.add ((x4_1).toNat * 4)).block, (ad107.add ((x4_1).toNat * 4)).off + 1, none⟩ = some (.int .i64 ((rd_T63 l0_9 x4_1).f1.f0)) ∧ w'.cell? ⟨(ad107.add ((x4_1).toNat * 4)).block, (ad107.add ((x4_1).toNat * 4)).off + 2, none⟩ = some (.int .i64 ((rd_T63 l0_9 x4_1).f1.f1)) ∧ w'.cell? ⟨(ad107.add ((x4_1).toNat * 4)).block, (ad107.add ((x4_1).toNat * 4)).off + 3, none⟩ = some (.string ((rd_T63 l0_9 x4_1).f1.f2)) ∧ w'.cell? (ad107.add ((x4_1).toNat * 4)) = some (.string ((rd_T63 l0_9 x4_1).f0)) ∧ w'.cell? ⟨(ad107.add ((x4_1).toNat * 4)).block, (ad107.add ((x4_1).toNat * 4)).off + 1, none⟩ = some (.int .i64 ((rd_T63 l0_9 x4_1).f1.f0)) ∧ w'.cell? ⟨(ad107.add ((x4_1).toNat * 4)).block, (ad107.add ((x4_1).toNat * 4)).off + 2, none⟩ = some (.int .i64 ((rd_T63 l0_9 x4_1).f1.f1)) ∧ w'.cell? ⟨(ad107.add ((x4_1).toNat * 4)).block, (ad107.add ((x4_1).toNat * 4)).off + 3, none⟩ = some (.string ((rd_T63 l0_9 x4_1).f1.f2))) (ds := [18]) #[false, false, false, false, false, false, false, false, false, false, false, false, false, false, false, false, false, false, false] (by kernel_rfl) rfl rfl ⟨(bc1_ BK106.out 0).trans rfl, (bc1_ BK106.out 1).trans rfl, (bc1_ BK106.out 2).trans rfl, (bc1_ BK106.out 3).trans rfl, (bc1_ BK106.out 4).trans rfl, (bc1_ BK106.out 5).trans rfl, (bc1_ BK106.out 6).trans rfl, (bc1_ BK106.out 7).trans rfl, (bc1_ BK106.out 8).trans rfl, (bc1_ BK106.out 9).trans rfl, (bc1_ BK104.out 0).trans rfl, (bc1_ BK104.out 1).trans rfl, (bc1_ BK104.out 2).trans rfl, (bc1_ BK104.out 3).trans rfl, (bc1_ BK104.out 4).trans rfl, (bc1_ BK104.out 5).trans rfl, (bc1_ BK104.out 6).trans rfl, (bc1_ BK104.out 7).trans rfl, (bc1_ BK104.out 8).trans rfl, (bc1_ BK104.out 9).trans rfl, (bc_ HB.out hw107_0), (bc_ HB.out hw107_1), (bc_ HB.out hw107_2), (bc_ HB.out hw107_3), (bc_ HB.out hw108_0), (bc_ HB.out hw108_1), (bc_ HB.out hw108_2), (bc_ HB.out hw108_3)⟩ (fun hHeld => ?_); refine with_tabW tallyroomlaw06_Of.tab5 tallyroomlaw06_Of.bits5 (fun HT_ HW_ => ?_)
            generalize wr.drew = w16 at HO_107009 BK104 BK105 BK106 HB hx107_0 hx107_1 hx107_2 hx107_3 hx108_0 hx108_1 hx108_2 hx108_3 hHeld ⊢
            refine pure_ (i := 0) (N := some 31) (v := ?_) (a' := ?_) (bl_ 19 1) rfl rfl (any_of HT_.out (by kernel_rfl)) (fun _ _ _ h => h) (Or.inl ⟨by rfl, ?_⟩) ?_ ?_
            rotate_left
            · intro w'
              go_simp
              with_reducible rfl
            rotate_left
            · simp only [Act.put, sb_, sz_, ss_, i64_w, i32_w]
              rfl
            refine pure_ (i := 2) (N := some 33) (v := ?_) (a' := ?_) (bl_ 19 5) rfl rfl (any_of HT_.out (by kernel_rfl)) (fun _ _ _ h => h) (Or.inl ⟨by rfl, ?_⟩) ?_ ?_
            rotate_left
            · intro w'
              go_simp
              with_reducible rfl
            rotate_left
            · simp only [Act.put, sb_, sz_, ss_, i64_w, i32_w]
              rfl
            refine pure_ (i := 4) (N := some 35) (v := ?_) (a' := ?_) (bl_ 19 21) rfl rfl (any_of HT_.out (by kernel_rfl)) (fun _ _ _ h => h) (Or.inl ⟨by rfl, ?_⟩) ?_ ?_
            rotate_left
            · intro w'
              go_simp
              with_reducible rfl
            rotate_left
            · simp only [Act.put, sb_, sz_, ss_, i64_w, i32_w]
              rfl
            refine pure_ (i := 8) (N := some 39) (v := ?_) (a' := ?_) (bl_ 19 277) rfl rfl (any_of HT_.out (by kernel_rfl)) (fun _ _ _ h => h) (Or.inl ⟨by rfl, ?_⟩) ?_ ?_
            rotate_left
            · intro w'
              go_simp
              with_reducible rfl
            rotate_left
            · simp only [Act.put, sb_, sz_, ss_, i64_w, i32_w]
              rfl
            refine pure_ (i := 10) (N := some 41) (v := ?_) (a' := ?_) (bl_ 19 1301) rfl rfl (any_of HT_.out (by kernel_rfl)) (fun _ _ _ h => h) (Or.inl ⟨by rfl, ?_⟩) ?_ ?_
            rotate_left
            · intro w'
              go_simp
              with_reducible rfl
            rotate_left
            · simp only [Act.put, sb_, sz_, ss_, i64_w, i32_w]
              rfl
            refine take_ (i := 1) (N := some 32) (v := ?_) (a' := ?_) (bl_ 19 1303) rfl rfl (take_ofW HT_.out HW_.out (by kernel_rfl)) (fun _ _ _ h => h) (Or.inl ⟨by rfl, ?_⟩) hHeld ?_ ?_
            rotate_left
            · rintro w' ⟨s0, s1, s2, s3, s4, s5, s6, s7, s8, s9, s10, s11, s12, s13, s14, s15, s16, s17, s18, s19, s20, s21, s22, s23, s24, s25, s26, s27⟩
              go_simp
              with_reducible rfl
            rotate_left
            · simp only [Act.put, sb_, sz_, ss_, i64_w, i32_w]
              rfl
            refine take_ (i := 3) (N := some 34) (v := ?_) (a' := ?_) (bl_ 19 1311) rfl rfl (take_ofW HT_.out HW_.out (by kernel_rfl)) (fun _ _ _ h => h) (Or.inl ⟨by rfl, ?_⟩) hHeld ?_ ?_
            rotate_left
            · rintro w' ⟨s0, s1, s2, s3, s4, s5, s6, s7, s8, s9, s10, s11, s12, s13, s14, s15, s16, s17, s18, s19, s20, s21, s22, s23, s24, s25, s26, s27⟩
              go_simp
              with_reducible rfl
            rotate_left
            · simp only [Act.put, sb_, sz_, ss_, i64_w, i32_w]
              rfl
            refine pure_ (i := 5) (N := some 36) (v := ?_) (a' := ?_) (bl_ 19 1343) rfl rfl (any_of HT_.out (by kernel_rfl)) (fun _ _ _ h => h) (Or.inl ⟨by rfl, ?_⟩) ?_ ?_
            rotate_left
            · intro w'
              go_simp
              with_reducible rfl
            rotate_left
            · simp only [Act.put, sb_, sz_, ss_, i64_w, i32_w]
              rfl
            refine pure_ (i := 6) (N := some 37) (v := ?_) (a' := ?_) (bl_ 19 1407) rfl rfl (any_of HT_.out (by kernel_rfl)) (fun _ _ _ h => h) (Or.inl ⟨by rfl, ?_⟩) ?_ ?_
            rotate_left
            · intro w'
              go_simp
              with_reducible rfl
            rotate_left
            · simp only [Act.put, sb_, sz_, ss_, i64_w, i32_w]
              rfl
            refine take_ (i := 7) (N := some 38) (v := ?_) (a' := ?_) (bl_ 19 1535) rfl rfl (take_ofW HT_.out HW_.out (by kernel_rfl)) (fun _ _ _ h => h) (Or.inl ⟨by rfl, ?_⟩) hHeld ?_ ?_
            rotate_left
            · rintro w' ⟨s0, s1, s2, s3, s4, s5, s6, s7, s8, s9, s10, s11, s12, s13, s14, s15, s16, s17, s18, s19, s20, s21, s22, s23, s24, s25, s26, s27⟩
              go_simp
              with_reducible rfl
            rotate_left
            · simp only [Act.put, sb_, sz_, ss_, i64_w, i32_w]
              rfl
            refine take_ (i := 9) (N := some 40) (v := ?_) (a' := ?_) (bl_ 19 2047) rfl rfl (take_ofW HT_.out HW_.out (by kernel_rfl)) (fun _ _ _ h => h) (Or.inl ⟨by rfl, ?_⟩) hHeld ?_ ?_
            rotate_left
            · rintro w' ⟨s0, s1, s2, s3, s4, s5, s6, s7, s8, s9, s10, s11, s12, s13, s14, s15, s16, s17, s18, s19, s20, s21, s22, s23, s24, s25, s26, s27⟩
              go_simp
              with_reducible rfl
            rotate_left
            · simp only [Act.put, sb_, sz_, ss_, i64_w, i32_w]
              rfl
            refine pure_ (i := 11) (N := some 42) (v := ?_) (a' := ?_) (bl_ 19 4095) rfl rfl (any_of HT_.out (by kernel_rfl)) (fun _ _ _ h => h) (Or.inl ⟨by rfl, ?_⟩) ?_ ?_
            rotate_left
            · intro w'
              go_simp
              with_reducible rfl
            rotate_left
            · simp only [Act.put, sb_, sz_, ss_, i64_w, i32_w]
              rfl
            refine pure_ (i := 12) (N := some 43) (v := ?_) (a' := ?_) (bl_ 19 8191) rfl rfl (any_of HT_.out (by kernel_rfl)) (fun _ _ _ h => h) (Or.inl ⟨by rfl, ?_⟩) ?_ ?_
            rotate_left
            · intro w'
              go_simp
              with_reducible rfl
            rotate_left
            · simp only [Act.put, sb_, sz_, ss_, i64_w, i32_w]
              rfl
            refine take_ (i := 13) (N := some 44) (v := ?_) (a' := ?_) (bl_ 19 16383) rfl rfl (take_ofW HT_.out HW_.out (by kernel_rfl)) (fun _ _ _ h => h) (Or.inl ⟨by rfl, ?_⟩) hHeld ?_ ?_
            rotate_left
            · rintro w' ⟨s0, s1, s2, s3, s4, s5, s6, s7, s8, s9, s10, s11, s12, s13, s14, s15, s16, s17, s18, s19, s20, s21, s22, s23, s24, s25, s26, s27⟩
              go_simp
              with_reducible rfl
            rotate_left
            · simp only [Act.put, sb_, sz_, ss_, i64_w, i32_w]
              rfl
            refine pure_ (i := 14) (N := some 45) (v := ?_) (a' := ?_) (bl_ 19 32767) rfl rfl (any_of HT_.out (by kernel_rfl)) (fun _ _ _ h => h) (Or.inl ⟨by rfl, ?_⟩) ?_ ?_
            rotate_left
            · intro w'
              go_simp
              with_reducible rfl
            rotate_left
            · simp only [Act.put, sb_, sz_, ss_, i64_w, i32_w]
              rfl
            refine one_ (i := 15) (N := some 46) (bl_ 19 65535) rfl rfl (one_of HT_.out (by kernel_rfl)) (by decide) (fun K hK => ?_)
            refine value_ (w1 := ?_) (v := ?_) (by rfl) rfl ?_ ?_
            rotate_left 2
            · go_simp
              constructor
              · rfl
              · rfl
            refine hK.out _ _ ⟨(bc1_ (bA_ BK106.out _) 0).trans rfl, (bc1_ (bA_ BK106.out _) 1).trans rfl, (bc1_ (bA_ BK106.out _) 2).trans rfl, (bc1_ (bA_ BK106.out _) 3).trans rfl, (bc1_ (bA_ BK106.out _) 4).trans rfl, (bc1_ (bA_ BK106.out _) 5).trans rfl, (bc1_ (bA_ BK106.out _) 6).trans rfl, (bc1_ (bA_ BK106.out _) 7).trans rfl, (bc1_ (bA_ BK106.out _) 8).trans rfl, (bc1_ (bA_ BK106.out _) 9).trans rfl, (bc1_ (bA_ BK104.out _) 0).trans rfl, (bc1_ (bA_ BK104.out _) 1).trans rfl, (bc1_ (bA_ BK104.out _) 2).trans rfl, (bc1_ (bA_ BK104.out _) 3).trans rfl, (bc1_ (bA_ BK104.out _) 4).trans rfl, (bc1_ (bA_ BK104.out _) 5).trans rfl, (bc1_ (bA_ BK104.out _) 6).trans rfl, (bc1_ (bA_ BK104.out _) 7).trans rfl, (bc1_ (bA_ BK104.out _) 8).trans rfl, (bc1_ (bA_ BK104.out _) 9).trans rfl, (World.cell?_alloc_lt _ _ _ (World.block_lt_of_cell? _ _ ((bc_ HB.out hw107_0)))).trans ((bc_ HB.out hw107_0)), (World.cell?_alloc_lt _ _ _ (World.block_lt_of_cell? _ _ ((bc_ HB.out hw107_1)))).trans ((bc_ HB.out hw107_1)), (World.cell?_alloc_lt _ _ _ (World.block_lt_of_cell? _ _ ((bc_ HB.out hw107_2)))).trans ((bc_ HB.out hw107_2)), (World.cell?_alloc_lt _ _ _ (World.block_lt_of_cell? _ _ ((bc_ HB.out hw107_3)))).trans ((bc_ HB.out hw107_3)), (World.cell?_alloc_lt _ _ _ (World.block_lt_of_cell? _ _ ((bc_ HB.out hw108_0)))).trans ((bc_ HB.out hw108_0)), (World.cell?_alloc_lt _ _ _ (World.block_lt_of_cell? _ _ ((bc_ HB.out hw108_1)))).trans ((bc_ HB.out hw108_1)), (World.cell?_alloc_lt _ _ _ (World.block_lt_of_cell? _ _ ((bc_ HB.out hw108_2)))).trans ((bc_ HB.out hw108_2)), (World.cell?_alloc_lt _ _ _ (World.block_lt_of_cell? _ _ ((bc_ HB.out hw108_3)))).trans ((bc_ HB.out hw108_3))⟩ (fun hHeld => ?_)
            clear hK K
            refine norm_ (a' := ?_) ?_ ?_
            rotate_left
            · show Act.put _ (some 46) _ = _
              simp only [Act.put, sb_, sz_, ss_, i64_w, i32_w]
              rfl
            refine one_ (i := 16) (N := some 47) (bl_ 19 131071) rfl rfl (one_of HT_.out (by kernel_rfl)) (by decide) (fun K hK => ?_)
            refine Kd.R_append_step k51 (w0 := w) w.heap.size (by rfl) (.tmp 32) (.tmp 46) 38 51 (.agg #[(.string ⟨#[]⟩), (.int .i64 0), (.int .i64 0), (.string ⟨#[]⟩)]) 48 rfl Try.underlying38 info51 rfl (by decide) (by omega) u107009 x107009_1 (⟨(rd_T63 l0_9 x4_1).f0, (⟨(rd_T63 l0_9 x4_1).f1.f0, (rd_T63 l0_9 x4_1).f1.f1, (rd_T63 l0_9 x4_1).f1.f2⟩ : S49)⟩ : S51) [.string ((rd_T63 l0_9 x4_1).f0), .int .i64 ((rd_T63 l0_9 x4_1).f1.f0), .int .i64 ((rd_T63 l0_9 x4_1).f1.f1), .string ((rd_T63 l0_9 x4_1).f1.f2)] (fun _ => True) (fun _ => False) rfl rfl ?aP (fun _ hk => hk.elim) ?aF ?aO ?aB ?aS ?aL ?_
            (case aP => exact k51_mkM _ _ _ (⟨(rd_T63 l0_9 x4_1).f0, (⟨(rd_T63 l0_9 x4_1).f1.f0, (rd_T63 l0_9 x4_1).f1.f1, (rd_T63 l0_9 x4_1).f1.f2⟩ : S49)⟩ : S51))
            (case aB => exact (by repeat (first | (with_reducible first | exact HB.out | apply lA_ | apply lN_ | apply l1_ | refine below_set ?_ GE104.out | refine below_set ?_ GE105.out | refine below_set ?_ GE106.out) | exact HB.out)))
            (case aF => exact (fun _ _ => trivial))
            (case aO => exact (by (with_reducible repeat (first | apply rA_ | apply rN_ | apply rD_)); exact HO_107009.out))
            (case aS => exact (bz_ (by repeat (first | (with_reducible first | exact HB.out | apply lA_ | apply lN_ | apply l1_ | refine below_set ?_ GE104.out | refine below_set ?_ GE105.out | refine below_set ?_ GE106.out) | exact HB.out))))
            (case aL => have := LMc12.out; omega)
            intro v110 w17 ho hb hg hat
            rw [← Ny109.out] at ho
            have n0_ := Aside0.mk (blk_grown (g := gb104) (o := .cells #[.int .u64 a0_0, .int .u64 a0_1, .int .u64 a0_2, .string a0_3, .string a0_4, .int .i64 a0_5, .int .i64 a0_6, .int .u64 a0_7, .int .u64 a0_8, .slice (some ad107) l0_9.length c0_9] 37 (0, 0)) (by (with_reducible repeat (first | refine bN_ ?_ _ | refine bD_ ?_ | refine bA_ ?_ _)); exact BK104.out) hg (Kd.R_ne HO_107009.out BK104.out (by decide)))
            have n1_ := Aside0.mk (blk_grown (g := gb105) (o := .cells #[.int .u64 0, .int .u64 0, .int .u64 0, .string (⟨#[]⟩ : ByteArray), .string (⟨#[]⟩ : ByteArray), .int .i64 0, .int .i64 0, .int .u64 0, .int .u64 0, .slice none 0 0] 40 (0, 0)) (by (with_reducible repeat (first | refine bN_ ?_ _ | refine bD_ ?_ | refine bA_ ?_ _)); exact BK105.out) hg (Kd.R_ne HO_107009.out BK105.out (by decide)))
            have n2_ := Aside0.mk (blk_grown (g := gb106) (o := .cells #[.int .u64 a0_0, .int .u64 a0_1, .int .u64 a0_2, .string a0_3, .string a0_4, .int .i64 a0_5, .int .i64 a0_6, .int .u64 a0_7, .int .u64 a0_8, u107009] 40 (0, 0)) (by (with_reducible repeat (first | refine bN_ ?_ _ | refine bD_ ?_ | refine bA_ ?_ _)); exact BK106.out) hg (Kd.R_ne HO_107009.out BK106.out (by decide)))
            have n3_ := Aside0.mk (hb)
            have n4_ := Aside0.mk (ho)
            clear BK104
            clear BK105
            clear BK106
            clear HB
            clear HO_107009
            have BK104 := n0_
            have BK105 := n1_
            have BK106 := n2_
            have HB := n3_
            have HO111 := n4_
            clear n0_ n1_ n2_ n3_ n4_
            clear ho hb hg hat
            obtain ⟨Ao18, co18, eo18⟩ := Kd.R_slice HO111.out
            (first | subst eo18 | (injection eo18 with f1_ f2_ f3_; have f4_ := f1_.symm; have f5_ := f3_.symm; clear f1_ f2_ f3_; subst f4_; subst f5_))
            refine hK.out _ _ ⟨(bc1_ BK106.out 0).trans rfl, (bc1_ BK106.out 1).trans rfl, (bc1_ BK106.out 2).trans rfl, (bc1_ BK106.out 3).trans rfl, (bc1_ BK106.out 4).trans rfl, (bc1_ BK106.out 5).trans rfl, (bc1_ BK106.out 6).trans rfl, (bc1_ BK106.out 7).trans rfl, (bc1_ BK106.out 8).trans rfl, (bc1_ BK106.out 9).trans rfl, (bc1_ BK104.out 0).trans rfl, (bc1_ BK104.out 1).trans rfl, (bc1_ BK104.out 2).trans rfl, (bc1_ BK104.out 3).trans rfl, (bc1_ BK104.out 4).trans rfl, (bc1_ BK104.out 5).trans rfl, (bc1_ BK104.out 6).trans rfl, (bc1_ BK104.out 7).trans rfl, (bc1_ BK104.out 8).trans rfl, (bc1_ BK104.out 9).trans rfl, (bc_ HB.out hw107_0), (bc_ HB.out hw107_1), (bc_ HB.out hw107_2), (bc_ HB.out hw107_3), (bc_ HB.out hw108_0), (bc_ HB.out hw108_1), (bc_ HB.out hw108_2), (bc_ HB.out hw108_3)⟩ (fun hHeld => ?_)
            clear hK K
            refine norm_ (a' := ?_) ?_ ?_
            rotate_left
            · show Act.put _ (some 47) _ = _
              simp only [Act.put, sb_, sz_, ss_, i64_w, i32_w]
              rfl
            refine pure_ (i := 17) (N := some 48) (v := ?_) (a' := ?_) (bl_ 19 262143) rfl rfl (any_of HT_.out (by kernel_rfl)) (fun _ _ _ h => h) (Or.inl ⟨by rfl, ?_⟩) ?_ ?_
            rotate_left
            · intro w'
              go_simp
              with_reducible rfl
            rotate_left
            · simp only [Act.put, sb_, sz_, ss_, i64_w, i32_w]
              rfl
            refine last_ (i := 18) (N := none) (bl_ 19 524287) rfl rfl (one_of HT_.out (by kernel_rfl)) (by decide) (fun K hK => ?_)
            have hs19 : w17.cell? ⟨gb106, 9, none⟩ = some (u107009) := (bc1_ BK106.out 9).trans rfl
            have hfs19 := bf1_ BK106.out 9
            have hns19_0 := NB104_106.out
            have hns19_1 := NB105_106.out
            have hms19_0 := NB106_104.out
            have hms19_1 := NB106_105.out
            refine skip_ (w1 := ?_) (by rfl) rfl ?_ ?_
            rotate_left
            · go_simp
              rfl
            refine hK.out _ _ ?_
            clear hK K
            refine done_ (done_of HT_.out (by kernel_rfl)) ?_
            try go_wp2
            go_roundg k1
            case measure => have := HK1.out; omega
            case rel => exact ⟨(wrap64 (x4_1 + 1)), (y109), (.slice Ao18 y109.length co18), (by first | rfl | (simp; done) | (simp [*]; done)), H', ⟨by have := HK1.out; omega⟩, ⟨by (with_reducible repeat (first | apply rA_ | apply rN_ | apply rD_)); exact Kd.R_mono (Kd.R_far (p := ⟨gb106, 9, none⟩) (Kd.R_types HO111.out BK106.out (by decide)) (fun _ hk => hk.2) (.slice Ao18 y109.length co18)) (fun _ hk => trivial)⟩, ⟨by (with_reducible repeat (first | refine bN_ ?_ _ | refine bD_ ?_ | refine bA_ ?_ _)); refine blk_far ?_ NB104_106.out _; (with_reducible repeat (first | refine bN_ ?_ _ | refine bD_ ?_ | refine bA_ ?_ _)); exact BK104.out⟩, ⟨by (with_reducible repeat (first | refine bN_ ?_ _ | refine bD_ ?_ | refine bA_ ?_ _)); refine blk_far ?_ NB105_106.out _; (with_reducible repeat (first | refine bN_ ?_ _ | refine bD_ ?_ | refine bA_ ?_ _)); exact BK105.out⟩, ⟨by (with_reducible repeat (first | refine bN_ ?_ _ | refine bD_ ?_ | refine bA_ ?_ _)); refine blk_put (cs := #[.int .u64 a0_0, .int .u64 a0_1, .int .u64 a0_2, .string a0_3, .string a0_4, .int .i64 a0_5, .int .i64 a0_6, .int .u64 a0_7, .int .u64 a0_8, u107009]) ?_ 9 _ rfl; (with_reducible repeat (first | refine bN_ ?_ _ | refine bD_ ?_ | refine bA_ ?_ _)); exact BK106.out⟩, ⟨by repeat (first | (with_reducible first | exact HB.out | apply lA_ | apply lN_ | apply l1_ | refine below_set ?_ GE104.out | refine below_set ?_ GE105.out | refine below_set ?_ GE106.out) | exact HB.out)⟩⟩
          · rw [if_neg c12] at H
            exact absurd H (by simp)
        · rw [if_neg c11] at H
          exact absurd H (by simp)
      · rw [if_neg c10] at H
        have c10b0 : decide (x4_1 < (l0_9.length : Int)) = false := decide_eq_false c10
        clear c10
        simp only [Option.some.injEq, Prod.mk.injEq] at H
        obtain ⟨rfl, rfl, rfl, rfl, rfl, rfl, rfl, rfl, rfl, rfl⟩ := H
        have hnb20 := NB104_105.out
        have hnc20 := NB105_104.out
        have hnb21 := NB104_106.out
        have hnc21 := NB106_104.out
        have hcz22_0 : wr.cell? ⟨gb104, 0, none⟩ = some (.int .u64 a0_0) := (bc1_ BK104.out 0).trans rfl
        have hcz22_1 : wr.cell? ⟨gb104, 1, none⟩ = some (.int .u64 a0_1) := (bc1_ BK104.out 1).trans rfl
        have hcz22_2 : wr.cell? ⟨gb104, 2, none⟩ = some (.int .u64 a0_2) := (bc1_ BK104.out 2).trans rfl
        have hcz22_3 : wr.cell? ⟨gb104, 3, none⟩ = some (.string a0_3) := (bc1_ BK104.out 3).trans rfl
        have hcz22_4 : wr.cell? ⟨gb104, 4, none⟩ = some (.string a0_4) := (bc1_ BK104.out 4).trans rfl
        have hcz22_5 : wr.cell? ⟨gb104, 5, none⟩ = some (.int .i64 a0_5) := (bc1_ BK104.out 5).trans rfl
        have hcz22_6 : wr.cell? ⟨gb104, 6, none⟩ = some (.int .i64 a0_6) := (bc1_ BK104.out 6).trans rfl
        have hcz22_7 : wr.cell? ⟨gb104, 7, none⟩ = some (.int .u64 a0_7) := (bc1_ BK104.out 7).trans rfl
        have hcz22_8 : wr.cell? ⟨gb104, 8, none⟩ = some (.int .u64 a0_8) := (bc1_ BK104.out 8).trans rfl
        have hcz22_9 : wr.cell? ⟨gb104, 9, none⟩ = some (.slice A0_9 l0_9.length c0_9) := (bc1_ BK104.out 9).trans rfl
        have hfz22_0 := bf1_ BK104.out 0
        have hfz22_1 := bf1_ BK104.out 1
        have hfz22_2 := bf1_ BK104.out 2
        have hfz22_3 := bf1_ BK104.out 3
        have hfz22_4 := bf1_ BK104.out 4
        have hfz22_5 := bf1_ BK104.out 5
        have hfz22_6 := bf1_ BK104.out 6
        have hfz22_7 := bf1_ BK104.out 7
        have hfz22_8 := bf1_ BK104.out 8
        have hfz22_9 := bf1_ BK104.out 9
        have hnb23 := NB106_105.out
        have hnc23 := NB105_106.out
        have hcz24_0 : wr.cell? ⟨gb106, 0, none⟩ = some (.int .u64 a0_0) := (bc1_ BK106.out 0).trans rfl
        have hcz24_1 : wr.cell? ⟨gb106, 1, none⟩ = some (.int .u64 a0_1) := (bc1_ BK106.out 1).trans rfl
        have hcz24_2 : wr.cell? ⟨gb106, 2, none⟩ = some (.int .u64 a0_2) := (bc1_ BK106.out 2).trans rfl
        have hcz24_3 : wr.cell? ⟨gb106, 3, none⟩ = some (.string a0_3) := (bc1_ BK106.out 3).trans rfl
        have hcz24_4 : wr.cell? ⟨gb106, 4, none⟩ = some (.string a0_4) := (bc1_ BK106.out 4).trans rfl
        have hcz24_5 : wr.cell? ⟨gb106, 5, none⟩ = some (.int .i64 a0_5) := (bc1_ BK106.out 5).trans rfl
        have hcz24_6 : wr.cell? ⟨gb106, 6, none⟩ = some (.int .i64 a0_6) := (bc1_ BK106.out 6).trans rfl
        have hcz24_7 : wr.cell? ⟨gb106, 7, none⟩ = some (.int .u64 a0_7) := (bc1_ BK106.out 7).trans rfl
        have hcz24_8 : wr.cell? ⟨gb106, 8, none⟩ = some (.int .u64 a0_8) := (bc1_ BK106.out 8).trans rfl
        have hcz24_9 : wr.cell? ⟨gb106, 9, none⟩ = some (u107009) := (bc1_ BK106.out 9).trans rfl
        have hfz24_0 := bf1_ BK106.out 0
        have hfz24_1 := bf1_ BK106.out 1
        have hfz24_2 := bf1_ BK106.out 2
        have hfz24_3 := bf1_ BK106.out 3
        have hfz24_4 := bf1_ BK106.out 4
        have hfz24_5 := bf1_ BK106.out 5
        have hfz24_6 := bf1_ BK106.out 6
        have hfz24_7 := bf1_ BK106.out 7
        have hfz24_8 := bf1_ BK106.out 8
        have hfz24_9 := bf1_ BK106.out 9
        have hcz25_0 : wr.cell? ⟨gb105, 0, none⟩ = some (.int .u64 0) := (bc1_ BK105.out 0).trans rfl
        have hcz25_1 : wr.cell? ⟨gb105, 1, none⟩ = some (.int .u64 0) := (bc1_ BK105.out 1).trans rfl
        have hcz25_2 : wr.cell? ⟨gb105, 2, none⟩ = some (.int .u64 0) := (bc1_ BK105.out 2).trans rfl
        have hcz25_3 : wr.cell? ⟨gb105, 3, none⟩ = some (.string (⟨#[]⟩ : ByteArray)) := (bc1_ BK105.out 3).trans rfl
        have hcz25_4 : wr.cell? ⟨gb105, 4, none⟩ = some (.string (⟨#[]⟩ : ByteArray)) := (bc1_ BK105.out 4).trans rfl
        have hcz25_5 : wr.cell? ⟨gb105, 5, none⟩ = some (.int .i64 0) := (bc1_ BK105.out 5).trans rfl
        have hcz25_6 : wr.cell? ⟨gb105, 6, none⟩ = some (.int .i64 0) := (bc1_ BK105.out 6).trans rfl
        have hcz25_7 : wr.cell? ⟨gb105, 7, none⟩ = some (.int .u64 0) := (bc1_ BK105.out 7).trans rfl
        have hcz25_8 : wr.cell? ⟨gb105, 8, none⟩ = some (.int .u64 0) := (bc1_ BK105.out 8).trans rfl
        have hcz25_9 : wr.cell? ⟨gb105, 9, none⟩ = some (.slice none 0 0) := (bc1_ BK105.out 9).trans rfl
        have hfz25_0 := bf1_ BK105.out 0
        have hfz25_1 := bf1_ BK105.out 1
        have hfz25_2 := bf1_ BK105.out 2
        have hfz25_3 := bf1_ BK105.out 3
        have hfz25_4 := bf1_ BK105.out 4
        have hfz25_5 := bf1_ BK105.out 5
        have hfz25_6 := bf1_ BK105.out 6
        have hfz25_7 := bf1_ BK105.out 7
        have hfz25_8 := bf1_ BK105.out 8
        have hfz25_9 := bf1_ BK105.out 9
        obtain ⟨Ao26, co26, eo26⟩ := Kd.R_slice HO_107009.out
        subst eo26
        go_wp2
        refine bodyPost_ret (results_cell_row rfl _ _ gb105 40 #[.int .u64 a0_0, .int .u64 a0_1, .int .u64 a0_2, .string a0_3, .string a0_4, .int .i64 a0_5, .int .i64 a0_6, .int .u64 a0_7, .int .u64 a0_8, .slice Ao26 x107009_1.length co26] (0, 0) _ rfl (by (with_reducible repeat (first | refine bN_ ?_ _ | refine bD_ ?_ | refine bA_ ?_ _)); refine blk_put (cs := #[.int .u64 a0_0, .int .u64 a0_1, .int .u64 a0_2, .string a0_3, .string a0_4, .int .i64 a0_5, .int .i64 a0_6, .int .u64 a0_7, .int .u64 a0_8, .slice none 0 0]) ?_ 9 _ rfl; (with_reducible repeat (first | refine bN_ ?_ _ | refine bD_ ?_ | refine bA_ ?_ _)); refine blk_put (cs := #[.int .u64 a0_0, .int .u64 a0_1, .int .u64 a0_2, .string a0_3, .string a0_4, .int .i64 a0_5, .int .i64 a0_6, .int .u64 a0_7, .int .u64 0, .slice none 0 0]) ?_ 8 _ rfl; (with_reducible repeat (first | refine bN_ ?_ _ | refine bD_ ?_ | refine bA_ ?_ _)); refine blk_put (cs := #[.int .u64 a0_0, .int .u64 a0_1, .int .u64 a0_2, .string a0_3, .string a0_4, .int .i64 a0_5, .int .i64 a0_6, .int .u64 0, .int .u64 0, .slice none 0 0]) ?_ 7 _ rfl; (with_reducible repeat (first | refine bN_ ?_ _ | refine bD_ ?_ | refine bA_ ?_ _)); refine blk_put (cs := #[.int .u64 a0_0, .int .u64 a0_1, .int .u64 a0_2, .string a0_3, .string a0_4, .int .i64 a0_5, .int .i64 0, .int .u64 0, .int .u64 0, .slice none 0 0]) ?_ 6 _ rfl; (with_reducible repeat (first | refine bN_ ?_ _ | refine bD_ ?_ | refine bA_ ?_ _)); refine blk_put (cs := #[.int .u64 a0_0, .int .u64 a0_1, .int .u64 a0_2, .string a0_3, .string a0_4, .int .i64 0, .int .i64 0, .int .u64 0, .int .u64 0, .slice none 0 0]) ?_ 5 _ rfl; (with_reducible repeat (first | refine bN_ ?_ _ | refine bD_ ?_ | refine bA_ ?_ _)); refine blk_put (cs := #[.int .u64 a0_0, .int .u64 a0_1, .int .u64 a0_2, .string a0_3, .string (⟨#[]⟩ : ByteArray), .int .i64 0, .int .i64 0, .int .u64 0, .int .u64 0, .slice none 0 0]) ?_ 4 _ rfl; (with_reducible repeat (first | refine bN_ ?_ _ | refine bD_ ?_ | refine bA_ ?_ _)); refine blk_put (cs := #[.int .u64 a0_0, .int .u64 a0_1, .int .u64 a0_2, .string (⟨#[]⟩ : ByteArray), .string (⟨#[]⟩ : ByteArray), .int .i64 0, .int .i64 0, .int .u64 0, .int .u64 0, .slice none 0 0]) ?_ 3 _ rfl; (with_reducible repeat (first | refine bN_ ?_ _ | refine bD_ ?_ | refine bA_ ?_ _)); refine blk_put (cs := #[.int .u64 a0_0, .int .u64 a0_1, .int .u64 0, .string (⟨#[]⟩ : ByteArray), .string (⟨#[]⟩ : ByteArray), .int .i64 0, .int .i64 0, .int .u64 0, .int .u64 0, .slice none 0 0]) ?_ 2 _ rfl; (with_reducible repeat (first | refine bN_ ?_ _ | refine bD_ ?_ | refine bA_ ?_ _)); refine blk_put (cs := #[.int .u64 a0_0, .int .u64 0, .int .u64 0, .string (⟨#[]⟩ : ByteArray), .string (⟨#[]⟩ : ByteArray), .int .i64 0, .int .i64 0, .int .u64 0, .int .u64 0, .slice none 0 0]) ?_ 1 _ rfl; (with_reducible repeat (first | refine bN_ ?_ _ | refine bD_ ?_ | refine bA_ ?_ _)); refine blk_put (cs := #[.int .u64 0, .int .u64 0, .int .u64 0, .string (⟨#[]⟩ : ByteArray), .string (⟨#[]⟩ : ByteArray), .int .i64 0, .int .i64 0, .int .u64 0, .int .u64 0, .slice none 0 0]) ?_ 0 _ rfl; (with_reducible repeat (first | refine bN_ ?_ _ | refine bD_ ?_ | refine bA_ ?_ _)); exact BK105.out) Try.underlying40 rfl (by kernel_rfl)) rfl ?_
        exact ⟨_, by first | rfl | (simp [errW_none, errW_some] <;> rfl) | (simp [*, errW_none, errW_some] <;> rfl), by (with_reducible repeat (first | apply rA_ | apply rN_ | apply rD_)); exact Kd.R_mono (Kd.R_far (p := ⟨gb105, 9, none⟩) (Kd.R_far (p := ⟨gb105, 8, none⟩) (Kd.R_far (p := ⟨gb105, 7, none⟩) (Kd.R_far (p := ⟨gb105, 6, none⟩) (Kd.R_far (p := ⟨gb105, 5, none⟩) (Kd.R_far (p := ⟨gb105, 4, none⟩) (Kd.R_far (p := ⟨gb105, 3, none⟩) (Kd.R_far (p := ⟨gb105, 2, none⟩) (Kd.R_far (p := ⟨gb105, 1, none⟩) (Kd.R_far (p := ⟨gb105, 0, none⟩) (Kd.R_types HO_107009.out BK105.out (by decide)) (fun _ hk => hk.2) (.int .u64 a0_0)) (fun _ hk => hk.2) (.int .u64 a0_1)) (fun _ hk => hk.2) (.int .u64 a0_2)) (fun _ hk => hk.2) (.string a0_3)) (fun _ hk => hk.2) (.string a0_4)) (fun _ hk => hk.2) (.int .i64 a0_5)) (fun _ hk => hk.2) (.int .i64 a0_6)) (fun _ hk => hk.2) (.int .u64 a0_7)) (fun _ hk => hk.2) (.int .u64 a0_8)) (fun _ hk => hk.2) (.slice Ao26 x107009_1.length co26)) (fun _ hk => trivial), by repeat (first | (with_reducible first | exact HB.out | apply lA_ | apply lN_ | apply l1_ | refine below_set ?_ GE104.out | refine below_set ?_ GE105.out | refine below_set ?_ GE106.out) | exact HB.out)⟩
end Go.Proofs.Ytllepjhimkogjaa.XSf
namespace Go.Proofs.Ytllepjhimkogjaa.XSf
open Go.RowKit Go.Proofs.YtllepjhimkogjaaW.PrintWords Go.Proofs.YtllepjhimkogjaaW.PrintLast Go.Proofs.YtllepjhimkogjaaW.PrintMore Go.Proofs.Ytllepjhimkogjaa.Shr
set_option linter.unusedVariables false
set_option linter.unusedSimpArgs false
def tallyroomlaw06_One.f  : Option (Int × Int × Int × ByteArray × ByteArray × Int × Int × Int × Int × (List (S63))) := some (7, 1, 0, (⟨#[119, 101, 98]⟩ : ByteArray), (⟨#[103, 101, 116]⟩ : ByteArray), 1, 0, 5, 9, ([] : List (S63)))
set_option maxHeartbeats 8000000 in
set_option maxRecDepth 100000 in
theorem tallyroomlaw06_One.calls  (r1 : Int) (r2 : Int) (r3 : Int) (r4 : ByteArray) (r5 : ByteArray) (r6 : Int) (r7 : Int) (r8 : Int) (r9 : Int) (r10 : List (S63)) (w : World) (h : tallyroomlaw06_One.f  = some (r1, r2, r3, r4, r5, r6, r7, r8, r9, r10)) :
    Calls Try.prog 57 #[] w fun e w' => ∃ v9_ : Value, e = .returned (.agg #[.int .u64 r1, .int .u64 r2, .int .u64 r3, .string r4, .string r5, .int .i64 r6, .int .i64 r7, .int .u64 r8, .int .u64 r9, v9_]) ∧ Kd.R k63 63 w' w.heap.size (fun _ => True) v9_ r10 ∧ Below w.heap.size w w' := by
  have hu37 := Try.underlying37
  have HB := Aside0.mk (Below.refl w.heap.size w)
  have H : (some (7, 1, 0, (⟨#[119, 101, 98]⟩ : ByteArray), (⟨#[103, 101, 116]⟩ : ByteArray), 1, 0, 5, 9, ([] : List (S63)))) = some (r1, r2, r3, r4, r5, r6, r7, r8, r9, r10) := h
  clear h
  simp only [Option.some.injEq, Prod.mk.injEq] at H
  obtain ⟨rfl, rfl, rfl, rfl, rfl, rfl, rfl, rfl, rfl, rfl⟩ := H
  go_enter Try.func57, Try.ntmps57
  go_wp2_with (first | ((with_reducible refine gate_dst (N := 0) rfl ?_); refine box_event ?hg (N := 0) ?hd (cs := #[.int .u64 0, .int .u64 0, .int .u64 0, .string (⟨#[]⟩ : ByteArray), .string (⟨#[]⟩ : ByteArray), .int .i64 0, .int .i64 0, .int .u64 0, .int .u64 0, .slice none 0 0]) (t := 37) ?hr ?_; (case hd => rfl); (case hg => rfl); (case hr => first | (go_simp; done) | (go_simp; rfl)); intro gb122 hg w1 hbox hb; have n0_ := Aside0.mk (ls_ (by repeat (first | (with_reducible first | exact HB.out | apply lA_ | apply lN_ | apply l1_) | exact HB.out)) hb); have n1_ := Aside0.mk (hbox); have n2_ := Aside0.mk ((by rw [hg]; exact (bz_ (by repeat (first | (with_reducible first | exact HB.out | apply lA_ | apply lN_ | apply l1_) | exact HB.out))) : w.heap.size ≤ gb122)); have n3_ := Aside0.mk ((by rw [hg]; exact (bz_ (by repeat (first | (with_reducible first | exact HB.out | apply lA_ | apply lN_ | apply l1_) | exact HB.out))) : w.heap.size ≤ gb122)); clear HB; have HB := n0_; have BK122 := n1_; have GW122 := n2_; have GE122 := n3_; clear n0_ n1_ n2_ n3_; clear hb hbox hg; have hcz2_0 : w1.cell? ⟨gb122, 0, none⟩ = some (.int .u64 0) := (bc1_ BK122.out 0).trans rfl; have hcz2_1 : w1.cell? ⟨gb122, 1, none⟩ = some (.int .u64 0) := (bc1_ BK122.out 1).trans rfl; have hcz2_2 : w1.cell? ⟨gb122, 2, none⟩ = some (.int .u64 0) := (bc1_ BK122.out 2).trans rfl; have hcz2_3 : w1.cell? ⟨gb122, 3, none⟩ = some (.string (⟨#[]⟩ : ByteArray)) := (bc1_ BK122.out 3).trans rfl; have hcz2_4 : w1.cell? ⟨gb122, 4, none⟩ = some (.string (⟨#[]⟩ : ByteArray)) := (bc1_ BK122.out 4).trans rfl; have hcz2_5 : w1.cell? ⟨gb122, 5, none⟩ = some (.int .i64 0) := (bc1_ BK122.out 5).trans rfl; have hcz2_6 : w1.cell? ⟨gb122, 6, none⟩ = some (.int .i64 0) := (bc1_ BK122.out 6).trans rfl; have hcz2_7 : w1.cell? ⟨gb122, 7, none⟩ = some (.int .u64 0) := (bc1_ BK122.out 7).trans rfl; have hcz2_8 : w1.cell? ⟨gb122, 8, none⟩ = some (.int .u64 0) := (bc1_ BK122.out 8).trans rfl; have hcz2_9 : w1.cell? ⟨gb122, 9, none⟩ = some (.slice none 0 0) := (bc1_ BK122.out 9).trans rfl; have hfz2_0 := bf1_ BK122.out 0; have hfz2_1 := bf1_ BK122.out 1; have hfz2_2 := bf1_ BK122.out 2; have hfz2_3 := bf1_ BK122.out 3; have hfz2_4 := bf1_ BK122.out 4; have hfz2_5 := bf1_ BK122.out 5; have hfz2_6 := bf1_ BK122.out 6; have hfz2_7 := bf1_ BK122.out 7; have hfz2_8 := bf1_ BK122.out 8; have hfz2_9 := bf1_ BK122.out 9))
  refine bodyPost_ret (results_cell_row rfl _ _ gb122 37 #[.int .u64 7, .int .u64 1, .int .u64 0, .string (⟨#[119, 101, 98]⟩ : ByteArray), .string (⟨#[103, 101, 116]⟩ : ByteArray), .int .i64 1, .int .i64 0, .int .u64 5, .int .u64 9, .slice none 0 0] (0, 0) _ rfl (by (with_reducible repeat (first | refine bN_ ?_ _ | refine bD_ ?_ | refine bA_ ?_ _)); refine blk_put (cs := #[.int .u64 7, .int .u64 1, .int .u64 0, .string (⟨#[119, 101, 98]⟩ : ByteArray), .string (⟨#[103, 101, 116]⟩ : ByteArray), .int .i64 1, .int .i64 0, .int .u64 5, .int .u64 9, .slice none 0 0]) ?_ 9 _ rfl; (with_reducible repeat (first | refine bN_ ?_ _ | refine bD_ ?_ | refine bA_ ?_ _)); refine blk_put (cs := #[.int .u64 7, .int .u64 1, .int .u64 0, .string (⟨#[119, 101, 98]⟩ : ByteArray), .string (⟨#[103, 101, 116]⟩ : ByteArray), .int .i64 1, .int .i64 0, .int .u64 5, .int .u64 0, .slice none 0 0]) ?_ 8 _ rfl; (with_reducible repeat (first | refine bN_ ?_ _ | refine bD_ ?_ | refine bA_ ?_ _)); refine blk_put (cs := #[.int .u64 7, .int .u64 1, .int .u64 0, .string (⟨#[119, 101, 98]⟩ : ByteArray), .string (⟨#[103, 101, 116]⟩ : ByteArray), .int .i64 1, .int .i64 0, .int .u64 0, .int .u64 0, .slice none 0 0]) ?_ 7 _ rfl; (with_reducible repeat (first | refine bN_ ?_ _ | refine bD_ ?_ | refine bA_ ?_ _)); refine blk_put (cs := #[.int .u64 7, .int .u64 1, .int .u64 0, .string (⟨#[119, 101, 98]⟩ : ByteArray), .string (⟨#[103, 101, 116]⟩ : ByteArray), .int .i64 1, .int .i64 0, .int .u64 0, .int .u64 0, .slice none 0 0]) ?_ 6 _ rfl; (with_reducible repeat (first | refine bN_ ?_ _ | refine bD_ ?_ | refine bA_ ?_ _)); refine blk_put (cs := #[.int .u64 7, .int .u64 1, .int .u64 0, .string (⟨#[119, 101, 98]⟩ : ByteArray), .string (⟨#[103, 101, 116]⟩ : ByteArray), .int .i64 0, .int .i64 0, .int .u64 0, .int .u64 0, .slice none 0 0]) ?_ 5 _ rfl; (with_reducible repeat (first | refine bN_ ?_ _ | refine bD_ ?_ | refine bA_ ?_ _)); refine blk_put (cs := #[.int .u64 7, .int .u64 1, .int .u64 0, .string (⟨#[119, 101, 98]⟩ : ByteArray), .string (⟨#[]⟩ : ByteArray), .int .i64 0, .int .i64 0, .int .u64 0, .int .u64 0, .slice none 0 0]) ?_ 4 _ rfl; (with_reducible repeat (first | refine bN_ ?_ _ | refine bD_ ?_ | refine bA_ ?_ _)); refine blk_put (cs := #[.int .u64 7, .int .u64 1, .int .u64 0, .string (⟨#[]⟩ : ByteArray), .string (⟨#[]⟩ : ByteArray), .int .i64 0, .int .i64 0, .int .u64 0, .int .u64 0, .slice none 0 0]) ?_ 3 _ rfl; (with_reducible repeat (first | refine bN_ ?_ _ | refine bD_ ?_ | refine bA_ ?_ _)); refine blk_put (cs := #[.int .u64 7, .int .u64 1, .int .u64 0, .string (⟨#[]⟩ : ByteArray), .string (⟨#[]⟩ : ByteArray), .int .i64 0, .int .i64 0, .int .u64 0, .int .u64 0, .slice none 0 0]) ?_ 2 _ rfl; (with_reducible repeat (first | refine bN_ ?_ _ | refine bD_ ?_ | refine bA_ ?_ _)); refine blk_put (cs := #[.int .u64 7, .int .u64 0, .int .u64 0, .string (⟨#[]⟩ : ByteArray), .string (⟨#[]⟩ : ByteArray), .int .i64 0, .int .i64 0, .int .u64 0, .int .u64 0, .slice none 0 0]) ?_ 1 _ rfl; (with_reducible repeat (first | refine bN_ ?_ _ | refine bD_ ?_ | refine bA_ ?_ _)); refine blk_put (cs := #[.int .u64 0, .int .u64 0, .int .u64 0, .string (⟨#[]⟩ : ByteArray), .string (⟨#[]⟩ : ByteArray), .int .i64 0, .int .i64 0, .int .u64 0, .int .u64 0, .slice none 0 0]) ?_ 0 _ rfl; (with_reducible repeat (first | refine bN_ ?_ _ | refine bD_ ?_ | refine bA_ ?_ _)); exact BK122.out) Try.underlying37 rfl (by kernel_rfl)) rfl ?_
  exact ⟨_, by first | rfl | (simp [errW_none, errW_some] <;> rfl) | (simp [*, errW_none, errW_some] <;> rfl), by first | exact Kd.R_nil _ _ _ _ _ | exact Kd.N_nil _ _ _ _ _ | exact Kd.V_nil _ _ _ _ _ | exact Kd.Q_nil _ _ _ _ _ | exact Kd.S_nil _ _ _ _ _, by repeat (first | (with_reducible first | exact HB.out | apply lA_ | apply lN_ | apply l1_ | refine below_set ?_ GE122.out) | exact HB.out)⟩
end Go.Proofs.Ytllepjhimkogjaa.XSf
namespace Go.Proofs.Ytllepjhimkogjaa.XSf
open Go.RowKit Go.Proofs.YtllepjhimkogjaaW.PrintWords Go.Proofs.YtllepjhimkogjaaW.PrintLast Go.Proofs.YtllepjhimkogjaaW.PrintMore Go.Proofs.Ytllepjhimkogjaa.Shr
set_option linter.unusedVariables false
set_option linter.unusedSimpArgs false
mutual
def tallyroomlaw06_Far.j0 : Nat → Bool → Int → Int → Int → ByteArray → ByteArray → Int → Int → Int → Int → List (S63) → Option (Bool)
  | 0, _, _, _, _, _, _, _, _, _, _, _ => none
  | k + 1, x19, x102000, x102001, x102002, x102003, x102004, x102005, x102006, x102007, x102008, x102009 => if x19 = true then (some true) else (tallyroomlaw06_Far.l0 k 0 x102000 x102001 x102002 x102003 x102004 x102005 x102006 x102007 x102008 x102009)
def tallyroomlaw06_Far.l0 : Nat → Int → Int → Int → Int → ByteArray → ByteArray → Int → Int → Int → Int → List (S63) → Option (Bool)
  | 0, _, _, _, _, _, _, _, _, _, _, _ => none
  | k + 1, x3, x102000, x102001, x102002, x102003, x102004, x102005, x102006, x102007, x102008, x102009 => if x3 < (x102009.length : Int) then (if 0 ≤ x3 then (if (((rd_T63 x102009 x3).f0).size : Int) > 300 then (some true) else (if (((rd_T63 x102009 x3).f1.f2).size : Int) > 5000 then (some true) else (tallyroomlaw06_Far.l0 k (wrap64 (x3 + 1)) x102000 x102001 x102002 x102003 x102004 x102005 x102006 x102007 x102008 x102009))) else (none)) else (some false)
end
def tallyroomlaw06_Far.f (k : Nat) (a0_0 : Int) (a0_1 : Int) (a0_2 : Int) (a0_3 : ByteArray) (a0_4 : ByteArray) (a0_5 : Int) (a0_6 : Int) (a0_7 : Int) (a0_8 : Int) (l0_9 : List (S63)) : Option (Bool) := if (a0_3.size : Int) > 5000 then (tallyroomlaw06_Far.j0 k true a0_0 a0_1 a0_2 a0_3 a0_4 a0_5 a0_6 a0_7 a0_8 l0_9) else (if (a0_4.size : Int) > 5000 then (tallyroomlaw06_Far.j0 k true a0_0 a0_1 a0_2 a0_3 a0_4 a0_5 a0_6 a0_7 a0_8 l0_9) else (tallyroomlaw06_Far.j0 k (decide ((l0_9.length : Int) > 40)) a0_0 a0_1 a0_2 a0_3 a0_4 a0_5 a0_6 a0_7 a0_8 l0_9))
theorem tallyroomlaw06_Far.mono_l : ∀ k, (∀ y0 y1 y2 y3 y4 y5 y6 y7 y8 y9 y10, LeO (tallyroomlaw06_Far.j0 k y0 y1 y2 y3 y4 y5 y6 y7 y8 y9 y10) (tallyroomlaw06_Far.j0 (k + 1) y0 y1 y2 y3 y4 y5 y6 y7 y8 y9 y10)) ∧ (∀ y0 y1 y2 y3 y4 y5 y6 y7 y8 y9 y10, LeO (tallyroomlaw06_Far.l0 k y0 y1 y2 y3 y4 y5 y6 y7 y8 y9 y10) (tallyroomlaw06_Far.l0 (k + 1) y0 y1 y2 y3 y4 y5 y6 y7 y8 y9 y10))
  | 0 => ⟨fun _ _ _ _ _ _ _ _ _ _ _ r h => by simp [tallyroomlaw06_Far.j0] at h, fun _ _ _ _ _ _ _ _ _ _ _ r h => by simp [tallyroomlaw06_Far.l0] at h⟩
  | k + 1 => by
    obtain ⟨ih0, ih1⟩ := tallyroomlaw06_Far.mono_l k
    refine ⟨?_, ?_⟩
    · intro y0 y1 y2 y3 y4 y5 y6 y7 y8 y9 y10
      unfold tallyroomlaw06_Far.j0
      repeat' first
      | (with_reducible exact ih0 _ _ _ _ _ _ _ _ _ _ _)
      | (with_reducible exact ih1 _ _ _ _ _ _ _ _ _ _ _)
      | (with_reducible exact LeO.refl _)
      | (with_reducible exact LeO.none _)
      | (with_reducible refine LeO.ite ?_ ?_)
      | (with_reducible refine LeO.bind ?_ (fun _ => ?_))
      | exact ih0 _ _ _ _ _ _ _ _ _ _ _
      | exact ih1 _ _ _ _ _ _ _ _ _ _ _
      | exact LeO.none _
      | refine LeO.ite ?_ ?_
      | refine LeO.bind ?_ (fun _ => ?_)
    · intro y0 y1 y2 y3 y4 y5 y6 y7 y8 y9 y10
      unfold tallyroomlaw06_Far.l0
      repeat' first
      | (with_reducible exact ih0 _ _ _ _ _ _ _ _ _ _ _)
      | (with_reducible exact ih1 _ _ _ _ _ _ _ _ _ _ _)
      | (with_reducible exact LeO.refl _)
      | (with_reducible exact LeO.none _)
      | (with_reducible refine LeO.ite ?_ ?_)
      | (with_reducible refine LeO.bind ?_ (fun _ => ?_))
      | exact ih0 _ _ _ _ _ _ _ _ _ _ _
      | exact ih1 _ _ _ _ _ _ _ _ _ _ _
      | exact LeO.none _
      | refine LeO.ite ?_ ?_
      | refine LeO.bind ?_ (fun _ => ?_)
theorem tallyroomlaw06_Far.mono : ∀ a0 a1 a2 a3 a4 a5 a6 a7 a8 a9 k, LeO (tallyroomlaw06_Far.f k a0 a1 a2 a3 a4 a5 a6 a7 a8 a9) (tallyroomlaw06_Far.f (k + 1) a0 a1 a2 a3 a4 a5 a6 a7 a8 a9) := by
  intro a0 a1 a2 a3 a4 a5 a6 a7 a8 a9 k
  obtain ⟨ih0, ih1⟩ := tallyroomlaw06_Far.mono_l k
  unfold tallyroomlaw06_Far.f
  repeat' first
      | (with_reducible exact ih0 _ _ _ _ _ _ _ _ _ _ _)
      | (with_reducible exact ih1 _ _ _ _ _ _ _ _ _ _ _)
      | (with_reducible exact LeO.refl _)
      | (with_reducible exact LeO.none _)
      | (with_reducible refine LeO.ite ?_ ?_)
      | (with_reducible refine LeO.bind ?_ (fun _ => ?_))
      | exact ih0 _ _ _ _ _ _ _ _ _ _ _
      | exact ih1 _ _ _ _ _ _ _ _ _ _ _
      | exact LeO.none _
      | refine LeO.ite ?_ ?_
      | refine LeO.bind ?_ (fun _ => ?_)
set_option maxHeartbeats 8000000 in
set_option maxRecDepth 100000 in
theorem tallyroomlaw06_Far.calls (k : Nat) (a0_0 : Int) (a0_1 : Int) (a0_2 : Int) (a0_3 : ByteArray) (a0_4 : ByteArray) (a0_5 : Int) (a0_6 : Int) (a0_7 : Int) (a0_8 : Int) (A0_9 : Option Addr) (c0_9 : Nat) (l0_9 : List (S63)) (r : Bool) (w : World) (hr0_9 : Kd.C k63 w A0_9 l0_9.length l0_9) (hc0_9 : l0_9.length ≤ c0_9) (h : tallyroomlaw06_Far.f k a0_0 a0_1 a0_2 a0_3 a0_4 a0_5 a0_6 a0_7 a0_8 l0_9 = some r) :
    Calls Try.prog 20 #[.agg #[.int .u64 a0_0, .int .u64 a0_1, .int .u64 a0_2, .string a0_3, .string a0_4, .int .i64 a0_5, .int .i64 a0_6, .int .u64 a0_7, .int .u64 a0_8, .slice A0_9 l0_9.length c0_9]] w fun e w' => e = .returned (.bool r) ∧ Below w.heap.size w w' := by
  have hu37 := Try.underlying37
  have HR0_9 := Aside0.mk hr0_9
  have HC0_9 := Aside0.mk hc0_9
  clear hr0_9 hc0_9
  have HB := Aside0.mk (Below.refl w.heap.size w)
  have H : (if (a0_3.size : Int) > 5000 then (tallyroomlaw06_Far.j0 k true a0_0 a0_1 a0_2 a0_3 a0_4 a0_5 a0_6 a0_7 a0_8 l0_9) else (if (a0_4.size : Int) > 5000 then (tallyroomlaw06_Far.j0 k true a0_0 a0_1 a0_2 a0_3 a0_4 a0_5 a0_6 a0_7 a0_8 l0_9) else (tallyroomlaw06_Far.j0 k (decide ((l0_9.length : Int) > 40)) a0_0 a0_1 a0_2 a0_3 a0_4 a0_5 a0_6 a0_7 a0_8 l0_9))) = some r := h
  clear h
  have HC2 := Aside0.mk H
  clear H
  go_enter Try.func20, Try.ntmps20
  go_upto_region 1 with (first | ((with_reducible refine gate_dst (N := 1) rfl ?_); (try (refine gate_guard (by rfl) ?_; dsimp only)); refine box_event ?hg (N := 1) ?hd (cs := #[.int .u64 a0_0, .int .u64 a0_1, .int .u64 a0_2, .string a0_3, .string a0_4, .int .i64 a0_5, .int .i64 a0_6, .int .u64 a0_7, .int .u64 a0_8, .slice A0_9 l0_9.length c0_9]) (t := 37) ?hr ?_; (case hd => rfl); (case hg => rfl); (case hr => first | (go_simp; done) | (go_simp; rfl)); intro gb101 hg w3 hbox hb; have n0_ := Aside0.mk (ls_ (by repeat (first | (with_reducible first | exact HB.out | apply lA_ | apply lN_ | apply l1_) | exact HB.out)) hb); have n1_ := Aside0.mk (hbox); have n2_ := Aside0.mk ((by rw [hg]; exact (bz_ (by repeat (first | (with_reducible first | exact HB.out | apply lA_ | apply lN_ | apply l1_) | exact HB.out))) : w.heap.size ≤ gb101)); have n3_ := Aside0.mk ((by rw [hg]; exact (bz_ (by repeat (first | (with_reducible first | exact HB.out | apply lA_ | apply lN_ | apply l1_) | exact HB.out))) : w.heap.size ≤ gb101)); clear HB; have HB := n0_; have BK101 := n1_; have GW101 := n2_; have GE101 := n3_; clear n0_ n1_ n2_ n3_; clear hb hbox hg))
  (try simp only [Act.put, sb_, sz_, ss_])
  go_cut [19] (fun v19 wc => ∃ (kq : Nat) (x19_1 : Bool), v19 = .bool x19_1 ∧ Aside0 (tallyroomlaw06_Far.j0 kq x19_1 a0_0 a0_1 a0_2 a0_3 a0_4 a0_5 a0_6 a0_7 a0_8 l0_9 = some r) ∧ Aside0 (kq ≤ k) ∧ Aside0 (wc.heap[gb101]? = some (.cells #[.int .u64 a0_0, .int .u64 a0_1, .int .u64 a0_2, .string a0_3, .string a0_4, .int .i64 a0_5, .int .i64 a0_6, .int .u64 a0_7, .int .u64 a0_8, (.slice A0_9 l0_9.length c0_9)] 37 (0, 0))) ∧ Aside0 (Below w.heap.size w wc))
  case first =>
    have H := HC2.out
    clear HC2
    by_cases c4 : (a0_3.size : Int) > 5000
    · rw [if_pos c4] at H
      have c4b0 : decide (5000 < (a0_3.size : Int)) = true := decide_eq_true c4
      have c4b1 : decide (5000 < a0_3.size) = true := decide_eq_true (by omega)
      clear c4
      (first | rw [c4b0] | (simp only [i64_w, i32_w]; rw [c4b0]) | skip)
      have H' := Aside0.mk H
      clear H
      have hcz5_0 : w3.cell? ⟨gb101, 0, none⟩ = some (.int .u64 a0_0) := (bc1_ BK101.out 0).trans rfl
      have hcz5_1 : w3.cell? ⟨gb101, 1, none⟩ = some (.int .u64 a0_1) := (bc1_ BK101.out 1).trans rfl
      have hcz5_2 : w3.cell? ⟨gb101, 2, none⟩ = some (.int .u64 a0_2) := (bc1_ BK101.out 2).trans rfl
      have hcz5_3 : w3.cell? ⟨gb101, 3, none⟩ = some (.string a0_3) := (bc1_ BK101.out 3).trans rfl
      have hcz5_4 : w3.cell? ⟨gb101, 4, none⟩ = some (.string a0_4) := (bc1_ BK101.out 4).trans rfl
      have hcz5_5 : w3.cell? ⟨gb101, 5, none⟩ = some (.int .i64 a0_5) := (bc1_ BK101.out 5).trans rfl
      have hcz5_6 : w3.cell? ⟨gb101, 6, none⟩ = some (.int .i64 a0_6) := (bc1_ BK101.out 6).trans rfl
      have hcz5_7 : w3.cell? ⟨gb101, 7, none⟩ = some (.int .u64 a0_7) := (bc1_ BK101.out 7).trans rfl
      have hcz5_8 : w3.cell? ⟨gb101, 8, none⟩ = some (.int .u64 a0_8) := (bc1_ BK101.out 8).trans rfl
      have hcz5_9 : w3.cell? ⟨gb101, 9, none⟩ = some (.slice A0_9 l0_9.length c0_9) := (bc1_ BK101.out 9).trans rfl
      have hfz5_0 := bf1_ BK101.out 0
      have hfz5_1 := bf1_ BK101.out 1
      have hfz5_2 := bf1_ BK101.out 2
      have hfz5_3 := bf1_ BK101.out 3
      have hfz5_4 := bf1_ BK101.out 4
      have hfz5_5 := bf1_ BK101.out 5
      have hfz5_6 := bf1_ BK101.out 6
      have hfz5_7 := bf1_ BK101.out 7
      have hfz5_8 := bf1_ BK101.out 8
      have hfz5_9 := bf1_ BK101.out 9
      go_wp2
      go_meet
      case rel => exact ⟨_, (true), (by first | rfl | (simp; done) | (simp [*]; done)), H', ⟨by first | omega | exact Nat.le_refl _⟩, ⟨by (with_reducible repeat (first | refine bN_ ?_ _ | refine bD_ ?_ | refine bA_ ?_ _)); exact BK101.out⟩, ⟨by repeat (first | (with_reducible first | exact HB.out | apply lA_ | apply lN_ | apply l1_ | refine below_set ?_ GE101.out) | exact HB.out)⟩⟩
    · rw [if_neg c4] at H
      have c4b0 : decide (5000 < (a0_3.size : Int)) = false := decide_eq_false c4
      have c4b1 : decide (5000 < a0_3.size) = false := decide_eq_false (by omega)
      clear c4
      (first | rw [c4b0] | (simp only [i64_w, i32_w]; rw [c4b0]) | skip)
      by_cases c6 : (a0_4.size : Int) > 5000
      · rw [if_pos c6] at H
        have c6b0 : decide (5000 < (a0_4.size : Int)) = true := decide_eq_true c6
        have c6b1 : decide (5000 < a0_4.size) = true := decide_eq_true (by omega)
        clear c6
        have H' := Aside0.mk H
        clear H
        have hcz7_0 : w3.cell? ⟨gb101, 0, none⟩ = some (.int .u64 a0_0) := (bc1_ BK101.out 0).trans rfl
        have hcz7_1 : w3.cell? ⟨gb101, 1, none⟩ = some (.int .u64 a0_1) := (bc1_ BK101.out 1).trans rfl
        have hcz7_2 : w3.cell? ⟨gb101, 2, none⟩ = some (.int .u64 a0_2) := (bc1_ BK101.out 2).trans rfl
        have hcz7_3 : w3.cell? ⟨gb101, 3, none⟩ = some (.string a0_3) := (bc1_ BK101.out 3).trans rfl
        have hcz7_4 : w3.cell? ⟨gb101, 4, none⟩ = some (.string a0_4) := (bc1_ BK101.out 4).trans rfl
        have hcz7_5 : w3.cell? ⟨gb101, 5, none⟩ = some (.int .i64 a0_5) := (bc1_ BK101.out 5).trans rfl
        have hcz7_6 : w3.cell? ⟨gb101, 6, none⟩ = some (.int .i64 a0_6) := (bc1_ BK101.out 6).trans rfl
        have hcz7_7 : w3.cell? ⟨gb101, 7, none⟩ = some (.int .u64 a0_7) := (bc1_ BK101.out 7).trans rfl
        have hcz7_8 : w3.cell? ⟨gb101, 8, none⟩ = some (.int .u64 a0_8) := (bc1_ BK101.out 8).trans rfl
        have hcz7_9 : w3.cell? ⟨gb101, 9, none⟩ = some (.slice A0_9 l0_9.length c0_9) := (bc1_ BK101.out 9).trans rfl
        have hfz7_0 := bf1_ BK101.out 0
        have hfz7_1 := bf1_ BK101.out 1
        have hfz7_2 := bf1_ BK101.out 2
        have hfz7_3 := bf1_ BK101.out 3
        have hfz7_4 := bf1_ BK101.out 4
        have hfz7_5 := bf1_ BK101.out 5
        have hfz7_6 := bf1_ BK101.out 6
        have hfz7_7 := bf1_ BK101.out 7
        have hfz7_8 := bf1_ BK101.out 8
        have hfz7_9 := bf1_ BK101.out 9
        go_wp2
        go_meet
        case rel => exact ⟨_, (true), (by first | rfl | (simp; done) | (simp [*]; done)), H', ⟨by first | omega | exact Nat.le_refl _⟩, ⟨by (with_reducible repeat (first | refine bN_ ?_ _ | refine bD_ ?_ | refine bA_ ?_ _)); exact BK101.out⟩, ⟨by repeat (first | (with_reducible first | exact HB.out | apply lA_ | apply lN_ | apply l1_ | refine below_set ?_ GE101.out) | exact HB.out)⟩⟩
      · rw [if_neg c6] at H
        have c6b0 : decide (5000 < (a0_4.size : Int)) = false := decide_eq_false c6
        have c6b1 : decide (5000 < a0_4.size) = false := decide_eq_false (by omega)
        clear c6
        have H' := Aside0.mk H
        clear H
        have hcz8_0 : w3.cell? ⟨gb101, 0, none⟩ = some (.int .u64 a0_0) := (bc1_ BK101.out 0).trans rfl
        have hcz8_1 : w3.cell? ⟨gb101, 1, none⟩ = some (.int .u64 a0_1) := (bc1_ BK101.out 1).trans rfl
        have hcz8_2 : w3.cell? ⟨gb101, 2, none⟩ = some (.int .u64 a0_2) := (bc1_ BK101.out 2).trans rfl
        have hcz8_3 : w3.cell? ⟨gb101, 3, none⟩ = some (.string a0_3) := (bc1_ BK101.out 3).trans rfl
        have hcz8_4 : w3.cell? ⟨gb101, 4, none⟩ = some (.string a0_4) := (bc1_ BK101.out 4).trans rfl
        have hcz8_5 : w3.cell? ⟨gb101, 5, none⟩ = some (.int .i64 a0_5) := (bc1_ BK101.out 5).trans rfl
        have hcz8_6 : w3.cell? ⟨gb101, 6, none⟩ = some (.int .i64 a0_6) := (bc1_ BK101.out 6).trans rfl
        have hcz8_7 : w3.cell? ⟨gb101, 7, none⟩ = some (.int .u64 a0_7) := (bc1_ BK101.out 7).trans rfl
        have hcz8_8 : w3.cell? ⟨gb101, 8, none⟩ = some (.int .u64 a0_8) := (bc1_ BK101.out 8).trans rfl
        have hcz8_9 : w3.cell? ⟨gb101, 9, none⟩ = some (.slice A0_9 l0_9.length c0_9) := (bc1_ BK101.out 9).trans rfl
        have hfz8_0 := bf1_ BK101.out 0
        have hfz8_1 := bf1_ BK101.out 1
        have hfz8_2 := bf1_ BK101.out 2
        have hfz8_3 := bf1_ BK101.out 3
        have hfz8_4 := bf1_ BK101.out 4
        have hfz8_5 := bf1_ BK101.out 5
        have hfz8_6 := bf1_ BK101.out 6
        have hfz8_7 := bf1_ BK101.out 7
        have hfz8_8 := bf1_ BK101.out 8
        have hfz8_9 := bf1_ BK101.out 9
        go_wp2
        go_meet
        case rel => exact ⟨_, (decide ((l0_9.length : Int) > 40)), (by first | rfl | (simp; done) | (simp [*]; done)), H', ⟨by first | omega | exact Nat.le_refl _⟩, ⟨by (with_reducible repeat (first | refine bN_ ?_ _ | refine bD_ ?_ | refine bA_ ?_ _)); exact BK101.out⟩, ⟨by repeat (first | (with_reducible first | exact HB.out | apply lA_ | apply lN_ | apply l1_ | refine below_set ?_ GE101.out) | exact HB.out)⟩⟩
  case rest =>
    clear HC2
    try clear c2
    try clear p2
    try clear c4
    try clear c4b0
    try clear c4b1
    try clear c6
    try clear c6b0
    try clear c6b1
    try clear hcz5_0
    try clear hcz5_1
    try clear hcz5_2
    try clear hcz5_3
    try clear hcz5_4
    try clear hcz5_5
    try clear hcz5_6
    try clear hcz5_7
    try clear hcz5_8
    try clear hcz5_9
    try clear hcz7_0
    try clear hcz7_1
    try clear hcz7_2
    try clear hcz7_3
    try clear hcz7_4
    try clear hcz7_5
    try clear hcz7_6
    try clear hcz7_7
    try clear hcz7_8
    try clear hcz7_9
    try clear hcz8_0
    try clear hcz8_1
    try clear hcz8_2
    try clear hcz8_3
    try clear hcz8_4
    try clear hcz8_5
    try clear hcz8_6
    try clear hcz8_7
    try clear hcz8_8
    try clear hcz8_9
    try clear hfz5_0
    try clear hfz5_1
    try clear hfz5_2
    try clear hfz5_3
    try clear hfz5_4
    try clear hfz5_5
    try clear hfz5_6
    try clear hfz5_7
    try clear hfz5_8
    try clear hfz5_9
    try clear hfz7_0
    try clear hfz7_1
    try clear hfz7_2
    try clear hfz7_3
    try clear hfz7_4
    try clear hfz7_5
    try clear hfz7_6
    try clear hfz7_7
    try clear hfz7_8
    try clear hfz7_9
    try clear hfz8_0
    try clear hfz8_1
    try clear hfz8_2
    try clear hfz8_3
    try clear hfz8_4
    try clear hfz8_5
    try clear hfz8_6
    try clear hfz8_7
    try clear hfz8_8
    try clear hfz8_9
    obtain ⟨kq, x19_1, rfl, HA, HJ1, BK101, HB⟩ := hcut
    cases kq with
    | zero => exact absurd HA.out (by simp [tallyroomlaw06_Far.j0])
    | succ kj1 =>
      have H := HA.out
      clear HA
      simp only [tallyroomlaw06_Far.j0] at H
      by_cases c9 : x19_1 = true
      · subst c9
        have H1 : (some true) = some r := by rw [if_pos rfl] at H; exact H
        clear H
        have H := H1
        clear H1
        obtain rfl := Option.some.inj H
        go_wp2
        go_ret
        exact ⟨by first | rfl | (simp [errW_none, errW_some] <;> rfl) | (simp [*, errW_none, errW_some] <;> rfl), by repeat (first | (with_reducible first | exact HB.out | apply lA_ | apply lN_ | apply l1_ | refine below_set ?_ GE101.out) | exact HB.out)⟩
      · replace c9 := Bool.eq_false_iff.mpr c9
        subst c9
        have H1 : (tallyroomlaw06_Far.l0 kj1 0 a0_0 a0_1 a0_2 a0_3 a0_4 a0_5 a0_6 a0_7 a0_8 l0_9) = some r := by rw [if_neg (show ¬ (false = true) by decide)] at H; exact H
        clear H
        have H := H1
        clear H1
        have H' := Aside0.mk H
        clear H
        go_wp2
        go_loopg [3] kj1 (fun kq v3 w' => ∃ (x3_2 : Int), v3 = .int .i64 x3_2 ∧ Aside0 (tallyroomlaw06_Far.l0 kq x3_2 a0_0 a0_1 a0_2 a0_3 a0_4 a0_5 a0_6 a0_7 a0_8 l0_9 = some r) ∧ Aside0 (kq ≤ kj1) ∧ Aside0 (w'.heap[gb101]? = some (.cells #[.int .u64 a0_0, .int .u64 a0_1, .int .u64 a0_2, .string a0_3, .string a0_4, .int .i64 a0_5, .int .i64 a0_6, .int .u64 a0_7, .int .u64 a0_8, (.slice A0_9 l0_9.length c0_9)] 37 (0, 0))) ∧ Aside0 (Below w.heap.size w w'))
        case atStart => exact ⟨(0), (by first | rfl | (simp; done) | (simp [*]; done)), H', ⟨Nat.le_refl _⟩, ⟨by (with_reducible repeat (first | refine bN_ ?_ _ | refine bD_ ?_ | refine bA_ ?_ _)); exact BK101.out⟩, ⟨by repeat (first | (with_reducible first | exact HB.out | apply lA_ | apply lN_ | apply l1_ | refine below_set ?_ GE101.out) | exact HB.out)⟩⟩
        case round =>
          clear H'
          try clear c2
          try clear p2
          try clear c4
          try clear c4b0
          try clear c4b1
          try clear c6
          try clear c6b0
          try clear c6b1
          try clear c9
          try clear hcz5_0
          try clear hcz5_1
          try clear hcz5_2
          try clear hcz5_3
          try clear hcz5_4
          try clear hcz5_5
          try clear hcz5_6
          try clear hcz5_7
          try clear hcz5_8
          try clear hcz5_9
          try clear hcz7_0
          try clear hcz7_1
          try clear hcz7_2
          try clear hcz7_3
          try clear hcz7_4
          try clear hcz7_5
          try clear hcz7_6
          try clear hcz7_7
          try clear hcz7_8
          try clear hcz7_9
          try clear hcz8_0
          try clear hcz8_1
          try clear hcz8_2
          try clear hcz8_3
          try clear hcz8_4
          try clear hcz8_5
          try clear hcz8_6
          try clear hcz8_7
          try clear hcz8_8
          try clear hcz8_9
          try clear hfz5_0
          try clear hfz5_1
          try clear hfz5_2
          try clear hfz5_3
          try clear hfz5_4
          try clear hfz5_5
          try clear hfz5_6
          try clear hfz5_7
          try clear hfz5_8
          try clear hfz5_9
          try clear hfz7_0
          try clear hfz7_1
          try clear hfz7_2
          try clear hfz7_3
          try clear hfz7_4
          try clear hfz7_5
          try clear hfz7_6
          try clear hfz7_7
          try clear hfz7_8
          try clear hfz7_9
          try clear hfz8_0
          try clear hfz8_1
          try clear hfz8_2
          try clear hfz8_3
          try clear hfz8_4
          try clear hfz8_5
          try clear hfz8_6
          try clear hfz8_7
          try clear hfz8_8
          try clear hfz8_9
          try clear p2
          obtain ⟨x3_2, rfl, HA, HK2, BK101, HB⟩ := hrel
          cases gk with
          | zero => exact absurd HA.out (by simp [tallyroomlaw06_Far.l0])
          | succ k2 =>
            have H := HA.out
            clear HA
            simp only [tallyroomlaw06_Far.l0] at H
            by_cases c10 : x3_2 < (l0_9.length : Int)
            · rw [if_pos c10] at H
              have c10b0 : decide (x3_2 < (l0_9.length : Int)) = true := decide_eq_true c10
              clear c10
              by_cases c11 : 0 ≤ x3_2
              · rw [if_pos c11] at H
                have c11b0 : decide (0 ≤ x3_2) = true := decide_eq_true c11
                clear c11
                by_cases c12 : (((rd_T63 l0_9 x3_2).f0).size : Int) > 300
                · rw [if_pos c12] at H
                  have c12b0 : decide (300 < (((rd_T63 l0_9 x3_2).f0).size : Int)) = true := decide_eq_true c12
                  have c12b1 : decide (300 < ((rd_T63 l0_9 x3_2).f0).size) = true := decide_eq_true (by omega)
                  clear c12
                  obtain rfl := Option.some.inj H
                  have hcz13_0 : wr.cell? ⟨gb101, 0, none⟩ = some (.int .u64 a0_0) := (bc1_ BK101.out 0).trans rfl
                  have hcz13_1 : wr.cell? ⟨gb101, 1, none⟩ = some (.int .u64 a0_1) := (bc1_ BK101.out 1).trans rfl
                  have hcz13_2 : wr.cell? ⟨gb101, 2, none⟩ = some (.int .u64 a0_2) := (bc1_ BK101.out 2).trans rfl
                  have hcz13_3 : wr.cell? ⟨gb101, 3, none⟩ = some (.string a0_3) := (bc1_ BK101.out 3).trans rfl
                  have hcz13_4 : wr.cell? ⟨gb101, 4, none⟩ = some (.string a0_4) := (bc1_ BK101.out 4).trans rfl
                  have hcz13_5 : wr.cell? ⟨gb101, 5, none⟩ = some (.int .i64 a0_5) := (bc1_ BK101.out 5).trans rfl
                  have hcz13_6 : wr.cell? ⟨gb101, 6, none⟩ = some (.int .i64 a0_6) := (bc1_ BK101.out 6).trans rfl
                  have hcz13_7 : wr.cell? ⟨gb101, 7, none⟩ = some (.int .u64 a0_7) := (bc1_ BK101.out 7).trans rfl
                  have hcz13_8 : wr.cell? ⟨gb101, 8, none⟩ = some (.int .u64 a0_8) := (bc1_ BK101.out 8).trans rfl
                  have hcz13_9 : wr.cell? ⟨gb101, 9, none⟩ = some (.slice A0_9 l0_9.length c0_9) := (bc1_ BK101.out 9).trans rfl
                  have hfz13_0 := bf1_ BK101.out 0
                  have hfz13_1 := bf1_ BK101.out 1
                  have hfz13_2 := bf1_ BK101.out 2
                  have hfz13_3 := bf1_ BK101.out 3
                  have hfz13_4 := bf1_ BK101.out 4
                  have hfz13_5 := bf1_ BK101.out 5
                  have hfz13_6 := bf1_ BK101.out 6
                  have hfz13_7 := bf1_ BK101.out 7
                  have hfz13_8 := bf1_ BK101.out 8
                  have hfz13_9 := bf1_ BK101.out 9
                  have p102 : 0 ≤ (x3_2 : Int) := of_decide_eq_true (by first | (with_reducible assumption) | assumption)
                  have q102 : x3_2 < (l0_9.length : Int) := of_decide_eq_true (by first | (with_reducible assumption) | assumption)
                  obtain ⟨ad102, e102, hx102_0, hx102_1, hx102_2, hx102_3⟩ := at_T63 HR0_9.out x3_2 p102 q102
                  cases e102
                  replace hx102_0 := bc_ HB.out hx102_0
                  replace hx102_1 := bc_ HB.out hx102_1
                  replace hx102_2 := bc_ HB.out hx102_2
                  replace hx102_3 := bc_ HB.out hx102_3
                  replace p102 := eq_true p102
                  replace q102 := eq_true q102
                  go_wp2
                  go_ret
                  exact ⟨by first | rfl | (simp [errW_none, errW_some] <;> rfl) | (simp [*, errW_none, errW_some] <;> rfl), by repeat (first | (with_reducible first | exact HB.out | apply lA_ | apply lN_ | apply l1_ | refine below_set ?_ GE101.out) | exact HB.out)⟩
                · rw [if_neg c12] at H
                  have c12b0 : decide (300 < (((rd_T63 l0_9 x3_2).f0).size : Int)) = false := decide_eq_false c12
                  have c12b1 : decide (300 < ((rd_T63 l0_9 x3_2).f0).size) = false := decide_eq_false (by omega)
                  clear c12
                  by_cases c14 : (((rd_T63 l0_9 x3_2).f1.f2).size : Int) > 5000
                  · rw [if_pos c14] at H
                    have c14b0 : decide (5000 < (((rd_T63 l0_9 x3_2).f1.f2).size : Int)) = true := decide_eq_true c14
                    have c14b1 : decide (5000 < ((rd_T63 l0_9 x3_2).f1.f2).size) = true := decide_eq_true (by omega)
                    clear c14
                    obtain rfl := Option.some.inj H
                    have hcz15_0 : wr.cell? ⟨gb101, 0, none⟩ = some (.int .u64 a0_0) := (bc1_ BK101.out 0).trans rfl
                    have hcz15_1 : wr.cell? ⟨gb101, 1, none⟩ = some (.int .u64 a0_1) := (bc1_ BK101.out 1).trans rfl
                    have hcz15_2 : wr.cell? ⟨gb101, 2, none⟩ = some (.int .u64 a0_2) := (bc1_ BK101.out 2).trans rfl
                    have hcz15_3 : wr.cell? ⟨gb101, 3, none⟩ = some (.string a0_3) := (bc1_ BK101.out 3).trans rfl
                    have hcz15_4 : wr.cell? ⟨gb101, 4, none⟩ = some (.string a0_4) := (bc1_ BK101.out 4).trans rfl
                    have hcz15_5 : wr.cell? ⟨gb101, 5, none⟩ = some (.int .i64 a0_5) := (bc1_ BK101.out 5).trans rfl
                    have hcz15_6 : wr.cell? ⟨gb101, 6, none⟩ = some (.int .i64 a0_6) := (bc1_ BK101.out 6).trans rfl
                    have hcz15_7 : wr.cell? ⟨gb101, 7, none⟩ = some (.int .u64 a0_7) := (bc1_ BK101.out 7).trans rfl
                    have hcz15_8 : wr.cell? ⟨gb101, 8, none⟩ = some (.int .u64 a0_8) := (bc1_ BK101.out 8).trans rfl
                    have hcz15_9 : wr.cell? ⟨gb101, 9, none⟩ = some (.slice A0_9 l0_9.length c0_9) := (bc1_ BK101.out 9).trans rfl
                    have hfz15_0 := bf1_ BK101.out 0
                    have hfz15_1 := bf1_ BK101.out 1
                    have hfz15_2 := bf1_ BK101.out 2
                    have hfz15_3 := bf1_ BK101.out 3
                    have hfz15_4 := bf1_ BK101.out 4
                    have hfz15_5 := bf1_ BK101.out 5
                    have hfz15_6 := bf1_ BK101.out 6
                    have hfz15_7 := bf1_ BK101.out 7
                    have hfz15_8 := bf1_ BK101.out 8
                    have hfz15_9 := bf1_ BK101.out 9
                    have p102 : 0 ≤ (x3_2 : Int) := of_decide_eq_true (by first | (with_reducible assumption) | assumption)
                    have q102 : x3_2 < (l0_9.length : Int) := of_decide_eq_true (by first | (with_reducible assumption) | assumption)
                    obtain ⟨ad102, e102, hx102_0, hx102_1, hx102_2, hx102_3⟩ := at_T63 HR0_9.out x3_2 p102 q102
                    cases e102
                    replace hx102_0 := bc_ HB.out hx102_0
                    replace hx102_1 := bc_ HB.out hx102_1
                    replace hx102_2 := bc_ HB.out hx102_2
                    replace hx102_3 := bc_ HB.out hx102_3
                    replace p102 := eq_true p102
                    replace q102 := eq_true q102
                    have p103 : 0 ≤ (x3_2 : Int) := of_decide_eq_true (by first | (with_reducible assumption) | assumption)
                    have q103 : x3_2 < (l0_9.length : Int) := of_decide_eq_true (by first | (with_reducible assumption) | assumption)
                    obtain ⟨ad103, e103, hx103_0, hx103_1, hx103_2, hx103_3⟩ := at_T63 HR0_9.out x3_2 p103 q103
                    obtain rfl : ad102 = ad103 := (by injection e103)
                    replace hx103_0 := bc_ HB.out hx103_0
                    replace hx103_1 := bc_ HB.out hx103_1
                    replace hx103_2 := bc_ HB.out hx103_2
                    replace hx103_3 := bc_ HB.out hx103_3
                    replace p103 := eq_true p103
                    replace q103 := eq_true q103
                    go_wp2
                    go_ret
                    exact ⟨by first | rfl | (simp [errW_none, errW_some] <;> rfl) | (simp [*, errW_none, errW_some] <;> rfl), by repeat (first | (with_reducible first | exact HB.out | apply lA_ | apply lN_ | apply l1_ | refine below_set ?_ GE101.out) | exact HB.out)⟩
                  · rw [if_neg c14] at H
                    have c14b0 : decide (5000 < (((rd_T63 l0_9 x3_2).f1.f2).size : Int)) = false := decide_eq_false c14
                    have c14b1 : decide (5000 < ((rd_T63 l0_9 x3_2).f1.f2).size) = false := decide_eq_false (by omega)
                    clear c14
                    have H' := Aside0.mk H
                    clear H
                    have hcz16_0 : wr.cell? ⟨gb101, 0, none⟩ = some (.int .u64 a0_0) := (bc1_ BK101.out 0).trans rfl
                    have hcz16_1 : wr.cell? ⟨gb101, 1, none⟩ = some (.int .u64 a0_1) := (bc1_ BK101.out 1).trans rfl
                    have hcz16_2 : wr.cell? ⟨gb101, 2, none⟩ = some (.int .u64 a0_2) := (bc1_ BK101.out 2).trans rfl
                    have hcz16_3 : wr.cell? ⟨gb101, 3, none⟩ = some (.string a0_3) := (bc1_ BK101.out 3).trans rfl
                    have hcz16_4 : wr.cell? ⟨gb101, 4, none⟩ = some (.string a0_4) := (bc1_ BK101.out 4).trans rfl
                    have hcz16_5 : wr.cell? ⟨gb101, 5, none⟩ = some (.int .i64 a0_5) := (bc1_ BK101.out 5).trans rfl
                    have hcz16_6 : wr.cell? ⟨gb101, 6, none⟩ = some (.int .i64 a0_6) := (bc1_ BK101.out 6).trans rfl
                    have hcz16_7 : wr.cell? ⟨gb101, 7, none⟩ = some (.int .u64 a0_7) := (bc1_ BK101.out 7).trans rfl
                    have hcz16_8 : wr.cell? ⟨gb101, 8, none⟩ = some (.int .u64 a0_8) := (bc1_ BK101.out 8).trans rfl
                    have hcz16_9 : wr.cell? ⟨gb101, 9, none⟩ = some (.slice A0_9 l0_9.length c0_9) := (bc1_ BK101.out 9).trans rfl
                    have hfz16_0 := bf1_ BK101.out 0
                    have hfz16_1 := bf1_ BK101.out 1
                    have hfz16_2 := bf1_ BK101.out 2
                    have hfz16_3 := bf1_ BK101.out 3
                    have hfz16_4 := bf1_ BK101.out 4
                    have hfz16_5 := bf1_ BK101.out 5
                    have hfz16_6 := bf1_ BK101.out 6
                    have hfz16_7 := bf1_ BK101.out 7
                    have hfz16_8 := bf1_ BK101.out 8
                    have hfz16_9 := bf1_ BK101.out 9
                    have p102 : 0 ≤ (x3_2 : Int) := of_decide_eq_true (by first | (with_reducible assumption) | assumption)
                    have q102 : x3_2 < (l0_9.length : Int) := of_decide_eq_true (by first | (with_reducible assumption) | assumption)
                    obtain ⟨ad102, e102, hx102_0, hx102_1, hx102_2, hx102_3⟩ := at_T63 HR0_9.out x3_2 p102 q102
                    cases e102
                    replace hx102_0 := bc_ HB.out hx102_0
                    replace hx102_1 := bc_ HB.out hx102_1
                    replace hx102_2 := bc_ HB.out hx102_2
                    replace hx102_3 := bc_ HB.out hx102_3
                    replace p102 := eq_true p102
                    replace q102 := eq_true q102
                    have p103 : 0 ≤ (x3_2 : Int) := of_decide_eq_true (by first | (with_reducible assumption) | assumption)
                    have q103 : x3_2 < (l0_9.length : Int) := of_decide_eq_true (by first | (with_reducible assumption) | assumption)
                    obtain ⟨ad103, e103, hx103_0, hx103_1, hx103_2, hx103_3⟩ := at_T63 HR0_9.out x3_2 p103 q103
                    obtain rfl : ad102 = ad103 := (by injection e103)
                    replace hx103_0 := bc_ HB.out hx103_0
                    replace hx103_1 := bc_ HB.out hx103_1
                    replace hx103_2 := bc_ HB.out hx103_2
                    replace hx103_3 := bc_ HB.out hx103_3
                    replace p103 := eq_true p103
                    replace q103 := eq_true q103
                    go_wp2
                    go_roundg k2
                    case measure => have := HJ1.out; have := HK2.out; omega
                    case rel => exact ⟨(wrap64 (x3_2 + 1)), (by first | rfl | (simp; done) | (simp [*]; done)), H', ⟨by have := HJ1.out; have := HK2.out; omega⟩, ⟨by (with_reducible repeat (first | refine bN_ ?_ _ | refine bD_ ?_ | refine bA_ ?_ _)); exact BK101.out⟩, ⟨by repeat (first | (with_reducible first | exact HB.out | apply lA_ | apply lN_ | apply l1_ | refine below_set ?_ GE101.out) | exact HB.out)⟩⟩
              · rw [if_neg c11] at H
                exact absurd H (by simp)
            · rw [if_neg c10] at H
              have c10b0 : decide (x3_2 < (l0_9.length : Int)) = false := decide_eq_false c10
              clear c10
              obtain rfl := Option.some.inj H
              have hcz17_0 : wr.cell? ⟨gb101, 0, none⟩ = some (.int .u64 a0_0) := (bc1_ BK101.out 0).trans rfl
              have hcz17_1 : wr.cell? ⟨gb101, 1, none⟩ = some (.int .u64 a0_1) := (bc1_ BK101.out 1).trans rfl
              have hcz17_2 : wr.cell? ⟨gb101, 2, none⟩ = some (.int .u64 a0_2) := (bc1_ BK101.out 2).trans rfl
              have hcz17_3 : wr.cell? ⟨gb101, 3, none⟩ = some (.string a0_3) := (bc1_ BK101.out 3).trans rfl
              have hcz17_4 : wr.cell? ⟨gb101, 4, none⟩ = some (.string a0_4) := (bc1_ BK101.out 4).trans rfl
              have hcz17_5 : wr.cell? ⟨gb101, 5, none⟩ = some (.int .i64 a0_5) := (bc1_ BK101.out 5).trans rfl
              have hcz17_6 : wr.cell? ⟨gb101, 6, none⟩ = some (.int .i64 a0_6) := (bc1_ BK101.out 6).trans rfl
              have hcz17_7 : wr.cell? ⟨gb101, 7, none⟩ = some (.int .u64 a0_7) := (bc1_ BK101.out 7).trans rfl
              have hcz17_8 : wr.cell? ⟨gb101, 8, none⟩ = some (.int .u64 a0_8) := (bc1_ BK101.out 8).trans rfl
              have hcz17_9 : wr.cell? ⟨gb101, 9, none⟩ = some (.slice A0_9 l0_9.length c0_9) := (bc1_ BK101.out 9).trans rfl
              have hfz17_0 := bf1_ BK101.out 0
              have hfz17_1 := bf1_ BK101.out 1
              have hfz17_2 := bf1_ BK101.out 2
              have hfz17_3 := bf1_ BK101.out 3
              have hfz17_4 := bf1_ BK101.out 4
              have hfz17_5 := bf1_ BK101.out 5
              have hfz17_6 := bf1_ BK101.out 6
              have hfz17_7 := bf1_ BK101.out 7
              have hfz17_8 := bf1_ BK101.out 8
              have hfz17_9 := bf1_ BK101.out 9
              go_wp2
              go_ret
              exact ⟨by first | rfl | (simp [errW_none, errW_some] <;> rfl) | (simp [*, errW_none, errW_some] <;> rfl), by repeat (first | (with_reducible first | exact HB.out | apply lA_ | apply lN_ | apply l1_ | refine below_set ?_ GE101.out) | exact HB.out)⟩
end Go.Proofs.Ytllepjhimkogjaa.XSf
namespace Go.Proofs.Ytllepjhimkogjaa.XSf
open Go.RowKit Go.Proofs.YtllepjhimkogjaaW.PrintWords Go.Proofs.YtllepjhimkogjaaW.PrintLast Go.Proofs.YtllepjhimkogjaaW.PrintMore Go.Proofs.Ytllepjhimkogjaa.Shr
set_option linter.unusedVariables false
set_option linter.unusedSimpArgs false
def tallyroomlaw06_To.l0 : Nat → Int → Int → Int → Int → ByteArray → ByteArray → Int → Int → Int → Int → List (S51) → Int → Int → Int → ByteArray → ByteArray → Int → Int → Int → Int → List (S63) → Option (Int × Int × Int × ByteArray × ByteArray × Int × Int × Int × Int × (List (S63)))
  | 0, _, _, _, _, _, _, _, _, _, _, _, _, _, _, _, _, _, _, _, _, _ => none
  | k + 1, x4, x113000, x113001, x113002, x113003, x113004, x113005, x113006, x113007, x113008, x113009, x115000, x115001, x115002, x115003, x115004, x115005, x115006, x115007, x115008, x115009 => if x4 < (x113009.length : Int) then (if 0 ≤ x4 then (if x115009.length < 2932031007402 then (tallyroomlaw06_To.l0 k (wrap64 (x4 + 1)) x113000 x113001 x113002 x113003 x113004 x113005 x113006 x113007 x113008 x113009 x115000 x115001 x115002 x115003 x115004 x115005 x115006 x115007 x115008 (x115009 ++ [(⟨(rd_T51 x113009 x4).f0, (⟨(rd_T51 x113009 x4).f1.f0, (rd_T51 x113009 x4).f1.f1, (rd_T51 x113009 x4).f1.f2⟩ : S61)⟩ : S63)])) else (none)) else (none)) else (some (x115000, x115001, x115002, x115003, x115004, x115005, x115006, x115007, x115008, x115009))
def tallyroomlaw06_To.f (k : Nat) (a0_0 : Int) (a0_1 : Int) (a0_2 : Int) (a0_3 : ByteArray) (a0_4 : ByteArray) (a0_5 : Int) (a0_6 : Int) (a0_7 : Int) (a0_8 : Int) (l0_9 : List (S51)) : Option (Int × Int × Int × ByteArray × ByteArray × Int × Int × Int × Int × (List (S63))) := tallyroomlaw06_To.l0 k 0 a0_0 a0_1 a0_2 a0_3 a0_4 a0_5 a0_6 a0_7 a0_8 l0_9 a0_0 a0_1 a0_2 a0_3 a0_4 a0_5 a0_6 a0_7 a0_8 ([] : List (S63))
theorem tallyroomlaw06_To.mono_l : ∀ k, (∀ y0 y1 y2 y3 y4 y5 y6 y7 y8 y9 y10 y11 y12 y13 y14 y15 y16 y17 y18 y19 y20, LeO (tallyroomlaw06_To.l0 k y0 y1 y2 y3 y4 y5 y6 y7 y8 y9 y10 y11 y12 y13 y14 y15 y16 y17 y18 y19 y20) (tallyroomlaw06_To.l0 (k + 1) y0 y1 y2 y3 y4 y5 y6 y7 y8 y9 y10 y11 y12 y13 y14 y15 y16 y17 y18 y19 y20))
  | 0 => fun _ _ _ _ _ _ _ _ _ _ _ _ _ _ _ _ _ _ _ _ _ r h => by simp [tallyroomlaw06_To.l0] at h
  | k + 1 => by
    have ih0 := tallyroomlaw06_To.mono_l k
    · intro y0 y1 y2 y3 y4 y5 y6 y7 y8 y9 y10 y11 y12 y13 y14 y15 y16 y17 y18 y19 y20
      unfold tallyroomlaw06_To.l0
      repeat' first
      | (with_reducible exact ih0 _ _ _ _ _ _ _ _ _ _ _ _ _ _ _ _ _ _ _ _ _)
      | (with_reducible exact LeO.refl _)
      | (with_reducible exact LeO.none _)
      | (with_reducible refine LeO.ite ?_ ?_)
      | (with_reducible refine LeO.bind ?_ (fun _ => ?_))
      | exact ih0 _ _ _ _ _ _ _ _ _ _ _ _ _ _ _ _ _ _ _ _ _
      | exact LeO.none _
      | refine LeO.ite ?_ ?_
      | refine LeO.bind ?_ (fun _ => ?_)
theorem tallyroomlaw06_To.mono : ∀ a0 a1 a2 a3 a4 a5 a6 a7 a8 a9 k, LeO (tallyroomlaw06_To.f k a0 a1 a2 a3 a4 a5 a6 a7 a8 a9) (tallyroomlaw06_To.f (k + 1) a0 a1 a2 a3 a4 a5 a6 a7 a8 a9) := by
  intro a0 a1 a2 a3 a4 a5 a6 a7 a8 a9 k
  have ih0 := tallyroomlaw06_To.mono_l k
  unfold tallyroomlaw06_To.f
  repeat' first
      | (with_reducible exact ih0 _ _ _ _ _ _ _ _ _ _ _ _ _ _ _ _ _ _ _ _ _)
      | (with_reducible exact LeO.refl _)
      | (with_reducible exact LeO.none _)
      | (with_reducible refine LeO.ite ?_ ?_)
      | (with_reducible refine LeO.bind ?_ (fun _ => ?_))
      | exact ih0 _ _ _ _ _ _ _ _ _ _ _ _ _ _ _ _ _ _ _ _ _
      | exact LeO.none _
      | refine LeO.ite ?_ ?_
      | refine LeO.bind ?_ (fun _ => ?_)
def tallyroomlaw06_To.T5 : Bool × List (List Nat × List Nat) := (true, [([], []), ([0], [0]), ([], []), ([2], [2]), ([], []), ([3, 4], [3, 4]), ([5], [5]), ([6], [6]), ([], []), ([8], [8]), ([], []), ([9, 10], [9, 10]), ([11], [11]), ([12], [12]), ([7, 13], [7, 13]), ([14], [14]), ([1, 15], [1, 15]), ([0, 1, 2, 3, 4, 5, 6, 7, 8, 9, 10, 11, 12, 13, 14, 15, 16], []), ([17, 16, 16, 0, 1, 2, 3, 4, 5, 6, 7, 8, 9, 10, 11, 12, 13, 14, 15, 16], [16, 17])])
def tallyroomlaw06_To.B5 : List Nat := [0, 1, 0, 4, 0, 28, 60, 124, 0, 256, 0, 1792, 3840, 7936, 16380, 32764, 65535, 131071, 262143]
theorem tallyroomlaw06_To.tab5 : rtab .any (opsOf Try.f24 5) = tallyroomlaw06_To.T5 := by kernel_rfl
theorem tallyroomlaw06_To.bits5 : waitsOk tallyroomlaw06_To.T5.2 tallyroomlaw06_To.B5 = true := by kernel_rfl
set_option maxHeartbeats 8000000 in
set_option maxRecDepth 100000 in
theorem tallyroomlaw06_To.calls (k : Nat) (a0_0 : Int) (a0_1 : Int) (a0_2 : Int) (a0_3 : ByteArray) (a0_4 : ByteArray) (a0_5 : Int) (a0_6 : Int) (a0_7 : Int) (a0_8 : Int) (A0_9 : Option Addr) (c0_9 : Nat) (l0_9 : List (S51)) (r1 : Int) (r2 : Int) (r3 : Int) (r4 : ByteArray) (r5 : ByteArray) (r6 : Int) (r7 : Int) (r8 : Int) (r9 : Int) (r10 : List (S63)) (w : World) (hr0_9 : Kd.C k51 w A0_9 l0_9.length l0_9) (hc0_9 : l0_9.length ≤ c0_9) (h : tallyroomlaw06_To.f k a0_0 a0_1 a0_2 a0_3 a0_4 a0_5 a0_6 a0_7 a0_8 l0_9 = some (r1, r2, r3, r4, r5, r6, r7, r8, r9, r10)) :
    Calls Try.prog 24 #[.agg #[.int .u64 a0_0, .int .u64 a0_1, .int .u64 a0_2, .string a0_3, .string a0_4, .int .i64 a0_5, .int .i64 a0_6, .int .u64 a0_7, .int .u64 a0_8, .slice A0_9 l0_9.length c0_9]] w fun e w' => ∃ v9_ : Value, e = .returned (.agg #[.int .u64 r1, .int .u64 r2, .int .u64 r3, .string r4, .string r5, .int .i64 r6, .int .i64 r7, .int .u64 r8, .int .u64 r9, v9_]) ∧ Kd.R k63 63 w' w.heap.size (fun _ => True) v9_ r10 ∧ Below w.heap.size w w' := by
  have hu40 := Try.underlying40
  have hu37 := Try.underlying37
  have hu49 := Try.underlying49
  have hu63 := Try.underlying63
  have HR0_9 := Aside0.mk hr0_9
  have HC0_9 := Aside0.mk hc0_9
  clear hr0_9 hc0_9
  have HB := Aside0.mk (Below.refl w.heap.size w)
  have H : (tallyroomlaw06_To.l0 k 0 a0_0 a0_1 a0_2 a0_3 a0_4 a0_5 a0_6 a0_7 a0_8 l0_9 a0_0 a0_1 a0_2 a0_3 a0_4 a0_5 a0_6 a0_7 a0_8 ([] : List (S63))) = some (r1, r2, r3, r4, r5, r6, r7, r8, r9, r10) := h
  clear h
  have H' := Aside0.mk H
  clear H
  go_enter Try.func24, Try.ntmps24
  go_wp2_with (first | ((with_reducible refine gate_dst (N := 1) rfl ?_); refine box_event ?hg (N := 1) ?hd (cs := #[.int .u64 a0_0, .int .u64 a0_1, .int .u64 a0_2, .string a0_3, .string a0_4, .int .i64 a0_5, .int .i64 a0_6, .int .u64 a0_7, .int .u64 a0_8, .slice A0_9 l0_9.length c0_9]) (t := 40) ?hr ?_; (case hd => rfl); (case hg => rfl); (case hr => first | (go_simp; done) | (go_simp; rfl)); intro gb112 hg w2 hbox hb; have n0_ := Aside0.mk (ls_ (by repeat (first | (with_reducible first | exact HB.out | apply lA_ | apply lN_ | apply l1_) | exact HB.out)) hb); have n1_ := Aside0.mk (hbox); have n2_ := Aside0.mk ((by rw [hg]; exact (bz_ (by repeat (first | (with_reducible first | exact HB.out | apply lA_ | apply lN_ | apply l1_) | exact HB.out))) : w.heap.size ≤ gb112)); have n3_ := Aside0.mk ((by rw [hg]; exact (bz_ (by repeat (first | (with_reducible first | exact HB.out | apply lA_ | apply lN_ | apply l1_) | exact HB.out))) : w.heap.size ≤ gb112)); clear HB; have HB := n0_; have BK112 := n1_; have GW112 := n2_; have GE112 := n3_; clear n0_ n1_ n2_ n3_; clear hb hbox hg) | ((with_reducible refine gate_dst (N := 2) rfl ?_); refine box_event ?hg (N := 2) ?hd (cs := #[.int .u64 0, .int .u64 0, .int .u64 0, .string (⟨#[]⟩ : ByteArray), .string (⟨#[]⟩ : ByteArray), .int .i64 0, .int .i64 0, .int .u64 0, .int .u64 0, .slice none 0 0]) (t := 37) ?hr ?_; (case hd => rfl); (case hg => rfl); (case hr => first | (go_simp; done) | (go_simp; rfl)); intro gb113 hg w3 hbox hb; have n0_ := Aside0.mk (bb_ (g := gb112) (o := .cells #[.int .u64 a0_0, .int .u64 a0_1, .int .u64 a0_2, .string a0_3, .string a0_4, .int .i64 a0_5, .int .i64 a0_6, .int .u64 a0_7, .int .u64 a0_8, .slice A0_9 l0_9.length c0_9] 40 (0, 0)) (by (with_reducible repeat (first | refine bN_ ?_ _ | refine bD_ ?_ | refine bA_ ?_ _)); exact BK112.out) hb); have n1_ := Aside0.mk (ls_ (by repeat (first | (with_reducible first | exact HB.out | apply lA_ | apply lN_ | apply l1_ | refine below_set ?_ GE112.out) | exact HB.out)) hb); have n2_ := Aside0.mk (hbox); have n3_ := Aside0.mk ((by rw [hg]; exact (bz_ (by repeat (first | (with_reducible first | exact HB.out | apply lA_ | apply lN_ | apply l1_ | refine below_set ?_ GE112.out) | exact HB.out))) : w.heap.size ≤ gb113)); have n4_ := Aside0.mk ((by rw [hg]; exact (bz_ (by repeat (first | (with_reducible first | exact HB.out | apply lA_ | apply lN_ | apply l1_ | refine below_set ?_ GE112.out) | exact HB.out))) : w.heap.size ≤ gb113)); have n5_ := Aside0.mk ((by rw [hg]; exact Nat.ne_of_lt (blk_lt (g := gb112) (o := .cells #[.int .u64 a0_0, .int .u64 a0_1, .int .u64 a0_2, .string a0_3, .string a0_4, .int .i64 a0_5, .int .i64 a0_6, .int .u64 a0_7, .int .u64 a0_8, .slice A0_9 l0_9.length c0_9] 40 (0, 0)) (by (with_reducible repeat (first | refine bN_ ?_ _ | refine bD_ ?_ | refine bA_ ?_ _)); exact BK112.out)) : gb112 ≠ gb113)); have n6_ := Aside0.mk ((by rw [hg]; exact Nat.ne_of_gt (blk_lt (g := gb112) (o := .cells #[.int .u64 a0_0, .int .u64 a0_1, .int .u64 a0_2, .string a0_3, .string a0_4, .int .i64 a0_5, .int .i64 a0_6, .int .u64 a0_7, .int .u64 a0_8, .slice A0_9 l0_9.length c0_9] 40 (0, 0)) (by (with_reducible repeat (first | refine bN_ ?_ _ | refine bD_ ?_ | refine bA_ ?_ _)); exact BK112.out)) : gb113 ≠ gb112)); clear BK112; clear HB; have BK112 := n0_; have HB := n1_; have BK113 := n2_; have GW113 := n3_; have GE113 := n4_; have NB112_113 := n5_; have NB113_112 := n6_; clear n0_ n1_ n2_ n3_ n4_ n5_ n6_; clear hb hbox hg; have hnb4 := NB112_113.out; have hnc4 := NB113_112.out; have hcz5_0 : w3.cell? ⟨gb112, 0, none⟩ = some (.int .u64 a0_0) := (bc1_ BK112.out 0).trans rfl; have hcz5_1 : w3.cell? ⟨gb112, 1, none⟩ = some (.int .u64 a0_1) := (bc1_ BK112.out 1).trans rfl; have hcz5_2 : w3.cell? ⟨gb112, 2, none⟩ = some (.int .u64 a0_2) := (bc1_ BK112.out 2).trans rfl; have hcz5_3 : w3.cell? ⟨gb112, 3, none⟩ = some (.string a0_3) := (bc1_ BK112.out 3).trans rfl; have hcz5_4 : w3.cell? ⟨gb112, 4, none⟩ = some (.string a0_4) := (bc1_ BK112.out 4).trans rfl; have hcz5_5 : w3.cell? ⟨gb112, 5, none⟩ = some (.int .i64 a0_5) := (bc1_ BK112.out 5).trans rfl; have hcz5_6 : w3.cell? ⟨gb112, 6, none⟩ = some (.int .i64 a0_6) := (bc1_ BK112.out 6).trans rfl; have hcz5_7 : w3.cell? ⟨gb112, 7, none⟩ = some (.int .u64 a0_7) := (bc1_ BK112.out 7).trans rfl; have hcz5_8 : w3.cell? ⟨gb112, 8, none⟩ = some (.int .u64 a0_8) := (bc1_ BK112.out 8).trans rfl; have hcz5_9 : w3.cell? ⟨gb112, 9, none⟩ = some (.slice A0_9 l0_9.length c0_9) := (bc1_ BK112.out 9).trans rfl; have hfz5_0 := bf1_ BK112.out 0; have hfz5_1 := bf1_ BK112.out 1; have hfz5_2 := bf1_ BK112.out 2; have hfz5_3 := bf1_ BK112.out 3; have hfz5_4 := bf1_ BK112.out 4; have hfz5_5 := bf1_ BK112.out 5; have hfz5_6 := bf1_ BK112.out 6; have hfz5_7 := bf1_ BK112.out 7; have hfz5_8 := bf1_ BK112.out 8; have hfz5_9 := bf1_ BK112.out 9) | ((with_reducible refine gate_dst (N := 3) rfl ?_); refine box_event ?hg (N := 3) ?hd (cs := #[.int .u64 0, .int .u64 0, .int .u64 0, .string (⟨#[]⟩ : ByteArray), .string (⟨#[]⟩ : ByteArray), .int .i64 0, .int .i64 0, .int .u64 0, .int .u64 0, .slice none 0 0]) (t := 37) ?hr ?_; (case hd => rfl); (case hg => rfl); (case hr => first | (go_simp; done) | (go_simp; rfl)); intro gb114 hg w6 hbox hb; have n0_ := Aside0.mk (bb_ (g := gb112) (o := .cells #[.int .u64 a0_0, .int .u64 a0_1, .int .u64 a0_2, .string a0_3, .string a0_4, .int .i64 a0_5, .int .i64 a0_6, .int .u64 a0_7, .int .u64 a0_8, .slice A0_9 l0_9.length c0_9] 40 (0, 0)) (by (with_reducible repeat (first | refine bN_ ?_ _ | refine bD_ ?_ | refine bA_ ?_ _)); exact BK112.out) hb); have n1_ := Aside0.mk (bb_ (g := gb113) (o := .cells #[.int .u64 0, .int .u64 0, .int .u64 0, .string (⟨#[]⟩ : ByteArray), .string (⟨#[]⟩ : ByteArray), .int .i64 0, .int .i64 0, .int .u64 0, .int .u64 0, .slice none 0 0] 37 (0, 0)) (by (with_reducible repeat (first | refine bN_ ?_ _ | refine bD_ ?_ | refine bA_ ?_ _)); exact BK113.out) hb); have n2_ := Aside0.mk (ls_ (by repeat (first | (with_reducible first | exact HB.out | apply lA_ | apply lN_ | apply l1_ | refine below_set ?_ GE112.out | refine below_set ?_ GE113.out) | exact HB.out)) hb); have n3_ := Aside0.mk (hbox); have n4_ := Aside0.mk ((by rw [hg]; exact (bz_ (by repeat (first | (with_reducible first | exact HB.out | apply lA_ | apply lN_ | apply l1_ | refine below_set ?_ GE112.out | refine below_set ?_ GE113.out) | exact HB.out))) : w.heap.size ≤ gb114)); have n5_ := Aside0.mk ((by rw [hg]; exact (bz_ (by repeat (first | (with_reducible first | exact HB.out | apply lA_ | apply lN_ | apply l1_ | refine below_set ?_ GE112.out | refine below_set ?_ GE113.out) | exact HB.out))) : w.heap.size ≤ gb114)); have n6_ := Aside0.mk ((by rw [hg]; exact Nat.ne_of_lt (blk_lt (g := gb112) (o := .cells #[.int .u64 a0_0, .int .u64 a0_1, .int .u64 a0_2, .string a0_3, .string a0_4, .int .i64 a0_5, .int .i64 a0_6, .int .u64 a0_7, .int .u64 a0_8, .slice A0_9 l0_9.length c0_9] 40 (0, 0)) (by (with_reducible repeat (first | refine bN_ ?_ _ | refine bD_ ?_ | refine bA_ ?_ _)); exact BK112.out)) : gb112 ≠ gb114)); have n7_ := Aside0.mk ((by rw [hg]; exact Nat.ne_of_gt (blk_lt (g := gb112) (o := .cells #[.int .u64 a0_0, .int .u64 a0_1, .int .u64 a0_2, .string a0_3, .string a0_4, .int .i64 a0_5, .int .i64 a0_6, .int .u64 a0_7, .int .u64 a0_8, .slice A0_9 l0_9.length c0_9] 40 (0, 0)) (by (with_reducible repeat (first | refine bN_ ?_ _ | refine bD_ ?_ | refine bA_ ?_ _)); exact BK112.out)) : gb114 ≠ gb112)); have n8_ := Aside0.mk ((by rw [hg]; exact Nat.ne_of_lt (blk_lt (g := gb113) (o := .cells #[.int .u64 0, .int .u64 0, .int .u64 0, .string (⟨#[]⟩ : ByteArray), .string (⟨#[]⟩ : ByteArray), .int .i64 0, .int .i64 0, .int .u64 0, .int .u64 0, .slice none 0 0] 37 (0, 0)) (by (with_reducible repeat (first | refine bN_ ?_ _ | refine bD_ ?_ | refine bA_ ?_ _)); exact BK113.out)) : gb113 ≠ gb114)); have n9_ := Aside0.mk ((by rw [hg]; exact Nat.ne_of_gt (blk_lt (g := gb113) (o := .cells #[.int .u64 0, .int .u64 0, .int .u64 0, .string (⟨#[]⟩ : ByteArray), .string (⟨#[]⟩ : ByteArray), .int .i64 0, .int .i64 0, .int .u64 0, .int .u64 0, .slice none 0 0] 37 (0, 0)) (by (with_reducible repeat (first | refine bN_ ?_ _ | refine bD_ ?_ | refine bA_ ?_ _)); exact BK113.out)) : gb114 ≠ gb113)); clear BK112; clear BK113; clear HB; have BK112 := n0_; have BK113 := n1_; have HB := n2_; have BK114 := n3_; have GW114 := n4_; have GE114 := n5_; have NB112_114 := n6_; have NB114_112 := n7_; have NB113_114 := n8_; have NB114_113 := n9_; clear n0_ n1_ n2_ n3_ n4_ n5_ n6_ n7_ n8_ n9_; clear hb hbox hg; have hnb7 := NB114_112.out; have hnc7 := NB112_114.out; have hnb8 := NB114_113.out; have hnc8 := NB113_114.out; have hcz9_0 : w6.cell? ⟨gb114, 0, none⟩ = some (.int .u64 0) := (bc1_ BK114.out 0).trans rfl; have hcz9_1 : w6.cell? ⟨gb114, 1, none⟩ = some (.int .u64 0) := (bc1_ BK114.out 1).trans rfl; have hcz9_2 : w6.cell? ⟨gb114, 2, none⟩ = some (.int .u64 0) := (bc1_ BK114.out 2).trans rfl; have hcz9_3 : w6.cell? ⟨gb114, 3, none⟩ = some (.string (⟨#[]⟩ : ByteArray)) := (bc1_ BK114.out 3).trans rfl; have hcz9_4 : w6.cell? ⟨gb114, 4, none⟩ = some (.string (⟨#[]⟩ : ByteArray)) := (bc1_ BK114.out 4).trans rfl; have hcz9_5 : w6.cell? ⟨gb114, 5, none⟩ = some (.int .i64 0) := (bc1_ BK114.out 5).trans rfl; have hcz9_6 : w6.cell? ⟨gb114, 6, none⟩ = some (.int .i64 0) := (bc1_ BK114.out 6).trans rfl; have hcz9_7 : w6.cell? ⟨gb114, 7, none⟩ = some (.int .u64 0) := (bc1_ BK114.out 7).trans rfl; have hcz9_8 : w6.cell? ⟨gb114, 8, none⟩ = some (.int .u64 0) := (bc1_ BK114.out 8).trans rfl; have hcz9_9 : w6.cell? ⟨gb114, 9, none⟩ = some (.slice none 0 0) := (bc1_ BK114.out 9).trans rfl; have hfz9_0 := bf1_ BK114.out 0; have hfz9_1 := bf1_ BK114.out 1; have hfz9_2 := bf1_ BK114.out 2; have hfz9_3 := bf1_ BK114.out 3; have hfz9_4 := bf1_ BK114.out 4; have hfz9_5 := bf1_ BK114.out 5; have hfz9_6 := bf1_ BK114.out 6; have hfz9_7 := bf1_ BK114.out 7; have hfz9_8 := bf1_ BK114.out 8; have hfz9_9 := bf1_ BK114.out 9))
  go_loopg [4] k (fun kq v4 w' => ∃ (x4_1 : Int) (x115009_1 : List (S63)) (u115009 : Value), v4 = .int .i64 x4_1 ∧ Aside0 (tallyroomlaw06_To.l0 kq x4_1 a0_0 a0_1 a0_2 a0_3 a0_4 a0_5 a0_6 a0_7 a0_8 l0_9 a0_0 a0_1 a0_2 a0_3 a0_4 a0_5 a0_6 a0_7 a0_8 x115009_1 = some (r1, r2, r3, r4, r5, r6, r7, r8, r9, r10)) ∧ Aside0 (kq ≤ k) ∧ Aside0 (Kd.R k63 63 w' w.heap.size (fun _ => True) u115009 x115009_1) ∧ Aside0 (w'.heap[gb112]? = some (.cells #[.int .u64 a0_0, .int .u64 a0_1, .int .u64 a0_2, .string a0_3, .string a0_4, .int .i64 a0_5, .int .i64 a0_6, .int .u64 a0_7, .int .u64 a0_8, (.slice A0_9 l0_9.length c0_9)] 40 (0, 0))) ∧ Aside0 (w'.heap[gb113]? = some (.cells #[.int .u64 0, .int .u64 0, .int .u64 0, .string (⟨#[]⟩ : ByteArray), .string (⟨#[]⟩ : ByteArray), .int .i64 0, .int .i64 0, .int .u64 0, .int .u64 0, (.slice none 0 0)] 37 (0, 0))) ∧ Aside0 (w'.heap[gb114]? = some (.cells #[.int .u64 a0_0, .int .u64 a0_1, .int .u64 a0_2, .string a0_3, .string a0_4, .int .i64 a0_5, .int .i64 a0_6, .int .u64 a0_7, .int .u64 a0_8, u115009] 37 (0, 0))) ∧ Aside0 (Below w.heap.size w w'))
  case atStart => exact ⟨(0), (([] : List (S63))), (.slice none 0 0), (by first | rfl | (simp; done) | (simp [*]; done)), H', ⟨Nat.le_refl _⟩, ⟨by first | exact Kd.R_nil _ _ _ _ _ | exact Kd.N_nil _ _ _ _ _ | exact Kd.V_nil _ _ _ _ _ | exact Kd.Q_nil _ _ _ _ _ | exact Kd.S_nil _ _ _ _ _⟩, ⟨by (with_reducible repeat (first | refine bN_ ?_ _ | refine bD_ ?_ | refine bA_ ?_ _)); refine blk_far ?_ NB112_114.out _; (with_reducible repeat (first | refine bN_ ?_ _ | refine bD_ ?_ | refine bA_ ?_ _)); refine blk_far ?_ NB112_114.out _; (with_reducible repeat (first | refine bN_ ?_ _ | refine bD_ ?_ | refine bA_ ?_ _)); refine blk_far ?_ NB112_114.out _; (with_reducible repeat (first | refine bN_ ?_ _ | refine bD_ ?_ | refine bA_ ?_ _)); refine blk_far ?_ NB112_114.out _; (with_reducible repeat (first | refine bN_ ?_ _ | refine bD_ ?_ | refine bA_ ?_ _)); refine blk_far ?_ NB112_114.out _; (with_reducible repeat (first | refine bN_ ?_ _ | refine bD_ ?_ | refine bA_ ?_ _)); refine blk_far ?_ NB112_114.out _; (with_reducible repeat (first | refine bN_ ?_ _ | refine bD_ ?_ | refine bA_ ?_ _)); refine blk_far ?_ NB112_114.out _; (with_reducible repeat (first | refine bN_ ?_ _ | refine bD_ ?_ | refine bA_ ?_ _)); refine blk_far ?_ NB112_114.out _; (with_reducible repeat (first | refine bN_ ?_ _ | refine bD_ ?_ | refine bA_ ?_ _)); refine blk_far ?_ NB112_114.out _; (with_reducible repeat (first | refine bN_ ?_ _ | refine bD_ ?_ | refine bA_ ?_ _)); refine blk_far ?_ NB112_114.out _; (with_reducible repeat (first | refine bN_ ?_ _ | refine bD_ ?_ | refine bA_ ?_ _)); exact BK112.out⟩, ⟨by (with_reducible repeat (first | refine bN_ ?_ _ | refine bD_ ?_ | refine bA_ ?_ _)); refine blk_far ?_ NB113_114.out _; (with_reducible repeat (first | refine bN_ ?_ _ | refine bD_ ?_ | refine bA_ ?_ _)); refine blk_far ?_ NB113_114.out _; (with_reducible repeat (first | refine bN_ ?_ _ | refine bD_ ?_ | refine bA_ ?_ _)); refine blk_far ?_ NB113_114.out _; (with_reducible repeat (first | refine bN_ ?_ _ | refine bD_ ?_ | refine bA_ ?_ _)); refine blk_far ?_ NB113_114.out _; (with_reducible repeat (first | refine bN_ ?_ _ | refine bD_ ?_ | refine bA_ ?_ _)); refine blk_far ?_ NB113_114.out _; (with_reducible repeat (first | refine bN_ ?_ _ | refine bD_ ?_ | refine bA_ ?_ _)); refine blk_far ?_ NB113_114.out _; (with_reducible repeat (first | refine bN_ ?_ _ | refine bD_ ?_ | refine bA_ ?_ _)); refine blk_far ?_ NB113_114.out _; (with_reducible repeat (first | refine bN_ ?_ _ | refine bD_ ?_ | refine bA_ ?_ _)); refine blk_far ?_ NB113_114.out _; (with_reducible repeat (first | refine bN_ ?_ _ | refine bD_ ?_ | refine bA_ ?_ _)); refine blk_far ?_ NB113_114.out _; (with_reducible repeat (first | refine bN_ ?_ _ | refine bD_ ?_ | refine bA_ ?_ _)); refine blk_far ?_ NB113_114.out _; (with_reducible repeat (first | refine bN_ ?_ _ | refine bD_ ?_ | refine bA_ ?_ _)); exact BK113.out⟩, ⟨by (with_reducible repeat (first | refine bN_ ?_ _ | refine bD_ ?_ | refine bA_ ?_ _)); refine blk_put (cs := #[.int .u64 a0_0, .int .u64 a0_1, .int .u64 a0_2, .string a0_3, .string a0_4, .int .i64 a0_5, .int .i64 a0_6, .int .u64 a0_7, .int .u64 a0_8, .slice none 0 0]) ?_ 9 _ rfl; (with_reducible repeat (first | refine bN_ ?_ _ | refine bD_ ?_ | refine bA_ ?_ _)); refine blk_put (cs := #[.int .u64 a0_0, .int .u64 a0_1, .int .u64 a0_2, .string a0_3, .string a0_4, .int .i64 a0_5, .int .i64 a0_6, .int .u64 a0_7, .int .u64 0, .slice none 0 0]) ?_ 8 _ rfl; (with_reducible repeat (first | refine bN_ ?_ _ | refine bD_ ?_ | refine bA_ ?_ _)); refine blk_put (cs := #[.int .u64 a0_0, .int .u64 a0_1, .int .u64 a0_2, .string a0_3, .string a0_4, .int .i64 a0_5, .int .i64 a0_6, .int .u64 0, .int .u64 0, .slice none 0 0]) ?_ 7 _ rfl; (with_reducible repeat (first | refine bN_ ?_ _ | refine bD_ ?_ | refine bA_ ?_ _)); refine blk_put (cs := #[.int .u64 a0_0, .int .u64 a0_1, .int .u64 a0_2, .string a0_3, .string a0_4, .int .i64 a0_5, .int .i64 0, .int .u64 0, .int .u64 0, .slice none 0 0]) ?_ 6 _ rfl; (with_reducible repeat (first | refine bN_ ?_ _ | refine bD_ ?_ | refine bA_ ?_ _)); refine blk_put (cs := #[.int .u64 a0_0, .int .u64 a0_1, .int .u64 a0_2, .string a0_3, .string a0_4, .int .i64 0, .int .i64 0, .int .u64 0, .int .u64 0, .slice none 0 0]) ?_ 5 _ rfl; (with_reducible repeat (first | refine bN_ ?_ _ | refine bD_ ?_ | refine bA_ ?_ _)); refine blk_put (cs := #[.int .u64 a0_0, .int .u64 a0_1, .int .u64 a0_2, .string a0_3, .string (⟨#[]⟩ : ByteArray), .int .i64 0, .int .i64 0, .int .u64 0, .int .u64 0, .slice none 0 0]) ?_ 4 _ rfl; (with_reducible repeat (first | refine bN_ ?_ _ | refine bD_ ?_ | refine bA_ ?_ _)); refine blk_put (cs := #[.int .u64 a0_0, .int .u64 a0_1, .int .u64 a0_2, .string (⟨#[]⟩ : ByteArray), .string (⟨#[]⟩ : ByteArray), .int .i64 0, .int .i64 0, .int .u64 0, .int .u64 0, .slice none 0 0]) ?_ 3 _ rfl; (with_reducible repeat (first | refine bN_ ?_ _ | refine bD_ ?_ | refine bA_ ?_ _)); refine blk_put (cs := #[.int .u64 a0_0, .int .u64 a0_1, .int .u64 0, .string (⟨#[]⟩ : ByteArray), .string (⟨#[]⟩ : ByteArray), .int .i64 0, .int .i64 0, .int .u64 0, .int .u64 0, .slice none 0 0]) ?_ 2 _ rfl; (with_reducible repeat (first | refine bN_ ?_ _ | refine bD_ ?_ | refine bA_ ?_ _)); refine blk_put (cs := #[.int .u64 a0_0, .int .u64 0, .int .u64 0, .string (⟨#[]⟩ : ByteArray), .string (⟨#[]⟩ : ByteArray), .int .i64 0, .int .i64 0, .int .u64 0, .int .u64 0, .slice none 0 0]) ?_ 1 _ rfl; (with_reducible repeat (first | refine bN_ ?_ _ | refine bD_ ?_ | refine bA_ ?_ _)); refine blk_put (cs := #[.int .u64 0, .int .u64 0, .int .u64 0, .string (⟨#[]⟩ : ByteArray), .string (⟨#[]⟩ : ByteArray), .int .i64 0, .int .i64 0, .int .u64 0, .int .u64 0, .slice none 0 0]) ?_ 0 _ rfl; (with_reducible repeat (first | refine bN_ ?_ _ | refine bD_ ?_ | refine bA_ ?_ _)); exact BK114.out⟩, ⟨by repeat (first | (with_reducible first | exact HB.out | apply lA_ | apply lN_ | apply l1_ | refine below_set ?_ GE112.out | refine below_set ?_ GE113.out | refine below_set ?_ GE114.out) | exact HB.out)⟩⟩
  case round =>
    clear H'
    try clear c2
    try clear p2
    try clear c4
    try clear c7
    try clear c8
    try clear hcz5_0
    try clear hcz5_1
    try clear hcz5_2
    try clear hcz5_3
    try clear hcz5_4
    try clear hcz5_5
    try clear hcz5_6
    try clear hcz5_7
    try clear hcz5_8
    try clear hcz5_9
    try clear hcz9_0
    try clear hcz9_1
    try clear hcz9_2
    try clear hcz9_3
    try clear hcz9_4
    try clear hcz9_5
    try clear hcz9_6
    try clear hcz9_7
    try clear hcz9_8
    try clear hcz9_9
    try clear hfz5_0
    try clear hfz5_1
    try clear hfz5_2
    try clear hfz5_3
    try clear hfz5_4
    try clear hfz5_5
    try clear hfz5_6
    try clear hfz5_7
    try clear hfz5_8
    try clear hfz5_9
    try clear hfz9_0
    try clear hfz9_1
    try clear hfz9_2
    try clear hfz9_3
    try clear hfz9_4
    try clear hfz9_5
    try clear hfz9_6
    try clear hfz9_7
    try clear hfz9_8
    try clear hfz9_9
    obtain ⟨x4_1, x115009_1, u115009, rfl, HA, HK1, HO_115009, BK112, BK113, BK114, HB⟩ := hrel
    cases gk with
    | zero => exact absurd HA.out (by simp [tallyroomlaw06_To.l0])
    | succ k1 =>
      have H := HA.out
      clear HA
      simp only [tallyroomlaw06_To.l0] at H
      by_cases c10 : x4_1 < (l0_9.length : Int)
      · rw [if_pos c10] at H
        have c10b0 : decide (x4_1 < (l0_9.length : Int)) = true := decide_eq_true c10
        clear c10
        by_cases c11 : 0 ≤ x4_1
        · rw [if_pos c11] at H
          have c11b0 : decide (0 ≤ x4_1) = true := decide_eq_true c11
          clear c11
          by_cases c12 : x115009_1.length < 2932031007402
          · rw [if_pos c12] at H
            have LMc12 := Aside0.mk c12
            clear c12
            obtain ⟨y117, hy117⟩ : ∃ y_ : List (S63), y_ = (x115009_1 ++ [(⟨(rd_T51 l0_9 x4_1).f0, (⟨(rd_T51 l0_9 x4_1).f1.f0, (rd_T51 l0_9 x4_1).f1.f1, (rd_T51 l0_9 x4_1).f1.f2⟩ : S61)⟩ : S63)]) := ⟨_, rfl⟩
            replace H : (tallyroomlaw06_To.l0 k1 (wrap64 (x4_1 + 1)) a0_0 a0_1 a0_2 a0_3 a0_4 a0_5 a0_6 a0_7 a0_8 l0_9 a0_0 a0_1 a0_2 a0_3 a0_4 a0_5 a0_6 a0_7 a0_8 y117) = some (r1, r2, r3, r4, r5, r6, r7, r8, r9, r10) := by first | (rw [hy117]; with_reducible exact H) | (have H2_ := (Option.bind_some _ _).symm.trans H; rw [hy117]; with_reducible exact H2_) | (have H2_ := (Option.bind_some _ _).symm.trans H; with_reducible exact H2_) | with_reducible exact H | (rw [hy117]; exact H) | exact H
            have Ny117 := Aside0.mk hy117
            clear hy117
            have H' := Aside0.mk H
            clear H
            have hnb13 := NB112_113.out
            have hnc13 := NB113_112.out
            have hnb14 := NB112_114.out
            have hnc14 := NB114_112.out
            have hcz15_0 : wr.cell? ⟨gb112, 0, none⟩ = some (.int .u64 a0_0) := (bc1_ BK112.out 0).trans rfl
            have hcz15_1 : wr.cell? ⟨gb112, 1, none⟩ = some (.int .u64 a0_1) := (bc1_ BK112.out 1).trans rfl
            have hcz15_2 : wr.cell? ⟨gb112, 2, none⟩ = some (.int .u64 a0_2) := (bc1_ BK112.out 2).trans rfl
            have hcz15_3 : wr.cell? ⟨gb112, 3, none⟩ = some (.string a0_3) := (bc1_ BK112.out 3).trans rfl
            have hcz15_4 : wr.cell? ⟨gb112, 4, none⟩ = some (.string a0_4) := (bc1_ BK112.out 4).trans rfl
            have hcz15_5 : wr.cell? ⟨gb112, 5, none⟩ = some (.int .i64 a0_5) := (bc1_ BK112.out 5).trans rfl
            have hcz15_6 : wr.cell? ⟨gb112, 6, none⟩ = some (.int .i64 a0_6) := (bc1_ BK112.out 6).trans rfl
            have hcz15_7 : wr.cell? ⟨gb112, 7, none⟩ = some (.int .u64 a0_7) := (bc1_ BK112.out 7).trans rfl
            have hcz15_8 : wr.cell? ⟨gb112, 8, none⟩ = some (.int .u64 a0_8) := (bc1_ BK112.out 8).trans rfl
            have hcz15_9 : wr.cell? ⟨gb112, 9, none⟩ = some (.slice A0_9 l0_9.length c0_9) := (bc1_ BK112.out 9).trans rfl
            have hfz15_0 := bf1_ BK112.out 0
            have hfz15_1 := bf1_ BK112.out 1
            have hfz15_2 := bf1_ BK112.out 2
            have hfz15_3 := bf1_ BK112.out 3
            have hfz15_4 := bf1_ BK112.out 4
            have hfz15_5 := bf1_ BK112.out 5
            have hfz15_6 := bf1_ BK112.out 6
            have hfz15_7 := bf1_ BK112.out 7
            have hfz15_8 := bf1_ BK112.out 8
            have hfz15_9 := bf1_ BK112.out 9
            try go_wp2
            have n0_ := Aside0.mk (rD_ HO_115009.out)
            have n1_ := Aside0.mk (bD_ BK112.out)
            have n2_ := Aside0.mk (bD_ BK113.out)
            have n3_ := Aside0.mk (bD_ BK114.out)
            have n4_ := Aside0.mk (l1_ HB.out)
            clear HO_115009
            clear BK112
            clear BK113
            clear BK114
            clear HB
            have HO_115009 := n0_
            have BK112 := n1_
            have BK113 := n2_
            have BK114 := n3_
            have HB := n4_
            clear n0_ n1_ n2_ n3_ n4_
            have p115 : 0 ≤ (x4_1 : Int) := of_decide_eq_true (by first | (with_reducible assumption) | assumption)
            have q115 : x4_1 < (l0_9.length : Int) := of_decide_eq_true (by first | (with_reducible assumption) | assumption)
            obtain ⟨ad115, e115, hx115_0, hx115_1, hx115_2, hx115_3⟩ := at_T51 HR0_9.out x4_1 p115 q115
            have hw115_3 := hx115_3
            have hw115_2 := hx115_2
            have hw115_1 := hx115_1
            have hw115_0 := hx115_0
            cases e115
            replace hx115_0 := bc_ HB.out hx115_0
            replace hx115_1 := bc_ HB.out hx115_1
            replace hx115_2 := bc_ HB.out hx115_2
            replace hx115_3 := bc_ HB.out hx115_3
            replace p115 := eq_true p115
            replace q115 := eq_true q115
            have p116 : 0 ≤ (x4_1 : Int) := of_decide_eq_true (by first | (with_reducible assumption) | assumption)
            have q116 : x4_1 < (l0_9.length : Int) := of_decide_eq_true (by first | (with_reducible assumption) | assumption)
            obtain ⟨ad116, e116, hx116_0, hx116_1, hx116_2, hx116_3⟩ := at_T51 HR0_9.out x4_1 p116 q116
            have hw116_3 := hx116_3
            have hw116_2 := hx116_2
            have hw116_1 := hx116_1
            have hw116_0 := hx116_0
            obtain rfl : ad115 = ad116 := (by injection e116)
            replace hx116_0 := bc_ HB.out hx116_0
            replace hx116_1 := bc_ HB.out hx116_1
            replace hx116_2 := bc_ HB.out hx116_2
            replace hx116_3 := bc_ HB.out hx116_3
            replace p116 := eq_true p116
            replace q116 := eq_true q116
            refine start_ (n := 19) (S := fun w' => w'.cell? ⟨gb114, 0, none⟩ = some (.int .u64 a0_0) ∧ w'.cell? ⟨gb114, 1, none⟩ = some (.int .u64 a0_1) ∧ w'.cell? ⟨gb114, 2, none⟩ = some (.int .u64 a0_2) ∧ w'.cell? ⟨gb114, 3, none⟩ = some (.string a0_3) ∧ w'.cell? ⟨gb114, 4, none⟩ = some (.string a0_4) ∧ w'.cell? ⟨gb114, 5, none⟩ = some (.int .i64 a0_5) ∧ w'.cell? ⟨gb114, 6, none⟩ = some (.int .i64 a0_6) ∧ w'.cell? ⟨gb114, 7, none⟩ = some (.int .u64 a0_7) ∧ w'.cell? ⟨gb114, 8, none⟩ = some (.int .u64 a0_8) ∧ w'.cell? ⟨gb114, 9, none⟩ = some (u115009) ∧ w'.cell? ⟨gb112, 0, none⟩ = some (.int .u64 a0_0) ∧ w'.cell? ⟨gb112, 1, none⟩ = some (.int .u64 a0_1) ∧ w'.cell? ⟨gb112, 2, none⟩ = some (.int .u64 a0_2) ∧ w'.cell? ⟨gb112, 3, none⟩ = some (.string a0_3) ∧ w'.cell? ⟨gb112, 4, none⟩ = some (.string a0_4) ∧ w'.cell? ⟨gb112, 5, none⟩ = some (.int .i64 a0_5) ∧ w'.cell? ⟨gb112, 6, none⟩ = some (.int .i64 a0_6) ∧ w'.cell? ⟨gb112, 7, none⟩ = some (.int .u64 a0_7) ∧ w'.cell? ⟨gb112, 8, none⟩ = some (.int .u64 a0_8) ∧ w'.cell? ⟨gb112, 9, none⟩ = some (.slice (some ad115) l0_9.length c0_9) ∧ w'.cell? (ad115.add ((x4_1).toNat * 4)) = some (.string ((rd_T51 l0_9 x4_1).f0)) ∧ w'.cell? ⟨(ad115.add ((x4_1).toNat * 4)).block, (ad115.add ((x4_1).toNat * 4)).off + 1, none⟩ = some (.int .i64 ((rd_T51 l0_9 x4_1).f1.f0)) ∧ w'.cell? ⟨(ad115.add ((x4_1).toNat * 4)).block, (ad115.add ((x4_1).toNat * 4)).off + 2, none⟩ = some (.int .i64 ((rd_T51 l0_9 x4_1).f1.f1)) ∧ w'.cell? ⟨(ad115.add ((x4_1).toNat * 4)).block, (ad115.add ((x4_1).toNat * 4)).off + 3, none⟩ = some (.string ((rd_T51 l0_9 x4_1).f1.f2)) ∧ w'.cell? (ad115.add ((x4_1).toNat * 4)) = some (.string ((rd_T51 l0_9 x4_1).f0)) ∧ w'.cell? ⟨(ad115.add ((x4_1).toNat * 4)).block, (ad115.add ((x4_1).toNat * 4)).off + 1, none⟩ = some (.int .i64 ((rd_T51 l0_9 x4_1).f1.f0)) ∧ w'.cell? ⟨(ad115.add ((x4_1).toNat * 4)).block, (ad115.add ((x4_1).toNat * 4)).off + 2, none⟩ = some (.int .i64 ((rd_T51 l0_9 x4_1).f1.f1)) ∧ w'.cell? ⟨(ad115.add ((x4_1).toNat * 4)).block, (ad115.add ((x4_1).toNat * 4)).off + 3, none⟩ = some (.string ((rd_T51 l0_9 x4_1).f1.f2))) (ds := [18]) #[false, false, false, false, false, false, false, false, false, false, false, false, false, false, false, false, false, false, false] (by kernel_rfl) rfl rfl ⟨(bc1_ BK114.out 0).trans rfl, (bc1_ BK114.out 1).trans rfl, (bc1_ BK114.out 2).trans rfl, (bc1_ BK114.out 3).trans rfl, (bc1_ BK114.out 4).trans rfl, (bc1_ BK114.out 5).trans rfl, (bc1_ BK114.out 6).trans rfl, (bc1_ BK114.out 7).trans rfl, (bc1_ BK114.out 8).trans rfl, (bc1_ BK114.out 9).trans rfl, (bc1_ BK112.out 0).trans rfl, (bc1_ BK112.out 1).trans rfl, (bc1_ BK112.out 2).trans rfl, (bc1_ BK112.out 3).trans rfl, (bc1_ BK112.out 4).trans rfl, (bc1_ BK112.out 5).trans rfl, (bc1_ BK112.out 6).trans rfl, (bc1_ BK112.out 7).trans rfl, (bc1_ BK112.out 8).trans rfl, (bc1_ BK112.out 9).trans rfl, (bc_ HB.out hw115_0), (bc_ HB.out hw115_1), (bc_ HB.out hw115_2), (bc_ HB.out hw115_3), (bc_ HB.out hw116_0), (bc_ HB.out hw116_1), (bc_ HB.out hw116_2), (bc_ HB.out hw116_3)⟩ (fun hHeld => ?_); refine with_tabW tallyroomlaw06_To.tab5 tallyroomlaw06_To.bits5 (fun HT_ HW_ => ?_)
            generalize wr.drew = w16 at HO_115009 BK112 BK113 BK114 HB hx115_0 hx115_1 hx115_2 hx115_3 hx116_0 hx116_1 hx116_2 hx116_3 hHeld ⊢
            refine pure_ (i := 0) (N := some 31) (v := ?_) (a' := ?_) (bl_ 19 1) rfl rfl (any_of HT_.out (by kernel_rfl)) (fun _ _ _ h => h) (Or.inl ⟨by rfl, ?_⟩) ?_ ?_
            rotate_left
            · intro w'
              go_simp
              with_reducible rfl
            rotate_left
            · simp only [Act.put, sb_, sz_, ss_, i64_w, i32_w]
              rfl
            refine pure_ (i := 2) (N := some 33) (v := ?_) (a' := ?_) (bl_ 19 5) rfl rfl (any_of HT_.out (by kernel_rfl)) (fun _ _ _ h => h) (Or.inl ⟨by rfl, ?_⟩) ?_ ?_
            rotate_left
            · intro w'
              go_simp
              with_reducible rfl
            rotate_left
            · simp only [Act.put, sb_, sz_, ss_, i64_w, i32_w]
              rfl
            refine pure_ (i := 4) (N := some 35) (v := ?_) (a' := ?_) (bl_ 19 21) rfl rfl (any_of HT_.out (by kernel_rfl)) (fun _ _ _ h => h) (Or.inl ⟨by rfl, ?_⟩) ?_ ?_
            rotate_left
            · intro w'
              go_simp
              with_reducible rfl
            rotate_left
            · simp only [Act.put, sb_, sz_, ss_, i64_w, i32_w]
              rfl
            refine pure_ (i := 8) (N := some 39) (v := ?_) (a' := ?_) (bl_ 19 277) rfl rfl (any_of HT_.out (by kernel_rfl)) (fun _ _ _ h => h) (Or.inl ⟨by rfl, ?_⟩) ?_ ?_
            rotate_left
            · intro w'
              go_simp
              with_reducible rfl
            rotate_left
            · simp only [Act.put, sb_, sz_, ss_, i64_w, i32_w]
              rfl
            refine pure_ (i := 10) (N := some 41) (v := ?_) (a' := ?_) (bl_ 19 1301) rfl rfl (any_of HT_.out (by kernel_rfl)) (fun _ _ _ h => h) (Or.inl ⟨by rfl, ?_⟩) ?_ ?_
            rotate_left
            · intro w'
              go_simp
              with_reducible rfl
            rotate_left
            · simp only [Act.put, sb_, sz_, ss_, i64_w, i32_w]
              rfl
            refine take_ (i := 1) (N := some 32) (v := ?_) (a' := ?_) (bl_ 19 1303) rfl rfl (take_ofW HT_.out HW_.out (by kernel_rfl)) (fun _ _ _ h => h) (Or.inl ⟨by rfl, ?_⟩) hHeld ?_ ?_
            rotate_left
            · rintro w' ⟨s0, s1, s2, s3, s4, s5, s6, s7, s8, s9, s10, s11, s12, s13, s14, s15, s16, s17, s18, s19, s20, s21, s22, s23, s24, s25, s26, s27⟩
              go_simp
              with_reducible rfl
            rotate_left
            · simp only [Act.put, sb_, sz_, ss_, i64_w, i32_w]
              rfl
            refine take_ (i := 3) (N := some 34) (v := ?_) (a' := ?_) (bl_ 19 1311) rfl rfl (take_ofW HT_.out HW_.out (by kernel_rfl)) (fun _ _ _ h => h) (Or.inl ⟨by rfl, ?_⟩) hHeld ?_ ?_
            rotate_left
            · rintro w' ⟨s0, s1, s2, s3, s4, s5, s6, s7, s8, s9, s10, s11, s12, s13, s14, s15, s16, s17, s18, s19, s20, s21, s22, s23, s24, s25, s26, s27⟩
              go_simp
              with_reducible rfl
            rotate_left
            · simp only [Act.put, sb_, sz_, ss_, i64_w, i32_w]
              rfl
            refine pure_ (i := 5) (N := some 36) (v := ?_) (a' := ?_) (bl_ 19 1343) rfl rfl (any_of HT_.out (by kernel_rfl)) (fun _ _ _ h => h) (Or.inl ⟨by rfl, ?_⟩) ?_ ?_
            rotate_left
            · intro w'
              go_simp
              with_reducible rfl
            rotate_left
            · simp only [Act.put, sb_, sz_, ss_, i64_w, i32_w]
              rfl
            refine pure_ (i := 6) (N := some 37) (v := ?_) (a' := ?_) (bl_ 19 1407) rfl rfl (any_of HT_.out (by kernel_rfl)) (fun _ _ _ h => h) (Or.inl ⟨by rfl, ?_⟩) ?_ ?_
            rotate_left
            · intro w'
              go_simp
              with_reducible rfl
            rotate_left
            · simp only [Act.put, sb_, sz_, ss_, i64_w, i32_w]
              rfl
            refine take_ (i := 7) (N := some 38) (v := ?_) (a' := ?_) (bl_ 19 1535) rfl rfl (take_ofW HT_.out HW_.out (by kernel_rfl)) (fun _ _ _ h => h) (Or.inl ⟨by rfl, ?_⟩) hHeld ?_ ?_
            rotate_left
            · rintro w' ⟨s0, s1, s2, s3, s4, s5, s6, s7, s8, s9, s10, s11, s12, s13, s14, s15, s16, s17, s18, s19, s20, s21, s22, s23, s24, s25, s26, s27⟩
              go_simp
              with_reducible rfl
            rotate_left
            · simp only [Act.put, sb_, sz_, ss_, i64_w, i32_w]
              rfl
            refine take_ (i := 9) (N := some 40) (v := ?_) (a' := ?_) (bl_ 19 2047) rfl rfl (take_ofW HT_.out HW_.out (by kernel_rfl)) (fun _ _ _ h => h) (Or.inl ⟨by rfl, ?_⟩) hHeld ?_ ?_
            rotate_left
            · rintro w' ⟨s0, s1, s2, s3, s4, s5, s6, s7, s8, s9, s10, s11, s12, s13, s14, s15, s16, s17, s18, s19, s20, s21, s22, s23, s24, s25, s26, s27⟩
              go_simp
              with_reducible rfl
            rotate_left
            · simp only [Act.put, sb_, sz_, ss_, i64_w, i32_w]
              rfl
            refine pure_ (i := 11) (N := some 42) (v := ?_) (a' := ?_) (bl_ 19 4095) rfl rfl (any_of HT_.out (by kernel_rfl)) (fun _ _ _ h => h) (Or.inl ⟨by rfl, ?_⟩) ?_ ?_
            rotate_left
            · intro w'
              go_simp
              with_reducible rfl
            rotate_left
            · simp only [Act.put, sb_, sz_, ss_, i64_w, i32_w]
              rfl
            refine pure_ (i := 12) (N := some 43) (v := ?_) (a' := ?_) (bl_ 19 8191) rfl rfl (any_of HT_.out (by kernel_rfl)) (fun _ _ _ h => h) (Or.inl ⟨by rfl, ?_⟩) ?_ ?_
            rotate_left
            · intro w'
              go_simp
              with_reducible rfl
            rotate_left
            · simp only [Act.put, sb_, sz_, ss_, i64_w, i32_w]
              rfl
            refine take_ (i := 13) (N := some 44) (v := ?_) (a' := ?_) (bl_ 19 16383) rfl rfl (take_ofW HT_.out HW_.out (by kernel_rfl)) (fun _ _ _ h => h) (Or.inl ⟨by rfl, ?_⟩) hHeld ?_ ?_
            rotate_left
            · rintro w' ⟨s0, s1, s2, s3, s4, s5, s6, s7, s8, s9, s10, s11, s12, s13, s14, s15, s16, s17, s18, s19, s20, s21, s22, s23, s24, s25, s26, s27⟩
              go_simp
              with_reducible rfl
            rotate_left
            · simp only [Act.put, sb_, sz_, ss_, i64_w, i32_w]
              rfl
            refine pure_ (i := 14) (N := some 45) (v := ?_) (a' := ?_) (bl_ 19 32767) rfl rfl (any_of HT_.out (by kernel_rfl)) (fun _ _ _ h => h) (Or.inl ⟨by rfl, ?_⟩) ?_ ?_
            rotate_left
            · intro w'
              go_simp
              with_reducible rfl
            rotate_left
            · simp only [Act.put, sb_, sz_, ss_, i64_w, i32_w]
              rfl
            refine one_ (i := 15) (N := some 46) (bl_ 19 65535) rfl rfl (one_of HT_.out (by kernel_rfl)) (by decide) (fun K hK => ?_)
            refine value_ (w1 := ?_) (v := ?_) (by rfl) rfl ?_ ?_
            rotate_left 2
            · go_simp
              constructor
              · rfl
              · rfl
            refine hK.out _ _ ⟨(bc1_ (bA_ BK114.out _) 0).trans rfl, (bc1_ (bA_ BK114.out _) 1).trans rfl, (bc1_ (bA_ BK114.out _) 2).trans rfl, (bc1_ (bA_ BK114.out _) 3).trans rfl, (bc1_ (bA_ BK114.out _) 4).trans rfl, (bc1_ (bA_ BK114.out _) 5).trans rfl, (bc1_ (bA_ BK114.out _) 6).trans rfl, (bc1_ (bA_ BK114.out _) 7).trans rfl, (bc1_ (bA_ BK114.out _) 8).trans rfl, (bc1_ (bA_ BK114.out _) 9).trans rfl, (bc1_ (bA_ BK112.out _) 0).trans rfl, (bc1_ (bA_ BK112.out _) 1).trans rfl, (bc1_ (bA_ BK112.out _) 2).trans rfl, (bc1_ (bA_ BK112.out _) 3).trans rfl, (bc1_ (bA_ BK112.out _) 4).trans rfl, (bc1_ (bA_ BK112.out _) 5).trans rfl, (bc1_ (bA_ BK112.out _) 6).trans rfl, (bc1_ (bA_ BK112.out _) 7).trans rfl, (bc1_ (bA_ BK112.out _) 8).trans rfl, (bc1_ (bA_ BK112.out _) 9).trans rfl, (World.cell?_alloc_lt _ _ _ (World.block_lt_of_cell? _ _ ((bc_ HB.out hw115_0)))).trans ((bc_ HB.out hw115_0)), (World.cell?_alloc_lt _ _ _ (World.block_lt_of_cell? _ _ ((bc_ HB.out hw115_1)))).trans ((bc_ HB.out hw115_1)), (World.cell?_alloc_lt _ _ _ (World.block_lt_of_cell? _ _ ((bc_ HB.out hw115_2)))).trans ((bc_ HB.out hw115_2)), (World.cell?_alloc_lt _ _ _ (World.block_lt_of_cell? _ _ ((bc_ HB.out hw115_3)))).trans ((bc_ HB.out hw115_3)), (World.cell?_alloc_lt _ _ _ (World.block_lt_of_cell? _ _ ((bc_ HB.out hw116_0)))).trans ((bc_ HB.out hw116_0)), (World.cell?_alloc_lt _ _ _ (World.block_lt_of_cell? _ _ ((bc_ HB.out hw116_1)))).trans ((bc_ HB.out hw116_1)), (World.cell?_alloc_lt _ _ _ (World.block_lt_of_cell? _ _ ((bc_ HB.out hw116_2)))).trans ((bc_ HB.out hw116_2)), (World.cell?_alloc_lt _ _ _ (World.block_lt_of_cell? _ _ ((bc_ HB.out hw116_3)))).trans ((bc_ HB.out hw116_3))⟩ (fun hHeld => ?_)
            clear hK K
            refine norm_ (a' := ?_) ?_ ?_
            rotate_left
            · show Act.put _ (some 46) _ = _
              simp only [Act.put, sb_, sz_, ss_, i64_w, i32_w]
              rfl
            refine one_ (i := 16) (N := some 47) (bl_ 19 131071) rfl rfl (one_of HT_.out (by kernel_rfl)) (by decide) (fun K hK => ?_)
            refine Kd.R_append_step k63 (w0 := w) w.heap.size (by rfl) (.tmp 32) (.tmp 46) 35 63 (.agg #[(.string ⟨#[]⟩), (.int .i64 0), (.int .i64 0), (.string ⟨#[]⟩)]) 48 rfl Try.underlying35 info63 rfl (by decide) (by omega) u115009 x115009_1 (⟨(rd_T51 l0_9 x4_1).f0, (⟨(rd_T51 l0_9 x4_1).f1.f0, (rd_T51 l0_9 x4_1).f1.f1, (rd_T51 l0_9 x4_1).f1.f2⟩ : S61)⟩ : S63) [.string ((rd_T51 l0_9 x4_1).f0), .int .i64 ((rd_T51 l0_9 x4_1).f1.f0), .int .i64 ((rd_T51 l0_9 x4_1).f1.f1), .string ((rd_T51 l0_9 x4_1).f1.f2)] (fun _ => True) (fun _ => False) rfl rfl ?aP (fun _ hk => hk.elim) ?aF ?aO ?aB ?aS ?aL ?_
            (case aP => exact k63_mkM _ _ _ (⟨(rd_T51 l0_9 x4_1).f0, (⟨(rd_T51 l0_9 x4_1).f1.f0, (rd_T51 l0_9 x4_1).f1.f1, (rd_T51 l0_9 x4_1).f1.f2⟩ : S61)⟩ : S63))
            (case aB => exact (by repeat (first | (with_reducible first | exact HB.out | apply lA_ | apply lN_ | apply l1_ | refine below_set ?_ GE112.out | refine below_set ?_ GE113.out | refine below_set ?_ GE114.out) | exact HB.out)))
            (case aF => exact (fun _ _ => trivial))
            (case aO => exact (by (with_reducible repeat (first | apply rA_ | apply rN_ | apply rD_)); exact HO_115009.out))
            (case aS => exact (bz_ (by repeat (first | (with_reducible first | exact HB.out | apply lA_ | apply lN_ | apply l1_ | refine below_set ?_ GE112.out | refine below_set ?_ GE113.out | refine below_set ?_ GE114.out) | exact HB.out))))
            (case aL => have := LMc12.out; omega)
            intro v118 w17 ho hb hg hat
            rw [← Ny117.out] at ho
            have n0_ := Aside0.mk (blk_grown (g := gb112) (o := .cells #[.int .u64 a0_0, .int .u64 a0_1, .int .u64 a0_2, .string a0_3, .string a0_4, .int .i64 a0_5, .int .i64 a0_6, .int .u64 a0_7, .int .u64 a0_8, .slice (some ad115) l0_9.length c0_9] 40 (0, 0)) (by (with_reducible repeat (first | refine bN_ ?_ _ | refine bD_ ?_ | refine bA_ ?_ _)); exact BK112.out) hg (Kd.R_ne HO_115009.out BK112.out (by decide)))
            have n1_ := Aside0.mk (blk_grown (g := gb113) (o := .cells #[.int .u64 0, .int .u64 0, .int .u64 0, .string (⟨#[]⟩ : ByteArray), .string (⟨#[]⟩ : ByteArray), .int .i64 0, .int .i64 0, .int .u64 0, .int .u64 0, .slice none 0 0] 37 (0, 0)) (by (with_reducible repeat (first | refine bN_ ?_ _ | refine bD_ ?_ | refine bA_ ?_ _)); exact BK113.out) hg (Kd.R_ne HO_115009.out BK113.out (by decide)))
            have n2_ := Aside0.mk (blk_grown (g := gb114) (o := .cells #[.int .u64 a0_0, .int .u64 a0_1, .int .u64 a0_2, .string a0_3, .string a0_4, .int .i64 a0_5, .int .i64 a0_6, .int .u64 a0_7, .int .u64 a0_8, u115009] 37 (0, 0)) (by (with_reducible repeat (first | refine bN_ ?_ _ | refine bD_ ?_ | refine bA_ ?_ _)); exact BK114.out) hg (Kd.R_ne HO_115009.out BK114.out (by decide)))
            have n3_ := Aside0.mk (hb)
            have n4_ := Aside0.mk (ho)
            clear BK112
            clear BK113
            clear BK114
            clear HB
            clear HO_115009
            have BK112 := n0_
            have BK113 := n1_
            have BK114 := n2_
            have HB := n3_
            have HO119 := n4_
            clear n0_ n1_ n2_ n3_ n4_
            clear ho hb hg hat
            obtain ⟨Ao18, co18, eo18⟩ := Kd.R_slice HO119.out
            (first | subst eo18 | (injection eo18 with f1_ f2_ f3_; have f4_ := f1_.symm; have f5_ := f3_.symm; clear f1_ f2_ f3_; subst f4_; subst f5_))
            refine hK.out _ _ ⟨(bc1_ BK114.out 0).trans rfl, (bc1_ BK114.out 1).trans rfl, (bc1_ BK114.out 2).trans rfl, (bc1_ BK114.out 3).trans rfl, (bc1_ BK114.out 4).trans rfl, (bc1_ BK114.out 5).trans rfl, (bc1_ BK114.out 6).trans rfl, (bc1_ BK114.out 7).trans rfl, (bc1_ BK114.out 8).trans rfl, (bc1_ BK114.out 9).trans rfl, (bc1_ BK112.out 0).trans rfl, (bc1_ BK112.out 1).trans rfl, (bc1_ BK112.out 2).trans rfl, (bc1_ BK112.out 3).trans rfl, (bc1_ BK112.out 4).trans rfl, (bc1_ BK112.out 5).trans rfl, (bc1_ BK112.out 6).trans rfl, (bc1_ BK112.out 7).trans rfl, (bc1_ BK112.out 8).trans rfl, (bc1_ BK112.out 9).trans rfl, (bc_ HB.out hw115_0), (bc_ HB.out hw115_1), (bc_ HB.out hw115_2), (bc_ HB.out hw115_3), (bc_ HB.out hw116_0), (bc_ HB.out hw116_1), (bc_ HB.out hw116_2), (bc_ HB.out hw116_3)⟩ (fun hHeld => ?_)
            clear hK K
            refine norm_ (a' := ?_) ?_ ?_
            rotate_left
            · show Act.put _ (some 47) _ = _
              simp only [Act.put, sb_, sz_, ss_, i64_w, i32_w]
              rfl
            refine pure_ (i := 17) (N := some 48) (v := ?_) (a' := ?_) (bl_ 19 262143) rfl rfl (any_of HT_.out (by kernel_rfl)) (fun _ _ _ h => h) (Or.inl ⟨by rfl, ?_⟩) ?_ ?_
            rotate_left
            · intro w'
              go_simp
              with_reducible rfl
            rotate_left
            · simp only [Act.put, sb_, sz_, ss_, i64_w, i32_w]
              rfl
            refine last_ (i := 18) (N := none) (bl_ 19 524287) rfl rfl (one_of HT_.out (by kernel_rfl)) (by decide) (fun K hK => ?_)
            have hs19 : w17.cell? ⟨gb114, 9, none⟩ = some (u115009) := (bc1_ BK114.out 9).trans rfl
            have hfs19 := bf1_ BK114.out 9
            have hns19_0 := NB112_114.out
            have hns19_1 := NB113_114.out
            have hms19_0 := NB114_112.out
            have hms19_1 := NB114_113.out
            refine skip_ (w1 := ?_) (by rfl) rfl ?_ ?_
            rotate_left
            · go_simp
              rfl
            refine hK.out _ _ ?_
            clear hK K
            refine done_ (done_of HT_.out (by kernel_rfl)) ?_
            try go_wp2
            go_roundg k1
            case measure => have := HK1.out; omega
            case rel => exact ⟨(wrap64 (x4_1 + 1)), (y117), (.slice Ao18 y117.length co18), (by first | rfl | (simp; done) | (simp [*]; done)), H', ⟨by have := HK1.out; omega⟩, ⟨by (with_reducible repeat (first | apply rA_ | apply rN_ | apply rD_)); exact Kd.R_mono (Kd.R_far (p := ⟨gb114, 9, none⟩) (Kd.R_types HO119.out BK114.out (by decide)) (fun _ hk => hk.2) (.slice Ao18 y117.length co18)) (fun _ hk => trivial)⟩, ⟨by (with_reducible repeat (first | refine bN_ ?_ _ | refine bD_ ?_ | refine bA_ ?_ _)); refine blk_far ?_ NB112_114.out _; (with_reducible repeat (first | refine bN_ ?_ _ | refine bD_ ?_ | refine bA_ ?_ _)); exact BK112.out⟩, ⟨by (with_reducible repeat (first | refine bN_ ?_ _ | refine bD_ ?_ | refine bA_ ?_ _)); refine blk_far ?_ NB113_114.out _; (with_reducible repeat (first | refine bN_ ?_ _ | refine bD_ ?_ | refine bA_ ?_ _)); exact BK113.out⟩, ⟨by (with_reducible repeat (first | refine bN_ ?_ _ | refine bD_ ?_ | refine bA_ ?_ _)); refine blk_put (cs := #[.int .u64 a0_0, .int .u64 a0_1, .int .u64 a0_2, .string a0_3, .string a0_4, .int .i64 a0_5, .int .i64 a0_6, .int .u64 a0_7, .int .u64 a0_8, u115009]) ?_ 9 _ rfl; (with_reducible repeat (first | refine bN_ ?_ _ | refine bD_ ?_ | refine bA_ ?_ _)); exact BK114.out⟩, ⟨by repeat (first | (with_reducible first | exact HB.out | apply lA_ | apply lN_ | apply l1_ | refine below_set ?_ GE112.out | refine below_set ?_ GE113.out | refine below_set ?_ GE114.out) | exact HB.out)⟩⟩
          · rw [if_neg c12] at H
            exact absurd H (by simp)
        · rw [if_neg c11] at H
          exact absurd H (by simp)
      · rw [if_neg c10] at H
        have c10b0 : decide (x4_1 < (l0_9.length : Int)) = false := decide_eq_false c10
        clear c10
        simp only [Option.some.injEq, Prod.mk.injEq] at H
        obtain ⟨rfl, rfl, rfl, rfl, rfl, rfl, rfl, rfl, rfl, rfl⟩ := H
        have hnb20 := NB112_113.out
        have hnc20 := NB113_112.out
        have hnb21 := NB112_114.out
        have hnc21 := NB114_112.out
        have hcz22_0 : wr.cell? ⟨gb112, 0, none⟩ = some (.int .u64 a0_0) := (bc1_ BK112.out 0).trans rfl
        have hcz22_1 : wr.cell? ⟨gb112, 1, none⟩ = some (.int .u64 a0_1) := (bc1_ BK112.out 1).trans rfl
        have hcz22_2 : wr.cell? ⟨gb112, 2, none⟩ = some (.int .u64 a0_2) := (bc1_ BK112.out 2).trans rfl
        have hcz22_3 : wr.cell? ⟨gb112, 3, none⟩ = some (.string a0_3) := (bc1_ BK112.out 3).trans rfl
        have hcz22_4 : wr.cell? ⟨gb112, 4, none⟩ = some (.string a0_4) := (bc1_ BK112.out 4).trans rfl
        have hcz22_5 : wr.cell? ⟨gb112, 5, none⟩ = some (.int .i64 a0_5) := (bc1_ BK112.out 5).trans rfl
        have hcz22_6 : wr.cell? ⟨gb112, 6, none⟩ = some (.int .i64 a0_6) := (bc1_ BK112.out 6).trans rfl
        have hcz22_7 : wr.cell? ⟨gb112, 7, none⟩ = some (.int .u64 a0_7) := (bc1_ BK112.out 7).trans rfl
        have hcz22_8 : wr.cell? ⟨gb112, 8, none⟩ = some (.int .u64 a0_8) := (bc1_ BK112.out 8).trans rfl
        have hcz22_9 : wr.cell? ⟨gb112, 9, none⟩ = some (.slice A0_9 l0_9.length c0_9) := (bc1_ BK112.out 9).trans rfl
        have hfz22_0 := bf1_ BK112.out 0
        have hfz22_1 := bf1_ BK112.out 1
        have hfz22_2 := bf1_ BK112.out 2
        have hfz22_3 := bf1_ BK112.out 3
        have hfz22_4 := bf1_ BK112.out 4
        have hfz22_5 := bf1_ BK112.out 5
        have hfz22_6 := bf1_ BK112.out 6
        have hfz22_7 := bf1_ BK112.out 7
        have hfz22_8 := bf1_ BK112.out 8
        have hfz22_9 := bf1_ BK112.out 9
        have hnb23 := NB114_113.out
        have hnc23 := NB113_114.out
        have hcz24_0 : wr.cell? ⟨gb114, 0, none⟩ = some (.int .u64 a0_0) := (bc1_ BK114.out 0).trans rfl
        have hcz24_1 : wr.cell? ⟨gb114, 1, none⟩ = some (.int .u64 a0_1) := (bc1_ BK114.out 1).trans rfl
        have hcz24_2 : wr.cell? ⟨gb114, 2, none⟩ = some (.int .u64 a0_2) := (bc1_ BK114.out 2).trans rfl
        have hcz24_3 : wr.cell? ⟨gb114, 3, none⟩ = some (.string a0_3) := (bc1_ BK114.out 3).trans rfl
        have hcz24_4 : wr.cell? ⟨gb114, 4, none⟩ = some (.string a0_4) := (bc1_ BK114.out 4).trans rfl
        have hcz24_5 : wr.cell? ⟨gb114, 5, none⟩ = some (.int .i64 a0_5) := (bc1_ BK114.out 5).trans rfl
        have hcz24_6 : wr.cell? ⟨gb114, 6, none⟩ = some (.int .i64 a0_6) := (bc1_ BK114.out 6).trans rfl
        have hcz24_7 : wr.cell? ⟨gb114, 7, none⟩ = some (.int .u64 a0_7) := (bc1_ BK114.out 7).trans rfl
        have hcz24_8 : wr.cell? ⟨gb114, 8, none⟩ = some (.int .u64 a0_8) := (bc1_ BK114.out 8).trans rfl
        have hcz24_9 : wr.cell? ⟨gb114, 9, none⟩ = some (u115009) := (bc1_ BK114.out 9).trans rfl
        have hfz24_0 := bf1_ BK114.out 0
        have hfz24_1 := bf1_ BK114.out 1
        have hfz24_2 := bf1_ BK114.out 2
        have hfz24_3 := bf1_ BK114.out 3
        have hfz24_4 := bf1_ BK114.out 4
        have hfz24_5 := bf1_ BK114.out 5
        have hfz24_6 := bf1_ BK114.out 6
        have hfz24_7 := bf1_ BK114.out 7
        have hfz24_8 := bf1_ BK114.out 8
        have hfz24_9 := bf1_ BK114.out 9
        have hcz25_0 : wr.cell? ⟨gb113, 0, none⟩ = some (.int .u64 0) := (bc1_ BK113.out 0).trans rfl
        have hcz25_1 : wr.cell? ⟨gb113, 1, none⟩ = some (.int .u64 0) := (bc1_ BK113.out 1).trans rfl
        have hcz25_2 : wr.cell? ⟨gb113, 2, none⟩ = some (.int .u64 0) := (bc1_ BK113.out 2).trans rfl
        have hcz25_3 : wr.cell? ⟨gb113, 3, none⟩ = some (.string (⟨#[]⟩ : ByteArray)) := (bc1_ BK113.out 3).trans rfl
        have hcz25_4 : wr.cell? ⟨gb113, 4, none⟩ = some (.string (⟨#[]⟩ : ByteArray)) := (bc1_ BK113.out 4).trans rfl
        have hcz25_5 : wr.cell? ⟨gb113, 5, none⟩ = some (.int .i64 0) := (bc1_ BK113.out 5).trans rfl
        have hcz25_6 : wr.cell? ⟨gb113, 6, none⟩ = some (.int .i64 0) := (bc1_ BK113.out 6).trans rfl
        have hcz25_7 : wr.cell? ⟨gb113, 7, none⟩ = some (.int .u64 0) := (bc1_ BK113.out 7).trans rfl
        have hcz25_8 : wr.cell? ⟨gb113, 8, none⟩ = some (.int .u64 0) := (bc1_ BK113.out 8).trans rfl
        have hcz25_9 : wr.cell? ⟨gb113, 9, none⟩ = some (.slice none 0 0) := (bc1_ BK113.out 9).trans rfl
        have hfz25_0 := bf1_ BK113.out 0
        have hfz25_1 := bf1_ BK113.out 1
        have hfz25_2 := bf1_ BK113.out 2
        have hfz25_3 := bf1_ BK113.out 3
        have hfz25_4 := bf1_ BK113.out 4
        have hfz25_5 := bf1_ BK113.out 5
        have hfz25_6 := bf1_ BK113.out 6
        have hfz25_7 := bf1_ BK113.out 7
        have hfz25_8 := bf1_ BK113.out 8
        have hfz25_9 := bf1_ BK113.out 9
        obtain ⟨Ao26, co26, eo26⟩ := Kd.R_slice HO_115009.out
        subst eo26
        go_wp2
        refine bodyPost_ret (results_cell_row rfl _ _ gb113 37 #[.int .u64 a0_0, .int .u64 a0_1, .int .u64 a0_2, .string a0_3, .string a0_4, .int .i64 a0_5, .int .i64 a0_6, .int .u64 a0_7, .int .u64 a0_8, .slice Ao26 x115009_1.length co26] (0, 0) _ rfl (by (with_reducible repeat (first | refine bN_ ?_ _ | refine bD_ ?_ | refine bA_ ?_ _)); refine blk_put (cs := #[.int .u64 a0_0, .int .u64 a0_1, .int .u64 a0_2, .string a0_3, .string a0_4, .int .i64 a0_5, .int .i64 a0_6, .int .u64 a0_7, .int .u64 a0_8, .slice none 0 0]) ?_ 9 _ rfl; (with_reducible repeat (first | refine bN_ ?_ _ | refine bD_ ?_ | refine bA_ ?_ _)); refine blk_put (cs := #[.int .u64 a0_0, .int .u64 a0_1, .int .u64 a0_2, .string a0_3, .string a0_4, .int .i64 a0_5, .int .i64 a0_6, .int .u64 a0_7, .int .u64 0, .slice none 0 0]) ?_ 8 _ rfl; (with_reducible repeat (first | refine bN_ ?_ _ | refine bD_ ?_ | refine bA_ ?_ _)); refine blk_put (cs := #[.int .u64 a0_0, .int .u64 a0_1, .int .u64 a0_2, .string a0_3, .string a0_4, .int .i64 a0_5, .int .i64 a0_6, .int .u64 0, .int .u64 0, .slice none 0 0]) ?_ 7 _ rfl; (with_reducible repeat (first | refine bN_ ?_ _ | refine bD_ ?_ | refine bA_ ?_ _)); refine blk_put (cs := #[.int .u64 a0_0, .int .u64 a0_1, .int .u64 a0_2, .string a0_3, .string a0_4, .int .i64 a0_5, .int .i64 0, .int .u64 0, .int .u64 0, .slice none 0 0]) ?_ 6 _ rfl; (with_reducible repeat (first | refine bN_ ?_ _ | refine bD_ ?_ | refine bA_ ?_ _)); refine blk_put (cs := #[.int .u64 a0_0, .int .u64 a0_1, .int .u64 a0_2, .string a0_3, .string a0_4, .int .i64 0, .int .i64 0, .int .u64 0, .int .u64 0, .slice none 0 0]) ?_ 5 _ rfl; (with_reducible repeat (first | refine bN_ ?_ _ | refine bD_ ?_ | refine bA_ ?_ _)); refine blk_put (cs := #[.int .u64 a0_0, .int .u64 a0_1, .int .u64 a0_2, .string a0_3, .string (⟨#[]⟩ : ByteArray), .int .i64 0, .int .i64 0, .int .u64 0, .int .u64 0, .slice none 0 0]) ?_ 4 _ rfl; (with_reducible repeat (first | refine bN_ ?_ _ | refine bD_ ?_ | refine bA_ ?_ _)); refine blk_put (cs := #[.int .u64 a0_0, .int .u64 a0_1, .int .u64 a0_2, .string (⟨#[]⟩ : ByteArray), .string (⟨#[]⟩ : ByteArray), .int .i64 0, .int .i64 0, .int .u64 0, .int .u64 0, .slice none 0 0]) ?_ 3 _ rfl; (with_reducible repeat (first | refine bN_ ?_ _ | refine bD_ ?_ | refine bA_ ?_ _)); refine blk_put (cs := #[.int .u64 a0_0, .int .u64 a0_1, .int .u64 0, .string (⟨#[]⟩ : ByteArray), .string (⟨#[]⟩ : ByteArray), .int .i64 0, .int .i64 0, .int .u64 0, .int .u64 0, .slice none 0 0]) ?_ 2 _ rfl; (with_reducible repeat (first | refine bN_ ?_ _ | refine bD_ ?_ | refine bA_ ?_ _)); refine blk_put (cs := #[.int .u64 a0_0, .int .u64 0, .int .u64 0, .string (⟨#[]⟩ : ByteArray), .string (⟨#[]⟩ : ByteArray), .int .i64 0, .int .i64 0, .int .u64 0, .int .u64 0, .slice none 0 0]) ?_ 1 _ rfl; (with_reducible repeat (first | refine bN_ ?_ _ | refine bD_ ?_ | refine bA_ ?_ _)); refine blk_put (cs := #[.int .u64 0, .int .u64 0, .int .u64 0, .string (⟨#[]⟩ : ByteArray), .string (⟨#[]⟩ : ByteArray), .int .i64 0, .int .i64 0, .int .u64 0, .int .u64 0, .slice none 0 0]) ?_ 0 _ rfl; (with_reducible repeat (first | refine bN_ ?_ _ | refine bD_ ?_ | refine bA_ ?_ _)); exact BK113.out) Try.underlying37 rfl (by kernel_rfl)) rfl ?_
        exact ⟨_, by first | rfl | (simp [errW_none, errW_some] <;> rfl) | (simp [*, errW_none, errW_some] <;> rfl), by (with_reducible repeat (first | apply rA_ | apply rN_ | apply rD_)); exact Kd.R_mono (Kd.R_far (p := ⟨gb113, 9, none⟩) (Kd.R_far (p := ⟨gb113, 8, none⟩) (Kd.R_far (p := ⟨gb113, 7, none⟩) (Kd.R_far (p := ⟨gb113, 6, none⟩) (Kd.R_far (p := ⟨gb113, 5, none⟩) (Kd.R_far (p := ⟨gb113, 4, none⟩) (Kd.R_far (p := ⟨gb113, 3, none⟩) (Kd.R_far (p := ⟨gb113, 2, none⟩) (Kd.R_far (p := ⟨gb113, 1, none⟩) (Kd.R_far (p := ⟨gb113, 0, none⟩) (Kd.R_types HO_115009.out BK113.out (by decide)) (fun _ hk => hk.2) (.int .u64 a0_0)) (fun _ hk => hk.2) (.int .u64 a0_1)) (fun _ hk => hk.2) (.int .u64 a0_2)) (fun _ hk => hk.2) (.string a0_3)) (fun _ hk => hk.2) (.string a0_4)) (fun _ hk => hk.2) (.int .i64 a0_5)) (fun _ hk => hk.2) (.int .i64 a0_6)) (fun _ hk => hk.2) (.int .u64 a0_7)) (fun _ hk => hk.2) (.int .u64 a0_8)) (fun _ hk => hk.2) (.slice Ao26 x115009_1.length co26)) (fun _ hk => trivial), by repeat (first | (with_reducible first | exact HB.out | apply lA_ | apply lN_ | apply l1_ | refine below_set ?_ GE112.out | refine below_set ?_ GE113.out | refine below_set ?_ GE114.out) | exact HB.out)⟩
end Go.Proofs.Ytllepjhimkogjaa.XSf
