/- The row of the law QuantWithin: by a program of this session (xprint.py), over its pure statement, which this session proved. -/
import Derived.Test.YtdcbhakclhbdpaaRows
import Derived.Test.YtdcbhakclhbdpaaArgQuantWithin
import Derived.Test.YtdcbhakclhbdpaaPureQuantWithin
import Derived.WalkKit
import Derived.ProofKit
import Derived.OpenShut
import Derived.ShutString
import Derived.ChangeOld
import Derived.Below
import Derived.SizedLaws
namespace Go.Proofs.Ytdcbhakclhbdpaa.quantWithin
open Go.ChangeShapes Go.WideShapes Go.ChangeAt Go.RowKit Go.Proofs.YtdcbhakclhbdpaaW.PrintWords Go.Proofs.YtdcbhakclhbdpaaW.PrintLast Go.Proofs.Ytdcbhakclhbdpaa.XQWin Go.Proofs.Ytdcbhakclhbdpaa.Opens
open Go.ChangeMaps (open_string shut_string)
set_option linter.unusedVariables false
theorem own : ownKnob Try.prog.godebug = none := by kernel_rfl
theorem laidOut : laidOutB Try.prog = true := by kernel_rfl
set_option maxRecDepth 100000 in
theorem lifted (os : Os) (started : os.Started) (H : Type) (enc : TypeId × Value → H) :
    ReturnsInHanded {} Try.checked os 10 .any (Rows.quantWithinSpec.pre6 enc Try.prog Try.f10 Rows.quantWithinRow.domain false) (Rows.quantWithinSpec.post enc Try.prog Try.f10 false true false false) := by
  refine returnsInHanded_of_change_sized (C := Try.checked) own started (by kernel_rfl) Try.func10
    (ChangeSpec.witness6 (enc := enc) (C := Try.checked) false ⟨#[], #[.slice none 0 0, .slice none 0 0, .int .u16 0, .int .u16 0], []⟩ 8 (by kernel_rfl) (by kernel_rfl) (by kernel_rfl) (by kernel_rfl)) ?_
  intro W base args ds gs before hval0 hW hcnd hsz0 _
  clear hsz0
  have hval : ∀ (j : Nat) t v, Try.f10.params[j]? = some t → args[j]? = some v → Value.okWide Try.prog W .any base t v := hval0
  have hW' := hW
  obtain ⟨p, q, hA0, hV, rfl, hfz, hnd⟩ := hW
  have hA : DataW.TrodAll enc Try.prog W 0 (fun _ => true) true Try.f10.params.toList args.toList ds p := hA0
  rw [Try.params10] at hA hval
  obtain ⟨v0, vs0, d0, ds0, p0, q0, hargs, rfl, rfl, h0, r0⟩ := trodAll_cons hA
  obtain ⟨v1, vs1, d1, ds1, p1, q1, rfl, rfl, rfl, h1, r1⟩ := trodAll_cons r0
  obtain ⟨v2, vs2, d2, ds2, p2, q2, rfl, rfl, rfl, h2, r2⟩ := trodAll_cons r1
  obtain ⟨v3, vs3, d3, ds3, p3, q3, rfl, rfl, rfl, h3, r3⟩ := trodAll_cons r2
  obtain ⟨rfl, rfl, rfl⟩ := trodAll_nil r3
  obtain rfl : args = #[v0, v1, v2, v3] := by cases args; simp_all
  obtain ⟨rfl, rfl⟩ := trodVars_none hV
  have k0 := h0
  have lt0 : ∀ x ∈ p0, x.block < W.heap.size := by obtain ⟨m, hm⟩ := k0; exact DataW.trod_lt m _ _ _ hm
  obtain ⟨A0, len0, c0, rfl⟩ := okWide_slice Try.underlying22 (hval 0 22 v0 rfl rfl)
  obtain ⟨l0, ⟨A_, c_, e_, hc0, hr0⟩, w0⟩ : ∃ l : List Int, (∃ A c, [Value.slice A0 len0 c0] = [.slice A l.length c] ∧ l.length ≤ c ∧ Kd.C (Kd.int .u64) W A l.length l) ∧ (fun l : List Int => l.length ≤ maxLen ∧ ∀ x ∈ l, (fun n : Int => (Lit.int .u64 n).wf = true) x) l := by
    obtain ⟨fuel, hf⟩ := h0
    obtain ⟨l, hK, hW⟩ := (opens_slice Try.underlying22 (by kernel_rfl) (opens_int Try.underlying24 (by kernel_rfl))).2 H enc W fuel _ _ hf
    exact ⟨l, hK, hW⟩
  simp only [List.cons.injEq, Value.slice.injEq, and_true] at e_
  obtain ⟨rfl, rfl, rfl⟩ := e_
  have k1 := h1
  have lt1 : ∀ x ∈ p1, x.block < W.heap.size := by obtain ⟨m, hm⟩ := k1; exact DataW.trod_lt m _ _ _ hm
  obtain ⟨A1, len1, c1, rfl⟩ := okWide_slice Try.underlying22 (hval 1 22 v1 rfl rfl)
  obtain ⟨l1, ⟨A_, c_, e_, hc1, hr1⟩, w1⟩ : ∃ l : List Int, (∃ A c, [Value.slice A1 len1 c1] = [.slice A l.length c] ∧ l.length ≤ c ∧ Kd.C (Kd.int .u64) W A l.length l) ∧ (fun l : List Int => l.length ≤ maxLen ∧ ∀ x ∈ l, (fun n : Int => (Lit.int .u64 n).wf = true) x) l := by
    obtain ⟨fuel, hf⟩ := h1
    obtain ⟨l, hK, hW⟩ := (opens_slice Try.underlying22 (by kernel_rfl) (opens_int Try.underlying24 (by kernel_rfl))).2 H enc W fuel _ _ hf
    exact ⟨l, hK, hW⟩
  simp only [List.cons.injEq, Value.slice.injEq, and_true] at e_
  obtain ⟨rfl, rfl, rfl⟩ := e_
  obtain ⟨a2, rfl, rfl, rfl, w2⟩ := open_int Try.underlying32 (hval 2 32 v2 rfl rfl) h2
  obtain ⟨a3, rfl, rfl, rfl, w3⟩ := open_int Try.underlying32 (hval 3 32 v3 rfl rfl) h3
  obtain hk := Pure.QuantWithin l0 l1 a2 a3 w0 w1 w2 w3
  refine (tallyroomlaw32_QuantWithin.calls _ _ l0 _ _ l1 a2 a3 true W hr0 hc0 hr1 hc1 hk).mono fun e W' ⟨he, bel⟩ => ?_
  subst he
  exact ⟨_, rfl, _, _, _, [], _, [], hW', trodAll_mk1 (shut_bool Try.underlying4 _), (trodAll_cons_mk (Below.trod laidOut (by kernel_rfl) (of_decide_eq_true (by kernel_rfl)) k0 bel lt0) (trodAll_cons_mk (Below.trod laidOut (by kernel_rfl) (of_decide_eq_true (by kernel_rfl)) k1 bel lt1) (trodAll_cons_mk (shut_int Try.underlying32 w2) (trodAll_cons_mk (shut_int Try.underlying32 w3) trodAll_mk0)))), rfl, bel.frame _, fun h => by cases h⟩
theorem over : Rows.quantWithinRow.holds Try.pinned (OpenSpec.ofChange Rows.quantWithinSpec) :=
  OpenClaim.holds_of_wide 10 Try.f10 rfl rfl rfl rfl rfl rfl rfl ⟨rfl, rfl, rfl, rfl, rfl⟩ rfl rfl rfl rfl rfl (by kernel_rfl) Try.func10 (by kernel_rfl)
    (of_decide_eq_true (by kernel_rfl)) (by unfold Func.isWrapper; first | (rw [if_pos (by decide +kernel)]; kernel_rfl) | (rw [if_neg (by decide +kernel)]; exact ⟨rfl, rfl⟩))
    (fun os started H enc _ => lifted os started H enc)
theorem proved : Rows.QuantWithinSaid := over
#print axioms proved
end Go.Proofs.Ytdcbhakclhbdpaa.quantWithin
namespace Go.Proofs.Ytdcbhakclhbdpaa
/-- The row, under a short name, for the claim. -/
theorem quantWithin_holds : Rows.QuantWithinSaid := quantWithin.proved
end Go.Proofs.Ytdcbhakclhbdpaa
