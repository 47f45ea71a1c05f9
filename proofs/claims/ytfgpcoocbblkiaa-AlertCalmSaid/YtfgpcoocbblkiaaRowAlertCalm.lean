/- The row of the law AlertCalm: by a program of this session (xprint.py), over its pure statement, which this session proved. -/
import Derived.Test.YtfgpcoocbblkiaaRows
import Derived.Test.YtfgpcoocbblkiaaArgAlertCalm
import Derived.Test.YtfgpcoocbblkiaaPureAlertCalm
import Derived.WalkKit
import Derived.ProofKit
import Derived.OpenShut
import Derived.ShutString
import Derived.ChangeOld
import Derived.Below
import Derived.SizedLaws
namespace Go.Proofs.Ytfgpcoocbblkiaa.alertCalm
open Go.ChangeShapes Go.WideShapes Go.ChangeAt Go.RowKit Go.Proofs.YtfgpcoocbblkiaaW.PrintWords Go.Proofs.YtfgpcoocbblkiaaW.PrintLast Go.Proofs.Ytfgpcoocbblkiaa.XACalm Go.Proofs.Ytfgpcoocbblkiaa.Opens
open Go.ChangeMaps (open_string shut_string)
set_option linter.unusedVariables false
theorem own : ownKnob Try.prog.godebug = none := by kernel_rfl
theorem laidOut : laidOutB Try.prog = true := by kernel_rfl
set_option maxRecDepth 100000 in
theorem lifted (os : Os) (started : os.Started) (H : Type) (enc : TypeId × Value → H) :
    ReturnsInHanded {} Try.checked os 9 .any (Rows.alertCalmSpec.pre6 enc Try.prog Try.f9 Rows.alertCalmRow.domain false) (Rows.alertCalmSpec.post enc Try.prog Try.f9 false true false false) := by
  refine returnsInHanded_of_change_sized (C := Try.checked) own started (by kernel_rfl) Try.func9
    (ChangeSpec.witness6 (enc := enc) (C := Try.checked) false ⟨#[], #[.agg #[.string ByteArray.empty, .int .i64 0, .int .i64 0, .int .i64 0], .slice none 0 0], []⟩ 8 (by kernel_rfl) (by kernel_rfl) (by kernel_rfl) (by kernel_rfl)) ?_
  intro W base args ds gs before hval0 hW hcnd hsz0 _
  clear hsz0
  have hval : ∀ (j : Nat) t v, Try.f9.params[j]? = some t → args[j]? = some v → Value.okWide Try.prog W .any base t v := hval0
  have hW' := hW
  obtain ⟨p, q, hA0, hV, rfl, hfz, hnd⟩ := hW
  have hA : DataW.TrodAll enc Try.prog W 0 (fun _ => true) true Try.f9.params.toList args.toList ds p := hA0
  rw [Try.params9] at hA hval
  obtain ⟨v0, vs0, d0, ds0, p0, q0, hargs, rfl, rfl, h0, r0⟩ := trodAll_cons hA
  obtain ⟨v1, vs1, d1, ds1, p1, q1, rfl, rfl, rfl, h1, r1⟩ := trodAll_cons r0
  obtain ⟨rfl, rfl, rfl⟩ := trodAll_nil r1
  obtain rfl : args = #[v0, v1] := by cases args; simp_all
  obtain ⟨rfl, rfl⟩ := trodVars_none hV
  have k0 := h0
  have lt0 : ∀ x ∈ p0, x.block < W.heap.size := by obtain ⟨m, hm⟩ := k0; exact DataW.trod_lt m _ _ _ hm
  obtain ⟨cs0, rfl, hsz0⟩ := okWide_struct Try.underlying58 (hval 0 58 v0 rfl rfl)
  obtain ⟨s0, hK0, w0⟩ : ∃ x : S58, k58.K W x cs0.toList ∧ wf58 x := by
    obtain ⟨fuel, hf⟩ := h0
    obtain ⟨x, hK, hW⟩ := opens58.2 H enc W fuel _ _ hf
    exact ⟨x, hK, hW⟩
  have e0 := k58_open hK0
  obtain rfl : cs0 = #[.string s0.f0, .int .i64 s0.f1, .int .i64 s0.f2, .int .i64 s0.f3] := by cases cs0; simpa using e0
  have k1 := h1
  have lt1 : ∀ x ∈ p1, x.block < W.heap.size := by obtain ⟨m, hm⟩ := k1; exact DataW.trod_lt m _ _ _ hm
  obtain ⟨A1, len1, c1, rfl⟩ := okWide_slice Try.underlying59 (hval 1 59 v1 rfl rfl)
  obtain ⟨l1, ⟨A_, c_, e_, hc1, hr1⟩, w1⟩ : ∃ l : List (S69), (∃ A c, [Value.slice A1 len1 c1] = [.slice A l.length c] ∧ l.length ≤ c ∧ Kd.C k69 W A l.length l) ∧ (fun l : List (S69) => l.length ≤ maxLen ∧ ∀ x ∈ l, wf69 x) l := by
    obtain ⟨fuel, hf⟩ := h1
    obtain ⟨l, hK, hW⟩ := (opens_slice Try.underlying59 (by kernel_rfl) opens69).2 H enc W fuel _ _ hf
    exact ⟨l, hK, hW⟩
  simp only [List.cons.injEq, Value.slice.injEq, and_true] at e_
  obtain ⟨rfl, rfl, rfl⟩ := e_
  obtain hk := Pure.AlertCalm s0 l1 w0 w1
  refine (tallyroomlaw35_AlertCalm.calls s0.f0 s0.f1 s0.f2 s0.f3 _ _ l1 true W hr1 hc1 hk).mono fun e W' ⟨he, bel⟩ => ?_
  subst he
  exact ⟨_, rfl, _, _, _, [], _, [], hW', trodAll_mk1 (shut_bool Try.underlying4 _), (trodAll_cons_mk (Below.trod laidOut (by kernel_rfl) (of_decide_eq_true (by kernel_rfl)) k0 bel lt0) (trodAll_cons_mk (Below.trod laidOut (by kernel_rfl) (of_decide_eq_true (by kernel_rfl)) k1 bel lt1) trodAll_mk0)), rfl, bel.frame _, fun h => by cases h⟩
theorem over : Rows.alertCalmRow.holds Try.pinned (OpenSpec.ofChange Rows.alertCalmSpec) :=
  OpenClaim.holds_of_wide 9 Try.f9 rfl rfl rfl rfl rfl rfl rfl ⟨rfl, rfl, rfl, rfl, rfl⟩ rfl rfl rfl rfl rfl (by kernel_rfl) Try.func9 (by kernel_rfl)
    (of_decide_eq_true (by kernel_rfl)) (by unfold Func.isWrapper; first | (rw [if_pos (by decide +kernel)]; kernel_rfl) | (rw [if_neg (by decide +kernel)]; exact ⟨rfl, rfl⟩))
    (fun os started H enc _ => lifted os started H enc)
theorem proved : Rows.AlertCalmSaid := over
#print axioms proved
end Go.Proofs.Ytfgpcoocbblkiaa.alertCalm
namespace Go.Proofs.Ytfgpcoocbblkiaa
/-- The row, under a short name, for the claim. -/
theorem alertCalm_holds : Rows.AlertCalmSaid := alertCalm.proved
end Go.Proofs.Ytfgpcoocbblkiaa
