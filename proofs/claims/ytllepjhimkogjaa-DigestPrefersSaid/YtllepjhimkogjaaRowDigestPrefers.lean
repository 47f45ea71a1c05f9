/- The row of the law DigestPrefers: by a program of this session (xprint.py), over its pure statement, which this session proved. -/
import Derived.Test.YtllepjhimkogjaaRows
import Derived.Test.YtllepjhimkogjaaPDP
import Derived.WalkKit
import Derived.ProofKit
import Derived.OpenShut
import Derived.ShutString
import Derived.ChangeOld
import Derived.Below
import Derived.SizedLaws
namespace Go.Proofs.Ytllepjhimkogjaa.digestPrefers
open Go.ChangeShapes Go.WideShapes Go.ChangeAt Go.RowKit Go.Proofs.YtllepjhimkogjaaW.PrintWords Go.Proofs.YtllepjhimkogjaaW.PrintLast Go.Proofs.Ytllepjhimkogjaa.XDPr Go.Proofs.Ytllepjhimkogjaa.Opens
open Go.ChangeMaps (open_string shut_string)
set_option linter.unusedVariables false
theorem own : ownKnob Try.prog.godebug = none := by kernel_rfl
theorem laidOut : laidOutB Try.prog = true := by kernel_rfl
set_option maxRecDepth 100000 in
theorem lifted (os : Os) (started : os.Started) (H : Type) (enc : TypeId × Value → H) :
    ReturnsInHanded {} Try.checked os 5 .any (Rows.digestPrefersSpec.pre6 enc Try.prog Try.f5 Rows.digestPrefersRow.domain false) (Rows.digestPrefersSpec.post enc Try.prog Try.f5 false true false false) := by
  refine returnsInHanded_of_change_sized (C := Try.checked) own started (by kernel_rfl) Try.func5
    (ChangeSpec.witness6 (enc := enc) (C := Try.checked) false ⟨#[], #[.slice none 0 0, .int .u8 0], []⟩ 8 (by kernel_rfl) (by kernel_rfl) (by kernel_rfl) (by kernel_rfl)) ?_
  intro W base args ds gs before hval0 hW hcnd hsz0 _
  clear hsz0
  have hval : ∀ (j : Nat) t v, Try.f5.params[j]? = some t → args[j]? = some v → Value.okWide Try.prog W .any base t v := hval0
  have hW' := hW
  obtain ⟨p, q, hA0, hV, rfl, hfz, hnd⟩ := hW
  have hA : DataW.TrodAll enc Try.prog W 0 (fun _ => true) true Try.f5.params.toList args.toList ds p := hA0
  rw [Try.params5] at hA hval
  obtain ⟨v0, vs0, d0, ds0, p0, q0, hargs, rfl, rfl, h0, r0⟩ := trodAll_cons hA
  obtain ⟨v1, vs1, d1, ds1, p1, q1, rfl, rfl, rfl, h1, r1⟩ := trodAll_cons r0
  obtain ⟨rfl, rfl, rfl⟩ := trodAll_nil r1
  obtain rfl : args = #[v0, v1] := by cases args; simp_all
  obtain ⟨rfl, rfl⟩ := trodVars_none hV
  have k0 := h0
  have lt0 : ∀ x ∈ p0, x.block < W.heap.size := by obtain ⟨m, hm⟩ := k0; exact DataW.trod_lt m _ _ _ hm
  obtain ⟨A0, len0, c0, rfl⟩ := okWide_slice Try.underlying33 (hval 0 33 v0 rfl rfl)
  obtain ⟨l0, ⟨A_, c_, e_, hc0, hr0⟩, w0⟩ : ∃ l : List (S37), (∃ A c, [Value.slice A0 len0 c0] = [.slice A l.length c] ∧ l.length ≤ c ∧ Kd.C k37 W A l.length l) ∧ (fun l : List (S37) => l.length ≤ maxLen ∧ ∀ x ∈ l, wf37 x) l := by
    obtain ⟨fuel, hf⟩ := h0
    obtain ⟨l, hK, hW⟩ := (opens_slice Try.underlying33 (by kernel_rfl) opens37).2 H enc W fuel _ _ hf
    exact ⟨l, hK, hW⟩
  simp only [List.cons.injEq, Value.slice.injEq, and_true] at e_
  obtain ⟨rfl, rfl, rfl⟩ := e_
  obtain ⟨a1, rfl, rfl, rfl, w1⟩ := open_int Try.underlying5 (hval 1 5 v1 rfl rfl) h1
  obtain ⟨k, hk⟩ := Pure.DigestPrefers l0 a1 w0 w1
  refine (tallyroomlaw09_DigestPrefers.calls k _ _ l0 a1 true W hr0 hc0 hk).mono fun e W' ⟨he, bel⟩ => ?_
  subst he
  exact ⟨_, rfl, _, _, _, [], _, [], hW', trodAll_mk1 (shut_bool Try.underlying4 _), (trodAll_cons_mk (Below.trod laidOut (by kernel_rfl) (of_decide_eq_true (by kernel_rfl)) k0 bel lt0) (trodAll_cons_mk (shut_int Try.underlying5 w1) trodAll_mk0)), rfl, bel.frame _, fun h => by cases h⟩
theorem over : Rows.digestPrefersRow.holds Try.pinned (OpenSpec.ofChange Rows.digestPrefersSpec) :=
  OpenClaim.holds_of_wide 5 Try.f5 rfl rfl rfl rfl rfl rfl rfl ⟨rfl, rfl, rfl, rfl, rfl⟩ rfl rfl rfl rfl rfl (by kernel_rfl) Try.func5 (by kernel_rfl)
    (of_decide_eq_true (by kernel_rfl)) (by unfold Func.isWrapper; first | (rw [if_pos (by decide +kernel)]; kernel_rfl) | (rw [if_neg (by decide +kernel)]; exact ⟨rfl, rfl⟩))
    (fun os started H enc _ => lifted os started H enc)
theorem proved : Rows.DigestPrefersSaid := over
#print axioms proved
end Go.Proofs.Ytllepjhimkogjaa.digestPrefers
namespace Go.Proofs.Ytllepjhimkogjaa
/-- The row, under a short name, for the claim. -/
theorem digestPrefers_holds : Rows.DigestPrefersSaid := digestPrefers.proved
end Go.Proofs.Ytllepjhimkogjaa
