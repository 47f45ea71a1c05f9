/- The row of the law SamplerFree: turned by hand from the printed row of SamplerWindows: its first argument is a tree. -/
import Derived.Test.YtgpkihnihmbomaaRows
import Derived.Test.YtgpkihnihmbomaaArgSamplerFree
import Derived.Test.YtgpkihnihmbomaaSf
import Derived.WalkKit
import Derived.ProofKit
import Derived.OpenShut
import Derived.ShutString
import Derived.ChangeOld
import Derived.Below
import Derived.SizedLaws
namespace Go.Proofs.Ytgpkihnihmbomaa.samplerFree
open Go.ChangeShapes Go.WideShapes Go.ChangeAt Go.RowKit Go.Proofs.YtgpkihnihmbomaaW.PrintWords Go.Proofs.YtgpkihnihmbomaaW.PrintLast Go.Proofs.Ytgpkihnihmbomaa.XSs Go.Proofs.Ytgpkihnihmbomaa.Sg Go.Proofs.Ytgpkihnihmbomaa.Pt Go.Proofs.Ytgpkihnihmbomaa.Opens
open Go.ChangeMaps (open_string shut_string)
set_option linter.unusedVariables false
theorem own : ownKnob Try.prog.godebug = none := by kernel_rfl
theorem laidOut : laidOutB Try.prog = true := by kernel_rfl
set_option maxRecDepth 100000 in
theorem lifted (os : Os) (started : os.Started) (H : Type) (enc : TypeId × Value → H) :
    ReturnsInHanded {} Try.checked os 8 .any (Rows.samplerFreeSpec.pre6 enc Try.prog Try.f8 Rows.samplerFreeRow.domain false) (Rows.samplerFreeSpec.post enc Try.prog Try.f8 false true false false) := by
  refine returnsInHanded_of_change_sized (C := Try.checked) own started (by kernel_rfl) Try.func8
    (ChangeSpec.witness6 (enc := enc) (C := Try.checked) false ⟨#[], #[.agg #[.string ByteArray.empty, .string ByteArray.empty, .int .i64 0, .int .i64 0, .string ByteArray.empty, .int .u64 0, .slice none 0 0], .slice none 0 0, .int .u8 0], []⟩ 8 (by kernel_rfl) (by kernel_rfl) (by kernel_rfl) (by kernel_rfl)) ?_
  intro W base args ds gs before hval0 hW hcnd hsz0 _
  clear hsz0
  have hval : ∀ (j : Nat) t v, Try.f8.params[j]? = some t → args[j]? = some v → Value.okWide Try.prog W .any base t v := hval0
  have hW' := hW
  obtain ⟨p, q, hA0, hV, rfl, hfz, hnd⟩ := hW
  have hA : DataW.TrodAll enc Try.prog W 0 (fun _ => true) true Try.f8.params.toList args.toList ds p := hA0
  rw [Try.params8] at hA hval
  obtain ⟨v0, vs0, d0, ds0, p0, q0, hargs, rfl, rfl, h0, r0⟩ := trodAll_cons hA
  obtain ⟨v1, vs1, d1, ds1, p1, q1, rfl, rfl, rfl, h1, r1⟩ := trodAll_cons r0
  obtain ⟨v2, vs2, d2, ds2, p2, q2, rfl, rfl, rfl, h2, r2⟩ := trodAll_cons r1
  obtain ⟨rfl, rfl, rfl⟩ := trodAll_nil r2
  obtain rfl : args = #[v0, v1, v2] := by cases args; simp_all
  obtain ⟨rfl, rfl⟩ := trodVars_none hV
  have k0 := h0
  have lt0 : ∀ x ∈ p0, x.block < W.heap.size := by obtain ⟨m, hm⟩ := k0; exact DataW.trod_lt m _ _ _ hm
  obtain ⟨cs0, rfl, hsz0⟩ := okWide_struct Try.underlying43 (hval 0 43 v0 rfl rfl)
  obtain ⟨d, p, hK0⟩ : ∃ d p, (kp 43 d).K W p cs0.toList := by
    obtain ⟨fuel, hf⟩ := h0
    obtain ⟨p, hK⟩ := pol_at fuel fuel _ _ (Nat.le_refl _) hf
    exact ⟨fuel, p, hK⟩
  cases d with
  | zero => exact (kp_no hK0).elim
  | succ d =>
  have hK1 := hK0
  obtain ⟨Ap, cp, e0, hcp, hCp⟩ := kp_open hK1
  obtain rfl : cs0 = #[.string p.op, .string p.key, .int .i64 p.vk, .int .i64 p.vn, .string p.vs, .int .u64 p.n, .slice Ap p.kids.length cp] := by cases cs0; simpa using e0
  have k1 := h1
  have lt1 : ∀ x ∈ p1, x.block < W.heap.size := by obtain ⟨m, hm⟩ := k1; exact DataW.trod_lt m _ _ _ hm
  obtain ⟨A0, len0, c0, rfl⟩ := okWide_slice Try.underlying44 (hval 1 44 v1 rfl rfl)
  obtain ⟨l0, ⟨A_, c_, e_, hc0, hr0⟩, w0⟩ : ∃ l : List (List (S99)), (∃ A c, [Value.slice A0 len0 c0] = [.slice A l.length c] ∧ l.length ≤ c ∧ Kd.C (Kd.slice 99 k99) W A l.length l) ∧ (fun l : List (List (S99)) => l.length ≤ maxLen ∧ ∀ x ∈ l, (fun l : List (S99) => l.length ≤ maxLen ∧ ∀ x ∈ l, wf99 x) x) l := by
    obtain ⟨fuel, hf⟩ := h1
    obtain ⟨l, hK, hW⟩ := (opens_slice Try.underlying44 (by kernel_rfl) (opens_slice Try.underlying61 (by kernel_rfl) opens99)).2 H enc W fuel _ _ hf
    exact ⟨l, hK, hW⟩
  simp only [List.cons.injEq, Value.slice.injEq, and_true] at e_
  obtain ⟨rfl, rfl, rfl⟩ := e_
  obtain ⟨a2, rfl, rfl, rfl, w2⟩ := open_int Try.underlying5 (hval 2 5 v2 rfl rfl) h2
  have hm : 0 ≤ a2 ∧ a2 ≤ 255 := by simpa [Lit.wf, IntKind.min, IntKind.max, IntKind.signed, IntKind.bits] using w2
  have he : ∀ x ∈ l0, ∀ s ∈ x, 0 ≤ s.f8 ∧ s.f8 < 18446744073709551616 := fun x hx s hs => by
    have h : (Lit.int .u64 s.f8).wf = true := ((w0.2 x hx).2 s hs).2.2.2.2.2.2.2.2.1
    have h : 0 ≤ s.f8 ∧ s.f8 ≤ 18446744073709551615 := by simpa [Lit.wf, IntKind.min, IntKind.max, IntKind.signed, IntKind.bits] using h
    omega
  obtain ⟨mm, rfl⟩ : ∃ n : Nat, a2 = (n : Int) := ⟨a2.toNat, by omega⟩
  refine (Sf.free_law W d p Ap cp p.kids.length _ _ l0 mm (by omega) he hK0 hr0 hc0).mono fun e W' ⟨he, bel⟩ => ?_
  subst he
  exact ⟨_, rfl, _, _, _, [], _, [], hW', trodAll_mk1 (shut_bool Try.underlying4 _), (trodAll_cons_mk (Below.trod laidOut (by kernel_rfl) (of_decide_eq_true (by kernel_rfl)) k0 bel lt0) (trodAll_cons_mk (Below.trod laidOut (by kernel_rfl) (of_decide_eq_true (by kernel_rfl)) k1 bel lt1) (trodAll_cons_mk (shut_int Try.underlying5 w2) trodAll_mk0))), rfl, bel.frame _, fun h => by cases h⟩
theorem over : Rows.samplerFreeRow.holds Try.pinned (OpenSpec.ofChange Rows.samplerFreeSpec) :=
  OpenClaim.holds_of_wide 8 Try.f8 rfl rfl rfl rfl rfl rfl rfl ⟨rfl, rfl, rfl, rfl, rfl⟩ rfl rfl rfl rfl rfl (by kernel_rfl) Try.func8 (by kernel_rfl)
    (of_decide_eq_true (by kernel_rfl)) (by unfold Func.isWrapper; first | (rw [if_pos (by decide +kernel)]; kernel_rfl) | (rw [if_neg (by decide +kernel)]; exact ⟨rfl, rfl⟩))
    (fun os started H enc _ => lifted os started H enc)
theorem proved : Rows.SamplerFreeSaid := over
#print axioms proved
end Go.Proofs.Ytgpkihnihmbomaa.samplerFree
namespace Go.Proofs.Ytgpkihnihmbomaa
/-- The row, under a short name, for the claim. -/
theorem samplerFree_holds : Rows.SamplerFreeSaid := samplerFree.proved
end Go.Proofs.Ytgpkihnihmbomaa
