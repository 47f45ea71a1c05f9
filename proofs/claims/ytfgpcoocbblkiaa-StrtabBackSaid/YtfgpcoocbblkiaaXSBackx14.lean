-- Made by a program of this session (xprint.py), over the translation; Lean checks it.
import Derived.Test.YtfgpcoocbblkiaaXSBackx0
namespace Go.Proofs.Ytfgpcoocbblkiaa.XSBack
open Go.RowKit Go.Proofs.YtfgpcoocbblkiaaW.PrintWords Go.Proofs.YtfgpcoocbblkiaaW.PrintLast Go.Proofs.YtfgpcoocbblkiaaW.PrintMore
attribute [local go_sem] max2_int min2_int max_two min_two max_three min_three max_four min_four   -- for this text's walks alone
set_option linter.unusedVariables false
set_option linter.unusedSimpArgs false

/-! ### tallyroomlaw05_StrtabBack: function 6 -/
def tallyroomlaw05_StrtabBack.f (l0 : List ByteArray) (l1 : List Int) (x : Int) : Option Bool := if (∀ x ∈ l1, 0 ≤ x ∧ x ≤ 255) ∧ 0 ≤ x ∧ x ≤ 65535 then some true else none
theorem tallyroomlaw05_StrtabBack.calls (A0 : Option Addr) (c0 : Nat) (l0 : List ByteArray) (A1 : Option Addr) (c1 : Nat) (l1 : List Int) (x : Int) (r : Bool) (w : World) (hr0 : Kd.C Kd.string w A0 l0.length l0) (_hc0 : l0.length ≤ c0) (hr1 : Kd.C (Kd.int .u8) w A1 l1.length l1) (_hc1 : l1.length ≤ c1) (h : tallyroomlaw05_StrtabBack.f l0 l1 x = some r) :
    Calls Try.prog 6 #[.slice A0 l0.length c0, .slice A1 l1.length c1, .int .u16 x] w fun y w' => y = .returned (.bool r) ∧ Below w.heap.size w w' := by
  unfold tallyroomlaw05_StrtabBack.f at h
  by_cases hb : (∀ x ∈ l1, 0 ≤ x ∧ x ≤ 255) ∧ 0 ≤ x ∧ x ≤ 65535
  · rw [if_pos hb] at h
    obtain rfl := Option.some.inj h
    obtain ⟨hb1, hx0, hx1⟩ := hb
    obtain ⟨ns, rfl, hns⟩ := Go.Proofs.Ytfgpcoocbblkiaa.Var.ofN_of l1 255 hb1
    obtain ⟨q, rfl⟩ := Int.eq_ofNat_of_zero_le hx0
    refine Go.Proofs.Ytfgpcoocbblkiaa.St.back_law A0 c0 l0.length (fun i => l0.getD i ByteArray.empty) A1 c1 _ ns q w (fun W hb i hi => ?_) hr1 (Go.Proofs.Ytfgpcoocbblkiaa.Var.ofN_length ns) _hc1 hns (by omega)
    obtain ⟨ad, e, hx⟩ := Go.Proofs.Ytfgpcoocbblkiaa.St.str_at (Kd.C_below hr0 hb) i hi
    have e2 : l0.getD i ByteArray.empty = l0[i] := by rw [List.getD_eq_getElem?_getD, List.getElem?_eq_getElem hi]; rfl
    refine ⟨ad, e, ?_⟩
    show W.cell? (ad.add i) = some (.string (l0.getD i ByteArray.empty))
    rw [e2]
    exact hx
  · rw [if_neg hb] at h; cases h

end Go.Proofs.Ytfgpcoocbblkiaa.XSBack
