-- Made by a program of this session (xprint.py), over the translation; Lean checks it.
import Derived.Test.YtfgpcoocbblkiaaXLRejx0
namespace Go.Proofs.Ytfgpcoocbblkiaa.XLRej
open Go.RowKit Go.Proofs.YtfgpcoocbblkiaaW.PrintWords Go.Proofs.YtfgpcoocbblkiaaW.PrintLast Go.Proofs.YtfgpcoocbblkiaaW.PrintMore
attribute [local go_sem] max2_int min2_int max_two min_two max_three min_three max_four min_four   -- for this text's walks alone
set_option linter.unusedVariables false
set_option linter.unusedSimpArgs false

/-! ### tallyroomlaw27_LedgerRejects: function 7 -/
def tallyroomlaw27_LedgerRejects.f (l0 : List Int) (x : Int) : Option Bool := if (∀ y ∈ l0, 0 ≤ y ∧ y ≤ (255 : Nat)) ∧ (0 ≤ x ∧ x ≤ 65535) then some true else none
theorem tallyroomlaw27_LedgerRejects.calls (A0 : Option Addr) (c0 : Nat) (l0 : List Int) (x : Int) (r : Bool) (w : World) (hr0 : Kd.C (Kd.int .u8) w A0 l0.length l0) (_hc0 : l0.length ≤ c0) (h : tallyroomlaw27_LedgerRejects.f l0 x = some r) :
    Calls Try.prog 7 #[.slice A0 l0.length c0, .int .u16 x] w fun y w' => y = .returned (.bool r) ∧ Below w.heap.size w w' := by
  unfold tallyroomlaw27_LedgerRejects.f at h
  by_cases hb : (∀ y ∈ l0, 0 ≤ y ∧ y ≤ (255 : Nat)) ∧ (0 ≤ x ∧ x ≤ 65535)
  · rw [if_pos hb] at h
    obtain rfl := Option.some.inj h
    obtain ⟨b0, hx⟩ := hb
    obtain ⟨n0, rfl, h0⟩ := Go.Proofs.Ytfgpcoocbblkiaa.Le.ofN_of l0 _ b0
    obtain ⟨q, rfl⟩ := Int.eq_ofNat_of_zero_le hx.1
    exact Go.Proofs.Ytfgpcoocbblkiaa.Le.rejects_law w A0 _ c0 n0 q hr0 (Go.Proofs.Ytfgpcoocbblkiaa.Le.ofN_length _) _hc0 h0 (by omega)
  · rw [if_neg hb] at h; cases h

end Go.Proofs.Ytfgpcoocbblkiaa.XLRej
