-- Made by a program of this session (xprint.py), over the translation; Lean checks it.
import Derived.Test.YtdcbhakclhbdpaaXQWinx0
namespace Go.Proofs.Ytdcbhakclhbdpaa.XQWin
open Go.RowKit Go.Proofs.YtdcbhakclhbdpaaW.PrintWords Go.Proofs.YtdcbhakclhbdpaaW.PrintLast Go.Proofs.YtdcbhakclhbdpaaW.PrintMore
attribute [local go_sem] max2_int min2_int max_two min_two max_three min_three max_four min_four   -- for this text's walks alone
set_option linter.unusedVariables false
set_option linter.unusedSimpArgs false

/-! ### tallyroomlaw32_QuantWithin: function 10 -/
def tallyroomlaw32_QuantWithin.f (l0 l1 : List Int) (x y : Int) : Option Bool := if ((∀ x ∈ l0, 0 ≤ x ∧ x ≤ (18446744073709551615 : Nat)) ∧ ∀ x ∈ l1, 0 ≤ x ∧ x ≤ (18446744073709551615 : Nat)) ∧ (0 ≤ x ∧ x ≤ 65535) ∧ 0 ≤ y ∧ y ≤ 65535 then some true else none
theorem tallyroomlaw32_QuantWithin.calls (A0 : Option Addr) (c0 : Nat) (l0 : List Int) (A1 : Option Addr) (c1 : Nat) (l1 : List Int) (x y : Int) (r : Bool) (w : World) (hr0 : Kd.C (Kd.int .u64) w A0 l0.length l0) (_hc0 : l0.length ≤ c0) (hr1 : Kd.C (Kd.int .u64) w A1 l1.length l1) (_hc1 : l1.length ≤ c1) (h : tallyroomlaw32_QuantWithin.f l0 l1 x y = some r) :
    Calls Try.prog 10 #[.slice A0 l0.length c0, .slice A1 l1.length c1, .int .u16 x, .int .u16 y] w fun e w' => e = .returned (.bool r) ∧ Below w.heap.size w w' := by
  unfold tallyroomlaw32_QuantWithin.f at h
  by_cases hb : ((∀ x ∈ l0, 0 ≤ x ∧ x ≤ (18446744073709551615 : Nat)) ∧ ∀ x ∈ l1, 0 ≤ x ∧ x ≤ (18446744073709551615 : Nat)) ∧ (0 ≤ x ∧ x ≤ 65535) ∧ 0 ≤ y ∧ y ≤ 65535
  · rw [if_pos hb] at h
    obtain rfl := Option.some.inj h
    obtain ⟨⟨b0, b1⟩, ⟨hx0, hx1⟩, hy0, hy1⟩ := hb
    obtain ⟨n0, rfl, h0⟩ := Go.Proofs.Ytdcbhakclhbdpaa.Hi.ofN_of l0 _ b0
    obtain ⟨n1, rfl, h1⟩ := Go.Proofs.Ytdcbhakclhbdpaa.Hi.ofN_of l1 _ b1
    obtain ⟨p, rfl⟩ := Int.eq_ofNat_of_zero_le hx0
    obtain ⟨q, rfl⟩ := Int.eq_ofNat_of_zero_le hy0
    exact Go.Proofs.Ytdcbhakclhbdpaa.Qw.within_law w A0 A1 _ c0 _ c1 n0 n1 p q hr0 (Go.Proofs.Ytdcbhakclhbdpaa.Hi.ofN_length _) _hc0 hr1 (Go.Proofs.Ytdcbhakclhbdpaa.Hi.ofN_length _) _hc1 h1 (by omega) (by omega)
  · rw [if_neg hb] at h; cases h

end Go.Proofs.Ytdcbhakclhbdpaa.XQWin
