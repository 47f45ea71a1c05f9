-- Made by a program of this session (xprint.py), over the translation; Lean checks it.
import Derived.Test.YtdcbhakclhbdpaaXHOrderx0
namespace Go.Proofs.Ytdcbhakclhbdpaa.XHOrder
open Go.RowKit Go.Proofs.YtdcbhakclhbdpaaW.PrintWords Go.Proofs.YtdcbhakclhbdpaaW.PrintLast Go.Proofs.YtdcbhakclhbdpaaW.PrintMore
attribute [local go_sem] max2_int min2_int max_two min_two max_three min_three max_four min_four   -- for this text's walks alone
set_option linter.unusedVariables false
set_option linter.unusedSimpArgs false

/-! ### tallyroomlaw11_HistOrder: function 11 -/
def tallyroomlaw11_HistOrder.f (l0 l1 : List Int) (x : Int) : Option Bool := if ((∀ x ∈ l0, 0 ≤ x ∧ x ≤ (18446744073709551615 : Nat)) ∧ ∀ x ∈ l1, 0 ≤ x ∧ x ≤ (18446744073709551615 : Nat)) ∧ 0 ≤ x ∧ x ≤ 255 then some true else none
theorem tallyroomlaw11_HistOrder.calls (A0 : Option Addr) (c0 : Nat) (l0 : List Int) (A1 : Option Addr) (c1 : Nat) (l1 : List Int) (x : Int) (r : Bool) (w : World) (hr0 : Kd.C (Kd.int .u64) w A0 l0.length l0) (_hc0 : l0.length ≤ c0) (hr1 : Kd.C (Kd.int .u64) w A1 l1.length l1) (_hc1 : l1.length ≤ c1) (h : tallyroomlaw11_HistOrder.f l0 l1 x = some r) :
    Calls Try.prog 11 #[.slice A0 l0.length c0, .slice A1 l1.length c1, .int .u8 x] w fun y w' => y = .returned (.bool r) ∧ Below w.heap.size w w' := by
  unfold tallyroomlaw11_HistOrder.f at h
  by_cases hb : ((∀ x ∈ l0, 0 ≤ x ∧ x ≤ (18446744073709551615 : Nat)) ∧ ∀ x ∈ l1, 0 ≤ x ∧ x ≤ (18446744073709551615 : Nat)) ∧ 0 ≤ x ∧ x ≤ 255
  · rw [if_pos hb] at h
    obtain rfl := Option.some.inj h
    obtain ⟨⟨b0, b1⟩, hx0, hx1⟩ := hb
    obtain ⟨n0, rfl, h0⟩ := Go.Proofs.Ytdcbhakclhbdpaa.Hi.ofN_of l0 _ b0
    obtain ⟨n1, rfl, h1⟩ := Go.Proofs.Ytdcbhakclhbdpaa.Hi.ofN_of l1 _ b1
    obtain ⟨q, rfl⟩ := Int.eq_ofNat_of_zero_le hx0
    exact Go.Proofs.Ytdcbhakclhbdpaa.Hi.order_law w A0 A1 _ c0 _ c1 n0 n1 q hr0 (Go.Proofs.Ytdcbhakclhbdpaa.Hi.ofN_length _) _hc0 hr1 (Go.Proofs.Ytdcbhakclhbdpaa.Hi.ofN_length _) _hc1 (by omega)
  · rw [if_neg hb] at h; cases h

end Go.Proofs.Ytdcbhakclhbdpaa.XHOrder
