-- Made by a program of this session (xprint.py), over the translation; Lean checks it.
import Derived.Test.YtdcbhakclhbdpaaXHPutsx0
namespace Go.Proofs.Ytdcbhakclhbdpaa.XHPuts
open Go.RowKit Go.Proofs.YtdcbhakclhbdpaaW.PrintWords Go.Proofs.YtdcbhakclhbdpaaW.PrintLast Go.Proofs.YtdcbhakclhbdpaaW.PrintMore
attribute [local go_sem] max2_int min2_int max_two min_two max_three min_three max_four min_four   -- for this text's walks alone
set_option linter.unusedVariables false
set_option linter.unusedSimpArgs false

/-! ### tallyroomlaw11_HistPuts: function 14 -/
def tallyroomlaw11_HistPuts.f (l0 l1 : List Int) (x : Int) (l3 : List Int) : Option Bool := if ((∀ x ∈ l0, 0 ≤ x ∧ x ≤ (18446744073709551615 : Nat)) ∧ (∀ x ∈ l1, 0 ≤ x ∧ x ≤ (18446744073709551615 : Nat)) ∧ ∀ x ∈ l3, 0 ≤ x ∧ x ≤ (18446744073709551615 : Nat)) ∧ 0 ≤ x ∧ x ≤ 255 then some true else none
theorem tallyroomlaw11_HistPuts.calls (A0 : Option Addr) (c0 : Nat) (l0 : List Int) (A1 : Option Addr) (c1 : Nat) (l1 : List Int) (x : Int) (A3 : Option Addr) (c3 : Nat) (l3 : List Int) (r : Bool) (w : World) (hr0 : Kd.C (Kd.int .u64) w A0 l0.length l0) (_hc0 : l0.length ≤ c0) (hr1 : Kd.C (Kd.int .u64) w A1 l1.length l1) (_hc1 : l1.length ≤ c1) (hr3 : Kd.C (Kd.int .u64) w A3 l3.length l3) (_hc3 : l3.length ≤ c3) (h : tallyroomlaw11_HistPuts.f l0 l1 x l3 = some r) :
    Calls Try.prog 14 #[.slice A0 l0.length c0, .slice A1 l1.length c1, .int .u8 x, .slice A3 l3.length c3] w fun y w' => y = .returned (.bool r) ∧ Below w.heap.size w w' := by
  unfold tallyroomlaw11_HistPuts.f at h
  by_cases hb : ((∀ x ∈ l0, 0 ≤ x ∧ x ≤ (18446744073709551615 : Nat)) ∧ (∀ x ∈ l1, 0 ≤ x ∧ x ≤ (18446744073709551615 : Nat)) ∧ ∀ x ∈ l3, 0 ≤ x ∧ x ≤ (18446744073709551615 : Nat)) ∧ 0 ≤ x ∧ x ≤ 255
  · rw [if_pos hb] at h
    obtain rfl := Option.some.inj h
    obtain ⟨⟨b0, b1, b3⟩, hx0, hx1⟩ := hb
    obtain ⟨n0, rfl, h0⟩ := Go.Proofs.Ytdcbhakclhbdpaa.Hi.ofN_of l0 _ b0
    obtain ⟨n1, rfl, h1⟩ := Go.Proofs.Ytdcbhakclhbdpaa.Hi.ofN_of l1 _ b1
    obtain ⟨n3, rfl, h3⟩ := Go.Proofs.Ytdcbhakclhbdpaa.Hi.ofN_of l3 _ b3
    obtain ⟨q, rfl⟩ := Int.eq_ofNat_of_zero_le hx0
    exact Go.Proofs.Ytdcbhakclhbdpaa.Hi.puts_law w A0 A1 A3 _ c0 _ c1 _ c3 n0 n1 n3 q hr0 (Go.Proofs.Ytdcbhakclhbdpaa.Hi.ofN_length _) _hc0 hr1 (Go.Proofs.Ytdcbhakclhbdpaa.Hi.ofN_length _) _hc1 hr3 (Go.Proofs.Ytdcbhakclhbdpaa.Hi.ofN_length _) _hc3 (fun y hy => Nat.lt_succ_of_le (h1 y hy)) (by omega)
  · rw [if_neg hb] at h; cases h

end Go.Proofs.Ytdcbhakclhbdpaa.XHPuts
