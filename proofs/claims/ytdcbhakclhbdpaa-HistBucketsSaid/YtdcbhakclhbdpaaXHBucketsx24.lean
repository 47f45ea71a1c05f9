-- Made by a program of this session (xprint.py), over the translation; Lean checks it.
import Derived.Test.YtdcbhakclhbdpaaXHBucketsx0
namespace Go.Proofs.Ytdcbhakclhbdpaa.XHBuckets
open Go.RowKit Go.Proofs.YtdcbhakclhbdpaaW.PrintWords Go.Proofs.YtdcbhakclhbdpaaW.PrintLast Go.Proofs.YtdcbhakclhbdpaaW.PrintMore
attribute [local go_sem] max2_int min2_int max_two min_two max_three min_three max_four min_four   -- for this text's walks alone
set_option linter.unusedVariables false
set_option linter.unusedSimpArgs false

/-! ### tallyroomlaw11_HistBuckets: function 12 -/
def tallyroomlaw11_HistBuckets.f (l0 : List Int) (x : Int) : Option Bool := if (∀ x ∈ l0, 0 ≤ x ∧ x ≤ (18446744073709551615 : Nat)) ∧ 0 ≤ x ∧ x ≤ 18446744073709551615 then some true else none
theorem tallyroomlaw11_HistBuckets.calls (A0 : Option Addr) (c0 : Nat) (l0 : List Int) (x : Int) (r : Bool) (w : World) (hr0 : Kd.C (Kd.int .u64) w A0 l0.length l0) (_hc0 : l0.length ≤ c0) (h : tallyroomlaw11_HistBuckets.f l0 x = some r) :
    Calls Try.prog 12 #[.slice A0 l0.length c0, .int .u64 x] w fun y w' => y = .returned (.bool r) ∧ Below w.heap.size w w' := by
  unfold tallyroomlaw11_HistBuckets.f at h
  by_cases hb : (∀ x ∈ l0, 0 ≤ x ∧ x ≤ (18446744073709551615 : Nat)) ∧ 0 ≤ x ∧ x ≤ 18446744073709551615
  · rw [if_pos hb] at h
    obtain rfl := Option.some.inj h
    obtain ⟨b0, hx0, hx1⟩ := hb
    obtain ⟨n0, rfl, h0⟩ := Go.Proofs.Ytdcbhakclhbdpaa.Hi.ofN_of l0 _ b0
    obtain ⟨q, rfl⟩ := Int.eq_ofNat_of_zero_le hx0
    exact Go.Proofs.Ytdcbhakclhbdpaa.Hi.buckets_law w A0 _ c0 n0 q hr0 (Go.Proofs.Ytdcbhakclhbdpaa.Hi.ofN_length _) _hc0 (by omega)
  · rw [if_neg hb] at h; cases h

end Go.Proofs.Ytdcbhakclhbdpaa.XHBuckets
