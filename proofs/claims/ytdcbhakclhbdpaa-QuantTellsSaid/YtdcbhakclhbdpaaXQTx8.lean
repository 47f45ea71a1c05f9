-- Made by a program of this session (xprint.py), over the translation; Lean checks it.
import Derived.Test.YtdcbhakclhbdpaaXQTx0
namespace Go.Proofs.Ytdcbhakclhbdpaa.XQT
open Go.RowKit Go.Proofs.YtdcbhakclhbdpaaW.PrintWords Go.Proofs.YtdcbhakclhbdpaaW.PrintLast Go.Proofs.YtdcbhakclhbdpaaW.PrintMore
attribute [local go_sem] max2_int min2_int max_two min_two max_three min_three max_four min_four   -- for this text's walks alone
set_option linter.unusedVariables false
set_option linter.unusedSimpArgs false

/-! ### quant_Bounds: function 27 -/
def quant_Bounds.f (l0 : List Int) (a1 : Int) : Option (Int × Int × Bool) := if (∀ x ∈ l0, 0 ≤ x ∧ x ≤ (18446744073709551615 : Nat)) ∧ l0.length ≤ 1000 then some (Go.Proofs.Ytdcbhakclhbdpaa.Hi.bnds (l0.map Int.toNat) a1) else none
theorem quant_Bounds.calls (A0 : Option Addr) (c0 : Nat) (l0 : List Int) (a1 : Int) (r1 r2 : Int) (r3 : Bool) (w : World) (hr0 : Kd.C (Kd.int .u64) w A0 l0.length l0) (hc0 : l0.length ≤ c0) (h : quant_Bounds.f l0 a1 = some (r1, r2, r3)) :
    Calls Try.prog 27 #[.slice A0 l0.length c0, .int .i64 a1] w fun y w' => y = .returned (.tuple #[.int .u64 r1, .int .u64 r2, .bool r3]) ∧ Below w.heap.size w w' := by
  unfold quant_Bounds.f at h
  by_cases hb : (∀ x ∈ l0, 0 ≤ x ∧ x ≤ (18446744073709551615 : Nat)) ∧ l0.length ≤ 1000
  · rw [if_pos hb] at h
    have h := Option.some.inj h
    obtain ⟨n0, rfl, h0⟩ := Go.Proofs.Ytdcbhakclhbdpaa.Hi.ofN_of l0 _ hb.1
    rw [Go.Proofs.Ytdcbhakclhbdpaa.Hi.toNat_ofN] at h
    refine (Go.Proofs.Ytdcbhakclhbdpaa.Hi.bounds_walk w A0 _ c0 n0 a1 hr0 (Go.Proofs.Ytdcbhakclhbdpaa.Hi.ofN_length _) hc0 hb.2 r1 r2 r3 h).mono ?_
    rintro y w' ⟨rfl, ho⟩
    exact ⟨rfl, Go.Proofs.Ytdcbhakclhbdpaa.Hi.below_of ho⟩
  · rw [if_neg hb] at h; cases h

end Go.Proofs.Ytdcbhakclhbdpaa.XQT
