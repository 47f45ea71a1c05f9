/- Whole numbers that came in, as natural ones. No conditions. -/
import Derived.Test.YtdcbhakclhbdpaaHb
namespace Go.Proofs.Ytdcbhakclhbdpaa.Hi
theorem ofN_of (l : List Int) (B : Nat) (h : ∀ x ∈ l, 0 ≤ x ∧ x ≤ B) : ∃ ns : List Nat, l = ofN ns ∧ ∀ n ∈ ns, n ≤ B := by
  refine ⟨l.map Int.toNat, ?_, ?_⟩
  · unfold ofN
    rw [List.map_map]
    conv => lhs; rw [← List.map_id l]
    exact List.map_congr_left fun x hx => (Int.toNat_of_nonneg (h x hx).1).symm
  · intro n hn
    obtain ⟨x, hx, rfl⟩ := List.mem_map.1 hn
    have := h x hx
    omega
theorem u8_wf {x : Int} (h : (Lit.int .u8 x).wf = true) : 0 ≤ x ∧ x ≤ 255 := by
  simpa [Lit.wf, IntKind.min, IntKind.max, IntKind.signed, IntKind.bits] using h
theorem u16_wf {x : Int} (h : (Lit.int .u16 x).wf = true) : 0 ≤ x ∧ x ≤ 65535 := by
  simpa [Lit.wf, IntKind.min, IntKind.max, IntKind.signed, IntKind.bits] using h
theorem u64_wf {x : Int} (h : (Lit.int .u64 x).wf = true) : 0 ≤ x ∧ x ≤ 18446744073709551615 := by
  simpa [Lit.wf, IntKind.min, IntKind.max, IntKind.signed, IntKind.bits] using h
theorem i64_wf {x : Int} (h : (Lit.int .i64 x).wf = true) : -9223372036854775808 ≤ x ∧ x ≤ 9223372036854775807 := by
  simpa [Lit.wf, IntKind.min, IntKind.max, IntKind.signed, IntKind.bits] using h
end Go.Proofs.Ytdcbhakclhbdpaa.Hi
