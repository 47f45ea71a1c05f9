/- SatSmall: small numbers are just added, and one more than the greatest is full. No conditions. -/
import Derived.Test.YtdcbhakclhbdpaaXSatSmallx3
import Derived.Test.YtdcbhakclhbdpaaPlain
import Derived.IntWalk
namespace Go.Proofs.Ytdcbhakclhbdpaa.Pure
open Go.RowKit Go.Proofs.Ytdcbhakclhbdpaa.XSatSmall Go.Proofs.YtdcbhakclhbdpaaW.PrintWords Go.Proofs.YtdcbhakclhbdpaaW.PrintLast
open Go.Proofs.Ytdcbhakclhbdpaa.Plain

namespace SatSmallP
theorem u64_wf {x : Int} (h : (Lit.int .u64 x).wf = true) : 0 ≤ x ∧ x ≤ 18446744073709551615 := by
  simpa [Lit.wf, IntKind.min, IntKind.max, IntKind.signed, IntKind.bits] using h
theorem u16_wf {x : Int} (h : (Lit.int .u16 x).wf = true) : 0 ≤ x ∧ x ≤ 65535 := by
  simpa [Lit.wf, IntKind.min, IntKind.max, IntKind.signed, IntKind.bits] using h
theorem add_small (s m : Int) (h0 : 0 ≤ s) (h1 : 0 ≤ m) (h2 : s + m ≤ 9223372036854775807) :
    sat_Count_Add.f s false m = some (s + m, false) := by
  unfold sat_Count_Add.f sat_full.f
  rw [IntWalk.u64_in (9223372036854775807 - m) (by omega), IntWalk.u64_in (s + m) (by omega)]
  simp [show ¬ m > 9223372036854775807 by omega, show ¬ s > 9223372036854775807 - m by omega]
theorem add_great (s m : Int) (h1 : 0 ≤ m) (hm : m ≤ 18446744073709551615) (h2 : s + m > 9223372036854775807) :
    sat_Count_Add.f s false m = some (9223372036854775807, true) := by
  unfold sat_Count_Add.f sat_full.f
  by_cases h : m > 9223372036854775807
  · simp [h]
  · rw [IntWalk.u64_in (9223372036854775807 - m) (by omega)]
    simp [h, show s > 9223372036854775807 - m by omega]
theorem alive_ok {k : Nat} (hk : 3 ≤ k) : tallyroomlaw10_alive.f k = some true := by
  refine at_rounds (g := fun k => tallyroomlaw10_alive.f k) (fun k => tallyroomlaw10_alive.mono k) hk ?_
  decide +kernel
theorem j1_ok (k : Nat) : tallyroomlaw10_SatSmall.j1 (k + 1) false = some true := by
  simp only [tallyroomlaw10_SatSmall.j1]
  decide +kernel
theorem loop (l : List Int) (n : Int) (hn : 0 ≤ n ∧ n ≤ 18446744073709551615) (hl : l.length ≤ 200) (hw : ∀ x ∈ l, 0 ≤ x ∧ x ≤ 65535) (d : Nat) :
    ∀ (i k : Nat) (s : Int), i + d = l.length → d + 1 < k → 0 ≤ s → s ≤ i * 65535 →
    tallyroomlaw10_SatSmall.l0 k l n s (i : Int) s false = some true := by
  induction d with
  | zero =>
    intro i k s hi hk h0 h1
    obtain ⟨k, rfl⟩ : ∃ m, k = m + 2 := ⟨k - 2, by omega⟩
    simp only [tallyroomlaw10_SatSmall.l0]
    rw [if_neg (by omega), if_neg (by simp)]
    by_cases h : n > 9223372036854775807
    · rw [add_great 0 n hn.1 hn.2 (by omega)]
      simp only [Option.bind_some]
      rw [if_neg (by simp [h]), if_pos trivial]
      exact j1_ok k
    · rw [add_small 0 n (by omega) hn.1 (by omega)]
      simp only [Option.bind_some]
      rw [if_neg (by simp [h]), if_neg (by simp)]
      have : ((0 + n != n) : Bool) = false := by simp
      rw [this]
      exact j1_ok k
  | succ d ih =>
    intro i k s hi hk h0 h1
    obtain ⟨k, rfl⟩ : ∃ m, k = m + 1 := ⟨k - 1, by omega⟩
    have hlt : i < l.length := by omega
    have h2 := hw _ (getD_mem hlt)
    have e1 : rd l (i : Int) = l.getD i 0 := by simp [rd]
    simp only [tallyroomlaw10_SatSmall.l0]
    rw [if_pos (by omega), if_pos (by omega), e1, IntWalk.u64_in (l.getD i 0) (by omega), add_small s _ h0 h2.1 (by omega)]
    simp only [Option.bind_some]
    rw [IntWalk.u64_in (s + l.getD i 0) (by omega), IntWalk.wrap64_in _ (by omega)]
    have := ih (i + 1) k (s + l.getD i 0) (by omega) (by omega) (by omega) (by omega)
    simpa using this
end SatSmallP

open SatSmallP in
theorem SatSmall : tallyroomlaw10_SatSmall.Pure := by
  intro l n _ _ hl hn
  refine ⟨l.length + 3, ?_⟩
  unfold tallyroomlaw10_SatSmall.f
  rw [alive_ok (by omega)]
  simp only [Option.bind_some, if_true]
  by_cases h : (l.length : Int) > 200
  · rw [if_pos h]
  · rw [if_neg h]
    exact loop l n (u64_wf hn) (by omega) (fun x hx => u16_wf (hl x hx)) l.length 0 (l.length + 3) 0 (by omega) (by omega) (by omega) (by omega)

end Go.Proofs.Ytdcbhakclhbdpaa.Pure
