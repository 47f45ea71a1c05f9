-- Made by a program of this session (xprint.py), over the translation; Lean checks it.
import Derived.Test.YtbfmmjdbnbfnmaaXHx0
namespace Go.Proofs.Ytbfmmjdbnbfnmaa.XH
open Go.RowKit Go.Proofs.YtbfmmjdbnbfnmaaW.PrintWords Go.Proofs.YtbfmmjdbnbfnmaaW.PrintLast Go.Proofs.YtbfmmjdbnbfnmaaW.PrintMore
attribute [local go_sem] max2_int min2_int max_two min_two max_three min_three max_four min_four   -- for this text's walks alone
set_option linter.unusedVariables false
set_option linter.unusedSimpArgs false

/-! ### crc_half: function 40 -/
def halfT : List Int := [0, 498536548, 997073096, 651767980, 1994146192, 1802195444, 1303535960, 1342533948, 3988292384, 4027552580, 3604390888, 3412177804, 2607071920, 2262029012, 2685067896, 3183342108]
def crc_half.f (a0 : Int) : Option Int := if 0 ≤ a0 then (if a0 ≤ 4294967295 then some (Go.bits .xor .u32 (rd halfT (a0 % 16)) (a0 / 16)) else none) else none
theorem and15 (n : Int) (h : 0 ≤ n ∧ n ≤ 4294967295) : Go.bits .and .u32 n 15 = n % 16 := by
  exact bits_mask .u32 32 (by decide) (fun n h0 h1 => by rw [IntKind.wrap_u32]; omega) 4 (by decide) n (by omega) (by omega)
set_option maxHeartbeats 8000000 in
set_option maxRecDepth 100000 in
theorem crc_half.calls (a0 : Int) (r : Int) (w : World) (h : crc_half.f a0 = some r) :
    Calls Try.prog 40 #[.int .u32 a0] w fun e w' => e = .returned (.int .u32 r) ∧ Below w.heap.size w w' := by
  unfold crc_half.f at h
  by_cases h0 : 0 ≤ a0
  · by_cases h1 : a0 ≤ 4294967295
    · rw [if_pos h0, if_pos h1] at h
      obtain rfl := Option.some.inj h
      have hj : ∃ j : Int, a0 % 16 = j ∧ 0 ≤ j ∧ j ≤ 15 := ⟨_, rfl, by omega, by omega⟩
      obtain ⟨j, hj, hj0, hj1⟩ := hj
      have hand := and15 a0 ⟨h0, h1⟩
      rw [hj] at hand ⊢
      have hH := Aside0.mk hj
      clear hj h
      have hq0 : 0 ≤ a0 / 16 := by omega
      have hq1 : a0 / 16 ≤ 268435455 := by omega
      have hc : j = 0 ∨ j = 1 ∨ j = 2 ∨ j = 3 ∨ j = 4 ∨ j = 5 ∨ j = 6 ∨ j = 7 ∨ j = 8 ∨ j = 9 ∨ j = 10 ∨ j = 11 ∨ j = 12 ∨ j = 13 ∨ j = 14 ∨ j = 15 := by omega
      rcases hc with rfl | rfl | rfl | rfl | rfl | rfl | rfl | rfl | rfl | rfl | rfl | rfl | rfl | rfl | rfl | rfl
      all_goals
        go_enter Try.func40, Try.ntmps40
        go_wp2
        go_ret
        exact ⟨rfl, (Below.refl _ _).alloc (Nat.le_refl _) _⟩
    · rw [if_pos h0, if_neg h1] at h; cases h
  · rw [if_neg h0] at h; cases h

end Go.Proofs.Ytbfmmjdbnbfnmaa.XH
