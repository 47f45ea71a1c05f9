-- Made by a program of this session (xprint.py), over the translation; Lean checks it.
import Derived.Test.YtdcbhakclhbdpaaXHx0
namespace Go.Proofs.Ytdcbhakclhbdpaa.XH
open Go.RowKit Go.Proofs.YtdcbhakclhbdpaaW.PrintWords Go.Proofs.YtdcbhakclhbdpaaW.PrintLast Go.Proofs.YtdcbhakclhbdpaaW.PrintMore
attribute [local go_sem] max2_int min2_int max_two min_two max_three min_three max_four min_four   -- for this text's walks alone
set_option linter.unusedVariables false
set_option linter.unusedSimpArgs false

/-! ### tallyroomref10_Sum: function 19 -/
def tallyroomref10_Sum.l0 : Nat → List Int → Int → Int → Int → Option (Int × Bool)
  | 0, _, _, _, _ => none
  | k + 1, l, hi, lo, i => if i < (l.length : Int) then (if 0 ≤ i then (if 0 ≤ lo then (if 0 ≤ rd l i then (tallyroomref10_Sum.l0 k l (IntKind.u64.wrap (hi + (lo + rd l i) / 18446744073709551616)) ((lo + rd l i) % 18446744073709551616) (wrap64 (i + 1))) else none) else none) else none) else (if hi > 0 then (some (9223372036854775807, true)) else (if lo > 9223372036854775807 then (some (9223372036854775807, true)) else (some (lo, false))))
theorem tallyroomref10_Sum.mono_l : ∀ k l hi lo i, LeO (tallyroomref10_Sum.l0 k l hi lo i) (tallyroomref10_Sum.l0 (k + 1) l hi lo i) := by
  intro k
  induction k with
  | zero => intro l hi lo i; exact LeO.none _
  | succ k ih =>
    intro l hi lo i
    rw [tallyroomref10_Sum.l0, tallyroomref10_Sum.l0]
    repeat' first
      | (with_reducible exact ih _ _ _ _)
      | (with_reducible exact LeO.refl _)
      | (with_reducible refine LeO.ite ?_ ?_)
def tallyroomref10_Sum.f (k : Nat) (l : List Int) : Option (Int × Bool) := tallyroomref10_Sum.l0 k l 0 0 0
theorem tallyroomref10_Sum.mono : ∀ a0 k, LeO (tallyroomref10_Sum.f k a0) (tallyroomref10_Sum.f (k + 1) a0) := fun a0 k => tallyroomref10_Sum.mono_l k a0 0 0 0
theorem tallyroomref10_Sum.add (w : World) (x y : Int) (hx : 0 ≤ x) (hy : 0 ≤ y) : (callFunc 43 #[.int .u64 x, .int .u64 y, .int .u64 0]).run Try.prog w =
    .ok (.value (.tuple #[.int .u64 ((x + y) % 18446744073709551616), .int .u64 ((x + y) / 18446744073709551616)])) w := by
  rw [run_callFunc_extern Try.func43 (by kernel_rfl) (by kernel_rfl) (by kernel_rfl) (e := add64Entry) (by kernel_rfl), run_add64 x y 0 hx hy (by omega) (by omega), Int.add_zero]
  rfl
set_option maxHeartbeats 8000000 in
set_option maxRecDepth 100000 in
theorem tallyroomref10_Sum.calls (k : Nat) (A0 : Option Addr) (c0 : Nat) (l0 : List Int) (r1 : Int) (r2 : Bool) (w : World) (hr0 : Kd.C (Kd.int .u64) w A0 l0.length l0) (hc0 : l0.length ≤ c0) (h : tallyroomref10_Sum.f k l0 = some (r1, r2)) :
    Calls Try.prog 19 #[.slice A0 l0.length c0] w fun e w' => e = .returned (.tuple #[.int .u64 r1, .bool r2]) ∧ Below w.heap.size w w' := by
  have HR0 := Aside0.mk hr0
  have HC0 := Aside0.mk hc0
  clear hr0 hc0
  have H' := Aside0.mk (show tallyroomref10_Sum.l0 k l0 0 0 0 = some (r1, r2) from h)
  clear h
  go_enter Try.func19, Try.ntmps19
  go_wp2
  go_loopg [4, 5, 6] k (fun kq v4 v5 v6 w' => ∃ (hi lo i : Int), v4 = .int .u64 hi ∧ v5 = .int .u64 lo ∧ v6 = .int .i64 i ∧ Aside0 (tallyroomref10_Sum.l0 kq l0 hi lo i = some (r1, r2)) ∧ Aside0 (kq ≤ k) ∧ Drawn0 w w')
  case atStart => exact ⟨0, 0, 0, rfl, rfl, rfl, H', ⟨Nat.le_refl _⟩, by repeat (first | exact Drawn0.refl _ | apply Drawn0.step)⟩
  case round =>
    clear H'
    obtain ⟨hi, lo, i, rfl, rfl, rfl, HA, HK1, ⟨m1, rfl⟩⟩ := hrel
    cases gk with
    | zero => exact absurd HA.out (by simp [tallyroomref10_Sum.l0])
    | succ k1 =>
      have H := HA.out
      clear HA
      simp only [tallyroomref10_Sum.l0] at H
      by_cases c3 : i < (l0.length : Int)
      · rw [if_pos c3] at H
        have c3b0 : decide (i < (l0.length : Int)) = true := decide_eq_true c3
        by_cases c4 : 0 ≤ i
        · rw [if_pos c4] at H
          have c4b0 : decide (0 ≤ i) = true := decide_eq_true c4
          by_cases c5 : 0 ≤ lo
          · rw [if_pos c5] at H
            by_cases c6 : 0 ≤ rd l0 i
            · rw [if_pos c6] at H
              have H' := Aside0.mk H
              clear H
              obtain ⟨ad101, e101, hx101_0⟩ := Kd.at_int HR0.out i c4 c3
              cases e101
              have kc := fun w : World => tallyroomref10_Sum.add w lo (rd l0 i) c5 c6
              clear c5 c6
              replace c3 := eq_true c3
              replace c4 := eq_true c4
              go_wp2
              go_roundg k1
              case measure => have := HK1.out; omega
              case rel => exact ⟨_, _, _, rfl, rfl, rfl, H', ⟨by have := HK1.out; omega⟩, by repeat (first | exact Drawn0.refl _ | apply Drawn0.step)⟩
            · rw [if_neg c6] at H; cases H
          · rw [if_neg c5] at H; cases H
        · rw [if_neg c4] at H; cases H
      · rw [if_neg c3] at H
        have c3b0 : decide (i < (l0.length : Int)) = false := decide_eq_false c3
        clear c3
        by_cases c7 : hi > 0
        · rw [if_pos c7] at H
          have c7b0 : decide (hi > 0) = true := decide_eq_true c7
          have c7b1 : decide (0 < hi) = true := decide_eq_true c7
          clear c7
          cases H
          go_wp2
          go_ret2
          exact ⟨rfl, pw_below_drewN (Below.refl w.heap.size w) _⟩
        · rw [if_neg c7] at H
          have c7b0 : decide (hi > 0) = false := decide_eq_false c7
          have c7b1 : decide (0 < hi) = false := decide_eq_false c7
          clear c7
          by_cases c8 : lo > 9223372036854775807
          · rw [if_pos c8] at H
            have c8b0 : decide (lo > 9223372036854775807) = true := decide_eq_true c8
            have c8b1 : decide (9223372036854775807 < lo) = true := decide_eq_true c8
            clear c8
            cases H
            go_wp2
            go_ret2
            exact ⟨rfl, pw_below_drewN (Below.refl w.heap.size w) _⟩
          · rw [if_neg c8] at H
            have c8b0 : decide (lo > 9223372036854775807) = false := decide_eq_false c8
            have c8b1 : decide (9223372036854775807 < lo) = false := decide_eq_false c8
            clear c8
            cases H
            go_wp2
            go_ret2
            exact ⟨rfl, pw_below_drewN (Below.refl w.heap.size w) _⟩

end Go.Proofs.Ytdcbhakclhbdpaa.XH
