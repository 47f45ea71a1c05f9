/- The law's proof, part 13: the text Al of this session, or words printed for this seat; what the theorem doesn't use is left out. No conditions. -/
import Derived.Test.YtllepjhimkogjaaProg
import Derived.Test.YtllepjhimkogjaaFSTe8
import Derived.Outline
namespace Go.Proofs.Ytllepjhimkogjaa.Ob
end Go.Proofs.Ytllepjhimkogjaa.Ob
namespace Go.Proofs.Ytllepjhimkogjaa.Al
open Go.RowKit
open Go.Proofs.Ytllepjhimkogjaa.Ob
set_option linter.unusedSimpArgs false
set_option linter.unusedVariables false
set_option maxHeartbeats 4000000 in
set_option maxRecDepth 1000000 in
theorem ins_none (w : World) (A : Option Addr) (c : Nat) : Calls Try.prog 115 #[.slice A 0 c, .int .i64 0, .int .i64 0, .func (.func 61) #[] #[]] w fun e w' => e = .returned (.tuple #[]) ∧ w = w' := by
  go_enter Try.func115, Try.ntmps115
  go_wp2
  refine wp_loop_rounds 1 ?_
  rw [rounds_succ]
  go_wp2
  go_end0
  exact ⟨rfl, rfl⟩
set_option maxHeartbeats 4000000 in
set_option maxRecDepth 1000000 in
theorem stable_none (w : World) (A : Option Addr) (c : Nat) : Calls Try.prog 91 #[.slice A 0 c, .int .i64 0, .func (.func 61) #[] #[]] w fun e w' => e = .returned (.tuple #[]) ∧ w = w' := by
  go_enter Try.func91, Try.ntmps91
  go_wp2
  refine wp_loop_rounds 1 ?_
  rw [rounds_succ]
  go_wp2_with (go_at_call 115; refine (ins_none _ A c).mono ?_; rintro e w' ⟨rfl, rfl⟩)
  refine wp_loop_rounds 1 ?_
  rw [rounds_succ]
  go_wp2
  go_end0
  exact ⟨rfl, rfl⟩
set_option maxHeartbeats 4000000 in
set_option maxRecDepth 1000000 in
theorem sort_none (w : World) (A : Option Addr) (c : Nat) : Calls Try.prog 60 #[.slice A 0 c, .func (.func 61) #[] #[]] w fun e w' => e = .returned (.tuple #[]) ∧ w = w' := by
  go_enter Try.func60, Try.ntmps60
  go_wp2_with (go_at_call 91; refine (stable_none _ A c).mono ?_; rintro e w' ⟨rfl, rfl⟩)
  go_end0
  exact ⟨rfl, rfl⟩
end Go.Proofs.Ytllepjhimkogjaa.Al
