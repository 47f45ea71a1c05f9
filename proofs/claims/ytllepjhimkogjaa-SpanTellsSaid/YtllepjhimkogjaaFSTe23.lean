/- The law's proof, part 23: the text An of this session, or words printed for this seat; what the theorem doesn't use is left out. No conditions. -/
import Derived.Test.YtllepjhimkogjaaProg
import Derived.WalkKit
import Derived.Deep.LoopGhost
namespace Go.Proofs.Ytllepjhimkogjaa.An
open Go.RowKit
set_option linter.unusedSimpArgs false
set_option linter.unusedVariables false
set_option maxHeartbeats 4000000 in
set_option maxRecDepth 1000000 in
theorem attrs_none (w : World) (A : Option Addr) (c : Nat) : Calls Try.prog 64 #[.slice A 0 c] w fun e w' => e = .returned (.bool true) ∧ w = w' := by
  go_enter Try.func64, Try.ntmps64
  go_wp2
  refine wp_loop_rounds 1 ?_
  rw [rounds_succ]
  go_wp2
  go_ret
  exact ⟨rfl, rfl⟩
end Go.Proofs.Ytllepjhimkogjaa.An
