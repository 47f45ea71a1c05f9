/- The law's proof, part 21: the text Rt of this session, or words printed for this seat; what the theorem doesn't use is left out. No conditions. -/
import Derived.Test.YtllepjhimkogjaaFSTe7
import Derived.Test.YtllepjhimkogjaaFSTe20
namespace Go.Proofs.YtllepjhimkogjaaW.PrintWords
open Go.RowKit
namespace Kd
section
variable {α : Type} {d : Kd α} {e base : Nat} {w : World} {ok : Nat → Prop} {v : Value} {xs : List α}
theorem R_fresh (hE : d.E = []) (h : d.R e w base ok v xs) : d.R e w base (fun k => base ≤ k) v xs := by
  refine R_mono (R_tight hE h) (fun k hk => ?_)
  obtain ⟨_, inner, ⟨_, ho⟩, _⟩ := h
  rcases ho with ⟨rfl, _⟩ | ⟨g, cap, cur, rfl, hg, _⟩
  · simp [Value.ownBlock] at hk
  · simp [Value.ownBlock] at hk; omega
end
end Kd
end Go.Proofs.YtllepjhimkogjaaW.PrintWords
