/- A row whose elements lead to nothing is new if it was made new; a row is kept. No conditions. -/
import Derived.Test.YtllepjhimkogjaaWl
import Derived.Test.YtllepjhimkogjaaWKept
namespace Go.Proofs.YtllepjhimkogjaaW.PrintWords
open Go.RowKit
namespace Kd
section
variable {α : Type} {d : Kd α} {e base : Nat} {w : World} {ok : Nat → Prop} {v : Value} {xs : List α}
theorem R_fresh (hE : d.E = []) (h : d.R e w base ok v xs) : d.R e w base (fun k => base ≤ k) v xs := by
  refine R_mono (R_tight hE h) (fun k hk => ?_)
  obtain ⟨_, inner, ⟨_, ho⟩, _⟩ := h
  rcases ho with ⟨rfl, _⟩ | ⟨g, cap, cur, rfl, hg, _⟩
  · simp [Value.ownBlock] at hk
  · simp [Value.ownBlock] at hk; omega
end
section
variable {α : Type} {d : Kd α} {e base b b' g N : Nat} {ok ok1 : Nat → Prop} {W W2 w1 : World} {u v : Value} {xs ys : List α} {S : Nat → Prop}
theorem R_keptB (h : d.R e W base ok v xs) (hk : Kept W W2 S) (hne : ∀ k, ok k → ¬ S k) : d.R e W2 base (fun k => ok k ∧ (¬ S k ∧ k < W.heap.size)) v xs :=
  R_kept (R_mono (R_bound h) (fun k hk => ⟨hk.1, hne k hk.1, hk.2.2.1⟩)) hk (fun _ hk => hk.2.1)
end
end Kd
end Go.Proofs.YtllepjhimkogjaaW.PrintWords
