/- What the law WmarkPlays is handed, as data, and its pure statement: by a program of this session (xprint.py). -/
import Derived.Test.YtgpkihnihmbomaaXWlx0
import Derived.Test.YtgpkihnihmbomaaXWlx15
import Derived.Test.YtgpkihnihmbomaaOpens
namespace Go.Proofs.Ytgpkihnihmbomaa.XWl
open Go.RowKit Go.Proofs.YtgpkihnihmbomaaW.PrintWords Go.Proofs.YtgpkihnihmbomaaW.PrintLast Go.Proofs.Ytgpkihnihmbomaa.Opens
set_option linter.unusedVariables false
def wf80 (x : S80) : Prop := (fun n : Int => (Lit.int .i64 n).wf = true) x.f0 ∧ (fun n : Int => (Lit.int .u64 n).wf = true) x.f1
theorem opens80 : Opens Try.prog k80 80 wf80 := ⟨by kernel_rfl, fun H enc w fuel cs x h => by
  obtain ⟨xs, n, _, _, hl, hxl, hf⟩ := DataW.trod_struct Try.underlying80 h
  have hn : xs.length = 2 := hxl.trans (by decide)
  rw [show Try.prog.cellsOf 80 = 2 from by kernel_rfl] at hl
  obtain ⟨a0, h0, w0⟩ := opens_field (o := 0) (i := 0) (opens_int Try.underlying3 (by kernel_rfl)) (by rw [hn]; decide) (hf 0 _ rfl)
  obtain ⟨a1, h1, w1⟩ := opens_field (o := 1) (i := 1) (opens_int Try.underlying22 (by kernel_rfl)) (by rw [hn]; decide) (hf 1 _ rfl)
  have hK := (pair_take h0 rfl (last_take h1 hl))
  rw [List.drop_zero] at hK
  exact ⟨⟨a0, a1⟩, hK, w0, w1⟩⟩
def tallyroomlaw13_WmarkPlays.Pure2 : Prop := ∀ (a0 : Int) (a1 : Int) (a2 : Int) (l3 : List (S80)), (fun n : Int => (Lit.int .i64 n).wf = true) a0 → (fun n : Int => (Lit.int .u64 n).wf = true) a1 → (fun n : Int => (Lit.int .u64 n).wf = true) a2 → (fun l : List (S80) => l.length ≤ maxLen ∧ ∀ x ∈ l, wf80 x) l3 → tallyroomlaw13_WmarkPlays.f a0 a1 a2 l3 = some true
end Go.Proofs.Ytgpkihnihmbomaa.XWl
