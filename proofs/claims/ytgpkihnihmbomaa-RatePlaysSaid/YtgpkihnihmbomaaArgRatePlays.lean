/- What the law RatePlays is handed, as data, and its pure statement: by a program of this session (xprint.py). -/
import Derived.Test.YtgpkihnihmbomaaXRlx0
import Derived.Test.YtgpkihnihmbomaaXRlx8
import Derived.Test.YtgpkihnihmbomaaOpens
namespace Go.Proofs.Ytgpkihnihmbomaa.XRl
open Go.RowKit Go.Proofs.YtgpkihnihmbomaaW.PrintWords Go.Proofs.YtgpkihnihmbomaaW.PrintLast Go.Proofs.Ytgpkihnihmbomaa.Opens
set_option linter.unusedVariables false
def wf33 (x : S33) : Prop := (fun n : Int => (Lit.int .i64 n).wf = true) x.f0 ∧ (fun n : Int => (Lit.int .u64 n).wf = true) x.f1
theorem opens33 : Opens Try.prog k33 33 wf33 := ⟨by kernel_rfl, fun H enc w fuel cs x h => by
  obtain ⟨xs, n, _, _, hl, hxl, hf⟩ := DataW.trod_struct Try.underlying33 h
  have hn : xs.length = 2 := hxl.trans (by decide)
  rw [show Try.prog.cellsOf 33 = 2 from by kernel_rfl] at hl
  obtain ⟨a0, h0, w0⟩ := opens_field (o := 0) (i := 0) (opens_int Try.underlying3 (by kernel_rfl)) (by rw [hn]; decide) (hf 0 _ rfl)
  obtain ⟨a1, h1, w1⟩ := opens_field (o := 1) (i := 1) (opens_int Try.underlying22 (by kernel_rfl)) (by rw [hn]; decide) (hf 1 _ rfl)
  have hK := (pair_take h0 rfl (last_take h1 hl))
  rw [List.drop_zero] at hK
  exact ⟨⟨a0, a1⟩, hK, w0, w1⟩⟩
def tallyroomlaw23_RatePlays.Pure2 : Prop := ∀ (a0 : Int) (l1 : List (S33)), (fun n : Int => (Lit.int .i64 n).wf = true) a0 → (fun l : List (S33) => l.length ≤ maxLen ∧ ∀ x ∈ l, wf33 x) l1 → tallyroomlaw23_RatePlays.f a0 l1 = some true
end Go.Proofs.Ytgpkihnihmbomaa.XRl
