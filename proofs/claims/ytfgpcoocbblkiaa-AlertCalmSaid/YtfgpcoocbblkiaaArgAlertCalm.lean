/- What the law AlertCalm is handed, as data, and its pure statement: by a program of this session (xprint.py). -/
import Derived.Test.YtfgpcoocbblkiaaXACalmx0
import Derived.Test.YtfgpcoocbblkiaaXACalmx10
import Derived.Test.YtfgpcoocbblkiaaOpens
namespace Go.Proofs.Ytfgpcoocbblkiaa.XACalm
open Go.RowKit Go.Proofs.YtfgpcoocbblkiaaW.PrintWords Go.Proofs.YtfgpcoocbblkiaaW.PrintLast Go.Proofs.Ytfgpcoocbblkiaa.Opens
set_option linter.unusedVariables false
def wf58 (x : S58) : Prop := (fun s : ByteArray => s.size ≤ maxLen) x.f0 ∧ (fun n : Int => (Lit.int .i64 n).wf = true) x.f1 ∧ (fun n : Int => (Lit.int .i64 n).wf = true) x.f2 ∧ (fun n : Int => (Lit.int .i64 n).wf = true) x.f3
theorem opens58 : Opens Try.prog k58 58 wf58 := ⟨by kernel_rfl, fun H enc w fuel cs x h => by
  obtain ⟨xs, n, _, _, hl, hxl, hf⟩ := DataW.trod_struct Try.underlying58 h
  have hn : xs.length = 4 := hxl.trans (by decide)
  rw [show Try.prog.cellsOf 58 = 4 from by kernel_rfl] at hl
  obtain ⟨a0, h0, w0⟩ := opens_field (o := 0) (i := 0) (opens_string Try.underlying9 (by kernel_rfl)) (by rw [hn]; decide) (hf 0 _ rfl)
  obtain ⟨a1, h1, w1⟩ := opens_field (o := 1) (i := 1) (opens_int Try.underlying3 (by kernel_rfl)) (by rw [hn]; decide) (hf 1 _ rfl)
  obtain ⟨a2, h2, w2⟩ := opens_field (o := 2) (i := 2) (opens_int Try.underlying3 (by kernel_rfl)) (by rw [hn]; decide) (hf 2 _ rfl)
  obtain ⟨a3, h3, w3⟩ := opens_field (o := 3) (i := 3) (opens_int Try.underlying3 (by kernel_rfl)) (by rw [hn]; decide) (hf 3 _ rfl)
  have hK := (pair_take h0 rfl (pair_take h1 rfl (pair_take h2 rfl (last_take h3 hl))))
  rw [List.drop_zero] at hK
  exact ⟨⟨a0, a1, a2, a3⟩, hK, w0, w1, w2, w3⟩⟩
def wf69 (x : S69) : Prop := (fun n : Int => (Lit.int .u64 n).wf = true) x.f0 ∧ (fun n : Int => (Lit.int .u64 n).wf = true) x.f1 ∧ (fun n : Int => (Lit.int .u64 n).wf = true) x.f2
theorem opens69 : Opens Try.prog k69 69 wf69 := ⟨by kernel_rfl, fun H enc w fuel cs x h => by
  obtain ⟨xs, n, _, _, hl, hxl, hf⟩ := DataW.trod_struct Try.underlying69 h
  have hn : xs.length = 3 := hxl.trans (by decide)
  rw [show Try.prog.cellsOf 69 = 3 from by kernel_rfl] at hl
  obtain ⟨a0, h0, w0⟩ := opens_field (o := 0) (i := 0) (opens_int Try.underlying47 (by kernel_rfl)) (by rw [hn]; decide) (hf 0 _ rfl)
  obtain ⟨a1, h1, w1⟩ := opens_field (o := 1) (i := 1) (opens_int Try.underlying47 (by kernel_rfl)) (by rw [hn]; decide) (hf 1 _ rfl)
  obtain ⟨a2, h2, w2⟩ := opens_field (o := 2) (i := 2) (opens_int Try.underlying47 (by kernel_rfl)) (by rw [hn]; decide) (hf 2 _ rfl)
  have hK := (pair_take h0 rfl (pair_take h1 rfl (last_take h2 hl)))
  rw [List.drop_zero] at hK
  exact ⟨⟨a0, a1, a2⟩, hK, w0, w1, w2⟩⟩
def tallyroomlaw35_AlertCalm.Pure2 : Prop := ∀ (s0 : S58) (l1 : List (S69)), wf58 s0 → (fun l : List (S69) => l.length ≤ maxLen ∧ ∀ x ∈ l, wf69 x) l1 → tallyroomlaw35_AlertCalm.f s0.f0 s0.f1 s0.f2 s0.f3 l1 = some true
end Go.Proofs.Ytfgpcoocbblkiaa.XACalm
