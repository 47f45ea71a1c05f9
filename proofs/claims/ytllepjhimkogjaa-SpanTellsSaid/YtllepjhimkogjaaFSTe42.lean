/- The law's proof, part 42: the text ArgSpanTells of this session, or words printed for this seat; what the theorem doesn't use is left out. No conditions. -/
import Derived.Test.YtllepjhimkogjaaFSTe40
import Derived.Test.YtllepjhimkogjaaFSTe41
namespace Go.Proofs.Ytllepjhimkogjaa.Opens
end Go.Proofs.Ytllepjhimkogjaa.Opens
namespace Go.Proofs.YtllepjhimkogjaaW.PrintLast
end Go.Proofs.YtllepjhimkogjaaW.PrintLast
namespace Go.Proofs.YtllepjhimkogjaaW.PrintWords
end Go.Proofs.YtllepjhimkogjaaW.PrintWords
namespace Go.Proofs.Ytllepjhimkogjaa.XSTe
open Go.RowKit Go.Proofs.YtllepjhimkogjaaW.PrintWords Go.Proofs.YtllepjhimkogjaaW.PrintLast Go.Proofs.Ytllepjhimkogjaa.Opens
set_option linter.unusedVariables false
def wf61 (x : S61) : Prop := (fun n : Int => (Lit.int .i64 n).wf = true) x.f0 ∧ (fun n : Int => (Lit.int .i64 n).wf = true) x.f1 ∧ (fun s : ByteArray => s.size ≤ maxLen) x.f2
theorem opens61 : Opens Try.prog k61 61 wf61 := ⟨by kernel_rfl, fun H enc w fuel cs x h => by
  obtain ⟨xs, n, _, _, hl, hxl, hf⟩ := DataW.trod_struct Try.underlying61 h
  have hn : xs.length = 3 := hxl.trans (by decide)
  rw [show Try.prog.cellsOf 61 = 3 from by kernel_rfl] at hl
  obtain ⟨a0, h0, w0⟩ := opens_field (o := 0) (i := 0) (opens_int Try.underlying3 (by kernel_rfl)) (by rw [hn]; decide) (hf 0 _ rfl)
  obtain ⟨a1, h1, w1⟩ := opens_field (o := 1) (i := 1) (opens_int Try.underlying2 (by kernel_rfl)) (by rw [hn]; decide) (hf 1 _ rfl)
  obtain ⟨a2, h2, w2⟩ := opens_field (o := 2) (i := 2) (opens_string Try.underlying9 (by kernel_rfl)) (by rw [hn]; decide) (hf 2 _ rfl)
  have hK := (pair_take h0 rfl (pair_take h1 rfl (last_take h2 hl)))
  rw [List.drop_zero] at hK
  exact ⟨⟨a0, a1, a2⟩, hK, w0, w1, w2⟩⟩
def wf63 (x : S63) : Prop := (fun s : ByteArray => s.size ≤ maxLen) x.f0 ∧ wf61 x.f1
theorem opens63 : Opens Try.prog k63 63 wf63 := ⟨by kernel_rfl, fun H enc w fuel cs x h => by
  obtain ⟨xs, n, _, _, hl, hxl, hf⟩ := DataW.trod_struct Try.underlying63 h
  have hn : xs.length = 2 := hxl.trans (by decide)
  rw [show Try.prog.cellsOf 63 = 4 from by kernel_rfl] at hl
  obtain ⟨a0, h0, w0⟩ := opens_field (o := 0) (i := 0) (opens_string Try.underlying9 (by kernel_rfl)) (by rw [hn]; decide) (hf 0 _ rfl)
  obtain ⟨a1, h1, w1⟩ := opens_field (o := 1) (i := 1) opens61 (by rw [hn]; decide) (hf 1 _ rfl)
  have hK := (pair_take h0 rfl (last_take h1 hl))
  rw [List.drop_zero] at hK
  exact ⟨⟨a0, a1⟩, hK, w0, w1⟩⟩
def wf37 (x : S37) : Prop := (fun n : Int => (Lit.int .u64 n).wf = true) x.f0 ∧ (fun n : Int => (Lit.int .u64 n).wf = true) x.f1 ∧ (fun n : Int => (Lit.int .u64 n).wf = true) x.f2 ∧ (fun s : ByteArray => s.size ≤ maxLen) x.f3 ∧ (fun s : ByteArray => s.size ≤ maxLen) x.f4 ∧ (fun n : Int => (Lit.int .i64 n).wf = true) x.f5 ∧ (fun n : Int => (Lit.int .i64 n).wf = true) x.f6 ∧ (fun n : Int => (Lit.int .u64 n).wf = true) x.f7 ∧ (fun n : Int => (Lit.int .u64 n).wf = true) x.f8 ∧ (fun l : List (S63) => l.length ≤ maxLen ∧ ∀ x ∈ l, wf63 x) x.f9
theorem opens37 : Opens Try.prog k37 37 wf37 := ⟨by kernel_rfl, fun H enc w fuel cs x h => by
  obtain ⟨xs, n, _, _, hl, hxl, hf⟩ := DataW.trod_struct Try.underlying37 h
  have hn : xs.length = 10 := hxl.trans (by decide)
  rw [show Try.prog.cellsOf 37 = 10 from by kernel_rfl] at hl
  obtain ⟨a0, h0, w0⟩ := opens_field (o := 0) (i := 0) (opens_int Try.underlying22 (by kernel_rfl)) (by rw [hn]; decide) (hf 0 _ rfl)
  obtain ⟨a1, h1, w1⟩ := opens_field (o := 1) (i := 1) (opens_int Try.underlying22 (by kernel_rfl)) (by rw [hn]; decide) (hf 1 _ rfl)
  obtain ⟨a2, h2, w2⟩ := opens_field (o := 2) (i := 2) (opens_int Try.underlying22 (by kernel_rfl)) (by rw [hn]; decide) (hf 2 _ rfl)
  obtain ⟨a3, h3, w3⟩ := opens_field (o := 3) (i := 3) (opens_string Try.underlying9 (by kernel_rfl)) (by rw [hn]; decide) (hf 3 _ rfl)
  obtain ⟨a4, h4, w4⟩ := opens_field (o := 4) (i := 4) (opens_string Try.underlying9 (by kernel_rfl)) (by rw [hn]; decide) (hf 4 _ rfl)
  obtain ⟨a5, h5, w5⟩ := opens_field (o := 5) (i := 5) (opens_int Try.underlying3 (by kernel_rfl)) (by rw [hn]; decide) (hf 5 _ rfl)
  obtain ⟨a6, h6, w6⟩ := opens_field (o := 6) (i := 6) (opens_int Try.underlying3 (by kernel_rfl)) (by rw [hn]; decide) (hf 6 _ rfl)
  obtain ⟨a7, h7, w7⟩ := opens_field (o := 7) (i := 7) (opens_int Try.underlying22 (by kernel_rfl)) (by rw [hn]; decide) (hf 7 _ rfl)
  obtain ⟨a8, h8, w8⟩ := opens_field (o := 8) (i := 8) (opens_int Try.underlying22 (by kernel_rfl)) (by rw [hn]; decide) (hf 8 _ rfl)
  obtain ⟨a9, h9, w9⟩ := opens_field (o := 9) (i := 9) (opens_slice Try.underlying35 (by kernel_rfl) opens63) (by rw [hn]; decide) (hf 9 _ rfl)
  have hK := (pair_take h0 rfl (pair_take h1 rfl (pair_take h2 rfl (pair_take h3 rfl (pair_take h4 rfl (pair_take h5 rfl (pair_take h6 rfl (pair_take h7 rfl (pair_take h8 rfl (last_take h9 hl))))))))))
  rw [List.drop_zero] at hK
  exact ⟨⟨a0, a1, a2, a3, a4, a5, a6, a7, a8, a9⟩, hK, w0, w1, w2, w3, w4, w5, w6, w7, w8, w9⟩⟩
def tallyroomlaw06_SpanTells.Pure2 : Prop := ∀ (s0 : S37) (a1 : Int) (a2 : ByteArray), wf37 s0 → (fun n : Int => (Lit.int .i64 n).wf = true) a1 → (fun s : ByteArray => s.size ≤ maxLen) a2 → tallyroomlaw06_SpanTells.f s0.f0 s0.f1 s0.f2 s0.f3 s0.f4 s0.f5 s0.f6 s0.f7 s0.f8 s0.f9 a1 a2 = some true
end Go.Proofs.Ytllepjhimkogjaa.XSTe
