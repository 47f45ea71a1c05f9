/- What the law SamplerWindows is handed, as data, and its pure statement: by a program of this session (xprint.py). -/
import Derived.Test.YtgpkihnihmbomaaXSwx0
import Derived.Test.YtgpkihnihmbomaaXSwx30
import Derived.Test.YtgpkihnihmbomaaOpens
namespace Go.Proofs.Ytgpkihnihmbomaa.XSw
open Go.RowKit Go.Proofs.YtgpkihnihmbomaaW.PrintWords Go.Proofs.YtgpkihnihmbomaaW.PrintLast Go.Proofs.Ytgpkihnihmbomaa.Opens
set_option linter.unusedVariables false
def wf40 (x : S40) : Prop := (fun n : Int => (Lit.int .i64 n).wf = true) x.f0 ∧ (fun n : Int => (Lit.int .i64 n).wf = true) x.f1 ∧ (fun s : ByteArray => s.size ≤ maxLen) x.f2
theorem opens40 : Opens Try.prog k40 40 wf40 := ⟨by kernel_rfl, fun H enc w fuel cs x h => by
  obtain ⟨xs, n, _, _, hl, hxl, hf⟩ := DataW.trod_struct Try.underlying40 h
  have hn : xs.length = 3 := hxl.trans (by decide)
  rw [show Try.prog.cellsOf 40 = 3 from by kernel_rfl] at hl
  obtain ⟨a0, h0, w0⟩ := opens_field (o := 0) (i := 0) (opens_int Try.underlying3 (by kernel_rfl)) (by rw [hn]; decide) (hf 0 _ rfl)
  obtain ⟨a1, h1, w1⟩ := opens_field (o := 1) (i := 1) (opens_int Try.underlying2 (by kernel_rfl)) (by rw [hn]; decide) (hf 1 _ rfl)
  obtain ⟨a2, h2, w2⟩ := opens_field (o := 2) (i := 2) (opens_string Try.underlying9 (by kernel_rfl)) (by rw [hn]; decide) (hf 2 _ rfl)
  have hK := (pair_take h0 rfl (pair_take h1 rfl (last_take h2 hl)))
  rw [List.drop_zero] at hK
  exact ⟨⟨a0, a1, a2⟩, hK, w0, w1, w2⟩⟩
def wf120 (x : S120) : Prop := (fun s : ByteArray => s.size ≤ maxLen) x.f0 ∧ wf40 x.f1
theorem opens120 : Opens Try.prog k120 120 wf120 := ⟨by kernel_rfl, fun H enc w fuel cs x h => by
  obtain ⟨xs, n, _, _, hl, hxl, hf⟩ := DataW.trod_struct Try.underlying120 h
  have hn : xs.length = 2 := hxl.trans (by decide)
  rw [show Try.prog.cellsOf 120 = 4 from by kernel_rfl] at hl
  obtain ⟨a0, h0, w0⟩ := opens_field (o := 0) (i := 0) (opens_string Try.underlying9 (by kernel_rfl)) (by rw [hn]; decide) (hf 0 _ rfl)
  obtain ⟨a1, h1, w1⟩ := opens_field (o := 1) (i := 1) opens40 (by rw [hn]; decide) (hf 1 _ rfl)
  have hK := (pair_take h0 rfl (last_take h1 hl))
  rw [List.drop_zero] at hK
  exact ⟨⟨a0, a1⟩, hK, w0, w1⟩⟩
def wf99 (x : S99) : Prop := (fun n : Int => (Lit.int .u64 n).wf = true) x.f0 ∧ (fun n : Int => (Lit.int .u64 n).wf = true) x.f1 ∧ (fun n : Int => (Lit.int .u64 n).wf = true) x.f2 ∧ (fun s : ByteArray => s.size ≤ maxLen) x.f3 ∧ (fun s : ByteArray => s.size ≤ maxLen) x.f4 ∧ (fun n : Int => (Lit.int .i64 n).wf = true) x.f5 ∧ (fun n : Int => (Lit.int .i64 n).wf = true) x.f6 ∧ (fun n : Int => (Lit.int .u64 n).wf = true) x.f7 ∧ (fun n : Int => (Lit.int .u64 n).wf = true) x.f8 ∧ (fun l : List (S120) => l.length ≤ maxLen ∧ ∀ x ∈ l, wf120 x) x.f9
theorem opens99 : Opens Try.prog k99 99 wf99 := ⟨by kernel_rfl, fun H enc w fuel cs x h => by
  obtain ⟨xs, n, _, _, hl, hxl, hf⟩ := DataW.trod_struct Try.underlying99 h
  have hn : xs.length = 10 := hxl.trans (by decide)
  rw [show Try.prog.cellsOf 99 = 10 from by kernel_rfl] at hl
  obtain ⟨a0, h0, w0⟩ := opens_field (o := 0) (i := 0) (opens_int Try.underlying22 (by kernel_rfl)) (by rw [hn]; decide) (hf 0 _ rfl)
  obtain ⟨a1, h1, w1⟩ := opens_field (o := 1) (i := 1) (opens_int Try.underlying22 (by kernel_rfl)) (by rw [hn]; decide) (hf 1 _ rfl)
  obtain ⟨a2, h2, w2⟩ := opens_field (o := 2) (i := 2) (opens_int Try.underlying22 (by kernel_rfl)) (by rw [hn]; decide) (hf 2 _ rfl)
  obtain ⟨a3, h3, w3⟩ := opens_field (o := 3) (i := 3) (opens_string Try.underlying9 (by kernel_rfl)) (by rw [hn]; decide) (hf 3 _ rfl)
  obtain ⟨a4, h4, w4⟩ := opens_field (o := 4) (i := 4) (opens_string Try.underlying9 (by kernel_rfl)) (by rw [hn]; decide) (hf 4 _ rfl)
  obtain ⟨a5, h5, w5⟩ := opens_field (o := 5) (i := 5) (opens_int Try.underlying3 (by kernel_rfl)) (by rw [hn]; decide) (hf 5 _ rfl)
  obtain ⟨a6, h6, w6⟩ := opens_field (o := 6) (i := 6) (opens_int Try.underlying3 (by kernel_rfl)) (by rw [hn]; decide) (hf 6 _ rfl)
  obtain ⟨a7, h7, w7⟩ := opens_field (o := 7) (i := 7) (opens_int Try.underlying22 (by kernel_rfl)) (by rw [hn]; decide) (hf 7 _ rfl)
  obtain ⟨a8, h8, w8⟩ := opens_field (o := 8) (i := 8) (opens_int Try.underlying22 (by kernel_rfl)) (by rw [hn]; decide) (hf 8 _ rfl)
  obtain ⟨a9, h9, w9⟩ := opens_field (o := 9) (i := 9) (opens_slice Try.underlying97 (by kernel_rfl) opens120) (by rw [hn]; decide) (hf 9 _ rfl)
  have hK := (pair_take h0 rfl (pair_take h1 rfl (pair_take h2 rfl (pair_take h3 rfl (pair_take h4 rfl (pair_take h5 rfl (pair_take h6 rfl (pair_take h7 rfl (pair_take h8 rfl (last_take h9 hl))))))))))
  rw [List.drop_zero] at hK
  exact ⟨⟨a0, a1, a2, a3, a4, a5, a6, a7, a8, a9⟩, hK, w0, w1, w2, w3, w4, w5, w6, w7, w8, w9⟩⟩
def tallyroomlaw24_SamplerWindows.Pure2 : Prop := ∀ (l0 : List (List (S99))) (a1 : Int) (a2 : Int), (fun l : List (List (S99)) => l.length ≤ maxLen ∧ ∀ x ∈ l, (fun l : List (S99) => l.length ≤ maxLen ∧ ∀ x ∈ l, wf99 x) x) l0 → (fun n : Int => (Lit.int .u16 n).wf = true) a1 → (fun n : Int => (Lit.int .u8 n).wf = true) a2 → tallyroomlaw24_SamplerWindows.f l0 a1 a2 = some true
end Go.Proofs.Ytgpkihnihmbomaa.XSw
