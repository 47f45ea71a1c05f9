/- QuantMeans: means and shares of any rows. No conditions. -/
import Derived.Test.YtdcbhakclhbdpaaPQuantMeansx2
import Derived.IntWalk
namespace Go.Proofs.Ytdcbhakclhbdpaa.Pure
open Go.RowKit Go.Proofs.Ytdcbhakclhbdpaa.PQuantMeans Go.Proofs.YtdcbhakclhbdpaaW.PrintWords Go.Proofs.YtdcbhakclhbdpaaW.PrintLast

namespace QuantMeansP
theorem u64_wf {x : Int} (h : (Lit.int .u64 x).wf = true) : 0 ≤ x ∧ x ≤ 18446744073709551615 := by
  simpa [Lit.wf, IntKind.min, IntKind.max, IntKind.signed, IntKind.bits] using h
theorem alive_ok : tallyroomlaw32_alive.f 10 = some true := by decide +kernel
end QuantMeansP

open QuantMeansP in
theorem QuantMeans : tallyroomlaw32_QuantMeans.Pure := by
  intro a b c ha hb hc
  have ha := u64_wf ha
  have hb := u64_wf hb
  have hc := u64_wf hc
  refine ⟨10, ?_⟩
  unfold tallyroomlaw32_QuantMeans.f quant_Mean.f quant_Share.f
  rw [alive_ok]
  simp only [Option.bind_some, if_true]
  by_cases h0 : a = 0
  · subst h0
    simp
  · rw [if_neg h0, if_neg h0]
    simp only [Option.bind_some]
    by_cases h1 : b > a
    · simp [h0, h1, tallyroomlaw32_QuantMeans.j0]
    · by_cases h2 : a > 1099511627776
      · simp [h0, h1, h2, tallyroomlaw32_QuantMeans.j0]
      · rw [if_neg h1, if_neg h2]
        simp only [Option.bind_some]
        rw [if_neg h0, if_pos trivial]
        have e1 : IntKind.u64.wrap (1000 * b) = 1000 * b := IntWalk.u64_in _ (by omega)
        have e2 : IntKind.u64.wrap (Int.tdiv (1000 * b) a) = 1000 * b / a := IntWalk.u64_quo _ _ (by omega)
        have hq0 : 0 ≤ 1000 * b / a := Int.ediv_nonneg (by omega) (by omega)
        have hq1 : 1000 * b / a ≤ 1000 := by
          have : 1000 * b / a ≤ 1000 * a / a := Int.ediv_le_ediv (by omega) (by omega)
          rwa [Int.mul_ediv_cancel _ h0] at this
        have e3 : wrap64 (1000 * b / a) = 1000 * b / a := IntWalk.wrap64_in _ (by omega)
        have e4 : IntKind.u64.wrap (1000 * b / a) = 1000 * b / a := IntWalk.u64_in _ (by omega)
        have e5 : IntKind.u64.wrap (1000 * b / a + 1) = 1000 * b / a + 1 := IntWalk.u64_in _ (by omega)
        have hle : 1000 * b / a * a ≤ 1000 * b := Int.ediv_mul_le _ h0
        have hlt : 1000 * b < (1000 * b / a + 1) * a := Int.lt_ediv_add_one_mul_self _ (by omega)
        have hm : (1000 * b / a + 1) * a ≤ 1001 * a := Int.mul_le_mul_of_nonneg_right (by omega) (by omega)
        have hn : 0 ≤ 1000 * b / a * a := Int.mul_nonneg hq0 (by omega)
        have e6 : IntKind.u64.wrap (1000 * b / a * a) = 1000 * b / a * a := IntWalk.u64_in _ (by omega)
        have e7 : IntKind.u64.wrap ((1000 * b / a + 1) * a) = (1000 * b / a + 1) * a := IntWalk.u64_in _ (by omega)
        simp only [tallyroomlaw32_QuantMeans.j0, e1, e2, e3, e4, e5, e6, e7]
        rw [if_neg (by simp), if_neg h1, if_neg h2, if_pos trivial, if_pos hle]
        simp only [gt_iff_lt, hlt, decide_true]

end Go.Proofs.Ytdcbhakclhbdpaa.Pure
