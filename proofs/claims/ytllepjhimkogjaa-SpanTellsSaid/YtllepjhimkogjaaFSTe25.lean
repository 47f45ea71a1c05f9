/- The law's proof, part 25: the text Ov of this session, or words printed for this seat; what the theorem doesn't use is left out. No conditions. -/
import Derived.Test.YtllepjhimkogjaaFSTe24
namespace Go.Proofs.Ytllepjhimkogjaa.Ob
end Go.Proofs.Ytllepjhimkogjaa.Ob
namespace Go.Proofs.Ytllepjhimkogjaa.Two
end Go.Proofs.Ytllepjhimkogjaa.Two
namespace Go.Proofs.YtllepjhimkogjaaW.PrintLast
end Go.Proofs.YtllepjhimkogjaaW.PrintLast
namespace Go.Proofs.YtllepjhimkogjaaW.PrintMore
end Go.Proofs.YtllepjhimkogjaaW.PrintMore
namespace Go.Proofs.YtllepjhimkogjaaW.PrintWords
end Go.Proofs.YtllepjhimkogjaaW.PrintWords
namespace Go.Proofs.Ytllepjhimkogjaa.Oa
open Go.RowKit Go.Proofs.YtllepjhimkogjaaW.PrintWords Go.Proofs.YtllepjhimkogjaaW.PrintLast Go.Proofs.YtllepjhimkogjaaW.PrintMore
open Go.Proofs.Ytllepjhimkogjaa.Ob Go.Proofs.Ytllepjhimkogjaa.Two
set_option linter.unusedSimpArgs false
set_option linter.unusedVariables false
set_option maxHeartbeats 4000000 in
set_option maxRecDepth 1000000 in
theorem alive_w (w : World) : Calls Try.prog 26 #[] w fun e w' => e = .returned (.bool true) ∧ Below w.heap.size w w' := by
  have l3 := Aside0.mk lab_web
  have l4 := Aside0.mk lab_get
  go_enter Try.func26, Try.ntmps26
  go_wp2_with (first
    | (go_at_call 57; refine (one_w _).mono ?_; rintro e w2 ⟨A2, c2, rfl, hb2⟩; replace hr := Aside0.mk (hr.out.only (below_only0 hb2) id); replace HB := Aside0.mk (HB.out.trans (hb2.mono HB.out.size)); replace hb2 := Aside0.mk hb2)
    | (go_at_call 57; refine (one_w _).mono ?_; rintro e w1 ⟨A1, c1, rfl, hb1⟩; have hr := Aside0.mk (Row.new w1 [.int .u64 7, .int .u64 1, .int .u64 0, .string ⟨#[119, 101, 98]⟩, .string ⟨#[103, 101, 116]⟩, .int .i64 1, .int .i64 0, .int .u64 5, .int .u64 4, .slice A1 0 c1] 37); have HB := Aside0.mk (hb1.alloc hb1.size (.cells #[.int .u64 7, .int .u64 1, .int .u64 0, .string ⟨#[119, 101, 98]⟩, .string ⟨#[103, 101, 116]⟩, .int .i64 1, .int .i64 0, .int .u64 5, .int .u64 4, .slice A1 0 c1] 37)); replace hb1 := Aside0.mk hb1)
    | (refine wpList_load_at (by rfl) 37 _ rfl w1.heap.size 0 rfl [.int .u64 7, .int .u64 1, .int .u64 0, .string ⟨#[119, 101, 98]⟩, .string ⟨#[103, 101, 116]⟩, .int .i64 1, .int .i64 0, .int .u64 5, .int .u64 4, .slice A1 0 c1] _ (row_at0 hr.out) Try.underlying37 rfl (by kernel_rfl) ?_)
    | (go_at_call 21; refine (of_none _ _ _ _ _ _ _ _ _ _ _ _).mono ?_; rintro e w3 ⟨A3, c3, rfl, hb3⟩; replace hr := Aside0.mk (hr.out.only (below_only0 hb3) id); replace HB := Aside0.mk (HB.out.trans (hb3.mono HB.out.size)); replace hb3 := Aside0.mk hb3)
    | (go_at_call 30; (with_reducible refine (check_good _ _ _).mono ?_); rintro e w4 ⟨rfl, hb4⟩; replace hr := Aside0.mk (hr.out.only (below_only0 hb4) id); replace HB := Aside0.mk (HB.out.trans (hb4.mono HB.out.size)); replace hb4 := Aside0.mk hb4)
    | (go_at_call 30; (with_reducible refine (check_bad _ _ _).mono ?_); rintro e w4 ⟨rfl, hb4⟩; replace hr := Aside0.mk (hr.out.only (below_only0 hb4) id); replace HB := Aside0.mk (HB.out.trans (hb4.mono HB.out.size)); replace hb4 := Aside0.mk hb4)
    | (go_at_call 28; refine (took_one _ _ _).mono ?_; rintro e w4 ⟨rfl, hb4⟩; replace hr := Aside0.mk (hr.out.only (below_only0 hb4) id); replace HB := Aside0.mk (HB.out.trans (hb4.mono HB.out.size)); replace hb4 := Aside0.mk hb4)
    | (go_at_call 27; refine (Al.alike_none _ _ _ _ _ _ _ _ _ _ _ _ 2 _ _ l3.out l4.out).mono ?_; rintro e w5 ⟨v5, rfl, hR5, hb5⟩; replace HB := Aside0.mk (HB.out.trans (hb5.mono HB.out.size)); replace hb5 := Aside0.mk hb5; clear hR5; have hfd : ∀ W : World, (Instr.field 40 (.agg #[.int .u64 7, .int .u64 1, .int .u64 0, .string ⟨#[119, 101]⟩, .string ⟨#[103, 101]⟩, .int .i64 1, .int .i64 0, .int .u64 5, .int .u64 9, v5]) 3).run Try.prog W = .ok (.string ⟨#[119, 101]⟩) W := (by intros; kernel_rfl)))
  go_ret
  exact ⟨rfl, HB.out⟩
end Go.Proofs.Ytllepjhimkogjaa.Oa
