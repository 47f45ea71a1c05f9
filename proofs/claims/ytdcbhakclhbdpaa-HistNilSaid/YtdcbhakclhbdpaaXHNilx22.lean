-- Made by a program of this session (xprint.py), over the translation; Lean checks it.
import Derived.Test.YtdcbhakclhbdpaaXHNilx0
namespace Go.Proofs.Ytdcbhakclhbdpaa.XHNil
open Go.RowKit Go.Proofs.YtdcbhakclhbdpaaW.PrintWords Go.Proofs.YtdcbhakclhbdpaaW.PrintLast Go.Proofs.YtdcbhakclhbdpaaW.PrintMore
attribute [local go_sem] max2_int min2_int max_two min_two max_three min_three max_four min_four   -- for this text's walks alone
set_option linter.unusedVariables false
set_option linter.unusedSimpArgs false

/-! ### tallyroomlaw11_HistNil: function 13 -/
def tallyroomlaw11_HistNil.f (x : Int) : Option Bool := some true
theorem tallyroomlaw11_HistNil.calls (x : Int) (r : Bool) (w : World) (h : tallyroomlaw11_HistNil.f x = some r) :
    Calls Try.prog 13 #[.int .u64 x] w fun y w' => y = .returned (.bool r) ∧ Below w.heap.size w w' := by
  obtain rfl := Option.some.inj h
  refine (Go.Proofs.Ytdcbhakclhbdpaa.Hi.nil_law w x).mono ?_
  rintro y w' ⟨rfl, ho⟩
  exact ⟨rfl, Go.Proofs.Ytdcbhakclhbdpaa.Hi.below_of ho⟩

end Go.Proofs.Ytdcbhakclhbdpaa.XHNil
