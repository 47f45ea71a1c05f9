/-
  NARROWER THAN 'FOR EVERY INPUT', by the rows' own cells (each row's printed sentence says how): SamplerAsks: loops · SamplerFree: loops.
  DERIVED. THE GIVEN ROWS OF THIS SEAT. 11 by the template 'for every input the law returns true; each argument reads behind the call as it read before'; 0 by the template 'total and deterministic' (their statements: YtgpkihnihmbomaaTotals.lean).
  GIVEN WITH THE SEED: the statements are not yours to turn. If you find one false, say at which input.
  Laid BY PROGRAM, IN A SANDBOX (cutbox-rows.mjs): the forced cells as the released guide's own fill.sh prints them over the translation 48f907bc28bc08fe… (all of the seat's roots in one cut). By AI agents, Wed Nov 11 2026. No macro, syntax, notation, axiom, sorry.
-/
import Derived.Test.YtgpkihnihmbomaaChecked
import GoSem.Claim
import GoSem.ClaimJoined
import GoSem.ClaimMapViews
import Derived.JoinedTies
import Derived.KernelRfl
namespace Go.Proofs.Ytgpkihnihmbomaa
/- THE CELL 'sum', in the pinned program and in every row, IS THE sha256 OF THE DUMP (.gsa) THAT YtgpkihnihmbomaaProg.lean LOADS. Nothing in Lean hashes anything: it is a label: what it is worth is what the hold of that sum in a sandbox is worth. -/
noncomputable def Try.pinned : Pinned := { name := "ytgpkihnihmbomaa", sum := "48f907bc28bc08fefd5cae0d642b99beb54c9d7226247d1eb424d80341cd1985", checked := Try.checked }
namespace Rows
def none {H : Type} : Left H := { results := [], args := [] }

/-- 'tallyroomlaw23.RateAnew': WHATEVER THE INPUT: true; the input reads as it did. -/
def rateAnewSpec : ChangeSpec := { name := "rateAnew", fn := fun _ => fun
  | [d1, d2, d3, d4] => { results := [.lit (.bool true)], args := [d1, d2, d3, d4] }
  | _ => none }
def rateAnewRow : OpenClaim := { program := "ytgpkihnihmbomaa", sum := "48f907bc28bc08fefd5cae0d642b99beb54c9d7226247d1eb424d80341cd1985", func := "tallyroom/tallyroomlaw23.RateAnew", spec := "rateAnew", apart := false }
def RateAnewSaid : Prop := rateAnewRow.holds Try.pinned (OpenSpec.ofChange rateAnewSpec)

/-- ITS FALSE NEIGHBOUR: 'it returns false'. Refute it at one input. -/
def rateAnewWrong : ChangeSpec := { name := "rateAnew", fn := fun _ => fun
  | [d1, d2, d3, d4] => { results := [.lit (.bool false)], args := [d1, d2, d3, d4] }
  | _ => none }
def RateAnewWrongFalsely : Prop := rateAnewRow.holds Try.pinned (OpenSpec.ofChange rateAnewWrong)

/-- 'tallyroomlaw23.RatePlays': WHATEVER THE INPUT: true; the input reads as it did. -/
def ratePlaysSpec : ChangeSpec := { name := "ratePlays", fn := fun _ => fun
  | [d1, d2] => { results := [.lit (.bool true)], args := [d1, d2] }
  | _ => none }
def ratePlaysRow : OpenClaim := { program := "ytgpkihnihmbomaa", sum := "48f907bc28bc08fefd5cae0d642b99beb54c9d7226247d1eb424d80341cd1985", func := "tallyroom/tallyroomlaw23.RatePlays", spec := "ratePlays", apart := false }
def RatePlaysSaid : Prop := ratePlaysRow.holds Try.pinned (OpenSpec.ofChange ratePlaysSpec)

/-- ITS FALSE NEIGHBOUR: 'it returns false'. Refute it at one input. -/
def ratePlaysWrong : ChangeSpec := { name := "ratePlays", fn := fun _ => fun
  | [d1, d2] => { results := [.lit (.bool false)], args := [d1, d2] }
  | _ => none }
def RatePlaysWrongFalsely : Prop := ratePlaysRow.holds Try.pinned (OpenSpec.ofChange ratePlaysWrong)

/-- 'tallyroomlaw23.RateApart': WHATEVER THE INPUT: true; the input reads as it did. -/
def rateApartSpec : ChangeSpec := { name := "rateApart", fn := fun _ => fun
  | [d1, d2, d3] => { results := [.lit (.bool true)], args := [d1, d2, d3] }
  | _ => none }
def rateApartRow : OpenClaim := { program := "ytgpkihnihmbomaa", sum := "48f907bc28bc08fefd5cae0d642b99beb54c9d7226247d1eb424d80341cd1985", func := "tallyroom/tallyroomlaw23.RateApart", spec := "rateApart", apart := false }
def RateApartSaid : Prop := rateApartRow.holds Try.pinned (OpenSpec.ofChange rateApartSpec)

/-- ITS FALSE NEIGHBOUR: 'it returns false'. Refute it at one input. -/
def rateApartWrong : ChangeSpec := { name := "rateApart", fn := fun _ => fun
  | [d1, d2, d3] => { results := [.lit (.bool false)], args := [d1, d2, d3] }
  | _ => none }
def RateApartWrongFalsely : Prop := rateApartRow.holds Try.pinned (OpenSpec.ofChange rateApartWrong)

/-- 'tallyroomlaw24.SamplerAsks': WHATEVER THE INPUT: true; the input reads as it did. -/
def samplerAsksSpec : ChangeSpec := { name := "samplerAsks", fn := fun _ => fun
  | [d1, d2, d3, d4] => { results := [.lit (.bool true)], args := [d1, d2, d3, d4] }
  | _ => none }
def samplerAsksRow : OpenClaim := { program := "ytgpkihnihmbomaa", sum := "48f907bc28bc08fefd5cae0d642b99beb54c9d7226247d1eb424d80341cd1985", func := "tallyroom/tallyroomlaw24.SamplerAsks", spec := "samplerAsks", unfollowed := true, recurses := true, loops := true, apart := false }
def SamplerAsksSaid : Prop := samplerAsksRow.holds Try.pinned (OpenSpec.ofChange samplerAsksSpec)

/-- ITS FALSE NEIGHBOUR: 'it returns false'. Refute it at one input. -/
def samplerAsksWrong : ChangeSpec := { name := "samplerAsks", fn := fun _ => fun
  | [d1, d2, d3, d4] => { results := [.lit (.bool false)], args := [d1, d2, d3, d4] }
  | _ => none }
def SamplerAsksWrongFalsely : Prop := samplerAsksRow.holds Try.pinned (OpenSpec.ofChange samplerAsksWrong)

/-- 'tallyroomlaw24.SamplerWindows': WHATEVER THE INPUT: true; the input reads as it did. -/
def samplerWindowsSpec : ChangeSpec := { name := "samplerWindows", fn := fun _ => fun
  | [d1, d2, d3] => { results := [.lit (.bool true)], args := [d1, d2, d3] }
  | _ => none }
def samplerWindowsRow : OpenClaim := { program := "ytgpkihnihmbomaa", sum := "48f907bc28bc08fefd5cae0d642b99beb54c9d7226247d1eb424d80341cd1985", func := "tallyroom/tallyroomlaw24.SamplerWindows", spec := "samplerWindows", unfollowed := true, recurses := true, apart := false }
def SamplerWindowsSaid : Prop := samplerWindowsRow.holds Try.pinned (OpenSpec.ofChange samplerWindowsSpec)

/-- ITS FALSE NEIGHBOUR: 'it returns false'. Refute it at one input. -/
def samplerWindowsWrong : ChangeSpec := { name := "samplerWindows", fn := fun _ => fun
  | [d1, d2, d3] => { results := [.lit (.bool false)], args := [d1, d2, d3] }
  | _ => none }
def SamplerWindowsWrongFalsely : Prop := samplerWindowsRow.holds Try.pinned (OpenSpec.ofChange samplerWindowsWrong)

/-- 'tallyroomlaw24.SamplerFree': WHATEVER THE INPUT: true; the input reads as it did. -/
def samplerFreeSpec : ChangeSpec := { name := "samplerFree", fn := fun _ => fun
  | [d1, d2, d3] => { results := [.lit (.bool true)], args := [d1, d2, d3] }
  | _ => none }
def samplerFreeRow : OpenClaim := { program := "ytgpkihnihmbomaa", sum := "48f907bc28bc08fefd5cae0d642b99beb54c9d7226247d1eb424d80341cd1985", func := "tallyroom/tallyroomlaw24.SamplerFree", spec := "samplerFree", unfollowed := true, recurses := true, loops := true, apart := false }
def SamplerFreeSaid : Prop := samplerFreeRow.holds Try.pinned (OpenSpec.ofChange samplerFreeSpec)

/-- ITS FALSE NEIGHBOUR: 'it returns false'. Refute it at one input. -/
def samplerFreeWrong : ChangeSpec := { name := "samplerFree", fn := fun _ => fun
  | [d1, d2, d3] => { results := [.lit (.bool false)], args := [d1, d2, d3] }
  | _ => none }
def SamplerFreeWrongFalsely : Prop := samplerFreeRow.holds Try.pinned (OpenSpec.ofChange samplerFreeWrong)

/-- 'tallyroomlaw13.WmarkOrder': WHATEVER THE INPUT: true; the input reads as it did. -/
def wmarkOrderSpec : ChangeSpec := { name := "wmarkOrder", fn := fun _ => fun
  | [d1, d2, d3, d4, d5] => { results := [.lit (.bool true)], args := [d1, d2, d3, d4, d5] }
  | _ => none }
def wmarkOrderRow : OpenClaim := { program := "ytgpkihnihmbomaa", sum := "48f907bc28bc08fefd5cae0d642b99beb54c9d7226247d1eb424d80341cd1985", func := "tallyroom/tallyroomlaw13.WmarkOrder", spec := "wmarkOrder", apart := false }
def WmarkOrderSaid : Prop := wmarkOrderRow.holds Try.pinned (OpenSpec.ofChange wmarkOrderSpec)

/-- ITS FALSE NEIGHBOUR: 'it returns false'. Refute it at one input. -/
def wmarkOrderWrong : ChangeSpec := { name := "wmarkOrder", fn := fun _ => fun
  | [d1, d2, d3, d4, d5] => { results := [.lit (.bool false)], args := [d1, d2, d3, d4, d5] }
  | _ => none }
def WmarkOrderWrongFalsely : Prop := wmarkOrderRow.holds Try.pinned (OpenSpec.ofChange wmarkOrderWrong)

/-- 'tallyroomlaw13.WmarkRises': WHATEVER THE INPUT: true; the input reads as it did. -/
def wmarkRisesSpec : ChangeSpec := { name := "wmarkRises", fn := fun _ => fun
  | [d1, d2, d3, d4] => { results := [.lit (.bool true)], args := [d1, d2, d3, d4] }
  | _ => none }
def wmarkRisesRow : OpenClaim := { program := "ytgpkihnihmbomaa", sum := "48f907bc28bc08fefd5cae0d642b99beb54c9d7226247d1eb424d80341cd1985", func := "tallyroom/tallyroomlaw13.WmarkRises", spec := "wmarkRises", apart := false }
def WmarkRisesSaid : Prop := wmarkRisesRow.holds Try.pinned (OpenSpec.ofChange wmarkRisesSpec)

/-- ITS FALSE NEIGHBOUR: 'it returns false'. Refute it at one input. -/
def wmarkRisesWrong : ChangeSpec := { name := "wmarkRises", fn := fun _ => fun
  | [d1, d2, d3, d4] => { results := [.lit (.bool false)], args := [d1, d2, d3, d4] }
  | _ => none }
def WmarkRisesWrongFalsely : Prop := wmarkRisesRow.holds Try.pinned (OpenSpec.ofChange wmarkRisesWrong)

/-- 'tallyroomlaw13.WmarkPlays': WHATEVER THE INPUT: true; the input reads as it did. -/
def wmarkPlaysSpec : ChangeSpec := { name := "wmarkPlays", fn := fun _ => fun
  | [d1, d2, d3, d4] => { results := [.lit (.bool true)], args := [d1, d2, d3, d4] }
  | _ => none }
def wmarkPlaysRow : OpenClaim := { program := "ytgpkihnihmbomaa", sum := "48f907bc28bc08fefd5cae0d642b99beb54c9d7226247d1eb424d80341cd1985", func := "tallyroom/tallyroomlaw13.WmarkPlays", spec := "wmarkPlays", apart := false }
def WmarkPlaysSaid : Prop := wmarkPlaysRow.holds Try.pinned (OpenSpec.ofChange wmarkPlaysSpec)

/-- ITS FALSE NEIGHBOUR: 'it returns false'. Refute it at one input. -/
def wmarkPlaysWrong : ChangeSpec := { name := "wmarkPlays", fn := fun _ => fun
  | [d1, d2, d3, d4] => { results := [.lit (.bool false)], args := [d1, d2, d3, d4] }
  | _ => none }
def WmarkPlaysWrongFalsely : Prop := wmarkPlaysRow.holds Try.pinned (OpenSpec.ofChange wmarkPlaysWrong)

/-- 'tallyroomlaw13.WmarkNil': WHATEVER THE INPUT: true; the input reads as it did. -/
def wmarkNilSpec : ChangeSpec := { name := "wmarkNil", fn := fun _ => fun
  | [d1, d2] => { results := [.lit (.bool true)], args := [d1, d2] }
  | _ => none }
def wmarkNilRow : OpenClaim := { program := "ytgpkihnihmbomaa", sum := "48f907bc28bc08fefd5cae0d642b99beb54c9d7226247d1eb424d80341cd1985", func := "tallyroom/tallyroomlaw13.WmarkNil", spec := "wmarkNil", apart := false }
def WmarkNilSaid : Prop := wmarkNilRow.holds Try.pinned (OpenSpec.ofChange wmarkNilSpec)

/-- ITS FALSE NEIGHBOUR: 'it returns false'. Refute it at one input. -/
def wmarkNilWrong : ChangeSpec := { name := "wmarkNil", fn := fun _ => fun
  | [d1, d2] => { results := [.lit (.bool false)], args := [d1, d2] }
  | _ => none }
def WmarkNilWrongFalsely : Prop := wmarkNilRow.holds Try.pinned (OpenSpec.ofChange wmarkNilWrong)

/-- 'tallyroomlaw13.WmarkIdle': WHATEVER THE INPUT: true; the input reads as it did. -/
def wmarkIdleSpec : ChangeSpec := { name := "wmarkIdle", fn := fun _ => fun
  | [d1, d2, d3] => { results := [.lit (.bool true)], args := [d1, d2, d3] }
  | _ => none }
def wmarkIdleRow : OpenClaim := { program := "ytgpkihnihmbomaa", sum := "48f907bc28bc08fefd5cae0d642b99beb54c9d7226247d1eb424d80341cd1985", func := "tallyroom/tallyroomlaw13.WmarkIdle", spec := "wmarkIdle", apart := false }
def WmarkIdleSaid : Prop := wmarkIdleRow.holds Try.pinned (OpenSpec.ofChange wmarkIdleSpec)

/-- ITS FALSE NEIGHBOUR: 'it returns false'. Refute it at one input. -/
def wmarkIdleWrong : ChangeSpec := { name := "wmarkIdle", fn := fun _ => fun
  | [d1, d2, d3] => { results := [.lit (.bool false)], args := [d1, d2, d3] }
  | _ => none }
def WmarkIdleWrongFalsely : Prop := wmarkIdleRow.holds Try.pinned (OpenSpec.ofChange wmarkIdleWrong)

/- THE SECOND FORM. 'bulk': how many values and letters a reading holds, each counted each time it is reached (what is shared counts as often as it is met; a slice's spare places count too). A statement '..UptoSaid' is the law's where the arguments, and the package variables that the reading takes, are together of bulk at most 1048576: NARROWER than '..Said'. Prove '..Said' where nothing that the law and all that it calls make is longer than what came in: it says more and counts as full. Else prove '..UptoSaid'. A law counts once. -/
mutual
def uptoBulk {H : Type} : DataW H → Nat
  | .lit (.string bytes) => bytes.length + 1
  | .lit _ => 1
  | .nil => 1
  | .ptr d => uptoBulk d + 1
  | .slice elems spare => uptoBulkAll elems + uptoBulkAll spare + 1
  | .agg parts => uptoBulkAll parts + 1
  | .iface _ d => uptoBulk d + 1
  | .map entries => uptoBulkEntries entries + 1
  | .held _ => 1
def uptoBulkAll {H : Type} : List (DataW H) → Nat
  | [] => 0
  | d :: r => uptoBulk d + uptoBulkAll r
def uptoBulkEntries {H : Type} : List (Lit × DataW H) → Nat
  | [] => 0
  | x :: r => uptoBulkEntry x + uptoBulkEntries r
def uptoBulkEntry {H : Type} : Lit × DataW H → Nat
  | (.string bytes, d) => bytes.length + uptoBulk d + 1
  | (_, d) => uptoBulk d + 1
 end
def uptoSmall : (H : Type) → List (DataW H) → Bool := fun _ ds => decide (uptoBulkAll ds ≤ 1048576)
def OpenSpec.upto (s : _root_.Go.ChangeSpec) : _root_.Go.OpenSpec := { _root_.Go.OpenSpec.ofChange s with cond := some uptoSmall }

/-- 'tallyroomlaw23.RateAnew', WHERE WHAT IT READS IS OF BULK AT MOST 1048576: true; the input reads as it did. -/
def rateAnewUptoRow : OpenClaim := { program := "ytgpkihnihmbomaa", sum := "48f907bc28bc08fefd5cae0d642b99beb54c9d7226247d1eb424d80341cd1985", func := "tallyroom/tallyroomlaw23.RateAnew", spec := "rateAnew", apart := false, narrowed := true }
def RateAnewUptoSaid : Prop := rateAnewUptoRow.holds Try.pinned (OpenSpec.upto rateAnewSpec)

/-- 'tallyroomlaw23.RatePlays', WHERE WHAT IT READS IS OF BULK AT MOST 1048576: true; the input reads as it did. -/
def ratePlaysUptoRow : OpenClaim := { program := "ytgpkihnihmbomaa", sum := "48f907bc28bc08fefd5cae0d642b99beb54c9d7226247d1eb424d80341cd1985", func := "tallyroom/tallyroomlaw23.RatePlays", spec := "ratePlays", apart := false, narrowed := true }
def RatePlaysUptoSaid : Prop := ratePlaysUptoRow.holds Try.pinned (OpenSpec.upto ratePlaysSpec)

/-- 'tallyroomlaw23.RateApart', WHERE WHAT IT READS IS OF BULK AT MOST 1048576: true; the input reads as it did. -/
def rateApartUptoRow : OpenClaim := { program := "ytgpkihnihmbomaa", sum := "48f907bc28bc08fefd5cae0d642b99beb54c9d7226247d1eb424d80341cd1985", func := "tallyroom/tallyroomlaw23.RateApart", spec := "rateApart", apart := false, narrowed := true }
def RateApartUptoSaid : Prop := rateApartUptoRow.holds Try.pinned (OpenSpec.upto rateApartSpec)

/-- 'tallyroomlaw24.SamplerAsks', WHERE WHAT IT READS IS OF BULK AT MOST 1048576: true; the input reads as it did. -/
def samplerAsksUptoRow : OpenClaim := { program := "ytgpkihnihmbomaa", sum := "48f907bc28bc08fefd5cae0d642b99beb54c9d7226247d1eb424d80341cd1985", func := "tallyroom/tallyroomlaw24.SamplerAsks", spec := "samplerAsks", unfollowed := true, recurses := true, loops := true, apart := false, narrowed := true }
def SamplerAsksUptoSaid : Prop := samplerAsksUptoRow.holds Try.pinned (OpenSpec.upto samplerAsksSpec)

/-- 'tallyroomlaw24.SamplerWindows', WHERE WHAT IT READS IS OF BULK AT MOST 1048576: true; the input reads as it did. -/
def samplerWindowsUptoRow : OpenClaim := { program := "ytgpkihnihmbomaa", sum := "48f907bc28bc08fefd5cae0d642b99beb54c9d7226247d1eb424d80341cd1985", func := "tallyroom/tallyroomlaw24.SamplerWindows", spec := "samplerWindows", unfollowed := true, recurses := true, apart := false, narrowed := true }
def SamplerWindowsUptoSaid : Prop := samplerWindowsUptoRow.holds Try.pinned (OpenSpec.upto samplerWindowsSpec)

/-- 'tallyroomlaw24.SamplerFree', WHERE WHAT IT READS IS OF BULK AT MOST 1048576: true; the input reads as it did. -/
def samplerFreeUptoRow : OpenClaim := { program := "ytgpkihnihmbomaa", sum := "48f907bc28bc08fefd5cae0d642b99beb54c9d7226247d1eb424d80341cd1985", func := "tallyroom/tallyroomlaw24.SamplerFree", spec := "samplerFree", unfollowed := true, recurses := true, loops := true, apart := false, narrowed := true }
def SamplerFreeUptoSaid : Prop := samplerFreeUptoRow.holds Try.pinned (OpenSpec.upto samplerFreeSpec)

/-- 'tallyroomlaw13.WmarkOrder', WHERE WHAT IT READS IS OF BULK AT MOST 1048576: true; the input reads as it did. -/
def wmarkOrderUptoRow : OpenClaim := { program := "ytgpkihnihmbomaa", sum := "48f907bc28bc08fefd5cae0d642b99beb54c9d7226247d1eb424d80341cd1985", func := "tallyroom/tallyroomlaw13.WmarkOrder", spec := "wmarkOrder", apart := false, narrowed := true }
def WmarkOrderUptoSaid : Prop := wmarkOrderUptoRow.holds Try.pinned (OpenSpec.upto wmarkOrderSpec)

/-- 'tallyroomlaw13.WmarkRises', WHERE WHAT IT READS IS OF BULK AT MOST 1048576: true; the input reads as it did. -/
def wmarkRisesUptoRow : OpenClaim := { program := "ytgpkihnihmbomaa", sum := "48f907bc28bc08fefd5cae0d642b99beb54c9d7226247d1eb424d80341cd1985", func := "tallyroom/tallyroomlaw13.WmarkRises", spec := "wmarkRises", apart := false, narrowed := true }
def WmarkRisesUptoSaid : Prop := wmarkRisesUptoRow.holds Try.pinned (OpenSpec.upto wmarkRisesSpec)

/-- 'tallyroomlaw13.WmarkPlays', WHERE WHAT IT READS IS OF BULK AT MOST 1048576: true; the input reads as it did. -/
def wmarkPlaysUptoRow : OpenClaim := { program := "ytgpkihnihmbomaa", sum := "48f907bc28bc08fefd5cae0d642b99beb54c9d7226247d1eb424d80341cd1985", func := "tallyroom/tallyroomlaw13.WmarkPlays", spec := "wmarkPlays", apart := false, narrowed := true }
def WmarkPlaysUptoSaid : Prop := wmarkPlaysUptoRow.holds Try.pinned (OpenSpec.upto wmarkPlaysSpec)

/-- 'tallyroomlaw13.WmarkNil', WHERE WHAT IT READS IS OF BULK AT MOST 1048576: true; the input reads as it did. -/
def wmarkNilUptoRow : OpenClaim := { program := "ytgpkihnihmbomaa", sum := "48f907bc28bc08fefd5cae0d642b99beb54c9d7226247d1eb424d80341cd1985", func := "tallyroom/tallyroomlaw13.WmarkNil", spec := "wmarkNil", apart := false, narrowed := true }
def WmarkNilUptoSaid : Prop := wmarkNilUptoRow.holds Try.pinned (OpenSpec.upto wmarkNilSpec)

/-- 'tallyroomlaw13.WmarkIdle', WHERE WHAT IT READS IS OF BULK AT MOST 1048576: true; the input reads as it did. -/
def wmarkIdleUptoRow : OpenClaim := { program := "ytgpkihnihmbomaa", sum := "48f907bc28bc08fefd5cae0d642b99beb54c9d7226247d1eb424d80341cd1985", func := "tallyroom/tallyroomlaw13.WmarkIdle", spec := "wmarkIdle", apart := false, narrowed := true }
def WmarkIdleUptoSaid : Prop := wmarkIdleUptoRow.holds Try.pinned (OpenSpec.upto wmarkIdleSpec)

end Rows
end Go.Proofs.Ytgpkihnihmbomaa
