/-
  No cell of these rows narrows 'for every input' (looked for: loops, veiled, ifaces, maps, wideKeys, modest, calm, conditions, laid).
  DERIVED. THE GIVEN ROWS OF THIS SEAT. 12 by the template 'for every input the law returns true; each argument reads behind the call as it read before'; 0 by the template 'total and deterministic' (their statements: YtllepjhimkogjaaTotals.lean).
  GIVEN WITH THE SEED: the statements are not yours to turn. If you find one false, say at which input.
  Laid BY PROGRAM, IN A SANDBOX (cutbox-rows.mjs): the forced cells as the released guide's own fill.sh prints them over the translation c44c9c59f925dd3b… (all of the seat's roots in one cut). By AI agents, Wed Nov 11 2026. No macro, syntax, notation, axiom, sorry.
-/
import Derived.Test.YtllepjhimkogjaaChecked
import GoSem.Claim
import GoSem.ClaimJoined
import GoSem.ClaimMapViews
import Derived.JoinedTies
import Derived.KernelRfl
namespace Go.Proofs.Ytllepjhimkogjaa
/- THE CELL 'sum', in the pinned program and in every row, IS THE sha256 OF THE DUMP (.gsa) THAT YtllepjhimkogjaaProg.lean LOADS. Nothing in Lean hashes anything: it is a label: what it is worth is what the hold of that sum in a sandbox is worth. -/
noncomputable def Try.pinned : Pinned := { name := "ytllepjhimkogjaa", sum := "c44c9c59f925dd3b930d68140a73089643c3c742f17ea036f7a3304fa878a5a0", checked := Try.checked }
namespace Rows
def none {H : Type} : Left H := { results := [], args := [] }

/-- 'tallyroomlaw09.DigestShares': WHATEVER THE INPUT: true; the input reads as it did. -/
def digestSharesSpec : ChangeSpec := { name := "digestShares", fn := fun _ => fun
  | [d1, d2, d3, d4] => { results := [.lit (.bool true)], args := [d1, d2, d3, d4] }
  | _ => none }
def digestSharesRow : OpenClaim := { program := "ytllepjhimkogjaa", sum := "c44c9c59f925dd3b930d68140a73089643c3c742f17ea036f7a3304fa878a5a0", func := "tallyroom/tallyroomlaw09.DigestShares", spec := "digestShares", apart := false }
def DigestSharesSaid : Prop := digestSharesRow.holds Try.pinned (OpenSpec.ofChange digestSharesSpec)

/-- ITS FALSE NEIGHBOUR: 'it returns false'. Refute it at one input. -/
def digestSharesWrong : ChangeSpec := { name := "digestShares", fn := fun _ => fun
  | [d1, d2, d3, d4] => { results := [.lit (.bool false)], args := [d1, d2, d3, d4] }
  | _ => none }
def DigestSharesWrongFalsely : Prop := digestSharesRow.holds Try.pinned (OpenSpec.ofChange digestSharesWrong)

/-- 'tallyroomlaw09.DigestTexts': WHATEVER THE INPUT: true; the input reads as it did. -/
def digestTextsSpec : ChangeSpec := { name := "digestTexts", fn := fun _ => fun
  | [d1, d2, d3] => { results := [.lit (.bool true)], args := [d1, d2, d3] }
  | _ => none }
def digestTextsRow : OpenClaim := { program := "ytllepjhimkogjaa", sum := "c44c9c59f925dd3b930d68140a73089643c3c742f17ea036f7a3304fa878a5a0", func := "tallyroom/tallyroomlaw09.DigestTexts", spec := "digestTexts", apart := false }
def DigestTextsSaid : Prop := digestTextsRow.holds Try.pinned (OpenSpec.ofChange digestTextsSpec)

/-- ITS FALSE NEIGHBOUR: 'it returns false'. Refute it at one input. -/
def digestTextsWrong : ChangeSpec := { name := "digestTexts", fn := fun _ => fun
  | [d1, d2, d3] => { results := [.lit (.bool false)], args := [d1, d2, d3] }
  | _ => none }
def DigestTextsWrongFalsely : Prop := digestTextsRow.holds Try.pinned (OpenSpec.ofChange digestTextsWrong)

/-- 'tallyroomlaw09.DigestPrefers': WHATEVER THE INPUT: true; the input reads as it did. -/
def digestPrefersSpec : ChangeSpec := { name := "digestPrefers", fn := fun _ => fun
  | [d1, d2] => { results := [.lit (.bool true)], args := [d1, d2] }
  | _ => none }
def digestPrefersRow : OpenClaim := { program := "ytllepjhimkogjaa", sum := "c44c9c59f925dd3b930d68140a73089643c3c742f17ea036f7a3304fa878a5a0", func := "tallyroom/tallyroomlaw09.DigestPrefers", spec := "digestPrefers", inPlace := ["internal/bytealg.abigen_runtime_cmpstring"], unfollowed := true, recurses := true, apart := false }
def DigestPrefersSaid : Prop := digestPrefersRow.holds Try.pinned (OpenSpec.ofChange digestPrefersSpec)

/-- ITS FALSE NEIGHBOUR: 'it returns false'. Refute it at one input. -/
def digestPrefersWrong : ChangeSpec := { name := "digestPrefers", fn := fun _ => fun
  | [d1, d2] => { results := [.lit (.bool false)], args := [d1, d2] }
  | _ => none }
def DigestPrefersWrongFalsely : Prop := digestPrefersRow.holds Try.pinned (OpenSpec.ofChange digestPrefersWrong)

/-- 'tallyroomlaw06.SpanOwn': WHATEVER THE INPUT: true; the input reads as it did. -/
def spanOwnSpec : ChangeSpec := { name := "spanOwn", fn := fun _ => fun
  | [d1, d2, d3] => { results := [.lit (.bool true)], args := [d1, d2, d3] }
  | _ => none }
def spanOwnRow : OpenClaim := { program := "ytllepjhimkogjaa", sum := "c44c9c59f925dd3b930d68140a73089643c3c742f17ea036f7a3304fa878a5a0", func := "tallyroom/tallyroomlaw06.SpanOwn", spec := "spanOwn", inPlace := ["internal/abi.NoEscape", "internal/bytealg.abigen_runtime_cmpstring"], unfollowed := true, recurses := true, apart := false }
def SpanOwnSaid : Prop := spanOwnRow.holds Try.pinned (OpenSpec.ofChange spanOwnSpec)

/-- ITS FALSE NEIGHBOUR: 'it returns false'. Refute it at one input. -/
def spanOwnWrong : ChangeSpec := { name := "spanOwn", fn := fun _ => fun
  | [d1, d2, d3] => { results := [.lit (.bool false)], args := [d1, d2, d3] }
  | _ => none }
def SpanOwnWrongFalsely : Prop := spanOwnRow.holds Try.pinned (OpenSpec.ofChange spanOwnWrong)

/-- 'tallyroomlaw06.SpanTells': WHATEVER THE INPUT: true; the input reads as it did. -/
def spanTellsSpec : ChangeSpec := { name := "spanTells", fn := fun _ => fun
  | [d1, d2, d3] => { results := [.lit (.bool true)], args := [d1, d2, d3] }
  | _ => none }
def spanTellsRow : OpenClaim := { program := "ytllepjhimkogjaa", sum := "c44c9c59f925dd3b930d68140a73089643c3c742f17ea036f7a3304fa878a5a0", func := "tallyroom/tallyroomlaw06.SpanTells", spec := "spanTells", inPlace := ["internal/abi.NoEscape", "internal/bytealg.abigen_runtime_cmpstring"], unfollowed := true, recurses := true, apart := false }
def SpanTellsSaid : Prop := spanTellsRow.holds Try.pinned (OpenSpec.ofChange spanTellsSpec)

/-- ITS FALSE NEIGHBOUR: 'it returns false'. Refute it at one input. -/
def spanTellsWrong : ChangeSpec := { name := "spanTells", fn := fun _ => fun
  | [d1, d2, d3] => { results := [.lit (.bool false)], args := [d1, d2, d3] }
  | _ => none }
def SpanTellsWrongFalsely : Prop := spanTellsRow.holds Try.pinned (OpenSpec.ofChange spanTellsWrong)

/-- 'tallyroomlaw06.SpanOrder': WHATEVER THE INPUT: true; the input reads as it did. -/
def spanOrderSpec : ChangeSpec := { name := "spanOrder", fn := fun _ => fun
  | [d1, d2, d3] => { results := [.lit (.bool true)], args := [d1, d2, d3] }
  | _ => none }
def spanOrderRow : OpenClaim := { program := "ytllepjhimkogjaa", sum := "c44c9c59f925dd3b930d68140a73089643c3c742f17ea036f7a3304fa878a5a0", func := "tallyroom/tallyroomlaw06.SpanOrder", spec := "spanOrder", inPlace := ["internal/abi.NoEscape", "internal/bytealg.abigen_runtime_cmpstring"], unfollowed := true, recurses := true, apart := false }
def SpanOrderSaid : Prop := spanOrderRow.holds Try.pinned (OpenSpec.ofChange spanOrderSpec)

/-- ITS FALSE NEIGHBOUR: 'it returns false'. Refute it at one input. -/
def spanOrderWrong : ChangeSpec := { name := "spanOrder", fn := fun _ => fun
  | [d1, d2, d3] => { results := [.lit (.bool false)], args := [d1, d2, d3] }
  | _ => none }
def SpanOrderWrongFalsely : Prop := spanOrderRow.holds Try.pinned (OpenSpec.ofChange spanOrderWrong)

/-- 'tallyroomlaw06.SpanAlike': WHATEVER THE INPUT: true; the input reads as it did. -/
def spanAlikeSpec : ChangeSpec := { name := "spanAlike", fn := fun _ => fun
  | [d1, d2] => { results := [.lit (.bool true)], args := [d1, d2] }
  | _ => none }
def spanAlikeRow : OpenClaim := { program := "ytllepjhimkogjaa", sum := "c44c9c59f925dd3b930d68140a73089643c3c742f17ea036f7a3304fa878a5a0", func := "tallyroom/tallyroomlaw06.SpanAlike", spec := "spanAlike", inPlace := ["internal/abi.NoEscape", "internal/bytealg.abigen_runtime_cmpstring"], unfollowed := true, recurses := true, apart := false }
def SpanAlikeSaid : Prop := spanAlikeRow.holds Try.pinned (OpenSpec.ofChange spanAlikeSpec)

/-- ITS FALSE NEIGHBOUR: 'it returns false'. Refute it at one input. -/
def spanAlikeWrong : ChangeSpec := { name := "spanAlike", fn := fun _ => fun
  | [d1, d2] => { results := [.lit (.bool false)], args := [d1, d2] }
  | _ => none }
def SpanAlikeWrongFalsely : Prop := spanAlikeRow.holds Try.pinned (OpenSpec.ofChange spanAlikeWrong)

/-- 'tallyroomlaw03.TextCuts': WHATEVER THE INPUT: true; the input reads as it did. -/
def textCutsSpec : ChangeSpec := { name := "textCuts", fn := fun _ => fun
  | [d1, d2] => { results := [.lit (.bool true)], args := [d1, d2] }
  | _ => none }
def textCutsRow : OpenClaim := { program := "ytllepjhimkogjaa", sum := "c44c9c59f925dd3b930d68140a73089643c3c742f17ea036f7a3304fa878a5a0", func := "tallyroom/tallyroomlaw03.TextCuts", spec := "textCuts", inPlace := ["internal/abi.NoEscape"], apart := false }
def TextCutsSaid : Prop := textCutsRow.holds Try.pinned (OpenSpec.ofChange textCutsSpec)

/-- ITS FALSE NEIGHBOUR: 'it returns false'. Refute it at one input. -/
def textCutsWrong : ChangeSpec := { name := "textCuts", fn := fun _ => fun
  | [d1, d2] => { results := [.lit (.bool false)], args := [d1, d2] }
  | _ => none }
def TextCutsWrongFalsely : Prop := textCutsRow.holds Try.pinned (OpenSpec.ofChange textCutsWrong)

/-- 'tallyroomlaw03.TextTells': WHATEVER THE INPUT: true; the input reads as it did. -/
def textTellsSpec : ChangeSpec := { name := "textTells", fn := fun _ => fun
  | [d] => { results := [.lit (.bool true)], args := [d] }
  | _ => none }
def textTellsRow : OpenClaim := { program := "ytllepjhimkogjaa", sum := "c44c9c59f925dd3b930d68140a73089643c3c742f17ea036f7a3304fa878a5a0", func := "tallyroom/tallyroomlaw03.TextTells", spec := "textTells", inPlace := ["internal/abi.NoEscape"], apart := false }
def TextTellsSaid : Prop := textTellsRow.holds Try.pinned (OpenSpec.ofChange textTellsSpec)

/-- ITS FALSE NEIGHBOUR: 'it returns false'. Refute it at one input. -/
def textTellsWrong : ChangeSpec := { name := "textTells", fn := fun _ => fun
  | [d] => { results := [.lit (.bool false)], args := [d] }
  | _ => none }
def TextTellsWrongFalsely : Prop := textTellsRow.holds Try.pinned (OpenSpec.ofChange textTellsWrong)

/-- 'tallyroomlaw03.TextClean': WHATEVER THE INPUT: true; the input reads as it did. -/
def textCleanSpec : ChangeSpec := { name := "textClean", fn := fun _ => fun
  | [d1, d2] => { results := [.lit (.bool true)], args := [d1, d2] }
  | _ => none }
def textCleanRow : OpenClaim := { program := "ytllepjhimkogjaa", sum := "c44c9c59f925dd3b930d68140a73089643c3c742f17ea036f7a3304fa878a5a0", func := "tallyroom/tallyroomlaw03.TextClean", spec := "textClean", inPlace := ["internal/abi.NoEscape"], apart := false }
def TextCleanSaid : Prop := textCleanRow.holds Try.pinned (OpenSpec.ofChange textCleanSpec)

/-- ITS FALSE NEIGHBOUR: 'it returns false'. Refute it at one input. -/
def textCleanWrong : ChangeSpec := { name := "textClean", fn := fun _ => fun
  | [d1, d2] => { results := [.lit (.bool false)], args := [d1, d2] }
  | _ => none }
def TextCleanWrongFalsely : Prop := textCleanRow.holds Try.pinned (OpenSpec.ofChange textCleanWrong)

/-- 'tallyroomlaw03.TextJoins': WHATEVER THE INPUT: true; the input reads as it did. -/
def textJoinsSpec : ChangeSpec := { name := "textJoins", fn := fun _ => fun
  | [d1, d2] => { results := [.lit (.bool true)], args := [d1, d2] }
  | _ => none }
def textJoinsRow : OpenClaim := { program := "ytllepjhimkogjaa", sum := "c44c9c59f925dd3b930d68140a73089643c3c742f17ea036f7a3304fa878a5a0", func := "tallyroom/tallyroomlaw03.TextJoins", spec := "textJoins", inPlace := ["internal/abi.NoEscape"], apart := false }
def TextJoinsSaid : Prop := textJoinsRow.holds Try.pinned (OpenSpec.ofChange textJoinsSpec)

/-- ITS FALSE NEIGHBOUR: 'it returns false'. Refute it at one input. -/
def textJoinsWrong : ChangeSpec := { name := "textJoins", fn := fun _ => fun
  | [d1, d2] => { results := [.lit (.bool false)], args := [d1, d2] }
  | _ => none }
def TextJoinsWrongFalsely : Prop := textJoinsRow.holds Try.pinned (OpenSpec.ofChange textJoinsWrong)

/-- 'tallyroomlaw07.BatchGets': WHATEVER THE INPUT: true; the input reads as it did. -/
def batchGetsSpec : ChangeSpec := { name := "batchGets", fn := fun _ => fun
  | [d] => { results := [.lit (.bool true)], args := [d] }
  | _ => none }
def batchGetsRow : OpenClaim := { program := "ytllepjhimkogjaa", sum := "c44c9c59f925dd3b930d68140a73089643c3c742f17ea036f7a3304fa878a5a0", func := "tallyroom/tallyroomlaw07.BatchGets", spec := "batchGets", apart := false }
def BatchGetsSaid : Prop := batchGetsRow.holds Try.pinned (OpenSpec.ofChange batchGetsSpec)

/-- ITS FALSE NEIGHBOUR: 'it returns false'. Refute it at one input. -/
def batchGetsWrong : ChangeSpec := { name := "batchGets", fn := fun _ => fun
  | [d] => { results := [.lit (.bool false)], args := [d] }
  | _ => none }
def BatchGetsWrongFalsely : Prop := batchGetsRow.holds Try.pinned (OpenSpec.ofChange batchGetsWrong)

/- THE SECOND FORM. 'bulk': how many values and letters a reading holds, each counted each time it is reached (what is shared counts as often as it is met; a slice's spare places count too). A statement '..UptoSaid' is the law's where the arguments, and the package variables that the reading takes, are together of bulk at most 1048576: NARROWER than '..Said'. Prove '..Said' where nothing that the law and all that it calls make is longer than what came in: it says more and counts as full. Else prove '..UptoSaid'. A law counts once. -/
mutual
def uptoBulk {H : Type} : DataW H → Nat
  | .lit (.string bytes) => bytes.length + 1
  | .lit _ => 1
  | .nil => 1
  | .ptr d => uptoBulk d + 1
  | .slice elems spare => uptoBulkAll elems + uptoBulkAll spare + 1
  | .agg parts => uptoBulkAll parts + 1
  | .iface _ d => uptoBulk d + 1
  | .map entries => uptoBulkEntries entries + 1
  | .held _ => 1
def uptoBulkAll {H : Type} : List (DataW H) → Nat
  | [] => 0
  | d :: r => uptoBulk d + uptoBulkAll r
def uptoBulkEntries {H : Type} : List (Lit × DataW H) → Nat
  | [] => 0
  | x :: r => uptoBulkEntry x + uptoBulkEntries r
def uptoBulkEntry {H : Type} : Lit × DataW H → Nat
  | (.string bytes, d) => bytes.length + uptoBulk d + 1
  | (_, d) => uptoBulk d + 1
 end
def uptoSmall : (H : Type) → List (DataW H) → Bool := fun _ ds => decide (uptoBulkAll ds ≤ 1048576)
def OpenSpec.upto (s : _root_.Go.ChangeSpec) : _root_.Go.OpenSpec := { _root_.Go.OpenSpec.ofChange s with cond := some uptoSmall }

/-- 'tallyroomlaw09.DigestShares', WHERE WHAT IT READS IS OF BULK AT MOST 1048576: true; the input reads as it did. -/
def digestSharesUptoRow : OpenClaim := { program := "ytllepjhimkogjaa", sum := "c44c9c59f925dd3b930d68140a73089643c3c742f17ea036f7a3304fa878a5a0", func := "tallyroom/tallyroomlaw09.DigestShares", spec := "digestShares", apart := false, narrowed := true }
def DigestSharesUptoSaid : Prop := digestSharesUptoRow.holds Try.pinned (OpenSpec.upto digestSharesSpec)

/-- 'tallyroomlaw09.DigestTexts', WHERE WHAT IT READS IS OF BULK AT MOST 1048576: true; the input reads as it did. -/
def digestTextsUptoRow : OpenClaim := { program := "ytllepjhimkogjaa", sum := "c44c9c59f925dd3b930d68140a73089643c3c742f17ea036f7a3304fa878a5a0", func := "tallyroom/tallyroomlaw09.DigestTexts", spec := "digestTexts", apart := false, narrowed := true }
def DigestTextsUptoSaid : Prop := digestTextsUptoRow.holds Try.pinned (OpenSpec.upto digestTextsSpec)

/-- 'tallyroomlaw09.DigestPrefers', WHERE WHAT IT READS IS OF BULK AT MOST 1048576: true; the input reads as it did. -/
def digestPrefersUptoRow : OpenClaim := { program := "ytllepjhimkogjaa", sum := "c44c9c59f925dd3b930d68140a73089643c3c742f17ea036f7a3304fa878a5a0", func := "tallyroom/tallyroomlaw09.DigestPrefers", spec := "digestPrefers", inPlace := ["internal/bytealg.abigen_runtime_cmpstring"], unfollowed := true, recurses := true, apart := false, narrowed := true }
def DigestPrefersUptoSaid : Prop := digestPrefersUptoRow.holds Try.pinned (OpenSpec.upto digestPrefersSpec)

/-- 'tallyroomlaw06.SpanOwn', WHERE WHAT IT READS IS OF BULK AT MOST 1048576: true; the input reads as it did. -/
def spanOwnUptoRow : OpenClaim := { program := "ytllepjhimkogjaa", sum := "c44c9c59f925dd3b930d68140a73089643c3c742f17ea036f7a3304fa878a5a0", func := "tallyroom/tallyroomlaw06.SpanOwn", spec := "spanOwn", inPlace := ["internal/abi.NoEscape", "internal/bytealg.abigen_runtime_cmpstring"], unfollowed := true, recurses := true, apart := false, narrowed := true }
def SpanOwnUptoSaid : Prop := spanOwnUptoRow.holds Try.pinned (OpenSpec.upto spanOwnSpec)

/-- 'tallyroomlaw06.SpanTells', WHERE WHAT IT READS IS OF BULK AT MOST 1048576: true; the input reads as it did. -/
def spanTellsUptoRow : OpenClaim := { program := "ytllepjhimkogjaa", sum := "c44c9c59f925dd3b930d68140a73089643c3c742f17ea036f7a3304fa878a5a0", func := "tallyroom/tallyroomlaw06.SpanTells", spec := "spanTells", inPlace := ["internal/abi.NoEscape", "internal/bytealg.abigen_runtime_cmpstring"], unfollowed := true, recurses := true, apart := false, narrowed := true }
def SpanTellsUptoSaid : Prop := spanTellsUptoRow.holds Try.pinned (OpenSpec.upto spanTellsSpec)

/-- 'tallyroomlaw06.SpanOrder', WHERE WHAT IT READS IS OF BULK AT MOST 1048576: true; the input reads as it did. -/
def spanOrderUptoRow : OpenClaim := { program := "ytllepjhimkogjaa", sum := "c44c9c59f925dd3b930d68140a73089643c3c742f17ea036f7a3304fa878a5a0", func := "tallyroom/tallyroomlaw06.SpanOrder", spec := "spanOrder", inPlace := ["internal/abi.NoEscape", "internal/bytealg.abigen_runtime_cmpstring"], unfollowed := true, recurses := true, apart := false, narrowed := true }
def SpanOrderUptoSaid : Prop := spanOrderUptoRow.holds Try.pinned (OpenSpec.upto spanOrderSpec)

/-- 'tallyroomlaw06.SpanAlike', WHERE WHAT IT READS IS OF BULK AT MOST 1048576: true; the input reads as it did. -/
def spanAlikeUptoRow : OpenClaim := { program := "ytllepjhimkogjaa", sum := "c44c9c59f925dd3b930d68140a73089643c3c742f17ea036f7a3304fa878a5a0", func := "tallyroom/tallyroomlaw06.SpanAlike", spec := "spanAlike", inPlace := ["internal/abi.NoEscape", "internal/bytealg.abigen_runtime_cmpstring"], unfollowed := true, recurses := true, apart := false, narrowed := true }
def SpanAlikeUptoSaid : Prop := spanAlikeUptoRow.holds Try.pinned (OpenSpec.upto spanAlikeSpec)

/-- 'tallyroomlaw03.TextCuts', WHERE WHAT IT READS IS OF BULK AT MOST 1048576: true; the input reads as it did. -/
def textCutsUptoRow : OpenClaim := { program := "ytllepjhimkogjaa", sum := "c44c9c59f925dd3b930d68140a73089643c3c742f17ea036f7a3304fa878a5a0", func := "tallyroom/tallyroomlaw03.TextCuts", spec := "textCuts", inPlace := ["internal/abi.NoEscape"], apart := false, narrowed := true }
def TextCutsUptoSaid : Prop := textCutsUptoRow.holds Try.pinned (OpenSpec.upto textCutsSpec)

/-- 'tallyroomlaw03.TextTells', WHERE WHAT IT READS IS OF BULK AT MOST 1048576: true; the input reads as it did. -/
def textTellsUptoRow : OpenClaim := { program := "ytllepjhimkogjaa", sum := "c44c9c59f925dd3b930d68140a73089643c3c742f17ea036f7a3304fa878a5a0", func := "tallyroom/tallyroomlaw03.TextTells", spec := "textTells", inPlace := ["internal/abi.NoEscape"], apart := false, narrowed := true }
def TextTellsUptoSaid : Prop := textTellsUptoRow.holds Try.pinned (OpenSpec.upto textTellsSpec)

/-- 'tallyroomlaw03.TextClean', WHERE WHAT IT READS IS OF BULK AT MOST 1048576: true; the input reads as it did. -/
def textCleanUptoRow : OpenClaim := { program := "ytllepjhimkogjaa", sum := "c44c9c59f925dd3b930d68140a73089643c3c742f17ea036f7a3304fa878a5a0", func := "tallyroom/tallyroomlaw03.TextClean", spec := "textClean", inPlace := ["internal/abi.NoEscape"], apart := false, narrowed := true }
def TextCleanUptoSaid : Prop := textCleanUptoRow.holds Try.pinned (OpenSpec.upto textCleanSpec)

/-- 'tallyroomlaw03.TextJoins', WHERE WHAT IT READS IS OF BULK AT MOST 1048576: true; the input reads as it did. -/
def textJoinsUptoRow : OpenClaim := { program := "ytllepjhimkogjaa", sum := "c44c9c59f925dd3b930d68140a73089643c3c742f17ea036f7a3304fa878a5a0", func := "tallyroom/tallyroomlaw03.TextJoins", spec := "textJoins", inPlace := ["internal/abi.NoEscape"], apart := false, narrowed := true }
def TextJoinsUptoSaid : Prop := textJoinsUptoRow.holds Try.pinned (OpenSpec.upto textJoinsSpec)

/-- 'tallyroomlaw07.BatchGets', WHERE WHAT IT READS IS OF BULK AT MOST 1048576: true; the input reads as it did. -/
def batchGetsUptoRow : OpenClaim := { program := "ytllepjhimkogjaa", sum := "c44c9c59f925dd3b930d68140a73089643c3c742f17ea036f7a3304fa878a5a0", func := "tallyroom/tallyroomlaw07.BatchGets", spec := "batchGets", apart := false, narrowed := true }
def BatchGetsUptoSaid : Prop := batchGetsUptoRow.holds Try.pinned (OpenSpec.upto batchGetsSpec)

end Rows
end Go.Proofs.Ytllepjhimkogjaa
