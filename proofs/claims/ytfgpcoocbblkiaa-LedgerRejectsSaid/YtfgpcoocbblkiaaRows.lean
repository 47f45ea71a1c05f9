/-
  No cell of these rows narrows 'for every input' (looked for: loops, veiled, ifaces, maps, wideKeys, modest, calm, conditions, laid).
  DERIVED. THE GIVEN ROWS OF THIS SEAT. 9 by the template 'for every input the law returns true; each argument reads behind the call as it read before'; 0 by the template 'total and deterministic' (their statements: YtfgpcoocbblkiaaTotals.lean).
  GIVEN WITH THE SEED: the statements are not yours to turn. If you find one false, say at which input.
  Laid BY PROGRAM, IN A SANDBOX (cutbox-rows.mjs): the forced cells as the released guide's own fill.sh prints them over the translation cf6feb88cbf4462a… (all of the seat's roots in one cut). By AI agents, Wed Nov 11 2026. No macro, syntax, notation, axiom, sorry.
-/
import Derived.Test.YtfgpcoocbblkiaaChecked
import GoSem.Claim
import GoSem.ClaimJoined
import GoSem.ClaimMapViews
import Derived.JoinedTies
import Derived.KernelRfl
namespace Go.Proofs.Ytfgpcoocbblkiaa
/- THE CELL 'sum', in the pinned program and in every row, IS THE sha256 OF THE DUMP (.gsa) THAT YtfgpcoocbblkiaaProg.lean LOADS. Nothing in Lean hashes anything: it is a label: what it is worth is what the hold of that sum in a sandbox is worth. -/
noncomputable def Try.pinned : Pinned := { name := "ytfgpcoocbblkiaa", sum := "cf6feb88cbf4462a8b1a7c58f199830e4423a44feb9ce167657a5bbf54818599", checked := Try.checked }
namespace Rows
def none {H : Type} : Left H := { results := [], args := [] }

/-- 'tallyroomlaw05.StrtabPuts': WHATEVER THE INPUT: true; the input reads as it did. -/
def strtabPutsSpec : ChangeSpec := { name := "strtabPuts", fn := fun _ => fun
  | [d] => { results := [.lit (.bool true)], args := [d] }
  | _ => none }
def strtabPutsRow : OpenClaim := { program := "ytfgpcoocbblkiaa", sum := "cf6feb88cbf4462a8b1a7c58f199830e4423a44feb9ce167657a5bbf54818599", func := "tallyroom/tallyroomlaw05.StrtabPuts", spec := "strtabPuts", apart := false }
def StrtabPutsSaid : Prop := strtabPutsRow.holds Try.pinned (OpenSpec.ofChange strtabPutsSpec)

/-- ITS FALSE NEIGHBOUR: 'it returns false'. Refute it at one input. -/
def strtabPutsWrong : ChangeSpec := { name := "strtabPuts", fn := fun _ => fun
  | [d] => { results := [.lit (.bool false)], args := [d] }
  | _ => none }
def StrtabPutsWrongFalsely : Prop := strtabPutsRow.holds Try.pinned (OpenSpec.ofChange strtabPutsWrong)

/-- 'tallyroomlaw05.StrtabSame': WHATEVER THE INPUT: true; the input reads as it did. -/
def strtabSameSpec : ChangeSpec := { name := "strtabSame", fn := fun _ => fun
  | [d] => { results := [.lit (.bool true)], args := [d] }
  | _ => none }
def strtabSameRow : OpenClaim := { program := "ytfgpcoocbblkiaa", sum := "cf6feb88cbf4462a8b1a7c58f199830e4423a44feb9ce167657a5bbf54818599", func := "tallyroom/tallyroomlaw05.StrtabSame", spec := "strtabSame", apart := false }
def StrtabSameSaid : Prop := strtabSameRow.holds Try.pinned (OpenSpec.ofChange strtabSameSpec)

/-- ITS FALSE NEIGHBOUR: 'it returns false'. Refute it at one input. -/
def strtabSameWrong : ChangeSpec := { name := "strtabSame", fn := fun _ => fun
  | [d] => { results := [.lit (.bool false)], args := [d] }
  | _ => none }
def StrtabSameWrongFalsely : Prop := strtabSameRow.holds Try.pinned (OpenSpec.ofChange strtabSameWrong)

/-- 'tallyroomlaw05.StrtabReads': WHATEVER THE INPUT: true; the input reads as it did. -/
def strtabReadsSpec : ChangeSpec := { name := "strtabReads", fn := fun _ => fun
  | [d] => { results := [.lit (.bool true)], args := [d] }
  | _ => none }
def strtabReadsRow : OpenClaim := { program := "ytfgpcoocbblkiaa", sum := "cf6feb88cbf4462a8b1a7c58f199830e4423a44feb9ce167657a5bbf54818599", func := "tallyroom/tallyroomlaw05.StrtabReads", spec := "strtabReads", apart := false }
def StrtabReadsSaid : Prop := strtabReadsRow.holds Try.pinned (OpenSpec.ofChange strtabReadsSpec)

/-- ITS FALSE NEIGHBOUR: 'it returns false'. Refute it at one input. -/
def strtabReadsWrong : ChangeSpec := { name := "strtabReads", fn := fun _ => fun
  | [d] => { results := [.lit (.bool false)], args := [d] }
  | _ => none }
def StrtabReadsWrongFalsely : Prop := strtabReadsRow.holds Try.pinned (OpenSpec.ofChange strtabReadsWrong)

/-- 'tallyroomlaw05.StrtabBack': WHATEVER THE INPUT: true; the input reads as it did. -/
def strtabBackSpec : ChangeSpec := { name := "strtabBack", fn := fun _ => fun
  | [d1, d2, d3] => { results := [.lit (.bool true)], args := [d1, d2, d3] }
  | _ => none }
def strtabBackRow : OpenClaim := { program := "ytfgpcoocbblkiaa", sum := "cf6feb88cbf4462a8b1a7c58f199830e4423a44feb9ce167657a5bbf54818599", func := "tallyroom/tallyroomlaw05.StrtabBack", spec := "strtabBack", apart := false }
def StrtabBackSaid : Prop := strtabBackRow.holds Try.pinned (OpenSpec.ofChange strtabBackSpec)

/-- ITS FALSE NEIGHBOUR: 'it returns false'. Refute it at one input. -/
def strtabBackWrong : ChangeSpec := { name := "strtabBack", fn := fun _ => fun
  | [d1, d2, d3] => { results := [.lit (.bool false)], args := [d1, d2, d3] }
  | _ => none }
def StrtabBackWrongFalsely : Prop := strtabBackRow.holds Try.pinned (OpenSpec.ofChange strtabBackWrong)

/-- 'tallyroomlaw27.LedgerRejects': WHATEVER THE INPUT: true; the input reads as it did. -/
def ledgerRejectsSpec : ChangeSpec := { name := "ledgerRejects", fn := fun _ => fun
  | [d1, d2] => { results := [.lit (.bool true)], args := [d1, d2] }
  | _ => none }
def ledgerRejectsRow : OpenClaim := { program := "ytfgpcoocbblkiaa", sum := "cf6feb88cbf4462a8b1a7c58f199830e4423a44feb9ce167657a5bbf54818599", func := "tallyroom/tallyroomlaw27.LedgerRejects", spec := "ledgerRejects", apart := false }
def LedgerRejectsSaid : Prop := ledgerRejectsRow.holds Try.pinned (OpenSpec.ofChange ledgerRejectsSpec)

/-- ITS FALSE NEIGHBOUR: 'it returns false'. Refute it at one input. -/
def ledgerRejectsWrong : ChangeSpec := { name := "ledgerRejects", fn := fun _ => fun
  | [d1, d2] => { results := [.lit (.bool false)], args := [d1, d2] }
  | _ => none }
def LedgerRejectsWrongFalsely : Prop := ledgerRejectsRow.holds Try.pinned (OpenSpec.ofChange ledgerRejectsWrong)

/-- 'tallyroomlaw35.AlertTurns': WHATEVER THE INPUT: true; the input reads as it did. -/
def alertTurnsSpec : ChangeSpec := { name := "alertTurns", fn := fun _ => fun
  | [d1, d2, d3] => { results := [.lit (.bool true)], args := [d1, d2, d3] }
  | _ => none }
def alertTurnsRow : OpenClaim := { program := "ytfgpcoocbblkiaa", sum := "cf6feb88cbf4462a8b1a7c58f199830e4423a44feb9ce167657a5bbf54818599", func := "tallyroom/tallyroomlaw35.AlertTurns", spec := "alertTurns", apart := false }
def AlertTurnsSaid : Prop := alertTurnsRow.holds Try.pinned (OpenSpec.ofChange alertTurnsSpec)

/-- ITS FALSE NEIGHBOUR: 'it returns false'. Refute it at one input. -/
def alertTurnsWrong : ChangeSpec := { name := "alertTurns", fn := fun _ => fun
  | [d1, d2, d3] => { results := [.lit (.bool false)], args := [d1, d2, d3] }
  | _ => none }
def AlertTurnsWrongFalsely : Prop := alertTurnsRow.holds Try.pinned (OpenSpec.ofChange alertTurnsWrong)

/-- 'tallyroomlaw35.AlertCalm': WHATEVER THE INPUT: true; the input reads as it did. -/
def alertCalmSpec : ChangeSpec := { name := "alertCalm", fn := fun _ => fun
  | [d1, d2] => { results := [.lit (.bool true)], args := [d1, d2] }
  | _ => none }
def alertCalmRow : OpenClaim := { program := "ytfgpcoocbblkiaa", sum := "cf6feb88cbf4462a8b1a7c58f199830e4423a44feb9ce167657a5bbf54818599", func := "tallyroom/tallyroomlaw35.AlertCalm", spec := "alertCalm", apart := false }
def AlertCalmSaid : Prop := alertCalmRow.holds Try.pinned (OpenSpec.ofChange alertCalmSpec)

/-- ITS FALSE NEIGHBOUR: 'it returns false'. Refute it at one input. -/
def alertCalmWrong : ChangeSpec := { name := "alertCalm", fn := fun _ => fun
  | [d1, d2] => { results := [.lit (.bool false)], args := [d1, d2] }
  | _ => none }
def AlertCalmWrongFalsely : Prop := alertCalmRow.holds Try.pinned (OpenSpec.ofChange alertCalmWrong)

/-- 'tallyroomlaw28.EmitBack': WHATEVER THE INPUT: true; the input reads as it did. -/
def emitBackSpec : ChangeSpec := { name := "emitBack", fn := fun _ => fun
  | [d1, d2, d3] => { results := [.lit (.bool true)], args := [d1, d2, d3] }
  | _ => none }
def emitBackRow : OpenClaim := { program := "ytfgpcoocbblkiaa", sum := "cf6feb88cbf4462a8b1a7c58f199830e4423a44feb9ce167657a5bbf54818599", func := "tallyroom/tallyroomlaw28.EmitBack", spec := "emitBack", unfollowed := true, recurses := true, apart := false }
def EmitBackSaid : Prop := emitBackRow.holds Try.pinned (OpenSpec.ofChange emitBackSpec)

/-- ITS FALSE NEIGHBOUR: 'it returns false'. Refute it at one input. -/
def emitBackWrong : ChangeSpec := { name := "emitBack", fn := fun _ => fun
  | [d1, d2, d3] => { results := [.lit (.bool false)], args := [d1, d2, d3] }
  | _ => none }
def EmitBackWrongFalsely : Prop := emitBackRow.holds Try.pinned (OpenSpec.ofChange emitBackWrong)

/-- 'tallyroomlaw28.EmitList': WHATEVER THE INPUT: true; the input reads as it did. -/
def emitListSpec : ChangeSpec := { name := "emitList", fn := fun _ => fun
  | [d] => { results := [.lit (.bool true)], args := [d] }
  | _ => none }
def emitListRow : OpenClaim := { program := "ytfgpcoocbblkiaa", sum := "cf6feb88cbf4462a8b1a7c58f199830e4423a44feb9ce167657a5bbf54818599", func := "tallyroom/tallyroomlaw28.EmitList", spec := "emitList", unfollowed := true, recurses := true, apart := false }
def EmitListSaid : Prop := emitListRow.holds Try.pinned (OpenSpec.ofChange emitListSpec)

/-- ITS FALSE NEIGHBOUR: 'it returns false'. Refute it at one input. -/
def emitListWrong : ChangeSpec := { name := "emitList", fn := fun _ => fun
  | [d] => { results := [.lit (.bool false)], args := [d] }
  | _ => none }
def EmitListWrongFalsely : Prop := emitListRow.holds Try.pinned (OpenSpec.ofChange emitListWrong)

/- THE SECOND FORM. 'bulk': how many values and letters a reading holds, each counted each time it is reached (what is shared counts as often as it is met; a slice's spare places count too). A statement '..UptoSaid' is the law's where the arguments, and the package variables that the reading takes, are together of bulk at most 1048576: NARROWER than '..Said'. Prove '..Said' where nothing that the law and all that it calls make is longer than what came in: it says more and counts as full. Else prove '..UptoSaid'. A law counts once. -/
mutual
def uptoBulk {H : Type} : DataW H → Nat
  | .lit (.string bytes) => bytes.length + 1
  | .lit _ => 1
  | .nil => 1
  | .ptr d => uptoBulk d + 1
  | .slice elems spare => uptoBulkAll elems + uptoBulkAll spare + 1
  | .agg parts => uptoBulkAll parts + 1
  | .iface _ d => uptoBulk d + 1
  | .map entries => uptoBulkEntries entries + 1
  | .held _ => 1
def uptoBulkAll {H : Type} : List (DataW H) → Nat
  | [] => 0
  | d :: r => uptoBulk d + uptoBulkAll r
def uptoBulkEntries {H : Type} : List (Lit × DataW H) → Nat
  | [] => 0
  | x :: r => uptoBulkEntry x + uptoBulkEntries r
def uptoBulkEntry {H : Type} : Lit × DataW H → Nat
  | (.string bytes, d) => bytes.length + uptoBulk d + 1
  | (_, d) => uptoBulk d + 1
 end
def uptoSmall : (H : Type) → List (DataW H) → Bool := fun _ ds => decide (uptoBulkAll ds ≤ 1048576)
def OpenSpec.upto (s : _root_.Go.ChangeSpec) : _root_.Go.OpenSpec := { _root_.Go.OpenSpec.ofChange s with cond := some uptoSmall }

/-- 'tallyroomlaw05.StrtabPuts', WHERE WHAT IT READS IS OF BULK AT MOST 1048576: true; the input reads as it did. -/
def strtabPutsUptoRow : OpenClaim := { program := "ytfgpcoocbblkiaa", sum := "cf6feb88cbf4462a8b1a7c58f199830e4423a44feb9ce167657a5bbf54818599", func := "tallyroom/tallyroomlaw05.StrtabPuts", spec := "strtabPuts", apart := false, narrowed := true }
def StrtabPutsUptoSaid : Prop := strtabPutsUptoRow.holds Try.pinned (OpenSpec.upto strtabPutsSpec)

/-- 'tallyroomlaw05.StrtabSame', WHERE WHAT IT READS IS OF BULK AT MOST 1048576: true; the input reads as it did. -/
def strtabSameUptoRow : OpenClaim := { program := "ytfgpcoocbblkiaa", sum := "cf6feb88cbf4462a8b1a7c58f199830e4423a44feb9ce167657a5bbf54818599", func := "tallyroom/tallyroomlaw05.StrtabSame", spec := "strtabSame", apart := false, narrowed := true }
def StrtabSameUptoSaid : Prop := strtabSameUptoRow.holds Try.pinned (OpenSpec.upto strtabSameSpec)

/-- 'tallyroomlaw05.StrtabReads', WHERE WHAT IT READS IS OF BULK AT MOST 1048576: true; the input reads as it did. -/
def strtabReadsUptoRow : OpenClaim := { program := "ytfgpcoocbblkiaa", sum := "cf6feb88cbf4462a8b1a7c58f199830e4423a44feb9ce167657a5bbf54818599", func := "tallyroom/tallyroomlaw05.StrtabReads", spec := "strtabReads", apart := false, narrowed := true }
def StrtabReadsUptoSaid : Prop := strtabReadsUptoRow.holds Try.pinned (OpenSpec.upto strtabReadsSpec)

/-- 'tallyroomlaw05.StrtabBack', WHERE WHAT IT READS IS OF BULK AT MOST 1048576: true; the input reads as it did. -/
def strtabBackUptoRow : OpenClaim := { program := "ytfgpcoocbblkiaa", sum := "cf6feb88cbf4462a8b1a7c58f199830e4423a44feb9ce167657a5bbf54818599", func := "tallyroom/tallyroomlaw05.StrtabBack", spec := "strtabBack", apart := false, narrowed := true }
def StrtabBackUptoSaid : Prop := strtabBackUptoRow.holds Try.pinned (OpenSpec.upto strtabBackSpec)

/-- 'tallyroomlaw27.LedgerRejects', WHERE WHAT IT READS IS OF BULK AT MOST 1048576: true; the input reads as it did. -/
def ledgerRejectsUptoRow : OpenClaim := { program := "ytfgpcoocbblkiaa", sum := "cf6feb88cbf4462a8b1a7c58f199830e4423a44feb9ce167657a5bbf54818599", func := "tallyroom/tallyroomlaw27.LedgerRejects", spec := "ledgerRejects", apart := false, narrowed := true }
def LedgerRejectsUptoSaid : Prop := ledgerRejectsUptoRow.holds Try.pinned (OpenSpec.upto ledgerRejectsSpec)

/-- 'tallyroomlaw35.AlertTurns', WHERE WHAT IT READS IS OF BULK AT MOST 1048576: true; the input reads as it did. -/
def alertTurnsUptoRow : OpenClaim := { program := "ytfgpcoocbblkiaa", sum := "cf6feb88cbf4462a8b1a7c58f199830e4423a44feb9ce167657a5bbf54818599", func := "tallyroom/tallyroomlaw35.AlertTurns", spec := "alertTurns", apart := false, narrowed := true }
def AlertTurnsUptoSaid : Prop := alertTurnsUptoRow.holds Try.pinned (OpenSpec.upto alertTurnsSpec)

/-- 'tallyroomlaw35.AlertCalm', WHERE WHAT IT READS IS OF BULK AT MOST 1048576: true; the input reads as it did. -/
def alertCalmUptoRow : OpenClaim := { program := "ytfgpcoocbblkiaa", sum := "cf6feb88cbf4462a8b1a7c58f199830e4423a44feb9ce167657a5bbf54818599", func := "tallyroom/tallyroomlaw35.AlertCalm", spec := "alertCalm", apart := false, narrowed := true }
def AlertCalmUptoSaid : Prop := alertCalmUptoRow.holds Try.pinned (OpenSpec.upto alertCalmSpec)

/-- 'tallyroomlaw28.EmitBack', WHERE WHAT IT READS IS OF BULK AT MOST 1048576: true; the input reads as it did. -/
def emitBackUptoRow : OpenClaim := { program := "ytfgpcoocbblkiaa", sum := "cf6feb88cbf4462a8b1a7c58f199830e4423a44feb9ce167657a5bbf54818599", func := "tallyroom/tallyroomlaw28.EmitBack", spec := "emitBack", unfollowed := true, recurses := true, apart := false, narrowed := true }
def EmitBackUptoSaid : Prop := emitBackUptoRow.holds Try.pinned (OpenSpec.upto emitBackSpec)

/-- 'tallyroomlaw28.EmitList', WHERE WHAT IT READS IS OF BULK AT MOST 1048576: true; the input reads as it did. -/
def emitListUptoRow : OpenClaim := { program := "ytfgpcoocbblkiaa", sum := "cf6feb88cbf4462a8b1a7c58f199830e4423a44feb9ce167657a5bbf54818599", func := "tallyroom/tallyroomlaw28.EmitList", spec := "emitList", unfollowed := true, recurses := true, apart := false, narrowed := true }
def EmitListUptoSaid : Prop := emitListUptoRow.holds Try.pinned (OpenSpec.upto emitListSpec)

end Rows
end Go.Proofs.Ytfgpcoocbblkiaa
