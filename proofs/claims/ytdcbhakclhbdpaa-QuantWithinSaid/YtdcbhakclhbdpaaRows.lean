/-
  No cell of these rows narrows 'for every input' (looked for: loops, veiled, ifaces, maps, wideKeys, modest, calm, conditions, laid).
  DERIVED. THE GIVEN ROWS OF THIS SEAT. 12 by the template 'for every input the law returns true; each argument reads behind the call as it read before'; 0 by the template 'total and deterministic' (their statements: YtdcbhakclhbdpaaTotals.lean).
  GIVEN WITH THE SEED: the statements are not yours to turn. If you find one false, say at which input.
  Laid BY PROGRAM, IN A SANDBOX (cutbox-rows.mjs): the forced cells as the released guide's own fill.sh prints them over the translation d9755c6f7e402ced… (all of the seat's roots in one cut). By AI agents, Wed Nov 11 2026. No macro, syntax, notation, axiom, sorry.
-/
import Derived.Test.YtdcbhakclhbdpaaChecked
import GoSem.Claim
import GoSem.ClaimJoined
import GoSem.ClaimMapViews
import Derived.JoinedTies
import Derived.KernelRfl
namespace Go.Proofs.Ytdcbhakclhbdpaa
/- THE CELL 'sum', in the pinned program and in every row, IS THE sha256 OF THE DUMP (.gsa) THAT YtdcbhakclhbdpaaProg.lean LOADS. Nothing in Lean hashes anything: it is a label: what it is worth is what the hold of that sum in a sandbox is worth. -/
noncomputable def Try.pinned : Pinned := { name := "ytdcbhakclhbdpaa", sum := "d9755c6f7e402ceddd9b04d4b84ac90be9918b6e7652545bcd2762198c4d2daf", checked := Try.checked }
namespace Rows
def none {H : Type} : Left H := { results := [], args := [] }

/-- 'tallyroomlaw10.SatOrder': WHATEVER THE INPUT: true; the input reads as it did. -/
def satOrderSpec : ChangeSpec := { name := "satOrder", fn := fun _ => fun
  | [d1, d2] => { results := [.lit (.bool true)], args := [d1, d2] }
  | _ => none }
def satOrderRow : OpenClaim := { program := "ytdcbhakclhbdpaa", sum := "d9755c6f7e402ceddd9b04d4b84ac90be9918b6e7652545bcd2762198c4d2daf", func := "tallyroom/tallyroomlaw10.SatOrder", spec := "satOrder", apart := false }
def SatOrderSaid : Prop := satOrderRow.holds Try.pinned (OpenSpec.ofChange satOrderSpec)

/-- ITS FALSE NEIGHBOUR: 'it returns false'. Refute it at one input. -/
def satOrderWrong : ChangeSpec := { name := "satOrder", fn := fun _ => fun
  | [d1, d2] => { results := [.lit (.bool false)], args := [d1, d2] }
  | _ => none }
def SatOrderWrongFalsely : Prop := satOrderRow.holds Try.pinned (OpenSpec.ofChange satOrderWrong)

/-- 'tallyroomlaw10.SatRight': WHATEVER THE INPUT: true; the input reads as it did. -/
def satRightSpec : ChangeSpec := { name := "satRight", fn := fun _ => fun
  | [d1, d2, d3, d4] => { results := [.lit (.bool true)], args := [d1, d2, d3, d4] }
  | _ => none }
def satRightRow : OpenClaim := { program := "ytdcbhakclhbdpaa", sum := "d9755c6f7e402ceddd9b04d4b84ac90be9918b6e7652545bcd2762198c4d2daf", func := "tallyroom/tallyroomlaw10.SatRight", spec := "satRight", apart := false }
def SatRightSaid : Prop := satRightRow.holds Try.pinned (OpenSpec.ofChange satRightSpec)

/-- ITS FALSE NEIGHBOUR: 'it returns false'. Refute it at one input. -/
def satRightWrong : ChangeSpec := { name := "satRight", fn := fun _ => fun
  | [d1, d2, d3, d4] => { results := [.lit (.bool false)], args := [d1, d2, d3, d4] }
  | _ => none }
def SatRightWrongFalsely : Prop := satRightRow.holds Try.pinned (OpenSpec.ofChange satRightWrong)

/-- 'tallyroomlaw10.SatSmall': WHATEVER THE INPUT: true; the input reads as it did. -/
def satSmallSpec : ChangeSpec := { name := "satSmall", fn := fun _ => fun
  | [d1, d2] => { results := [.lit (.bool true)], args := [d1, d2] }
  | _ => none }
def satSmallRow : OpenClaim := { program := "ytdcbhakclhbdpaa", sum := "d9755c6f7e402ceddd9b04d4b84ac90be9918b6e7652545bcd2762198c4d2daf", func := "tallyroom/tallyroomlaw10.SatSmall", spec := "satSmall", apart := false }
def SatSmallSaid : Prop := satSmallRow.holds Try.pinned (OpenSpec.ofChange satSmallSpec)

/-- ITS FALSE NEIGHBOUR: 'it returns false'. Refute it at one input. -/
def satSmallWrong : ChangeSpec := { name := "satSmall", fn := fun _ => fun
  | [d1, d2] => { results := [.lit (.bool false)], args := [d1, d2] }
  | _ => none }
def SatSmallWrongFalsely : Prop := satSmallRow.holds Try.pinned (OpenSpec.ofChange satSmallWrong)

/-- 'tallyroomlaw10.SatSums': WHATEVER THE INPUT: true; the input reads as it did. -/
def satSumsSpec : ChangeSpec := { name := "satSums", fn := fun _ => fun
  | [d1, d2] => { results := [.lit (.bool true)], args := [d1, d2] }
  | _ => none }
def satSumsRow : OpenClaim := { program := "ytdcbhakclhbdpaa", sum := "d9755c6f7e402ceddd9b04d4b84ac90be9918b6e7652545bcd2762198c4d2daf", func := "tallyroom/tallyroomlaw10.SatSums", spec := "satSums", inPlace := ["math/bits.Add64"], apart := false }
def SatSumsSaid : Prop := satSumsRow.holds Try.pinned (OpenSpec.ofChange satSumsSpec)

/-- ITS FALSE NEIGHBOUR: 'it returns false'. Refute it at one input. -/
def satSumsWrong : ChangeSpec := { name := "satSums", fn := fun _ => fun
  | [d1, d2] => { results := [.lit (.bool false)], args := [d1, d2] }
  | _ => none }
def SatSumsWrongFalsely : Prop := satSumsRow.holds Try.pinned (OpenSpec.ofChange satSumsWrong)

/-- 'tallyroomlaw32.QuantScale': WHATEVER THE INPUT: true; the input reads as it did. -/
def quantScaleSpec : ChangeSpec := { name := "quantScale", fn := fun _ => fun
  | [d1, d2, d3] => { results := [.lit (.bool true)], args := [d1, d2, d3] }
  | _ => none }
def quantScaleRow : OpenClaim := { program := "ytdcbhakclhbdpaa", sum := "d9755c6f7e402ceddd9b04d4b84ac90be9918b6e7652545bcd2762198c4d2daf", func := "tallyroom/tallyroomlaw32.QuantScale", spec := "quantScale", apart := false }
def QuantScaleSaid : Prop := quantScaleRow.holds Try.pinned (OpenSpec.ofChange quantScaleSpec)

/-- ITS FALSE NEIGHBOUR: 'it returns false'. Refute it at one input. -/
def quantScaleWrong : ChangeSpec := { name := "quantScale", fn := fun _ => fun
  | [d1, d2, d3] => { results := [.lit (.bool false)], args := [d1, d2, d3] }
  | _ => none }
def QuantScaleWrongFalsely : Prop := quantScaleRow.holds Try.pinned (OpenSpec.ofChange quantScaleWrong)

/-- 'tallyroomlaw32.QuantMeans': WHATEVER THE INPUT: true; the input reads as it did. -/
def quantMeansSpec : ChangeSpec := { name := "quantMeans", fn := fun _ => fun
  | [d1, d2, d3] => { results := [.lit (.bool true)], args := [d1, d2, d3] }
  | _ => none }
def quantMeansRow : OpenClaim := { program := "ytdcbhakclhbdpaa", sum := "d9755c6f7e402ceddd9b04d4b84ac90be9918b6e7652545bcd2762198c4d2daf", func := "tallyroom/tallyroomlaw32.QuantMeans", spec := "quantMeans", apart := false }
def QuantMeansSaid : Prop := quantMeansRow.holds Try.pinned (OpenSpec.ofChange quantMeansSpec)

/-- ITS FALSE NEIGHBOUR: 'it returns false'. Refute it at one input. -/
def quantMeansWrong : ChangeSpec := { name := "quantMeans", fn := fun _ => fun
  | [d1, d2, d3] => { results := [.lit (.bool false)], args := [d1, d2, d3] }
  | _ => none }
def QuantMeansWrongFalsely : Prop := quantMeansRow.holds Try.pinned (OpenSpec.ofChange quantMeansWrong)

/-- 'tallyroomlaw32.QuantTells': WHATEVER THE INPUT: true; the input reads as it did. -/
def quantTellsSpec : ChangeSpec := { name := "quantTells", fn := fun _ => fun
  | [d1, d2, d3, d4] => { results := [.lit (.bool true)], args := [d1, d2, d3, d4] }
  | _ => none }
def quantTellsRow : OpenClaim := { program := "ytdcbhakclhbdpaa", sum := "d9755c6f7e402ceddd9b04d4b84ac90be9918b6e7652545bcd2762198c4d2daf", func := "tallyroom/tallyroomlaw32.QuantTells", spec := "quantTells", apart := false }
def QuantTellsSaid : Prop := quantTellsRow.holds Try.pinned (OpenSpec.ofChange quantTellsSpec)

/-- ITS FALSE NEIGHBOUR: 'it returns false'. Refute it at one input. -/
def quantTellsWrong : ChangeSpec := { name := "quantTells", fn := fun _ => fun
  | [d1, d2, d3, d4] => { results := [.lit (.bool false)], args := [d1, d2, d3, d4] }
  | _ => none }
def QuantTellsWrongFalsely : Prop := quantTellsRow.holds Try.pinned (OpenSpec.ofChange quantTellsWrong)

/-- 'tallyroomlaw32.QuantWithin': WHATEVER THE INPUT: true; the input reads as it did. -/
def quantWithinSpec : ChangeSpec := { name := "quantWithin", fn := fun _ => fun
  | [d1, d2, d3, d4] => { results := [.lit (.bool true)], args := [d1, d2, d3, d4] }
  | _ => none }
def quantWithinRow : OpenClaim := { program := "ytdcbhakclhbdpaa", sum := "d9755c6f7e402ceddd9b04d4b84ac90be9918b6e7652545bcd2762198c4d2daf", func := "tallyroom/tallyroomlaw32.QuantWithin", spec := "quantWithin", unfollowed := true, recurses := true, apart := false }
def QuantWithinSaid : Prop := quantWithinRow.holds Try.pinned (OpenSpec.ofChange quantWithinSpec)

/-- ITS FALSE NEIGHBOUR: 'it returns false'. Refute it at one input. -/
def quantWithinWrong : ChangeSpec := { name := "quantWithin", fn := fun _ => fun
  | [d1, d2, d3, d4] => { results := [.lit (.bool false)], args := [d1, d2, d3, d4] }
  | _ => none }
def QuantWithinWrongFalsely : Prop := quantWithinRow.holds Try.pinned (OpenSpec.ofChange quantWithinWrong)

/-- 'tallyroomlaw11.HistOrder': WHATEVER THE INPUT: true; the input reads as it did. -/
def histOrderSpec : ChangeSpec := { name := "histOrder", fn := fun _ => fun
  | [d1, d2, d3] => { results := [.lit (.bool true)], args := [d1, d2, d3] }
  | _ => none }
def histOrderRow : OpenClaim := { program := "ytdcbhakclhbdpaa", sum := "d9755c6f7e402ceddd9b04d4b84ac90be9918b6e7652545bcd2762198c4d2daf", func := "tallyroom/tallyroomlaw11.HistOrder", spec := "histOrder", unfollowed := true, recurses := true, apart := false }
def HistOrderSaid : Prop := histOrderRow.holds Try.pinned (OpenSpec.ofChange histOrderSpec)

/-- ITS FALSE NEIGHBOUR: 'it returns false'. Refute it at one input. -/
def histOrderWrong : ChangeSpec := { name := "histOrder", fn := fun _ => fun
  | [d1, d2, d3] => { results := [.lit (.bool false)], args := [d1, d2, d3] }
  | _ => none }
def HistOrderWrongFalsely : Prop := histOrderRow.holds Try.pinned (OpenSpec.ofChange histOrderWrong)

/-- 'tallyroomlaw11.HistBuckets': WHATEVER THE INPUT: true; the input reads as it did. -/
def histBucketsSpec : ChangeSpec := { name := "histBuckets", fn := fun _ => fun
  | [d1, d2] => { results := [.lit (.bool true)], args := [d1, d2] }
  | _ => none }
def histBucketsRow : OpenClaim := { program := "ytdcbhakclhbdpaa", sum := "d9755c6f7e402ceddd9b04d4b84ac90be9918b6e7652545bcd2762198c4d2daf", func := "tallyroom/tallyroomlaw11.HistBuckets", spec := "histBuckets", inPlace := ["math/bits.Add64"], unfollowed := true, recurses := true, apart := false }
def HistBucketsSaid : Prop := histBucketsRow.holds Try.pinned (OpenSpec.ofChange histBucketsSpec)

/-- ITS FALSE NEIGHBOUR: 'it returns false'. Refute it at one input. -/
def histBucketsWrong : ChangeSpec := { name := "histBuckets", fn := fun _ => fun
  | [d1, d2] => { results := [.lit (.bool false)], args := [d1, d2] }
  | _ => none }
def HistBucketsWrongFalsely : Prop := histBucketsRow.holds Try.pinned (OpenSpec.ofChange histBucketsWrong)

/-- 'tallyroomlaw11.HistNil': WHATEVER THE INPUT: true; the input reads as it did. -/
def histNilSpec : ChangeSpec := { name := "histNil", fn := fun _ => fun
  | [d] => { results := [.lit (.bool true)], args := [d] }
  | _ => none }
def histNilRow : OpenClaim := { program := "ytdcbhakclhbdpaa", sum := "d9755c6f7e402ceddd9b04d4b84ac90be9918b6e7652545bcd2762198c4d2daf", func := "tallyroom/tallyroomlaw11.HistNil", spec := "histNil", unfollowed := true, recurses := true, apart := false }
def HistNilSaid : Prop := histNilRow.holds Try.pinned (OpenSpec.ofChange histNilSpec)

/-- ITS FALSE NEIGHBOUR: 'it returns false'. Refute it at one input. -/
def histNilWrong : ChangeSpec := { name := "histNil", fn := fun _ => fun
  | [d] => { results := [.lit (.bool false)], args := [d] }
  | _ => none }
def HistNilWrongFalsely : Prop := histNilRow.holds Try.pinned (OpenSpec.ofChange histNilWrong)

/-- 'tallyroomlaw11.HistPuts': WHATEVER THE INPUT: true; the input reads as it did. -/
def histPutsSpec : ChangeSpec := { name := "histPuts", fn := fun _ => fun
  | [d1, d2, d3, d4] => { results := [.lit (.bool true)], args := [d1, d2, d3, d4] }
  | _ => none }
def histPutsRow : OpenClaim := { program := "ytdcbhakclhbdpaa", sum := "d9755c6f7e402ceddd9b04d4b84ac90be9918b6e7652545bcd2762198c4d2daf", func := "tallyroom/tallyroomlaw11.HistPuts", spec := "histPuts", inPlace := ["math/bits.Add64"], unfollowed := true, recurses := true, apart := false }
def HistPutsSaid : Prop := histPutsRow.holds Try.pinned (OpenSpec.ofChange histPutsSpec)

/-- ITS FALSE NEIGHBOUR: 'it returns false'. Refute it at one input. -/
def histPutsWrong : ChangeSpec := { name := "histPuts", fn := fun _ => fun
  | [d1, d2, d3, d4] => { results := [.lit (.bool false)], args := [d1, d2, d3, d4] }
  | _ => none }
def HistPutsWrongFalsely : Prop := histPutsRow.holds Try.pinned (OpenSpec.ofChange histPutsWrong)

/- THE SECOND FORM. 'bulk': how many values and letters a reading holds, each counted each time it is reached (what is shared counts as often as it is met; a slice's spare places count too). A statement '..UptoSaid' is the law's where the arguments, and the package variables that the reading takes, are together of bulk at most 1048576: NARROWER than '..Said'. Prove '..Said' where nothing that the law and all that it calls make is longer than what came in: it says more and counts as full. Else prove '..UptoSaid'. A law counts once. -/
mutual
def uptoBulk {H : Type} : DataW H → Nat
  | .lit (.string bytes) => bytes.length + 1
  | .lit _ => 1
  | .nil => 1
  | .ptr d => uptoBulk d + 1
  | .slice elems spare => uptoBulkAll elems + uptoBulkAll spare + 1
  | .agg parts => uptoBulkAll parts + 1
  | .iface _ d => uptoBulk d + 1
  | .map entries => uptoBulkEntries entries + 1
  | .held _ => 1
def uptoBulkAll {H : Type} : List (DataW H) → Nat
  | [] => 0
  | d :: r => uptoBulk d + uptoBulkAll r
def uptoBulkEntries {H : Type} : List (Lit × DataW H) → Nat
  | [] => 0
  | x :: r => uptoBulkEntry x + uptoBulkEntries r
def uptoBulkEntry {H : Type} : Lit × DataW H → Nat
  | (.string bytes, d) => bytes.length + uptoBulk d + 1
  | (_, d) => uptoBulk d + 1
 end
def uptoSmall : (H : Type) → List (DataW H) → Bool := fun _ ds => decide (uptoBulkAll ds ≤ 1048576)
def OpenSpec.upto (s : _root_.Go.ChangeSpec) : _root_.Go.OpenSpec := { _root_.Go.OpenSpec.ofChange s with cond := some uptoSmall }

/-- 'tallyroomlaw10.SatOrder', WHERE WHAT IT READS IS OF BULK AT MOST 1048576: true; the input reads as it did. -/
def satOrderUptoRow : OpenClaim := { program := "ytdcbhakclhbdpaa", sum := "d9755c6f7e402ceddd9b04d4b84ac90be9918b6e7652545bcd2762198c4d2daf", func := "tallyroom/tallyroomlaw10.SatOrder", spec := "satOrder", apart := false, narrowed := true }
def SatOrderUptoSaid : Prop := satOrderUptoRow.holds Try.pinned (OpenSpec.upto satOrderSpec)

/-- 'tallyroomlaw10.SatRight', WHERE WHAT IT READS IS OF BULK AT MOST 1048576: true; the input reads as it did. -/
def satRightUptoRow : OpenClaim := { program := "ytdcbhakclhbdpaa", sum := "d9755c6f7e402ceddd9b04d4b84ac90be9918b6e7652545bcd2762198c4d2daf", func := "tallyroom/tallyroomlaw10.SatRight", spec := "satRight", apart := false, narrowed := true }
def SatRightUptoSaid : Prop := satRightUptoRow.holds Try.pinned (OpenSpec.upto satRightSpec)

/-- 'tallyroomlaw10.SatSmall', WHERE WHAT IT READS IS OF BULK AT MOST 1048576: true; the input reads as it did. -/
def satSmallUptoRow : OpenClaim := { program := "ytdcbhakclhbdpaa", sum := "d9755c6f7e402ceddd9b04d4b84ac90be9918b6e7652545bcd2762198c4d2daf", func := "tallyroom/tallyroomlaw10.SatSmall", spec := "satSmall", apart := false, narrowed := true }
def SatSmallUptoSaid : Prop := satSmallUptoRow.holds Try.pinned (OpenSpec.upto satSmallSpec)

/-- 'tallyroomlaw10.SatSums', WHERE WHAT IT READS IS OF BULK AT MOST 1048576: true; the input reads as it did. -/
def satSumsUptoRow : OpenClaim := { program := "ytdcbhakclhbdpaa", sum := "d9755c6f7e402ceddd9b04d4b84ac90be9918b6e7652545bcd2762198c4d2daf", func := "tallyroom/tallyroomlaw10.SatSums", spec := "satSums", inPlace := ["math/bits.Add64"], apart := false, narrowed := true }
def SatSumsUptoSaid : Prop := satSumsUptoRow.holds Try.pinned (OpenSpec.upto satSumsSpec)

/-- 'tallyroomlaw32.QuantScale', WHERE WHAT IT READS IS OF BULK AT MOST 1048576: true; the input reads as it did. -/
def quantScaleUptoRow : OpenClaim := { program := "ytdcbhakclhbdpaa", sum := "d9755c6f7e402ceddd9b04d4b84ac90be9918b6e7652545bcd2762198c4d2daf", func := "tallyroom/tallyroomlaw32.QuantScale", spec := "quantScale", apart := false, narrowed := true }
def QuantScaleUptoSaid : Prop := quantScaleUptoRow.holds Try.pinned (OpenSpec.upto quantScaleSpec)

/-- 'tallyroomlaw32.QuantMeans', WHERE WHAT IT READS IS OF BULK AT MOST 1048576: true; the input reads as it did. -/
def quantMeansUptoRow : OpenClaim := { program := "ytdcbhakclhbdpaa", sum := "d9755c6f7e402ceddd9b04d4b84ac90be9918b6e7652545bcd2762198c4d2daf", func := "tallyroom/tallyroomlaw32.QuantMeans", spec := "quantMeans", apart := false, narrowed := true }
def QuantMeansUptoSaid : Prop := quantMeansUptoRow.holds Try.pinned (OpenSpec.upto quantMeansSpec)

/-- 'tallyroomlaw32.QuantTells', WHERE WHAT IT READS IS OF BULK AT MOST 1048576: true; the input reads as it did. -/
def quantTellsUptoRow : OpenClaim := { program := "ytdcbhakclhbdpaa", sum := "d9755c6f7e402ceddd9b04d4b84ac90be9918b6e7652545bcd2762198c4d2daf", func := "tallyroom/tallyroomlaw32.QuantTells", spec := "quantTells", apart := false, narrowed := true }
def QuantTellsUptoSaid : Prop := quantTellsUptoRow.holds Try.pinned (OpenSpec.upto quantTellsSpec)

/-- 'tallyroomlaw32.QuantWithin', WHERE WHAT IT READS IS OF BULK AT MOST 1048576: true; the input reads as it did. -/
def quantWithinUptoRow : OpenClaim := { program := "ytdcbhakclhbdpaa", sum := "d9755c6f7e402ceddd9b04d4b84ac90be9918b6e7652545bcd2762198c4d2daf", func := "tallyroom/tallyroomlaw32.QuantWithin", spec := "quantWithin", unfollowed := true, recurses := true, apart := false, narrowed := true }
def QuantWithinUptoSaid : Prop := quantWithinUptoRow.holds Try.pinned (OpenSpec.upto quantWithinSpec)

/-- 'tallyroomlaw11.HistOrder', WHERE WHAT IT READS IS OF BULK AT MOST 1048576: true; the input reads as it did. -/
def histOrderUptoRow : OpenClaim := { program := "ytdcbhakclhbdpaa", sum := "d9755c6f7e402ceddd9b04d4b84ac90be9918b6e7652545bcd2762198c4d2daf", func := "tallyroom/tallyroomlaw11.HistOrder", spec := "histOrder", unfollowed := true, recurses := true, apart := false, narrowed := true }
def HistOrderUptoSaid : Prop := histOrderUptoRow.holds Try.pinned (OpenSpec.upto histOrderSpec)

/-- 'tallyroomlaw11.HistBuckets', WHERE WHAT IT READS IS OF BULK AT MOST 1048576: true; the input reads as it did. -/
def histBucketsUptoRow : OpenClaim := { program := "ytdcbhakclhbdpaa", sum := "d9755c6f7e402ceddd9b04d4b84ac90be9918b6e7652545bcd2762198c4d2daf", func := "tallyroom/tallyroomlaw11.HistBuckets", spec := "histBuckets", inPlace := ["math/bits.Add64"], unfollowed := true, recurses := true, apart := false, narrowed := true }
def HistBucketsUptoSaid : Prop := histBucketsUptoRow.holds Try.pinned (OpenSpec.upto histBucketsSpec)

/-- 'tallyroomlaw11.HistNil', WHERE WHAT IT READS IS OF BULK AT MOST 1048576: true; the input reads as it did. -/
def histNilUptoRow : OpenClaim := { program := "ytdcbhakclhbdpaa", sum := "d9755c6f7e402ceddd9b04d4b84ac90be9918b6e7652545bcd2762198c4d2daf", func := "tallyroom/tallyroomlaw11.HistNil", spec := "histNil", unfollowed := true, recurses := true, apart := false, narrowed := true }
def HistNilUptoSaid : Prop := histNilUptoRow.holds Try.pinned (OpenSpec.upto histNilSpec)

/-- 'tallyroomlaw11.HistPuts', WHERE WHAT IT READS IS OF BULK AT MOST 1048576: true; the input reads as it did. -/
def histPutsUptoRow : OpenClaim := { program := "ytdcbhakclhbdpaa", sum := "d9755c6f7e402ceddd9b04d4b84ac90be9918b6e7652545bcd2762198c4d2daf", func := "tallyroom/tallyroomlaw11.HistPuts", spec := "histPuts", inPlace := ["math/bits.Add64"], unfollowed := true, recurses := true, apart := false, narrowed := true }
def HistPutsUptoSaid : Prop := histPutsUptoRow.holds Try.pinned (OpenSpec.upto histPutsSpec)

end Rows
end Go.Proofs.Ytdcbhakclhbdpaa
