-- Made by a program of this session (xprint.py), over the translation; Lean checks it.
import Derived.Test.YtdcbhakclhbdpaaProg
import Derived.Below
import Derived.Deep.Draws
import Derived.Deep.AppendLies
import Derived.Maps.AppendAt
import Derived.OwnWalk
import Derived.Laws.BytesArg
import Derived.Laws.MakeOwn
import Derived.Laws.OwnMore
import Derived.Deep.OwnRows
import Derived.Tactics
import Derived.Lib.ConvBytes
import Derived.Laws.Slices
import Derived.WalkKit
import Derived.KernelRfl
import Derived.RowKit3
import Derived.Deep.LoopGhost
import Derived.Deep.QuietTactic
import Derived.BigQuiet
import Derived.WideLaws
import Derived.Deep.DeepCutAuto
import Derived.Deep.CutBlock
import Derived.Deep.RegionHeld3
import Derived.Laws.Rows
import Derived.Lib.AppendStr
import Derived.ArgAppend
import Derived.Laws.IdiomCopy
import Derived.OrdersHeld
import Derived.Laws.BitsLemmas
import Derived.RowKit
import Derived.WalkSpells
import Derived.Lib.SlBytesConst
import Derived.Test.YtdcbhakclhbdpaaWWords
import Derived.Test.YtdcbhakclhbdpaaWLast
import Derived.Test.YtdcbhakclhbdpaaWTab
import Derived.Test.YtdcbhakclhbdpaaWFour
import Derived.Test.YtdcbhakclhbdpaaWQPut
import Derived.Test.YtdcbhakclhbdpaaWApart
import Derived.Test.YtdcbhakclhbdpaaWArr
import Derived.Test.YtdcbhakclhbdpaaWZeros
import Derived.Test.YtdcbhakclhbdpaaWFoot
import Derived.Test.YtdcbhakclhbdpaaWKept
import Derived.Test.YtdcbhakclhbdpaaWShare
import Derived.Test.YtdcbhakclhbdpaaWN
import Derived.Test.YtdcbhakclhbdpaaWFootNe
import Derived.Test.YtdcbhakclhbdpaaWAt
import Derived.Test.YtdcbhakclhbdpaaWEqStruct
import Derived.Test.YtdcbhakclhbdpaaWRepsOne
import Derived.Test.YtdcbhakclhbdpaaWInv
import Derived.Test.YtdcbhakclhbdpaaWInvWords
import Derived.Test.YtdcbhakclhbdpaaWGuard
import Derived.Test.YtdcbhakclhbdpaaWNEv
import Derived.Test.YtdcbhakclhbdpaaWMore
namespace Go.Proofs.Ytdcbhakclhbdpaa.XR
open Go.RowKit Go.Proofs.YtdcbhakclhbdpaaW.PrintWords Go.Proofs.YtdcbhakclhbdpaaW.PrintLast Go.Proofs.YtdcbhakclhbdpaaW.PrintMore
attribute [local go_sem] max2_int min2_int max_two min_two max_three min_three max_four min_four   -- for this text's walks alone
set_option linter.unusedVariables false
set_option linter.unusedSimpArgs false



def errW : Option Int → Value
  | none => .nilIface
  | some c => .iface 0 (.int .i64 c)
theorem errW_none : errW none = .nilIface := rfl
theorem errW_some (c : Int) : errW (some c) = .iface 0 (.int .i64 c) := rfl

theorem info24 : (Try.prog.info? 24).map (fun i => (i.zero, i.size, i.bytes)) = some (some (.int .u64 0), 1, 8) := by kernel_rfl
-- the values' own types

end Go.Proofs.Ytdcbhakclhbdpaa.XR
