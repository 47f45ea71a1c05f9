-- Made by a program of this session (xprint.py), over the translation; Lean checks it.
import Derived.Test.YtllepjhimkogjaaProg
import Derived.Below
import Derived.Deep.Draws
import Derived.Deep.AppendLies
import Derived.Maps.AppendAt
import Derived.OwnWalk
import Derived.Laws.BytesArg
import Derived.Laws.MakeOwn
import Derived.Laws.OwnMore
import Derived.Deep.OwnRows
import Derived.Tactics
import Derived.Lib.ConvBytes
import Derived.Laws.Slices
import Derived.WalkKit
import Derived.KernelRfl
import Derived.RowKit3
import Derived.Deep.LoopGhost
import Derived.Deep.QuietTactic
import Derived.BigQuiet
import Derived.WideLaws
import Derived.Deep.DeepCutAuto
import Derived.Deep.CutBlock
import Derived.Deep.RegionHeld3
import Derived.Laws.Rows
import Derived.Lib.AppendStr
import Derived.ArgAppend
import Derived.Laws.IdiomCopy
import Derived.OrdersHeld
import Derived.Laws.BitsLemmas
import Derived.RowKit
import Derived.WalkSpells
import Derived.Lib.SlBytesConst
import Derived.Test.YtllepjhimkogjaaTc
import Derived.Test.YtllepjhimkogjaaWWords
import Derived.Test.YtllepjhimkogjaaWLast
import Derived.Test.YtllepjhimkogjaaWTab
import Derived.Test.YtllepjhimkogjaaWFour
import Derived.Test.YtllepjhimkogjaaWQPut
import Derived.Test.YtllepjhimkogjaaWApart
import Derived.Test.YtllepjhimkogjaaWArr
import Derived.Test.YtllepjhimkogjaaWZeros
import Derived.Test.YtllepjhimkogjaaWFoot
import Derived.Test.YtllepjhimkogjaaWKept
import Derived.Test.YtllepjhimkogjaaWShare
import Derived.Test.YtllepjhimkogjaaWN
import Derived.Test.YtllepjhimkogjaaWFootNe
import Derived.Test.YtllepjhimkogjaaWAt
import Derived.Test.YtllepjhimkogjaaWEqStruct
import Derived.Test.YtllepjhimkogjaaWRepsOne
import Derived.Test.YtllepjhimkogjaaWInv
import Derived.Test.YtllepjhimkogjaaWInvWords
import Derived.Test.YtllepjhimkogjaaWGuard
import Derived.Test.YtllepjhimkogjaaWNEv
import Derived.Test.YtllepjhimkogjaaWMore
namespace Go.Proofs.Ytllepjhimkogjaa.XX
open Go.RowKit Go.Proofs.YtllepjhimkogjaaW.PrintWords Go.Proofs.YtllepjhimkogjaaW.PrintLast Go.Proofs.YtllepjhimkogjaaW.PrintMore
attribute [local go_sem] max2_int min2_int max_two min_two max_three min_three max_four min_four   -- for this text's walks alone
set_option linter.unusedVariables false
set_option linter.unusedSimpArgs false



def errW : Option Int → Value
  | none => .nilIface
  | some c => .iface 0 (.int .i64 c)
theorem errW_none : errW none = .nilIface := rfl
theorem errW_some (c : Int) : errW (some c) = .iface 0 (.int .i64 c) := rfl

theorem info5 : (Try.prog.info? 5).map (fun i => (i.zero, i.size, i.bytes)) = some (some (.int .u8 0), 1, 1) := by kernel_rfl
-- the values' own types

end Go.Proofs.Ytllepjhimkogjaa.XX
