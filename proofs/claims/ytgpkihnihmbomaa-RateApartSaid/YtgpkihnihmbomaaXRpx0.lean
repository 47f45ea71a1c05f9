-- Made by a program of this session (xprint.py), over the translation; Lean checks it.
import Derived.Test.YtgpkihnihmbomaaProg
import Derived.Below
import Derived.Deep.Draws
import Derived.Deep.AppendLies
import Derived.Maps.AppendAt
import Derived.OwnWalk
import Derived.Laws.BytesArg
import Derived.Laws.MakeOwn
import Derived.Laws.OwnMore
import Derived.Deep.OwnRows
import Derived.Tactics
import Derived.Lib.ConvBytes
import Derived.Laws.Slices
import Derived.WalkKit
import Derived.KernelRfl
import Derived.RowKit3
import Derived.Deep.LoopGhost
import Derived.Deep.QuietTactic
import Derived.BigQuiet
import Derived.WideLaws
import Derived.Deep.DeepCutAuto
import Derived.Deep.CutBlock
import Derived.Deep.RegionHeld3
import Derived.Laws.Rows
import Derived.Lib.AppendStr
import Derived.ArgAppend
import Derived.Laws.IdiomCopy
import Derived.OrdersHeld
import Derived.Laws.BitsLemmas
import Derived.RowKit
import Derived.WalkSpells
import Derived.Lib.SlBytesConst
import Derived.Test.YtgpkihnihmbomaaRc
import Derived.Test.YtgpkihnihmbomaaWWords
import Derived.Test.YtgpkihnihmbomaaWLast
import Derived.Test.YtgpkihnihmbomaaWTab
import Derived.Test.YtgpkihnihmbomaaWFour
import Derived.Test.YtgpkihnihmbomaaWQPut
import Derived.Test.YtgpkihnihmbomaaWApart
import Derived.Test.YtgpkihnihmbomaaWArr
import Derived.Test.YtgpkihnihmbomaaWZeros
import Derived.Test.YtgpkihnihmbomaaWFoot
import Derived.Test.YtgpkihnihmbomaaWKept
import Derived.Test.YtgpkihnihmbomaaWShare
import Derived.Test.YtgpkihnihmbomaaWN
import Derived.Test.YtgpkihnihmbomaaWFootNe
import Derived.Test.YtgpkihnihmbomaaWAt
import Derived.Test.YtgpkihnihmbomaaWEqStruct
import Derived.Test.YtgpkihnihmbomaaWRepsOne
import Derived.Test.YtgpkihnihmbomaaWInv
import Derived.Test.YtgpkihnihmbomaaWInvWords
import Derived.Test.YtgpkihnihmbomaaWGuard
import Derived.Test.YtgpkihnihmbomaaWNEv
import Derived.Test.YtgpkihnihmbomaaWMore
namespace Go.Proofs.Ytgpkihnihmbomaa.XRp
open Go.RowKit Go.Proofs.YtgpkihnihmbomaaW.PrintWords Go.Proofs.YtgpkihnihmbomaaW.PrintLast Go.Proofs.YtgpkihnihmbomaaW.PrintMore
attribute [local go_sem] max2_int min2_int max_two min_two max_three min_three max_four min_four   -- for this text's walks alone
set_option linter.unusedVariables false
set_option linter.unusedSimpArgs false



def errW : Option Int → Value
  | none => .nilIface
  | some c => .iface 0 (.int .i64 c)
theorem errW_none : errW none = .nilIface := rfl
theorem errW_some (c : Int) : errW (some c) = .iface 0 (.int .i64 c) := rfl

-- the values' own types

end Go.Proofs.Ytgpkihnihmbomaa.XRp
