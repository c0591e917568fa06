/- Begun as a text of print.sh, over a translation in which a function has a stand-in; what the stand-in changes is proved by hand. -/
import Derived.Test.YtcgnojbddclhdabProg
import Derived.Below
import Derived.Deep.Draws
import Derived.Deep.AppendLies
import Derived.Maps.AppendAt
import Derived.OwnWalk
import Derived.Laws.BytesArg
import Derived.Laws.MakeOwn
import Derived.Laws.OwnMore
import Derived.Deep.OwnRows
import Derived.Tactics
import Derived.Lib.ConvBytes
import Derived.Laws.Slices
import Derived.WalkKit
import Derived.KernelRfl
import Derived.RowKit3
import Derived.Deep.LoopGhost
import Derived.Deep.QuietTactic
import Derived.BigQuiet
import Derived.WideLaws
import Derived.Deep.DeepCutAuto
import Derived.Deep.CutBlock
import Derived.Deep.RegionHeld3
import Derived.Laws.Rows
import Derived.Lib.AppendStr
import Derived.ArgAppend
import Derived.Laws.IdiomCopy
import Derived.OrdersHeld
import Derived.Laws.BitsLemmas
import Derived.RowKit
import Derived.Test.YtcgnojbddclhdabWWords
import Derived.Test.YtcgnojbddclhdabWLast
import Derived.Test.YtcgnojbddclhdabWTab
import Derived.Test.YtcgnojbddclhdabWFour
import Derived.Test.YtcgnojbddclhdabWQPut
import Derived.Test.YtcgnojbddclhdabWApart
import Derived.Test.YtcgnojbddclhdabWArr
import Derived.Test.YtcgnojbddclhdabWZeros
import Derived.Test.YtcgnojbddclhdabWFoot
import Derived.Test.YtcgnojbddclhdabWKept
import Derived.Test.YtcgnojbddclhdabWShare
import Derived.Test.YtcgnojbddclhdabWN
import Derived.Test.YtcgnojbddclhdabWFootNe
import Derived.Test.YtcgnojbddclhdabWAt
import Derived.Test.YtcgnojbddclhdabWEqStruct
import Derived.Test.YtcgnojbddclhdabWRepsOne
import Derived.Test.YtcgnojbddclhdabWInv
import Derived.Test.YtcgnojbddclhdabWInvWords
import Derived.Test.YtcgnojbddclhdabWGuard
import Derived.Test.YtcgnojbddclhdabWNEv
import Derived.Test.YtcgnojbddclhdabWMore
namespace Go.Proofs.Ytcgnojbddclhdab.PSmallSigns
open Go.RowKit Go.Proofs.YtcgnojbddclhdabW.PrintWords Go.Proofs.YtcgnojbddclhdabW.PrintLast Go.Proofs.YtcgnojbddclhdabW.PrintMore
attribute [local go_sem] max2_int min2_int max_two min_two max_three min_three max_four min_four   -- for this text's walks alone
set_option linter.unusedVariables false
set_option linter.unusedSimpArgs false



def errW : Option Int → Value
  | none => .nilIface
  | some c => .iface 0 (.int .i64 c)
theorem errW_none : errW none = .nilIface := rfl
theorem errW_some (c : Int) : errW (some c) = .iface 0 (.int .i64 c) := rfl

-- the values' own types

end Go.Proofs.Ytcgnojbddclhdab.PSmallSigns
