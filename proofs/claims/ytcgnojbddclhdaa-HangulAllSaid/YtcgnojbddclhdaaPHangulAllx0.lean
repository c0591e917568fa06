-- PRINTED BY print.sh 35421559b90ae4d0a3588c463048766b98c2df88dd9212a6774a882060cdf62d: not written by this session
import Derived.Test.YtcgnojbddclhdaaProg
import Derived.Below
import Derived.Deep.Draws
import Derived.Deep.AppendLies
import Derived.Maps.AppendAt
import Derived.OwnWalk
import Derived.Laws.BytesArg
import Derived.Laws.MakeOwn
import Derived.Laws.OwnMore
import Derived.Deep.OwnRows
import Derived.Tactics
import Derived.Lib.ConvBytes
import Derived.Laws.Slices
import Derived.WalkKit
import Derived.KernelRfl
import Derived.RowKit3
import Derived.Deep.LoopGhost
import Derived.Deep.QuietTactic
import Derived.BigQuiet
import Derived.WideLaws
import Derived.Deep.DeepCutAuto
import Derived.Deep.CutBlock
import Derived.Deep.RegionHeld3
import Derived.Laws.Rows
import Derived.Lib.AppendStr
import Derived.ArgAppend
import Derived.Laws.IdiomCopy
import Derived.OrdersHeld
import Derived.Laws.BitsLemmas
import Derived.RowKit
import Derived.Test.YtcgnojbddclhdaaWWords
import Derived.Test.YtcgnojbddclhdaaWLast
import Derived.Test.YtcgnojbddclhdaaWTab
import Derived.Test.YtcgnojbddclhdaaWFour
import Derived.Test.YtcgnojbddclhdaaWQPut
import Derived.Test.YtcgnojbddclhdaaWApart
import Derived.Test.YtcgnojbddclhdaaWArr
import Derived.Test.YtcgnojbddclhdaaWZeros
import Derived.Test.YtcgnojbddclhdaaWFoot
import Derived.Test.YtcgnojbddclhdaaWKept
import Derived.Test.YtcgnojbddclhdaaWShare
import Derived.Test.YtcgnojbddclhdaaWN
import Derived.Test.YtcgnojbddclhdaaWFootNe
import Derived.Test.YtcgnojbddclhdaaWAt
import Derived.Test.YtcgnojbddclhdaaWEqStruct
import Derived.Test.YtcgnojbddclhdaaWRepsOne
import Derived.Test.YtcgnojbddclhdaaWInv
import Derived.Test.YtcgnojbddclhdaaWInvWords
import Derived.Test.YtcgnojbddclhdaaWGuard
import Derived.Test.YtcgnojbddclhdaaWNEv
import Derived.Test.YtcgnojbddclhdaaWMore
namespace Go.Proofs.Ytcgnojbddclhdaa.PHangulAll
open Go.RowKit Go.Proofs.YtcgnojbddclhdaaW.PrintWords Go.Proofs.YtcgnojbddclhdaaW.PrintLast Go.Proofs.YtcgnojbddclhdaaW.PrintMore
attribute [local go_sem] max2_int min2_int max_two min_two max_three min_three max_four min_four   -- for this text's walks alone
set_option linter.unusedVariables false
set_option linter.unusedSimpArgs false



def errW : Option Int → Value
  | none => .nilIface
  | some c => .iface 0 (.int .i64 c)
theorem errW_none : errW none = .nilIface := rfl
theorem errW_some (c : Int) : errW (some c) = .iface 0 (.int .i64 c) := rfl

theorem info21 : (Try.prog.info? 21).map (fun i => (i.zero, i.size, i.bytes)) = some (some (.int .i32 0), 1, 4) := by kernel_rfl
-- the values' own types

end Go.Proofs.Ytcgnojbddclhdaa.PHangulAll
