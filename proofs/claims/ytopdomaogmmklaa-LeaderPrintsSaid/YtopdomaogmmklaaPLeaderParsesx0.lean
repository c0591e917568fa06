-- PRINTED BY print.sh 35421559b90ae4d0a3588c463048766b98c2df88dd9212a6774a882060cdf62d: not written by this session
import Derived.Test.YtopdomaogmmklaaProg
import Derived.Below
import Derived.Deep.Draws
import Derived.Deep.AppendLies
import Derived.Maps.AppendAt
import Derived.OwnWalk
import Derived.Laws.BytesArg
import Derived.Laws.MakeOwn
import Derived.Laws.OwnMore
import Derived.Deep.OwnRows
import Derived.Tactics
import Derived.Lib.ConvBytes
import Derived.Laws.Slices
import Derived.WalkKit
import Derived.KernelRfl
import Derived.RowKit3
import Derived.Deep.LoopGhost
import Derived.Deep.QuietTactic
import Derived.BigQuiet
import Derived.WideLaws
import Derived.Deep.DeepCutAuto
import Derived.Deep.CutBlock
import Derived.Deep.RegionHeld3
import Derived.Laws.Rows
import Derived.Lib.AppendStr
import Derived.ArgAppend
import Derived.Laws.IdiomCopy
import Derived.OrdersHeld
import Derived.Laws.BitsLemmas
import Derived.RowKit
import Derived.Test.YtopdomaogmmklaaWWords
import Derived.Test.YtopdomaogmmklaaWLast
import Derived.Test.YtopdomaogmmklaaWTab
import Derived.Test.YtopdomaogmmklaaWFour
import Derived.Test.YtopdomaogmmklaaWQPut
import Derived.Test.YtopdomaogmmklaaWApart
import Derived.Test.YtopdomaogmmklaaWArr
import Derived.Test.YtopdomaogmmklaaWZeros
import Derived.Test.YtopdomaogmmklaaWFoot
import Derived.Test.YtopdomaogmmklaaWKept
import Derived.Test.YtopdomaogmmklaaWShare
import Derived.Test.YtopdomaogmmklaaWN
import Derived.Test.YtopdomaogmmklaaWFootNe
import Derived.Test.YtopdomaogmmklaaWAt
import Derived.Test.YtopdomaogmmklaaWEqStruct
import Derived.Test.YtopdomaogmmklaaWRepsOne
import Derived.Test.YtopdomaogmmklaaWInv
import Derived.Test.YtopdomaogmmklaaWInvWords
import Derived.Test.YtopdomaogmmklaaWGuard
import Derived.Test.YtopdomaogmmklaaWNEv
import Derived.Test.YtopdomaogmmklaaWMore
namespace Go.Proofs.Ytopdomaogmmklaa.PLeaderParses
open Go.RowKit Go.Proofs.YtopdomaogmmklaaW.PrintWords Go.Proofs.YtopdomaogmmklaaW.PrintLast Go.Proofs.YtopdomaogmmklaaW.PrintMore
attribute [local go_sem] max2_int min2_int max_two min_two max_three min_three max_four min_four   -- for this text's walks alone
set_option linter.unusedVariables false
set_option linter.unusedSimpArgs false



def errW : Option Int → Value
  | none => .nilIface
  | some c => .iface 0 (.int .i64 c)
theorem errW_none : errW none = .nilIface := rfl
theorem errW_some (c : Int) : errW (some c) = .iface 0 (.int .i64 c) := rfl

theorem info5 : (Try.prog.info? 5).map (fun i => (i.zero, i.size, i.bytes)) = some (some (.int .u8 0), 1, 1) := by kernel_rfl
-- the values' own types

end Go.Proofs.Ytopdomaogmmklaa.PLeaderParses
