/- Begun as a text of print.sh, over a translation in which a function has a stand-in; what the stand-in changes is proved by hand. -/
import Derived.Test.YtjkgabmhhehhjaaProg
import Derived.Below
import Derived.Deep.Draws
import Derived.Deep.AppendLies
import Derived.Maps.AppendAt
import Derived.OwnWalk
import Derived.Laws.BytesArg
import Derived.Laws.MakeOwn
import Derived.Laws.OwnMore
import Derived.Deep.OwnRows
import Derived.Tactics
import Derived.Lib.ConvBytes
import Derived.Laws.Slices
import Derived.WalkKit
import Derived.KernelRfl
import Derived.RowKit3
import Derived.Deep.LoopGhost
import Derived.Deep.QuietTactic
import Derived.BigQuiet
import Derived.WideLaws
import Derived.Deep.DeepCutAuto
import Derived.Deep.CutBlock
import Derived.Deep.RegionHeld3
import Derived.Laws.Rows
import Derived.Lib.AppendStr
import Derived.ArgAppend
import Derived.Laws.IdiomCopy
import Derived.OrdersHeld
import Derived.Laws.BitsLemmas
import Derived.RowKit
import Derived.Test.YtjkgabmhhehhjaaWWords
import Derived.Test.YtjkgabmhhehhjaaWLast
import Derived.Test.YtjkgabmhhehhjaaWTab
import Derived.Test.YtjkgabmhhehhjaaWFour
import Derived.Test.YtjkgabmhhehhjaaWQPut
import Derived.Test.YtjkgabmhhehhjaaWApart
import Derived.Test.YtjkgabmhhehhjaaWArr
import Derived.Test.YtjkgabmhhehhjaaWZeros
import Derived.Test.YtjkgabmhhehhjaaWFoot
import Derived.Test.YtjkgabmhhehhjaaWKept
import Derived.Test.YtjkgabmhhehhjaaWShare
import Derived.Test.YtjkgabmhhehhjaaWN
import Derived.Test.YtjkgabmhhehhjaaWFootNe
import Derived.Test.YtjkgabmhhehhjaaWAt
import Derived.Test.YtjkgabmhhehhjaaWEqStruct
import Derived.Test.YtjkgabmhhehhjaaWRepsOne
import Derived.Test.YtjkgabmhhehhjaaWInv
import Derived.Test.YtjkgabmhhehhjaaWInvWords
import Derived.Test.YtjkgabmhhehhjaaWGuard
import Derived.Test.YtjkgabmhhehhjaaWNEv
import Derived.Test.YtjkgabmhhehhjaaWMore
namespace Go.Proofs.Ytjkgabmhhehhjaa.PSetsNone
open Go.RowKit Go.Proofs.YtjkgabmhhehhjaaW.PrintWords Go.Proofs.YtjkgabmhhehhjaaW.PrintLast Go.Proofs.YtjkgabmhhehhjaaW.PrintMore
attribute [local go_sem] max2_int min2_int max_two min_two max_three min_three max_four min_four   -- for this text's walks alone
set_option linter.unusedVariables false
set_option linter.unusedSimpArgs false



def errW : Option Int → Value
  | none => .nilIface
  | some c => .iface 0 (.int .i64 c)
theorem errW_none : errW none = .nilIface := rfl
theorem errW_some (c : Int) : errW (some c) = .iface 0 (.int .i64 c) := rfl

theorem info3 : (Try.prog.info? 3).map (fun i => (i.zero, i.size, i.bytes)) = some (some (.int .i64 0), 1, 8) := by kernel_rfl
theorem info5 : (Try.prog.info? 5).map (fun i => (i.zero, i.size, i.bytes)) = some (some (.int .u8 0), 1, 1) := by kernel_rfl
-- the values' own types

end Go.Proofs.Ytjkgabmhhehhjaa.PSetsNone
