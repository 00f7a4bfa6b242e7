-- Laid by this work's own turn of the print (gprint.py); not the print's own text.
import Derived.Test.YtegegnpjdpjgmaaProg
import Derived.Below
import Derived.Deep.Draws
import Derived.Deep.AppendLies
import Derived.Maps.AppendAt
import Derived.OwnWalk
import Derived.Laws.BytesArg
import Derived.Laws.MakeOwn
import Derived.Laws.OwnMore
import Derived.Deep.OwnRows
import Derived.Tactics
import Derived.Lib.ConvBytes
import Derived.Laws.Slices
import Derived.WalkKit
import Derived.KernelRfl
import Derived.RowKit3
import Derived.Deep.LoopGhost
import Derived.Deep.QuietTactic
import Derived.BigQuiet
import Derived.WideLaws
import Derived.Deep.DeepCutAuto
import Derived.Deep.CutBlock
import Derived.Deep.RegionHeld3
import Derived.Laws.Rows
import Derived.Lib.AppendStr
import Derived.ArgAppend
import Derived.Laws.IdiomCopy
import Derived.OrdersHeld
import Derived.Laws.BitsLemmas
import Derived.RowKit
import Derived.Test.YtegegnpjdpjgmaaShelf
import Derived.Test.YtegegnpjdpjgmaaSortWords
import Derived.Test.YtegegnpjdpjgmaaCells
import Derived.Test.YtegegnpjdpjgmaaWWords
import Derived.Test.YtegegnpjdpjgmaaWLast
import Derived.Test.YtegegnpjdpjgmaaWTab
import Derived.Test.YtegegnpjdpjgmaaWFour
import Derived.Test.YtegegnpjdpjgmaaWQPut
import Derived.Test.YtegegnpjdpjgmaaWApart
import Derived.Test.YtegegnpjdpjgmaaWArr
import Derived.Test.YtegegnpjdpjgmaaWZeros
import Derived.Test.YtegegnpjdpjgmaaWFoot
import Derived.Test.YtegegnpjdpjgmaaWKept
import Derived.Test.YtegegnpjdpjgmaaWShare
import Derived.Test.YtegegnpjdpjgmaaWN
import Derived.Test.YtegegnpjdpjgmaaWFootNe
import Derived.Test.YtegegnpjdpjgmaaWAt
import Derived.Test.YtegegnpjdpjgmaaWEqStruct
import Derived.Test.YtegegnpjdpjgmaaWRepsOne
import Derived.Test.YtegegnpjdpjgmaaWInv
import Derived.Test.YtegegnpjdpjgmaaWInvWords
import Derived.Test.YtegegnpjdpjgmaaWGuard
import Derived.Test.YtegegnpjdpjgmaaWNEv
import Derived.Test.YtegegnpjdpjgmaaWMore
namespace Go.Proofs.Ytegegnpjdpjgmaa.QV
open Go.RowKit Go.Proofs.YtegegnpjdpjgmaaW.PrintWords Go.Proofs.YtegegnpjdpjgmaaW.PrintLast Go.Proofs.YtegegnpjdpjgmaaW.PrintMore
attribute [local go_sem] max2_int min2_int max_two min_two max_three min_three max_four min_four   -- for this text's walks alone
set_option linter.unusedVariables false
set_option linter.unusedSimpArgs false



def errW : Option Int → Value
  | none => .nilIface
  | some c => .iface 0 (.int .i64 c)
theorem errW_none : errW none = .nilIface := rfl
theorem errW_some (c : Int) : errW (some c) = .iface 0 (.int .i64 c) := rfl

theorem info3 : (Try.prog.info? 3).map (fun i => (i.zero, i.size, i.bytes)) = some (some (.int .i64 0), 1, 8) := by kernel_rfl
theorem info25 : (Try.prog.info? 25).map (fun i => (i.zero, i.size, i.bytes)) = some (some (.int .u64 0), 1, 8) := by kernel_rfl
-- the values' own types

end Go.Proofs.Ytegegnpjdpjgmaa.QV
