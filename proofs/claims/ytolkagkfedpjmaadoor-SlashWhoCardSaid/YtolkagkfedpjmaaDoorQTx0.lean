-- Laid by this work's own turn of the print (gprint.py); not the print's own text.
import Derived.Test.YtolkagkfedpjmaaDoorProg
import Derived.Below
import Derived.Deep.Draws
import Derived.Deep.AppendLies
import Derived.Maps.AppendAt
import Derived.OwnWalk
import Derived.Laws.BytesArg
import Derived.Laws.MakeOwn
import Derived.Laws.OwnMore
import Derived.Deep.OwnRows
import Derived.Tactics
import Derived.Lib.ConvBytes
import Derived.Laws.Slices
import Derived.WalkKit
import Derived.KernelRfl
import Derived.RowKit3
import Derived.Deep.LoopGhost
import Derived.Deep.QuietTactic
import Derived.BigQuiet
import Derived.WideLaws
import Derived.Deep.DeepCutAuto
import Derived.Deep.CutBlock
import Derived.Deep.RegionHeld3
import Derived.Laws.Rows
import Derived.Lib.AppendStr
import Derived.ArgAppend
import Derived.Laws.IdiomCopy
import Derived.OrdersHeld
import Derived.Laws.BitsLemmas
import Derived.RowKit
import Derived.Test.YtolkagkfedpjmaaDoorShelf
import Derived.Test.YtolkagkfedpjmaaDoorSortWords
import Derived.Test.YtolkagkfedpjmaaDoorNumber
import Derived.Test.YtolkagkfedpjmaaDoorField
import Derived.Test.YtolkagkfedpjmaaDoorCells
import Derived.Test.YtolkagkfedpjmaaDoorWWords
import Derived.Test.YtolkagkfedpjmaaDoorWLast
import Derived.Test.YtolkagkfedpjmaaDoorWTab
import Derived.Test.YtolkagkfedpjmaaDoorWFour
import Derived.Test.YtolkagkfedpjmaaDoorWQPut
import Derived.Test.YtolkagkfedpjmaaDoorWApart
import Derived.Test.YtolkagkfedpjmaaDoorWArr
import Derived.Test.YtolkagkfedpjmaaDoorWZeros
import Derived.Test.YtolkagkfedpjmaaDoorWFoot
import Derived.Test.YtolkagkfedpjmaaDoorWKept
import Derived.Test.YtolkagkfedpjmaaDoorWShare
import Derived.Test.YtolkagkfedpjmaaDoorWN
import Derived.Test.YtolkagkfedpjmaaDoorWFootNe
import Derived.Test.YtolkagkfedpjmaaDoorWAt
import Derived.Test.YtolkagkfedpjmaaDoorWEqStruct
import Derived.Test.YtolkagkfedpjmaaDoorWRepsOne
import Derived.Test.YtolkagkfedpjmaaDoorWInv
import Derived.Test.YtolkagkfedpjmaaDoorWInvWords
import Derived.Test.YtolkagkfedpjmaaDoorWGuard
import Derived.Test.YtolkagkfedpjmaaDoorWNEv
import Derived.Test.YtolkagkfedpjmaaDoorWMore
namespace Go.Proofs.YtolkagkfedpjmaaDoor.QT
open Go.RowKit Go.Proofs.YtolkagkfedpjmaaDoorW.PrintWords Go.Proofs.YtolkagkfedpjmaaDoorW.PrintLast Go.Proofs.YtolkagkfedpjmaaDoorW.PrintMore
attribute [local go_sem] max2_int min2_int max_two min_two max_three min_three max_four min_four   -- for this text's walks alone
set_option linter.unusedVariables false
set_option linter.unusedSimpArgs false



def errW : Option Int → Value
  | none => .nilIface
  | some c => .iface 43 (.int .i64 c)
theorem errW_none : errW none = .nilIface := rfl
theorem errW_some (c : Int) : errW (some c) = .iface 43 (.int .i64 c) := rfl

theorem info3 : (Tryd.prog.info? 3).map (fun i => (i.zero, i.size, i.bytes)) = some (some (.int .i64 0), 1, 8) := by kernel_rfl
theorem info25 : (Tryd.prog.info? 25).map (fun i => (i.zero, i.size, i.bytes)) = some (some (.int .u64 0), 1, 8) := by kernel_rfl
-- the values' own types

end Go.Proofs.YtolkagkfedpjmaaDoor.QT
