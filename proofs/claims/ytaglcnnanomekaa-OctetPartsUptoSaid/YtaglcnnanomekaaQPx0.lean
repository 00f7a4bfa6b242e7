-- Laid by this work's own turn of the print (gprint.py); not the print's own text.
import Derived.Test.YtaglcnnanomekaaProg
import Derived.Below
import Derived.Deep.Draws
import Derived.Deep.AppendLies
import Derived.Maps.AppendAt
import Derived.OwnWalk
import Derived.Laws.BytesArg
import Derived.Laws.MakeOwn
import Derived.Laws.OwnMore
import Derived.Deep.OwnRows
import Derived.Tactics
import Derived.Lib.ConvBytes
import Derived.Laws.Slices
import Derived.WalkKit
import Derived.KernelRfl
import Derived.RowKit3
import Derived.Deep.LoopGhost
import Derived.Deep.QuietTactic
import Derived.BigQuiet
import Derived.WideLaws
import Derived.Deep.DeepCutAuto
import Derived.Deep.CutBlock
import Derived.Deep.RegionHeld3
import Derived.Laws.Rows
import Derived.Lib.AppendStr
import Derived.ArgAppend
import Derived.Laws.IdiomCopy
import Derived.OrdersHeld
import Derived.Laws.BitsLemmas
import Derived.RowKit
import Derived.Test.YtaglcnnanomekaaLaw01
import Derived.Test.YtaglcnnanomekaaWWords
import Derived.Test.YtaglcnnanomekaaWLast
import Derived.Test.YtaglcnnanomekaaWTab
import Derived.Test.YtaglcnnanomekaaWFour
import Derived.Test.YtaglcnnanomekaaWQPut
import Derived.Test.YtaglcnnanomekaaWApart
import Derived.Test.YtaglcnnanomekaaWArr
import Derived.Test.YtaglcnnanomekaaWZeros
import Derived.Test.YtaglcnnanomekaaWFoot
import Derived.Test.YtaglcnnanomekaaWKept
import Derived.Test.YtaglcnnanomekaaWShare
import Derived.Test.YtaglcnnanomekaaWN
import Derived.Test.YtaglcnnanomekaaWFootNe
import Derived.Test.YtaglcnnanomekaaWAt
import Derived.Test.YtaglcnnanomekaaWEqStruct
import Derived.Test.YtaglcnnanomekaaWRepsOne
import Derived.Test.YtaglcnnanomekaaWInv
import Derived.Test.YtaglcnnanomekaaWInvWords
import Derived.Test.YtaglcnnanomekaaWGuard
import Derived.Test.YtaglcnnanomekaaWNEv
import Derived.Test.YtaglcnnanomekaaWMore
namespace Go.Proofs.Ytaglcnnanomekaa.QP
open Go.RowKit Go.Proofs.YtaglcnnanomekaaW.PrintWords Go.Proofs.YtaglcnnanomekaaW.PrintLast Go.Proofs.YtaglcnnanomekaaW.PrintMore
attribute [local go_sem] max2_int min2_int max_two min_two max_three min_three max_four min_four   -- for this text's walks alone
set_option linter.unusedVariables false
set_option linter.unusedSimpArgs false



def errW : Option Int → Value
  | none => .nilIface
  | some c => .iface 0 (.int .i64 c)
theorem errW_none : errW none = .nilIface := rfl
theorem errW_some (c : Int) : errW (some c) = .iface 0 (.int .i64 c) := rfl

theorem info5 : (Try.prog.info? 5).map (fun i => (i.zero, i.size, i.bytes)) = some (some (.int .u8 0), 1, 1) := by kernel_rfl
theorem info26 : (Try.prog.info? 26).map (fun i => (i.zero, i.size, i.bytes)) = some (some (.int .u64 0), 1, 8) := by kernel_rfl
-- the values' own types

end Go.Proofs.Ytaglcnnanomekaa.QP
