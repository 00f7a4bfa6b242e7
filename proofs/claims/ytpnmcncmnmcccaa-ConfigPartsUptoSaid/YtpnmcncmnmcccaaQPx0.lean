-- Laid by this work's own turn of the print (gprint.py); not the print's own text.
import Derived.Test.YtpnmcncmnmcccaaProg
import Derived.Below
import Derived.Deep.Draws
import Derived.Deep.AppendLies
import Derived.Maps.AppendAt
import Derived.OwnWalk
import Derived.Laws.BytesArg
import Derived.Laws.MakeOwn
import Derived.Laws.OwnMore
import Derived.Deep.OwnRows
import Derived.Tactics
import Derived.Lib.ConvBytes
import Derived.Laws.Slices
import Derived.WalkKit
import Derived.KernelRfl
import Derived.RowKit3
import Derived.Deep.LoopGhost
import Derived.Deep.QuietTactic
import Derived.BigQuiet
import Derived.WideLaws
import Derived.Deep.DeepCutAuto
import Derived.Deep.CutBlock
import Derived.Deep.RegionHeld3
import Derived.Laws.Rows
import Derived.Lib.AppendStr
import Derived.ArgAppend
import Derived.Laws.IdiomCopy
import Derived.OrdersHeld
import Derived.Laws.BitsLemmas
import Derived.RowKit
import Derived.Test.YtpnmcncmnmcccaaWWords
import Derived.Test.YtpnmcncmnmcccaaWLast
import Derived.Test.YtpnmcncmnmcccaaWTab
import Derived.Test.YtpnmcncmnmcccaaWFour
import Derived.Test.YtpnmcncmnmcccaaWQPut
import Derived.Test.YtpnmcncmnmcccaaWApart
import Derived.Test.YtpnmcncmnmcccaaWArr
import Derived.Test.YtpnmcncmnmcccaaWZeros
import Derived.Test.YtpnmcncmnmcccaaWFoot
import Derived.Test.YtpnmcncmnmcccaaWKept
import Derived.Test.YtpnmcncmnmcccaaWShare
import Derived.Test.YtpnmcncmnmcccaaWN
import Derived.Test.YtpnmcncmnmcccaaWFootNe
import Derived.Test.YtpnmcncmnmcccaaWAt
import Derived.Test.YtpnmcncmnmcccaaWEqStruct
import Derived.Test.YtpnmcncmnmcccaaWRepsOne
import Derived.Test.YtpnmcncmnmcccaaWInv
import Derived.Test.YtpnmcncmnmcccaaWInvWords
import Derived.Test.YtpnmcncmnmcccaaWGuard
import Derived.Test.YtpnmcncmnmcccaaWNEv
import Derived.Test.YtpnmcncmnmcccaaWMore
namespace Go.Proofs.Ytpnmcncmnmcccaa.QP
open Go.RowKit Go.Proofs.YtpnmcncmnmcccaaW.PrintWords Go.Proofs.YtpnmcncmnmcccaaW.PrintLast Go.Proofs.YtpnmcncmnmcccaaW.PrintMore
attribute [local go_sem] max2_int min2_int max_two min_two max_three min_three max_four min_four   -- for this text's walks alone
set_option linter.unusedVariables false
set_option linter.unusedSimpArgs false



def errW : Option Int → Value
  | none => .nilIface
  | some c => .iface 0 (.int .i64 c)
theorem errW_none : errW none = .nilIface := rfl
theorem errW_some (c : Int) : errW (some c) = .iface 0 (.int .i64 c) := rfl

theorem info3 : (Try.prog.info? 3).map (fun i => (i.zero, i.size, i.bytes)) = some (some (.int .i64 0), 1, 8) := by kernel_rfl
theorem info27 : (Try.prog.info? 27).map (fun i => (i.zero, i.size, i.bytes)) = some (some (.int .u64 0), 1, 8) := by kernel_rfl
-- the values' own types

end Go.Proofs.Ytpnmcncmnmcccaa.QP
