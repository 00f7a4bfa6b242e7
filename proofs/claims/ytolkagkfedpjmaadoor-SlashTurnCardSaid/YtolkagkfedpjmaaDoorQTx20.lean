-- Laid by this work's own turn of the print (gprint.py); not the print's own text.
import Derived.Test.YtolkagkfedpjmaaDoorQTx0
namespace Go.Proofs.YtolkagkfedpjmaaDoor.QT
open Go.RowKit Go.Proofs.YtolkagkfedpjmaaDoorW.PrintWords Go.Proofs.YtolkagkfedpjmaaDoorW.PrintLast Go.Proofs.YtolkagkfedpjmaaDoorW.PrintMore
attribute [local go_sem] max2_int min2_int max_two min_two max_three min_three max_four min_four   -- for this text's walks alone
set_option linter.unusedVariables false
set_option linter.unusedSimpArgs false

/-! ### api_Number: function 13 -/
def api_Number.f (a0 : Option Int) : Option (Int) := some (a0.getD 0)
theorem api_Number.calls (a0 : Option Int) (r : Int) (w : World) (h : api_Number.f a0 = some r) (hL : Number.Laid w) :
    Calls Tryd.prog 13 #[errW a0] w fun e w' => e = .returned (.int .i64 r) ∧ Below w.heap.size w w' := by
  obtain rfl := Option.some.inj h
  cases a0 with
  | none => exact Number.number_nil w
  | some c => exact Number.number_some c w hL


end Go.Proofs.YtolkagkfedpjmaaDoor.QT
