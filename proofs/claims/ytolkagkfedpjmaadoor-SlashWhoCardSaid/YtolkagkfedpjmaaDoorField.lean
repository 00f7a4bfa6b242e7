/-
  A closed fact of this program: the validators of a vote by value.
-/
import Derived.Test.YtolkagkfedpjmaaDoorProg
import Derived.WalkKit
namespace Go.Proofs.YtolkagkfedpjmaaDoor.Field
open Go.RowKit
theorem who (a b c d e f v : Value) (W : World) : Sem.run Tryd.prog (Instr.field 30 (.agg #[a, b, c, d, e, f, v]) 4) W = .ok v W := by kernel_rfl
end Go.Proofs.YtolkagkfedpjmaaDoor.Field
