/-
  The walk of justify.Next, where neither checkpoint has enough: it comes to the plain function, and writes nothing that was there; no condition.
-/
import Derived.Test.YtlofdhhpfhmkhaaProg
import Derived.Test.YtlofdhhpfhmkhaaJustify
import Derived.RegionTactic
import Derived.ChangeAlike
import Derived.BigRegion
import Derived.BigGuardPart
namespace Go.Proofs.Ytlofdhhpfhmkhaa.Justify
open Go.RowKit Go.Proofs.YtlofdhhpfhmkhaaW.PrintWords Go.Proofs.Ytlofdhhpfhmkhaa.Own

set_option maxHeartbeats 8000000 in
set_option maxRecDepth 100000 in
theorem next_ff (s0 s1 s2 s3 : Bool) (pe pr ce cr fe fr e p q p' q' : Int) (w : World) :
    Calls Try.prog 10 #[.agg #[.bool s0, .bool s1, .bool s2, .bool s3, .int .i64 pe, .int .u64 pr, .int .i64 ce, .int .u64 cr, .int .i64 fe, .int .u64 fr], .int .i64 e, .bool false, .bool false, .agg #[.int .i64 p, .int .u64 q], .agg #[.int .i64 p', .int .u64 q']] w fun x w' =>
      x = .returned (.agg (next ⟨s0, s1, s2, s3, pe, pr, ce, cr, fe, fr⟩ e false false p q p' q').cells) ∧ Below w.heap.size w w' := by
  go_enter Try.func10, Try.ntmps10
  go_wp2
  go_region
  all_goals go_wp2
  all_goals
    refine bodyPost_ret (v := .agg (next ⟨s0, s1, s2, s3, pe, pr, ce, cr, fe, fr⟩ e false false p q p' q').cells) ?_ rfl ⟨rfl, ?_⟩
    · simp [results, Try.results10, go_sem, next, St.cells, *]
    · repeat (first | exact Below.refl _ _ | apply below_alloc | apply below_drew)
end Go.Proofs.Ytlofdhhpfhmkhaa.Justify
