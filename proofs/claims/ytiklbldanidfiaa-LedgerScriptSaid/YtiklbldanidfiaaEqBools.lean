/-
  '==' on arrays of four bools, as one Bool; no condition.
-/
import Derived.Test.YtiklbldanidfiaaProg
import Derived.WalkKit
import Derived.KernelRfl
import Derived.Laws.StructEq
namespace Go.Proofs.Ytiklbldanidfiaa.EqBools
open Go.RowKit
theorem info_bool : (Try.prog.info? 4).map (fun i => (i.zero, i.size, i.bytes)) = some (some (.bool false), 1, 1) := by kernel_rfl
theorem part_bool (cs : Array Value) (i : Nat) (v : Value) (w : World) (h : cs[i]? = some v) : (part 4 cs i).run Try.prog w = .ok v w := by
  simp [part, h, isAgg, run_underlying Try.underlying4]
theorem size_bool (w : World) : (sizeOf 4).run Try.prog w = .ok 1 w := by
  obtain ⟨i0, hi, hz⟩ := Option.map_eq_some_iff.1 info_bool
  simp only [Prod.mk.injEq] at hz
  simp [sizeOf, typeInfo, hi, hz.2.1]
theorem eq_bools (d : Nat) (a0 a1 a2 a3 b0 b1 b2 b3 : Bool) (w : World) : (Op.equalIn (d + 2) 31 (.agg #[.bool a0, .bool a1, .bool a2, .bool a3]) (.agg #[.bool b0, .bool b1, .bool b2, .bool b3])).run Try.prog w = .ok (a0 == b0 && (a1 == b1 && (a2 == b2 && a3 == b3))) w := by
  have p0 := fun (x0 x1 x2 x3 : Bool) (w : World) => part_bool #[.bool x0, .bool x1, .bool x2, .bool x3] 0 (.bool x0) w rfl
  have p1 := fun (x0 x1 x2 x3 : Bool) (w : World) => part_bool #[.bool x0, .bool x1, .bool x2, .bool x3] 1 (.bool x1) w rfl
  have p2 := fun (x0 x1 x2 x3 : Bool) (w : World) => part_bool #[.bool x0, .bool x1, .bool x2, .bool x3] 2 (.bool x2) w rfl
  have p3 := fun (x0 x1 x2 x3 : Bool) (w : World) => part_bool #[.bool x0, .bool x1, .bool x2, .bool x3] 3 (.bool x3) w rfl
  have q := fun (a b : Bool) (w : World) => run_equalIn_bool' (P := Try.prog) w d 4 a b Try.underlying4
  rw [show d + 2 = (d + 1) + 1 from rfl, Op.equalIn]
  simp only [Sem.run_bind, run_underlying Try.underlying31, Result.andThen_ok, size_bool]
  simp only [Std.Legacy.Range.forIn_eq_forIn_range', Std.Legacy.Range.size]
  simp only [Nat.sub_zero, Nat.add_one_sub_one, Nat.div_one, List.range', List.forIn_cons, List.forIn_nil, Sem.run_bind, Nat.zero_mul, Nat.zero_add, Nat.one_mul, Nat.reduceAdd, Nat.reduceMul, p0, q, Result.andThen_ok]
  generalize (a0 == b0) = e0
  cases e0
  · simp
  · simp only [Bool.not_true, Bool.false_eq_true, if_false, Sem.run_pure, Result.andThen_ok, Sem.run_bind, p1, q, Bool.true_and]
    generalize (a1 == b1) = e1
    cases e1
    · simp
    · simp only [Bool.not_true, Bool.false_eq_true, if_false, Sem.run_pure, Result.andThen_ok, Sem.run_bind, p2, q, Bool.true_and]
      generalize (a2 == b2) = e2
      cases e2
      · simp
      · simp only [Bool.not_true, Bool.false_eq_true, if_false, Sem.run_pure, Result.andThen_ok, Sem.run_bind, p3, q, Bool.true_and]
        generalize (a3 == b3) = e3
        cases e3 <;> simp
/-- As the walk meets it. -/
theorem eq_bools' (a0 a1 a2 a3 b0 b1 b2 b3 : Bool) (w : World) : (Op.equalIn 10000 31 (.agg #[.bool a0, .bool a1, .bool a2, .bool a3]) (.agg #[.bool b0, .bool b1, .bool b2, .bool b3])).run Try.prog w = .ok (a0 == b0 && (a1 == b1 && (a2 == b2 && a3 == b3))) w := eq_bools 9998 a0 a1 a2 a3 b0 b1 b2 b3 w
end Go.Proofs.Ytiklbldanidfiaa.EqBools
