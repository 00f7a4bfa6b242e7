/-
  A few words that the printed functions of this seat use: max and min of two numbers, gates ahead of an arm, a row of bools beside a block that is not its own. (In place of the printed word texts that hold many more: a claim has at most 1.5 MB.)
-/
import Derived.Test.YtiklbldanidfiaaWWords
import Derived.Test.YtiklbldanidfiaaWLast
import Derived.Test.YtiklbldanidfiaaCells
import Derived.Test.YtiklbldanidfiaaWTab
import Derived.Test.YtiklbldanidfiaaWEqStruct
import Derived.Test.YtiklbldanidfiaaWRepsOne
import Derived.Test.YtiklbldanidfiaaWGuard
namespace Go.Proofs.YtiklbldanidfiaaW.PrintMore
open Go.RowKit
theorem max2_int (k l : IntKind) (x y : Int) : Builtin.max2 (.int k x) (.int l y) = pure (.int k (if x < y then y else x)) := by
  simp [Builtin.max2]
theorem min2_int (k l : IntKind) (x y : Int) : Builtin.min2 (.int k x) (.int l y) = pure (.int k (if y < x then y else x)) := by
  simp [Builtin.min2]
theorem max_two (ats : Array TypeId) (ty : TypeId) (a b : Value) : Builtin.max_ ats ty #[a, b] = (Builtin.max2 a b >>= fun s => pure s) := by
  simp [Builtin.max_]
theorem min_two (ats : Array TypeId) (ty : TypeId) (a b : Value) : Builtin.min_ ats ty #[a, b] = (Builtin.min2 a b >>= fun s => pure s) := by
  simp [Builtin.min_]
end Go.Proofs.YtiklbldanidfiaaW.PrintMore
namespace Go.Proofs.YtiklbldanidfiaaW.PrintWords
open Go.RowKit
section
variable {P : Program} {ops : Array Oper} {rest : List Oper} {o : Oper} {a : Act} {Q : Exit → Act → World → Prop} {W : World}
theorem gate_callee {f : FuncId} {as : Array Operand} {ts : Array TypeId} (_ho : o.op = .call { callee := .value (.func f), args := as, argTypes := ts }) (h : wpList P ops Q (o :: rest) a W) : wpList P ops Q (o :: rest) a W := h
theorem gate_builtin {b : Builtin} {xs : Array Operand} {ts : Array TypeId} (_ho : o.op = .call { callee := .builtin b, args := xs, argTypes := ts }) (h : wpList P ops Q (o :: rest) a W) : wpList P ops Q (o :: rest) a W := h
end
/-- The greater of two numbers. -/
def mx (a b : Int) : Int := if a < b then b else a
theorem drewN_self (w : World) (n : Nat) : w.drewN n = w.drewN n := rfl
namespace Kd
/-- A row of bools beside a block that is not its own. -/
theorem R_grown1 {e base : Nat} {ok : Nat → Prop} {W w1 : World} {v : Value} {xs : List Bool} (h : Kd.R Kd.bool e W base ok v xs) (_hE : Kd.bool.E = []) {row : Option Nat} (hg : W.grownBy w1 row) (hne : row ≠ v.ownBlock) : Kd.R Kd.bool e w1 base ok v xs := by
  have ht : Kd.R Kd.bool e W base (fun k => some k = v.ownBlock) v xs := ⟨fun k hk => hk.symm, h.2⟩
  exact R_mono (R_grown ht hg (fun k hk e_ => hne (e_.symm.trans hk))) (fun k hk => h.1 k hk.symm)
end Kd
end Go.Proofs.YtiklbldanidfiaaW.PrintWords
