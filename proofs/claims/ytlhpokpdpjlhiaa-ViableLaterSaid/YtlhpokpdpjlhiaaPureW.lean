/-
  Small laws of a read row (seat i: in the place of XPureW).
-/
import Derived.Test.YtlhpokpdpjlhiaaQIx2
import Derived.Test.YtlhpokpdpjlhiaaQIx3
import Derived.Test.YtlhpokpdpjlhiaaTreeA
namespace Go.Proofs.Ytlhpokpdpjlhiaa.QI
open Go.RowKit Go.Proofs.YtlhpokpdpjlhiaaW.PrintWords Go.Proofs.Ytlhpokpdpjlhiaa.Tree
set_option linter.unusedVariables false
-- psephoslaw09_Model_Find.f psephoslaw09_Model_Find.calls psephoslaw09_Model_Below.calls

theorem rd_mem (l : List Int) (i : Nat) (h : i < l.length) : rd l i ∈ l := by
  simp [rd, List.getD_eq_getElem?_getD, h]
theorem rd_get (l : List Int) (i : Nat) (h : i < l.length) : rd l i = l[i] := by
  simp [rd, List.getD_eq_getElem?_getD, h]
theorem wrap_next {i n : Nat} (hi : i < n) (hn : n ≤ 140737488351232) : wrap64 ((i : Int) + 1) = ((i + 1 : Nat) : Int) := by
  unfold wrap64
  omega

end Go.Proofs.Ytlhpokpdpjlhiaa.QI
