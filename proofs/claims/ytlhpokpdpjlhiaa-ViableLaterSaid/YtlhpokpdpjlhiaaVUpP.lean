/-
  The plain side of the law ViableUp of package psephoslaw13.
-/
import Derived.Test.YtlhpokpdpjlhiaaView
namespace Go.Proofs.Ytlhpokpdpjlhiaa.QI
open Go.RowKit Go.Maps Go.Proofs.YtlhpokpdpjlhiaaW.PrintWords Go.Proofs.Ytlhpokpdpjlhiaa.Tree Go.Proofs.Ytlhpokpdpjlhiaa.Own
set_option linter.unusedVariables false
set_option maxRecDepth 100000

/-- Whatever may, what it stands on may. -/
theorem may_parent {t : T} (L : Low t) {lf : Int → Bool} {r : Int} (h : Tree.has t.ns r = true) (hf : r ≠ t.first) (hm : may t lf r = true) : Tree.has t.ns (getD t.ns r).p = true ∧ may t lf (getD t.ns r).p = true := by
  have hp := (L.fit.well.up r h hf).1
  refine ⟨hp, ?_⟩
  rw [may_eq L lf hp, Bool.or_eq_true]
  exact .inr (List.any_eq_true.2 ⟨r, (kid_is t _ r).2 ⟨h, hf, rfl⟩, hm⟩)
/-- Whatever may has none on it, or one that may. -/
theorem may_kid {t : T} (L : Low t) {lf : Int → Bool} {r : Int} (h : Tree.has t.ns r = true) (hm : may t lf r = true) : ((kidsOf t r).isEmpty || (kidsOf t r).any (may t lf)) = true := by
  rw [may_eq L lf h, Bool.or_eq_true, Bool.and_eq_true] at hm
  rw [Bool.or_eq_true]
  rcases hm with hm | hm
  · exact .inl hm.1
  · exact .inr hm
end Go.Proofs.Ytlhpokpdpjlhiaa.QI
