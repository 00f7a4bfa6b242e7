/-
  The plain laws of package slash's printed functions: which votes may not both be.
-/
import Derived.Test.YtolkagkfedpjmaaDoorQDx2
namespace Go.Proofs.YtolkagkfedpjmaaDoor.QD
open Go.RowKit Go.Proofs.YtolkagkfedpjmaaDoorW.PrintWords Go.Proofs.YtolkagkfedpjmaaDoorW.PrintLast Go.Proofs.YtolkagkfedpjmaaDoorW.PrintMore
set_option linter.unusedVariables false

def sameB (s h se sr te tr s' h' se' sr' te' tr' : Int) : Bool := decide (s = s' ∧ h = h' ∧ (se = se' ∧ sr = sr') ∧ te = te' ∧ tr = tr')
def dblB (s h se sr te tr s' h' se' sr' te' tr' : Int) : Bool := decide (te = te') && !sameB s h se sr te tr s' h' se' sr' te' tr'
def arnB (se te se' te' : Int) : Bool := decide (se < se') && decide (te' < te)
theorem same_is (s h se sr te tr s' h' se' sr' te' tr' : Int) (l l' : List Int) : vote_Same.f s h se sr te tr l s' h' se' sr' te' tr' l' = some (sameB s h se sr te tr s' h' se' sr' te' tr') := by
  unfold vote_Same.f sameB
  by_cases c1 : s = s'
  · by_cases c2 : h = h'
    · by_cases c3 : se = se'
      · by_cases c4 : sr = sr'
        · by_cases c5 : te = te'
          · by_cases c6 : tr = tr' <;> simp [c1, c2, c3, c4, c5, c6]
          · simp [c1, c2, c3, c4, c5]
        · simp [c1, c2, c3, c4]
      · simp [c1, c2, c3]
    · simp [c1, c2]
  · simp [c1]
theorem dbl_is (s h se sr te tr s' h' se' sr' te' tr' : Int) (l l' : List Int) : slash_Double.f s h se sr te tr l s' h' se' sr' te' tr' l' = some (dblB s h se sr te tr s' h' se' sr' te' tr') := by
  unfold slash_Double.f dblB
  rw [same_is]
  by_cases c : te = te' <;> simp [c]
theorem arn_is (s h se sr te tr s' h' se' sr' te' tr' : Int) (l l' : List Int) : slash_Around.f s h se sr te tr l s' h' se' sr' te' tr' l' = some (arnB se te se' te') := by
  unfold slash_Around.f arnB
  by_cases c : se < se' <;> simp [c]
theorem bad_is (s h se sr te tr s' h' se' sr' te' tr' : Int) (l l' : List Int) : slash_Bad.f s h se sr te tr l s' h' se' sr' te' tr' l' = some (dblB s h se sr te tr s' h' se' sr' te' tr' || arnB se te se' te' || arnB se' te' se te) := by
  unfold slash_Bad.f
  rw [dbl_is, arn_is, arn_is]
  cases dblB s h se sr te tr s' h' se' sr' te' tr' <;> cases arnB se te se' te' <;> simp
theorem same_turn (s h se sr te tr s' h' se' sr' te' tr' : Int) : sameB s' h' se' sr' te' tr' s h se sr te tr = sameB s h se sr te tr s' h' se' sr' te' tr' := by
  unfold sameB
  simp only [eq_comm]
theorem dbl_turn (s h se sr te tr s' h' se' sr' te' tr' : Int) : dblB s' h' se' sr' te' tr' s h se sr te tr = dblB s h se sr te tr s' h' se' sr' te' tr' := by
  unfold dblB
  rw [same_turn]
  simp only [eq_comm]
theorem bad_self (s h se sr te tr : Int) (l : List Int) : slash_Bad.f s h se sr te tr l s h se sr te tr l = some false := by
  rw [bad_is]
  simp [dblB, sameB, arnB]
theorem awake_is : psephoslaw06_awake.f = some true := by decide +kernel
end Go.Proofs.YtolkagkfedpjmaaDoor.QD
