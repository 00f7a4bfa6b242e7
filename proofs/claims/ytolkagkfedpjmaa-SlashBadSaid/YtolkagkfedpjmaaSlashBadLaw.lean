/-
  The law SlashBad: its printed function answers true, so its call does; of any two votes.
-/
import Derived.Test.YtolkagkfedpjmaaQBx3
import Derived.Test.YtolkagkfedpjmaaOwn
namespace Go.Proofs.Ytolkagkfedpjmaa.QB
open Go.RowKit Go.Proofs.YtolkagkfedpjmaaW.PrintWords Go.Proofs.YtolkagkfedpjmaaW.PrintLast Go.Proofs.YtolkagkfedpjmaaW.PrintMore Go.Proofs.Ytolkagkfedpjmaa.Own
set_option linter.unusedVariables false

def sameB (s h se sr te tr s' h' se' sr' te' tr' : Int) : Bool := decide (s = s' ∧ h = h' ∧ (se = se' ∧ sr = sr') ∧ te = te' ∧ tr = tr')
def dblB (s h se sr te tr s' h' se' sr' te' tr' : Int) : Bool := decide (te = te') && !sameB s h se sr te tr s' h' se' sr' te' tr'
def arnB (se te se' te' : Int) : Bool := decide (se < se') && decide (te' < te)
theorem same_is (s h se sr te tr s' h' se' sr' te' tr' : Int) (l l' : List Int) : vote_Same.f s h se sr te tr l s' h' se' sr' te' tr' l' = some (sameB s h se sr te tr s' h' se' sr' te' tr') := by
  unfold vote_Same.f sameB
  by_cases c1 : s = s'
  · by_cases c2 : h = h'
    · by_cases c3 : se = se'
      · by_cases c4 : sr = sr'
        · by_cases c5 : te = te'
          · by_cases c6 : tr = tr' <;> simp [c1, c2, c3, c4, c5, c6]
          · simp [c1, c2, c3, c4, c5]
        · simp [c1, c2, c3, c4]
      · simp [c1, c2, c3]
    · simp [c1, c2]
  · simp [c1]
theorem dbl_is (s h se sr te tr s' h' se' sr' te' tr' : Int) (l l' : List Int) : slash_Double.f s h se sr te tr l s' h' se' sr' te' tr' l' = some (dblB s h se sr te tr s' h' se' sr' te' tr') := by
  unfold slash_Double.f dblB
  rw [same_is]
  by_cases c : te = te' <;> simp [c]
theorem arn_is (s h se sr te tr s' h' se' sr' te' tr' : Int) (l l' : List Int) : slash_Around.f s h se sr te tr l s' h' se' sr' te' tr' l' = some (arnB se te se' te') := by
  unfold slash_Around.f arnB
  by_cases c : se < se' <;> simp [c]
theorem bad_is (s h se sr te tr s' h' se' sr' te' tr' : Int) (l l' : List Int) : slash_Bad.f s h se sr te tr l s' h' se' sr' te' tr' l' = some (dblB s h se sr te tr s' h' se' sr' te' tr' || arnB se te se' te' || arnB se' te' se te) := by
  unfold slash_Bad.f
  rw [dbl_is, arn_is, arn_is]
  cases dblB s h se sr te tr s' h' se' sr' te' tr' <;> cases arnB se te se' te' <;> simp
theorem same_turn (s h se sr te tr s' h' se' sr' te' tr' : Int) : sameB s' h' se' sr' te' tr' s h se sr te tr = sameB s h se sr te tr s' h' se' sr' te' tr' := by
  unfold sameB
  simp only [eq_comm]
theorem dbl_turn (s h se sr te tr s' h' se' sr' te' tr' : Int) : dblB s' h' se' sr' te' tr' s h se sr te tr = dblB s h se sr te tr s' h' se' sr' te' tr' := by
  unfold dblB
  rw [same_turn]
  simp only [eq_comm]
theorem bad_self (s h se sr te tr : Int) (l : List Int) : slash_Bad.f s h se sr te tr l s h se sr te tr l = some false := by
  rw [bad_is]
  simp [dblB, sameB, arnB]
theorem awake_is : psephoslaw06_awake.f = some true := by decide +kernel

theorem law_j (s h se sr te tr s' h' se' sr' te' tr' : Int) (l l' : List Int) : psephoslaw06_SlashBad.j0 3 (dblB s h se sr te tr s' h' se' sr' te' tr') s h se sr te tr l s' h' se' sr' te' tr' l' = some true := by
  have e0 : ∀ x, psephoslaw06_SlashBad.j0 3 x s h se sr te tr l s' h' se' sr' te' tr' l' = psephoslaw06_SlashBad.j1 2 x (arnB se te se' te') s h se sr te tr l s' h' se' sr' te' tr' l' := by
    intro x
    simp only [psephoslaw06_SlashBad.j0]
    by_cases c : se < se' <;> simp [c, arnB]
  have e1 : ∀ x y, psephoslaw06_SlashBad.j1 2 x y s h se sr te tr l s' h' se' sr' te' tr' l' = psephoslaw06_SlashBad.j2 1 x y (arnB se' te' se te) s h se sr te tr l s' h' se' sr' te' tr' l' := by
    intro x y
    simp only [psephoslaw06_SlashBad.j1]
    by_cases c : se' < se <;> simp [c, arnB]
  rw [e0, e1]
  simp only [psephoslaw06_SlashBad.j2]
  rw [bad_self, bad_is, bad_is, dbl_is, arn_is, dbl_turn s h se sr te tr s' h' se' sr' te' tr']
  cases dblB s h se sr te tr s' h' se' sr' te' tr' <;> cases arnB se te se' te' <;> cases arnB se' te' se te <;> rfl
theorem law_f (s h se sr te tr s' h' se' sr' te' tr' : Int) (l l' : List Int) : psephoslaw06_SlashBad.f 3 s h se sr te tr l s' h' se' sr' te' tr' l' = some true := by
  have J := law_j s h se sr te tr s' h' se' sr' te' tr' l l'
  unfold psephoslaw06_SlashBad.f
  rw [awake_is]
  simp only [Option.bind_some, if_true]
  by_cases c5 : te = te'
  · rw [if_pos c5]
    by_cases c1 : s = s'
    · rw [if_pos c1]
      by_cases c2 : h = h'
      · rw [if_pos c2]
        by_cases c3 : (!(se == se') || !(sr == sr')) = true
        · rw [if_pos c3]
          rw [show dblB s h se sr te tr s' h' se' sr' te' tr' = true by
            simp only [Bool.or_eq_true, Bool.not_eq_true', beq_eq_false_iff_ne] at c3
            unfold dblB sameB
            rw [decide_eq_true c5, decide_eq_false (by rintro ⟨_, _, ⟨a, b⟩, _⟩; rcases c3 with c3 | c3 <;> contradiction)]
            rfl] at J
          exact J
        · rw [if_neg c3]
          have c3' : se = se' ∧ sr = sr' := by
            simp only [Bool.or_eq_true, Bool.not_eq_true', beq_eq_false_iff_ne, not_or, Classical.not_not] at c3
            exact c3
          rw [show dblB s h se sr te tr s' h' se' sr' te' tr' = (!(te == te') || !(tr == tr')) by
            unfold dblB sameB
            by_cases c6 : tr = tr' <;> simp [c1, c2, c3'.1, c3'.2, c5, c6]] at J
          exact J
      · rw [if_neg c2]
        rw [show dblB s h se sr te tr s' h' se' sr' te' tr' = true by unfold dblB sameB; simp [c5, c2]] at J
        exact J
    · rw [if_neg c1]
      rw [show dblB s h se sr te tr s' h' se' sr' te' tr' = true by unfold dblB sameB; simp [c5, c1]] at J
      exact J
  · rw [if_neg c5]
    rw [show dblB s h se sr te tr s' h' se' sr' te' tr' = false by unfold dblB; simp [c5]] at J
    exact J

theorem slashBad_law (s h se sr te tr : Int) (A : Option Addr) (n c : Nat) (z : List Int) (s' h' se' sr' te' tr' : Int) (A1 : Option Addr) (n1 c1 : Nat) (z1 : List Int) (w : World) (g : ReadsInt w .i64 A n z) (hc : n ≤ c) (g1 : ReadsInt w .i64 A1 n1 z1) (hc1 : n1 ≤ c1) :
    Calls Try.prog 3 #[.agg #[.int .i64 s, .int .u64 h, .int .i64 se, .int .u64 sr, .int .i64 te, .int .u64 tr, .slice A n c], .agg #[.int .i64 s', .int .u64 h', .int .i64 se', .int .u64 sr', .int .i64 te', .int .u64 tr', .slice A1 n1 c1]] w fun e w' => e = .returned (.bool true) ∧ Below w.heap.size w w' := by
  obtain ⟨rfl, hm, hr⟩ := g
  obtain ⟨rfl, hm1, hr1⟩ := g1
  exact psephoslaw06_SlashBad.calls 3 s h se sr te tr _ _ z s' h' se' sr' te' tr' _ _ z1 true w (Kd.C_of_reads (d := (0 : Int)) (h1 := fun _ => rfl) ⟨rfl, hm, hr⟩) hc (Kd.C_of_reads (d := (0 : Int)) (h1 := fun _ => rfl) ⟨rfl, hm1, hr1⟩) hc1 (law_f s h se sr te tr s' h' se' sr' te' tr' z z1) rfl
end Go.Proofs.Ytolkagkfedpjmaa.QB
