/-
  The law VoteSame: its printed function answers true, so its call does; of any two votes.
-/
import Derived.Test.YtegegnpjdpjgmaaQVx11
import Derived.Test.YtegegnpjdpjgmaaVotePureA
import Derived.Test.YtegegnpjdpjgmaaOwn
namespace Go.Proofs.Ytegegnpjdpjgmaa.QV
open Go.RowKit Go.Proofs.YtegegnpjdpjgmaaW.PrintWords Go.Proofs.YtegegnpjdpjgmaaW.PrintLast Go.Proofs.YtegegnpjdpjgmaaW.PrintMore Go.Proofs.Ytegegnpjdpjgmaa.Own
set_option linter.unusedVariables false

def sameB (s h se sr te tr s' h' se' sr' te' tr' : Int) : Bool := decide (s = s' ∧ h = h' ∧ (se = se' ∧ sr = sr') ∧ te = te' ∧ tr = tr')
theorem same_is (s h se sr te tr s' h' se' sr' te' tr' : Int) (l l' : List Int) : vote_Same.f s h se sr te tr l s' h' se' sr' te' tr' l' = some (sameB s h se sr te tr s' h' se' sr' te' tr') := by
  unfold vote_Same.f sameB
  by_cases c1 : s = s'
  · by_cases c2 : h = h'
    · by_cases c3 : se = se'
      · by_cases c4 : sr = sr'
        · by_cases c5 : te = te'
          · by_cases c6 : tr = tr' <;> simp [c1, c2, c3, c4, c5, c6]
          · simp [c1, c2, c3, c4, c5]
        · simp [c1, c2, c3, c4]
      · simp [c1, c2, c3]
    · simp [c1, c2]
  · simp [c1]
theorem same_turn (s h se sr te tr s' h' se' sr' te' tr' : Int) : sameB s' h' se' sr' te' tr' s h se sr te tr = sameB s h se sr te tr s' h' se' sr' te' tr' := by
  unfold sameB
  simp only [eq_comm]
theorem same_self (s h se sr te tr : Int) : sameB s h se sr te tr s h se sr te tr = true := by
  simp [sameB]

theorem voteSame_f (s h se sr te tr s' h' se' sr' te' tr' : Int) (l l' : List Int) : Ev (fun k => psephoslaw05_VoteSame.f k s h se sr te tr l s' h' se' sr' te' tr' l') true := by
  refine Ev.bind awake_f ?_
  simp only [if_true]
  refine Ev.congr (f := fun _ => some true) (fun k => ?_) (Ev.now _)
  simp only [same_is]
  rw [same_turn s h se sr te tr s' h' se' sr' te' tr', same_self]
  simp only [Option.bind_some, if_true]
  by_cases c1 : s = s'
  · rw [if_pos c1]
    by_cases c2 : h = h'
    · rw [if_pos c2]
      by_cases c3 : (se == se' && (sr == sr')) = true
      · rw [if_pos c3]
        have e : sameB s h se sr te tr s' h' se' sr' te' tr' = (te == te' && (tr == tr')) := by
          have c3' : se = se' ∧ sr = sr' := by simpa using c3
          unfold sameB
          by_cases c5 : te = te' <;> by_cases c6 : tr = tr' <;> simp [c1, c2, c3'.1, c3'.2, c5, c6]
        rw [e]
        simp
      · rw [if_neg c3]
        have e : sameB s h se sr te tr s' h' se' sr' te' tr' = false := by
          unfold sameB
          refine decide_eq_false ?_
          rintro ⟨_, _, ⟨a, b⟩, _⟩
          exact c3 (by simp [a, b])
        rw [e]
        simp
    · rw [if_neg c2]
      have e : sameB s h se sr te tr s' h' se' sr' te' tr' = false := decide_eq_false (fun h => c2 h.2.1)
      rw [e]
      simp
  · rw [if_neg c1]
    have e : sameB s h se sr te tr s' h' se' sr' te' tr' = false := decide_eq_false (fun h => c1 h.1)
    rw [e]
    simp

theorem voteSame_law (s h se sr te tr : Int) (A : Option Addr) (n c : Nat) (z : List Int) (s' h' se' sr' te' tr' : Int) (A1 : Option Addr) (n1 c1 : Nat) (z1 : List Int) (w : World) (g : ReadsInt w .i64 A n z) (hc : n ≤ c) (g1 : ReadsInt w .i64 A1 n1 z1) (hc1 : n1 ≤ c1) :
    Calls Try.prog 7 #[.agg #[.int .i64 s, .int .u64 h, .int .i64 se, .int .u64 sr, .int .i64 te, .int .u64 tr, .slice A n c], .agg #[.int .i64 s', .int .u64 h', .int .i64 se', .int .u64 sr', .int .i64 te', .int .u64 tr', .slice A1 n1 c1]] w fun e w' => e = .returned (.bool true) ∧ Below w.heap.size w w' := by
  obtain ⟨rfl, hm, hr⟩ := g
  obtain ⟨rfl, hm1, hr1⟩ := g1
  obtain ⟨k, hk⟩ := Ev.rounds (voteSame_f s h se sr te tr s' h' se' sr' te' tr' z z1)
  exact psephoslaw05_VoteSame.calls k s h se sr te tr _ _ z s' h' se' sr' te' tr' _ _ z1 true w (Kd.C_of_reads (d := (0 : Int)) (h1 := fun _ => rfl) ⟨rfl, hm, hr⟩) hc (Kd.C_of_reads (d := (0 : Int)) (h1 := fun _ => rfl) ⟨rfl, hm1, hr1⟩) hc1 hk rfl
end Go.Proofs.Ytegegnpjdpjgmaa.QV
