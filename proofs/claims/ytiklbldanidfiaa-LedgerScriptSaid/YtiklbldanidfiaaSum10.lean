/-
  psephoslaw10's sum is config.Sum of those that are set (the plain law).
-/
import Derived.Test.YtiklbldanidfiaaLB
import Derived.Test.YtiklbldanidfiaaQLx14
namespace Go.Proofs.Ytiklbldanidfiaa.QL
open Go.RowKit Go.Proofs.YtiklbldanidfiaaW.PrintWords
set_option linter.unusedVariables false

theorem sum10_l0 (bs : List Int) (sl bo : Int) (l : List Bool) (hn : l.length ≤ 17592186043904) (d : Nat) : ∀ (i : Nat) (acc : Int), i + d = l.length →
    Ev (fun k => psephoslaw10_sum.l0 k acc l l.length i bs sl bo) (sumOf bs acc (idx i (l.drop i))) := by
  induction d with
  | zero =>
    intro i acc hi
    refine Ev.step (f := fun _ => some (sumOf bs acc (idx i (l.drop i)))) (fun k => ?_) (Ev.now _)
    simp only [psephoslaw10_sum.l0]
    rw [if_neg (by omega), List.drop_eq_nil_of_le (by omega)]
    rfl
  | succ d ih =>
    intro i acc hi
    have hlt : i < l.length := by omega
    have hw : wrap64 ((i : Int) + 1) = ((i + 1 : Nat) : Int) := by unfold wrap64; omega
    have hr : rdOf false l (i : Int) = l[i] := by simp [rdOf, List.getD_eq_getElem?_getD, hlt]
    have hd : l.drop i = l[i] :: l.drop (i + 1) := List.drop_eq_getElem_cons hlt
    have key : sumOf bs acc (idx i (l.drop i)) = sumOf bs (if l[i] = true then (if (i : Int) < (bs.length : Int) then IntKind.u64.wrap (acc + rd bs i) else acc) else acc) (idx (i + 1) (l.drop (i + 1))) := by
      rw [hd]
      show sumOf bs acc (if l[i] = true then (i : Int) :: idx (i + 1) (l.drop (i + 1)) else idx (i + 1) (l.drop (i + 1))) = _
      by_cases h : l[i] = true
      · rw [if_pos h, if_pos h]
        show sumOf bs (if 0 ≤ (i : Int) ∧ (i : Int) < (bs.length : Int) then IntKind.u64.wrap (acc + rd bs i) else acc) _ = _
        by_cases h2 : (i : Int) < (bs.length : Int)
        · rw [if_pos ⟨by omega, h2⟩, if_pos h2]
        · rw [if_neg (fun e => h2 e.2), if_neg h2]
      · rw [if_neg h, if_neg h]
    rw [key]
    refine Ev.step (f := fun k => psephoslaw10_sum.l0 k (if l[i] = true then (if (i : Int) < (bs.length : Int) then IntKind.u64.wrap (acc + rd bs i) else acc) else acc) l l.length ((i + 1 : Nat) : Int) bs sl bo) (fun k => ?_) (ih (i + 1) _ (by omega))
    simp only [psephoslaw10_sum.l0]
    rw [if_pos (by omega), if_pos (by omega), if_pos (by omega), hr, hw]
    by_cases h : l[i] = true
    · rw [if_pos h, if_pos h]
      split <;> rfl
    · rw [if_neg h, if_neg h]
theorem sum10_f (bs : List Int) (sl bo : Int) (l : List Bool) (hn : l.length ≤ 17592186043904) : Ev (fun k => psephoslaw10_sum.f k bs sl bo l) (sumOf bs 0 (idx 0 l)) :=
  sum10_l0 bs sl bo l hn l.length 0 0 (by omega)
end Go.Proofs.Ytiklbldanidfiaa.QL
