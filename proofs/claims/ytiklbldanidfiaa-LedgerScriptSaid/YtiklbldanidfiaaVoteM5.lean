/-
  The plain laws of what the statements make of any vote: it may be; with enough rounds.
-/
import Derived.Test.YtiklbldanidfiaaQLx7
import Derived.Test.YtiklbldanidfiaaQLx15
import Derived.Test.YtiklbldanidfiaaQLx16
import Derived.Test.YtiklbldanidfiaaQLx17
import Derived.Test.YtiklbldanidfiaaVoteR3
namespace Go.Proofs.Ytiklbldanidfiaa.QLV
open Go.Proofs.Ytiklbldanidfiaa.QL
open Go.RowKit Go.Proofs.YtiklbldanidfiaaW.PrintWords Go.Proofs.YtiklbldanidfiaaW.PrintLast Go.Proofs.YtiklbldanidfiaaW.PrintMore
set_option linter.unusedVariables false

theorem has_l0 (l : List Int) (x : Int) (hn : l.length ≤ 140737488351232) (d : Nat) : ∀ i : Nat, i + d = l.length →
    Ev (fun k => psephoslaw05_has.l0 k x l l.length i) (decide (x ∈ l.drop i)) := by
  induction d with
  | zero =>
    intro i hi
    refine Ev.step (f := fun _ => some (decide (x ∈ l.drop i))) (fun k => ?_) (Ev.now _)
    simp only [psephoslaw05_has.l0]
    rw [if_neg (by omega), List.drop_eq_nil_of_le (by omega)]
    rfl
  | succ d ih =>
    intro i hi
    rw [drop_rd l i (by omega)]
    by_cases h : rd l i = x
    · refine Ev.step (f := fun _ => some (decide (x ∈ rd l i :: l.drop (i + 1)))) (fun k => ?_) (Ev.now _)
      simp only [psephoslaw05_has.l0]
      rw [if_pos (by omega), if_pos (by omega), if_pos (by omega), if_pos h]
      simp [h]
    · have e : decide (x ∈ rd l i :: l.drop (i + 1)) = decide (x ∈ l.drop (i + 1)) := by
        have h' : ¬ x = rd l i := fun e => h e.symm
        simp [h']
      rw [e]
      refine Ev.step (f := fun k => psephoslaw05_has.l0 k x l l.length ((i + 1 : Nat) : Int)) (fun k => ?_) (ih (i + 1) (by omega))
      simp only [psephoslaw05_has.l0]
      rw [if_pos (by omega), if_pos (by omega), if_pos (by omega), if_neg h, wrap_next (n := l.length) (by omega) hn]
theorem has_f (l : List Int) (x : Int) (hn : l.length ≤ 140737488351232) : Ev (fun k => psephoslaw05_has.f k l x) (decide (x ∈ l)) := by
  have := has_l0 l x hn l.length 0 (by omega)
  rwa [List.drop_zero] at this

theorem rest05_is (n m : Int) (h1 : -9223372036854775808 ≤ n) (h2 : n ≤ 9223372036854775807) (hm : 0 < m) (hm2 : m ≤ 4611686018427387904) : psephoslaw05_rest.f n m = some (n % m) := by
  unfold psephoslaw05_rest.f
  rw [if_neg (by omega), rest_eq n m h1 h2 hm hm2]

/-- Who votes in a made vote, among n. -/
def whoOf (who : List Int) (i : Nat) : Nat → List Int
  | 0 => []
  | d + 1 => (if (i : Int) ∈ who ∨ (i = 0 ∧ who.length = 0) then [(i : Int)] else []) ++ whoOf who (i + 1) d
theorem whoOf_ge (who : List Int) (d : Nat) : ∀ i, ∀ x ∈ whoOf who i d, (i : Int) ≤ x ∧ x < ((i + d : Nat) : Int) := by
  induction d with
  | zero => intro i x hx; simp [whoOf] at hx
  | succ d ih =>
    intro i x hx
    simp only [whoOf, List.mem_append] at hx
    rcases hx with hx | hx
    · split at hx
      · simp at hx; omega
      · simp at hx
    · have := ih (i + 1) x hx
      omega
theorem whoOf_rises (who : List Int) (d : Nat) : ∀ i, (whoOf who i d).Pairwise (· < ·) := by
  induction d with
  | zero => intro i; simp [whoOf]
  | succ d ih =>
    intro i
    simp only [whoOf]
    rw [List.pairwise_append]
    refine ⟨by split <;> simp, ih (i + 1), ?_⟩
    intro x hx y hy
    have := whoOf_ge who d (i + 1) y hy
    split at hx
    · simp at hx; omega
    · simp at hx
theorem whoOf_len (who : List Int) (d : Nat) : ∀ i, (whoOf who i d).length ≤ d := by
  induction d with
  | zero => intro i; simp [whoOf]
  | succ d ih =>
    intro i
    simp only [whoOf, List.length_append]
    have := ih (i + 1)
    split <;> simp <;> omega
theorem whoOf_mem (who : List Int) (d : Nat) : ∀ i, ∀ j : Nat, i ≤ j → j < i + d → ((j : Int) ∈ whoOf who i d ↔ ((j : Int) ∈ who ∨ (j = 0 ∧ who.length = 0))) := by
  induction d with
  | zero => intro i j h1 h2; omega
  | succ d ih =>
    intro i j h1 h2
    simp only [whoOf, List.mem_append]
    by_cases e : j = i
    · subst e
      constructor
      · rintro (h | h)
        · split at h
          · assumption
          · simp at h
        · have := whoOf_ge who d (j + 1) _ h
          omega
      · intro h
        rw [if_pos h]
        simp
    · rw [← ih (i + 1) j (by omega) (by omega)]
      constructor
      · rintro (h | h)
        · split at h
          · simp at h; omega
          · simp at h
        · exact h
      · exact .inr
def mkWho (n : Nat) (who : List Int) : List Int := if (whoOf who 0 n).length = 0 then [0] else whoOf who 0 n
theorem mkWho_rises (n : Nat) (who : List Int) : (mkWho n who).Pairwise (· < ·) := by
  unfold mkWho
  split
  · simp
  · exact whoOf_rises who n 0
theorem mkWho_in (n : Nat) (hn : 1 ≤ n) (who : List Int) : ∀ x ∈ mkWho n who, 0 ≤ x ∧ x < (n : Int) := by
  intro x hx
  unfold mkWho at hx
  split at hx
  · simp at hx; omega
  · have := whoOf_ge who n 0 x hx
    simpa using this
theorem mkWho_len (n : Nat) (hn : 1 ≤ n) (who : List Int) : (mkWho n who).length ≠ 0 ∧ (mkWho n who).length ≤ n := by
  unfold mkWho
  have := whoOf_len who n 0
  split
  · simp; omega
  · exact ⟨by assumption, this⟩

theorem make5_l0 (n : Nat) (who : List Int) (s h se sr te tr s' h' se' sr' te' tr' : Int) (hn : n ≤ 4096) (hw : who.length ≤ 140737488351232) (d : Nat) : ∀ (i : Nat) (acc : List Int), i + d = n → acc.length ≤ i →
    Ev (fun k => psephoslaw05_Make.l0 k n i s h se sr te tr who s' h' se' sr' te' tr' acc) (s', h', se', sr', te', tr', if (acc ++ whoOf who i d).length = 0 then [0] else acc ++ whoOf who i d) := by
  induction d with
  | zero =>
    intro i acc hi hacc
    simp only [whoOf, List.append_nil]
    refine Ev.step (f := fun _ => some _) (fun k => ?_) (Ev.now _)
    simp only [psephoslaw05_Make.l0]
    rw [if_neg (by omega)]
    by_cases h0 : acc.length = 0
    · rw [if_pos (by omega), if_pos h0]
    · rw [if_neg (by omega), if_neg h0]
  | succ d ih =>
    intro i acc hi hacc
    have key : Ev (fun k => psephoslaw05_Make.l0 k n ((i + 1 : Nat) : Int) s h se sr te tr who s' h' se' sr' te' tr' (acc ++ (if (i : Int) ∈ who ∨ (i = 0 ∧ who.length = 0) then [(i : Int)] else []))) (s', h', se', sr', te', tr', if (acc ++ whoOf who i (d + 1)).length = 0 then [0] else acc ++ whoOf who i (d + 1)) := by
      have := ih (i + 1) (acc ++ (if (i : Int) ∈ who ∨ (i = 0 ∧ who.length = 0) then [(i : Int)] else [])) (by omega) (by rw [List.length_append]; split <;> simp <;> omega)
      rw [whoOf, ← List.append_assoc]
      exact this
    refine Ev.step (f := fun k => (psephoslaw05_has.f k who i).bind fun t181 => if t181 = true then psephoslaw05_Make.l0 k n ((i + 1 : Nat) : Int) s h se sr te tr who s' h' se' sr' te' tr' (acc ++ [(i : Int)]) else if i = 0 then if who.length = 0 then psephoslaw05_Make.l0 k n ((i + 1 : Nat) : Int) s h se sr te tr who s' h' se' sr' te' tr' (acc ++ [(i : Int)]) else psephoslaw05_Make.l0 k n ((i + 1 : Nat) : Int) s h se sr te tr who s' h' se' sr' te' tr' acc else psephoslaw05_Make.l0 k n ((i + 1 : Nat) : Int) s h se sr te tr who s' h' se' sr' te' tr' acc) (fun k => ?_) ?_
    · simp only [psephoslaw05_Make.l0]
      rw [if_pos (by omega), if_pos (by omega), wrap_next (n := n) (by omega) (by omega)]
      congr 1
      funext t
      by_cases h0 : i = 0
      · subst h0
        by_cases h1 : who.length = 0
        · simp [h1]
        · simp [h1]
      · simp [h0]
    · refine Ev.bind (has_f who i hw) ?_
      by_cases h1 : (i : Int) ∈ who
      · simp only [h1, decide_true, if_true, true_or] at key ⊢
        exact key
      · by_cases h0 : i = 0
        · subst h0
          by_cases h2 : who.length = 0
          · simp only [h1, h2, decide_false, Bool.false_eq_true, if_false, if_true, false_or, true_and] at key ⊢
            exact key
          · simp only [h1, h2, decide_false, Bool.false_eq_true, if_false, if_true, false_or, and_false, List.append_nil] at key ⊢
            exact key
        · simp only [h1, h0, decide_false, Bool.false_eq_true, if_false, false_or, false_and, List.append_nil] at key ⊢
          exact key

/-- A made vote's slot, its epochs. -/
def mkAt (s : Int) : Int := s % 200
def mkTe (slots s : Int) : Int := max 0 (mkAt s) / max 1 slots
def mkSe (slots s se : Int) : Int := se % (mkTe slots s + 1)
theorem mkAt_in (s : Int) : 0 ≤ mkAt s ∧ mkAt s < 200 := by
  unfold mkAt
  exact ⟨Int.emod_nonneg s (by decide), Int.emod_lt_of_pos s (by decide)⟩
theorem mkTe_in (slots s : Int) : 0 ≤ mkTe slots s ∧ mkTe slots s < 200 := by
  have := mkAt_in s
  unfold mkTe
  have h2 : 0 ≤ max 0 (mkAt s) / max 1 slots := Int.ediv_nonneg (by omega) (by omega)
  have h3 : max 0 (mkAt s) / max 1 slots ≤ max 0 (mkAt s) := Int.ediv_le_self _ (by omega)
  omega
theorem mkSe_in (slots s se : Int) : 0 ≤ mkSe slots s se ∧ mkSe slots s se ≤ mkTe slots s := by
  have := mkTe_in slots s
  unfold mkSe
  have := Int.emod_nonneg se (show mkTe slots s + 1 ≠ 0 by omega)
  have := Int.emod_lt_of_pos se (show 0 < mkTe slots s + 1 by omega)
  omega
theorem make5_f (bal who : List Int) (slots a2 s h se sr te tr : Int) (hb : bal.length ≤ 4096) (hw : who.length ≤ 140737488351232) (hs1 : -9223372036854775808 ≤ s) (hs2 : s ≤ 9223372036854775807) (he1 : -9223372036854775808 ≤ se) (he2 : se ≤ 9223372036854775807) :
    Ev (fun k => psephoslaw05_Make.f k bal slots a2 s h se sr te tr who) (mkAt s, Int.tmod h 8, mkSe slots s se, Int.tmod sr 8, mkTe slots s, Int.tmod tr 8, mkWho bal.length who) := by
  have h1 := rest05_is s 200 hs1 hs2 (by decide) (by decide)
  have ha := mkAt_in s
  have h2 := epoch_is (mkAt s) slots (by omega)
  have ht := mkTe_in slots s
  have hw1 : wrap64 (mkTe slots s + 1) = mkTe slots s + 1 := by unfold wrap64; omega
  have h3 := rest05_is se (mkTe slots s + 1) he1 he2 (by omega) (by omega)
  have := make5_l0 bal.length who s h se sr te tr (mkAt s) (Int.tmod h 8) (mkSe slots s se) (Int.tmod sr 8) (mkTe slots s) (Int.tmod tr 8) hb hw bal.length 0 [] (by omega) (by simp)
  simp only [List.nil_append] at this
  refine Ev.congr (fun k => ?_) this
  unfold psephoslaw05_Make.f
  rw [h1]
  simp only [Option.bind_some]
  rw [show epoch_Of.f (s % 200) slots = some (mkTe slots s) from h2]
  simp only [Option.bind_some]
  rw [hw1, h3]
  rfl
/-- A made vote may be. -/
theorem made_good (n : Nat) (hn : 1 ≤ n) (slots s se : Int) (who : List Int) : Good n slots (mkAt s) (mkSe slots s se) (mkTe slots s) (mkWho n who) := by
  have h1 := mkSe_in slots s se
  have h2 := mkAt_in s
  exact ⟨(mkWho_len n hn who).1, h2.1, h1.1, h1.2, rfl, ok_of_rises (mkWho_rises n who) (mkWho_in n hn who)⟩
end Go.Proofs.Ytiklbldanidfiaa.QLV
