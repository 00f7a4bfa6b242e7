/-
  The plain laws of what the statements make of any configuration, and of any vote: both may be; with enough rounds.
-/
import Derived.Test.YtolkagkfedpjmaaDoorQTx7
import Derived.Test.YtolkagkfedpjmaaDoorQTx8
import Derived.Test.YtolkagkfedpjmaaDoorQTx9
import Derived.Test.YtolkagkfedpjmaaDoorQTx10
import Derived.Test.YtolkagkfedpjmaaDoorQTx11
import Derived.Test.YtolkagkfedpjmaaDoorVotePureA
namespace Go.Proofs.YtolkagkfedpjmaaDoor.QT
open Go.RowKit Go.Proofs.YtolkagkfedpjmaaDoorW.PrintWords Go.Proofs.YtolkagkfedpjmaaDoorW.PrintLast Go.Proofs.YtolkagkfedpjmaaDoorW.PrintMore
set_option linter.unusedVariables false

theorem rest_eq (n m : Int) (h1 : -9223372036854775808 ≤ n) (h2 : n ≤ 9223372036854775807) (hm : 0 < m) (hm2 : m ≤ 4611686018427387904) : Int.tmod (wrap64 (Int.tmod n m + m)) m = n % m := by
  have h3 : -m < Int.tmod n m := by have := Int.lt_tmod_of_pos n hm; omega
  have h4 : Int.tmod n m < m := Int.tmod_lt_of_pos n hm
  have hw : wrap64 (Int.tmod n m + m) = Int.tmod n m + m := by unfold wrap64; omega
  have h5 := Int.tmod_add_mul_tdiv n m
  rw [hw, Int.tmod_eq_emod_of_nonneg (by omega), Int.add_emod_right]
  conv => rhs; rw [← h5, Int.add_mul_emod_self_left]
theorem rest03_is (n m : Int) (h1 : -9223372036854775808 ≤ n) (h2 : n ≤ 9223372036854775807) (hm : 0 < m) (hm2 : m ≤ 4611686018427387904) : psephoslaw03_rest.f n m = some (n % m) := by
  unfold psephoslaw03_rest.f
  rw [if_neg (by omega), rest_eq n m h1 h2 hm hm2]
theorem rest05_is (n m : Int) (h1 : -9223372036854775808 ≤ n) (h2 : n ≤ 9223372036854775807) (hm : 0 < m) (hm2 : m ≤ 4611686018427387904) : psephoslaw05_rest.f n m = some (n % m) := by
  unfold psephoslaw05_rest.f
  rw [if_neg (by omega), rest_eq n m h1 h2 hm hm2]
theorem wrap_range (n : Int) : -9223372036854775808 ≤ wrap64 n ∧ wrap64 n ≤ 9223372036854775807 := by
  unfold wrap64
  omega

/-- The balances of a made configuration. -/
def mkBal (l : List Int) : List Int := if l = [] then [7] else (l.take 4096).map (fun b => Int.tmod b 4294967297)
/-- Its slots, its boost. -/
def mkSlots (s : Int) : Int := 1 + wrap64 (s - 1) % 64
def mkBoost (b : Int) : Int := b % 101
theorem mkBal_len (l : List Int) : 1 ≤ (mkBal l).length ∧ (mkBal l).length ≤ 4096 := by
  unfold mkBal
  split
  · simp
  · rename_i h
    have : l.length ≠ 0 := fun e => h (List.eq_nil_of_length_eq_zero e)
    simp
    omega
theorem mkSlots_in (s : Int) : 1 ≤ mkSlots s ∧ mkSlots s ≤ 64 := by
  unfold mkSlots
  have := Int.emod_nonneg (wrap64 (s - 1)) (show (64 : Int) ≠ 0 by decide)
  have := Int.emod_lt_of_pos (wrap64 (s - 1)) (show (0 : Int) < 64 by decide)
  omega
theorem mkBoost_in (s : Int) : 0 ≤ mkBoost s ∧ mkBoost s ≤ 100 := by
  unfold mkBoost
  have := Int.emod_nonneg s (show (101 : Int) ≠ 0 by decide)
  have := Int.emod_lt_of_pos s (show (0 : Int) < 101 by decide)
  omega
theorem mkBal_mem (l : List Int) (hw : ∀ x ∈ l, 0 ≤ x) : ∀ b ∈ mkBal l, 0 ≤ b ∧ b ≤ 4294967296 := by
  intro b hb
  unfold mkBal at hb
  split at hb
  · simp at hb
    omega
  · simp only [List.mem_map] at hb
    obtain ⟨x, hx, rfl⟩ := hb
    have h0 := hw x (List.mem_of_mem_take hx)
    rw [Int.tmod_eq_emod_of_nonneg h0]
    have := Int.emod_nonneg x (show (4294967297 : Int) ≠ 0 by decide)
    have := Int.emod_lt_of_pos x (show (0 : Int) < 4294967297 by decide)
    omega

theorem make3_l0 (l : List Int) (s b : Int) (hn : l.length ≤ 17592186043904) (d : Nat) : ∀ (i : Nat), i + d = l.length →
    Ev (fun k => psephoslaw03_Make.l0 k l l.length i ((l.take (min i 4096)).map fun b => Int.tmod b 4294967297) s b) (mkBal l, s, b) := by
  induction d with
  | zero =>
    intro i hi
    refine Ev.step (f := fun _ => some (mkBal l, s, b)) (fun k => ?_) (Ev.now _)
    simp only [psephoslaw03_Make.l0]
    rw [if_neg (by omega)]
    by_cases h : l = []
    · subst h
      rw [if_pos (by simp)]
      rfl
    · have h0 : l.length ≠ 0 := fun e => h (List.eq_nil_of_length_eq_zero e)
      have hlen : ((l.take (min i 4096)).map fun b => Int.tmod b 4294967297).length = min i 4096 := by rw [List.length_map, List.length_take]; omega
      rw [if_neg (by omega)]
      unfold mkBal
      rw [if_neg h]
      have : l.take (min i 4096) = l.take 4096 := by
        have hi' : i = l.length := by omega
        subst hi'
        rw [List.take_eq_take_iff]
        omega
      rw [this]
  | succ d ih =>
    intro i hi
    have hg : i < l.length := by omega
    by_cases h : i < 4096
    · refine Ev.step (f := fun k => psephoslaw03_Make.l0 k l l.length ((i + 1 : Nat) : Int) ((l.take (min (i + 1) 4096)).map fun b => Int.tmod b 4294967297) s b) (fun k => ?_) (ih (i + 1) (by omega))
      simp only [psephoslaw03_Make.l0]
      rw [if_pos (by omega), if_pos (by omega), if_pos (by omega), if_pos (by omega), if_pos (by simp; omega), wrap_next (n := l.length) hg (by omega)]
      have : (l.take (min i 4096)).map (fun b => Int.tmod b 4294967297) ++ [Int.tmod (rd l i) 4294967297] = (l.take (min (i + 1) 4096)).map fun b => Int.tmod b 4294967297 := by
        rw [show min i 4096 = i by omega, show min (i + 1) 4096 = i + 1 by omega, List.take_succ_eq_append_getElem hg, List.map_append, rd_get l i hg]
        rfl
      rw [this]
    · refine Ev.step (f := fun k => psephoslaw03_Make.l0 k l l.length ((i + 1 : Nat) : Int) ((l.take (min (i + 1) 4096)).map fun b => Int.tmod b 4294967297) s b) (fun k => ?_) (ih (i + 1) (by omega))
      simp only [psephoslaw03_Make.l0]
      rw [if_pos (by omega), if_pos (by omega), if_pos (by omega), if_neg (by omega), wrap_next (n := l.length) hg (by omega), show min (i + 1) 4096 = min i 4096 by omega]
theorem make3_f (l : List Int) (s b : Int) (hn : l.length ≤ 17592186043904) (hb1 : -9223372036854775808 ≤ b) (hb2 : b ≤ 9223372036854775807) :
    Ev (fun k => psephoslaw03_Make.f k l s b) (mkBal l, mkSlots s, mkBoost b) := by
  have h1 := rest03_is (wrap64 (s - 1)) 64 (wrap_range _).1 (wrap_range _).2 (by decide) (by decide)
  have h2 := rest03_is b 101 hb1 hb2 (by decide) (by decide)
  have h3 : wrap64 (1 + wrap64 (s - 1) % 64) = mkSlots s := by have := mkSlots_in s; unfold mkSlots at this ⊢; generalize wrap64 (s - 1) % 64 = t at *; unfold wrap64; omega
  have := make3_l0 l (mkSlots s) (mkBoost b) hn l.length 0 (by omega)
  refine Ev.congr (fun k => ?_) this
  unfold psephoslaw03_Make.f
  rw [h1, h2]
  simp only [Option.bind_some]
  rw [h3]
  rfl

/-- Who votes in a made vote, among n. -/
def whoOf (who : List Int) (i : Nat) : Nat → List Int
  | 0 => []
  | d + 1 => (if (i : Int) ∈ who ∨ (i = 0 ∧ who.length = 0) then [(i : Int)] else []) ++ whoOf who (i + 1) d
theorem whoOf_ge (who : List Int) (d : Nat) : ∀ i, ∀ x ∈ whoOf who i d, (i : Int) ≤ x ∧ x < ((i + d : Nat) : Int) := by
  induction d with
  | zero => intro i x hx; simp [whoOf] at hx
  | succ d ih =>
    intro i x hx
    simp only [whoOf, List.mem_append] at hx
    rcases hx with hx | hx
    · split at hx
      · simp at hx; omega
      · simp at hx
    · have := ih (i + 1) x hx
      omega
theorem whoOf_rises (who : List Int) (d : Nat) : ∀ i, (whoOf who i d).Pairwise (· < ·) := by
  induction d with
  | zero => intro i; simp [whoOf]
  | succ d ih =>
    intro i
    simp only [whoOf]
    rw [List.pairwise_append]
    refine ⟨by split <;> simp, ih (i + 1), ?_⟩
    intro x hx y hy
    have := whoOf_ge who d (i + 1) y hy
    split at hx
    · simp at hx; omega
    · simp at hx
theorem whoOf_len (who : List Int) (d : Nat) : ∀ i, (whoOf who i d).length ≤ d := by
  induction d with
  | zero => intro i; simp [whoOf]
  | succ d ih =>
    intro i
    simp only [whoOf, List.length_append]
    have := ih (i + 1)
    split <;> simp <;> omega
theorem whoOf_mem (who : List Int) (d : Nat) : ∀ i, ∀ j : Nat, i ≤ j → j < i + d → ((j : Int) ∈ whoOf who i d ↔ ((j : Int) ∈ who ∨ (j = 0 ∧ who.length = 0))) := by
  induction d with
  | zero => intro i j h1 h2; omega
  | succ d ih =>
    intro i j h1 h2
    simp only [whoOf, List.mem_append]
    by_cases e : j = i
    · subst e
      constructor
      · rintro (h | h)
        · split at h
          · assumption
          · simp at h
        · have := whoOf_ge who d (j + 1) _ h
          omega
      · intro h
        rw [if_pos h]
        simp
    · rw [← ih (i + 1) j (by omega) (by omega)]
      constructor
      · rintro (h | h)
        · split at h
          · simp at h; omega
          · simp at h
        · exact h
      · exact .inr
def mkWho (n : Nat) (who : List Int) : List Int := if (whoOf who 0 n).length = 0 then [0] else whoOf who 0 n
theorem mkWho_rises (n : Nat) (who : List Int) : (mkWho n who).Pairwise (· < ·) := by
  unfold mkWho
  split
  · simp
  · exact whoOf_rises who n 0
theorem mkWho_in (n : Nat) (hn : 1 ≤ n) (who : List Int) : ∀ x ∈ mkWho n who, 0 ≤ x ∧ x < (n : Int) := by
  intro x hx
  unfold mkWho at hx
  split at hx
  · simp at hx; omega
  · have := whoOf_ge who n 0 x hx
    simpa using this
theorem mkWho_len (n : Nat) (hn : 1 ≤ n) (who : List Int) : (mkWho n who).length ≠ 0 ∧ (mkWho n who).length ≤ n := by
  unfold mkWho
  have := whoOf_len who n 0
  split
  · simp; omega
  · exact ⟨by assumption, this⟩

theorem make5_l0 (n : Nat) (who : List Int) (s h se sr te tr s' h' se' sr' te' tr' : Int) (hn : n ≤ 4096) (hw : who.length ≤ 140737488351232) (d : Nat) : ∀ (i : Nat) (acc : List Int), i + d = n → acc.length ≤ i →
    Ev (fun k => psephoslaw05_Make.l0 k n i s h se sr te tr who s' h' se' sr' te' tr' acc) (s', h', se', sr', te', tr', if (acc ++ whoOf who i d).length = 0 then [0] else acc ++ whoOf who i d) := by
  induction d with
  | zero =>
    intro i acc hi hacc
    simp only [whoOf, List.append_nil]
    refine Ev.step (f := fun _ => some _) (fun k => ?_) (Ev.now _)
    simp only [psephoslaw05_Make.l0]
    rw [if_neg (by omega)]
    by_cases h0 : acc.length = 0
    · rw [if_pos (by omega), if_pos h0]
    · rw [if_neg (by omega), if_neg h0]
  | succ d ih =>
    intro i acc hi hacc
    have key : Ev (fun k => psephoslaw05_Make.l0 k n ((i + 1 : Nat) : Int) s h se sr te tr who s' h' se' sr' te' tr' (acc ++ (if (i : Int) ∈ who ∨ (i = 0 ∧ who.length = 0) then [(i : Int)] else []))) (s', h', se', sr', te', tr', if (acc ++ whoOf who i (d + 1)).length = 0 then [0] else acc ++ whoOf who i (d + 1)) := by
      have := ih (i + 1) (acc ++ (if (i : Int) ∈ who ∨ (i = 0 ∧ who.length = 0) then [(i : Int)] else [])) (by omega) (by rw [List.length_append]; split <;> simp <;> omega)
      rw [whoOf, ← List.append_assoc]
      exact this
    refine Ev.step (f := fun k => (psephoslaw05_has.f k who i).bind fun t181 => if t181 = true then psephoslaw05_Make.l0 k n ((i + 1 : Nat) : Int) s h se sr te tr who s' h' se' sr' te' tr' (acc ++ [(i : Int)]) else if i = 0 then if who.length = 0 then psephoslaw05_Make.l0 k n ((i + 1 : Nat) : Int) s h se sr te tr who s' h' se' sr' te' tr' (acc ++ [(i : Int)]) else psephoslaw05_Make.l0 k n ((i + 1 : Nat) : Int) s h se sr te tr who s' h' se' sr' te' tr' acc else psephoslaw05_Make.l0 k n ((i + 1 : Nat) : Int) s h se sr te tr who s' h' se' sr' te' tr' acc) (fun k => ?_) ?_
    · simp only [psephoslaw05_Make.l0]
      rw [if_pos (by omega), if_pos (by omega), wrap_next (n := n) (by omega) (by omega)]
      congr 1
      funext t
      by_cases h0 : i = 0
      · subst h0
        by_cases h1 : who.length = 0
        · simp [h1]
        · simp [h1]
      · simp [h0]
    · refine Ev.bind (has_f who i hw) ?_
      by_cases h1 : (i : Int) ∈ who
      · simp only [h1, decide_true, if_true, true_or] at key ⊢
        exact key
      · by_cases h0 : i = 0
        · subst h0
          by_cases h2 : who.length = 0
          · simp only [h1, h2, decide_false, Bool.false_eq_true, if_false, if_true, false_or, true_and] at key ⊢
            exact key
          · simp only [h1, h2, decide_false, Bool.false_eq_true, if_false, if_true, false_or, and_false, List.append_nil] at key ⊢
            exact key
        · simp only [h1, h0, decide_false, Bool.false_eq_true, if_false, false_or, false_and, List.append_nil] at key ⊢
          exact key

/-- A made vote's slot, its epochs. -/
def mkAt (s : Int) : Int := s % 200
def mkTe (slots s : Int) : Int := max 0 (mkAt s) / max 1 slots
def mkSe (slots s se : Int) : Int := se % (mkTe slots s + 1)
theorem mkAt_in (s : Int) : 0 ≤ mkAt s ∧ mkAt s < 200 := by
  unfold mkAt
  exact ⟨Int.emod_nonneg s (by decide), Int.emod_lt_of_pos s (by decide)⟩
theorem mkTe_in (slots s : Int) : 0 ≤ mkTe slots s ∧ mkTe slots s < 200 := by
  have := mkAt_in s
  unfold mkTe
  have h2 : 0 ≤ max 0 (mkAt s) / max 1 slots := Int.ediv_nonneg (by omega) (by omega)
  have h3 : max 0 (mkAt s) / max 1 slots ≤ max 0 (mkAt s) := Int.ediv_le_self _ (by omega)
  omega
theorem mkSe_in (slots s se : Int) : 0 ≤ mkSe slots s se ∧ mkSe slots s se ≤ mkTe slots s := by
  have := mkTe_in slots s
  unfold mkSe
  have := Int.emod_nonneg se (show mkTe slots s + 1 ≠ 0 by omega)
  have := Int.emod_lt_of_pos se (show 0 < mkTe slots s + 1 by omega)
  omega
theorem make5_f (bal who : List Int) (slots a2 s h se sr te tr : Int) (hb : bal.length ≤ 4096) (hw : who.length ≤ 140737488351232) (hs1 : -9223372036854775808 ≤ s) (hs2 : s ≤ 9223372036854775807) (he1 : -9223372036854775808 ≤ se) (he2 : se ≤ 9223372036854775807) :
    Ev (fun k => psephoslaw05_Make.f k bal slots a2 s h se sr te tr who) (mkAt s, Int.tmod h 8, mkSe slots s se, Int.tmod sr 8, mkTe slots s, Int.tmod tr 8, mkWho bal.length who) := by
  have h1 := rest05_is s 200 hs1 hs2 (by decide) (by decide)
  have ha := mkAt_in s
  have h2 := epoch_is (mkAt s) slots (by omega)
  have ht := mkTe_in slots s
  have hw1 : wrap64 (mkTe slots s + 1) = mkTe slots s + 1 := by unfold wrap64; omega
  have h3 := rest05_is se (mkTe slots s + 1) he1 he2 (by omega) (by omega)
  have := make5_l0 bal.length who s h se sr te tr (mkAt s) (Int.tmod h 8) (mkSe slots s se) (Int.tmod sr 8) (mkTe slots s) (Int.tmod tr 8) hb hw bal.length 0 [] (by omega) (by simp)
  simp only [List.nil_append] at this
  refine Ev.congr (fun k => ?_) this
  unfold psephoslaw05_Make.f
  rw [h1]
  simp only [Option.bind_some]
  rw [show epoch_Of.f (s % 200) slots = some (mkTe slots s) from h2]
  simp only [Option.bind_some]
  rw [hw1, h3]
  rfl
/-- A made vote may be. -/
theorem made_good (n : Nat) (hn : 1 ≤ n) (slots s se : Int) (who : List Int) : Good n slots (mkAt s) (mkSe slots s se) (mkTe slots s) (mkWho n who) := by
  have h1 := mkSe_in slots s se
  have h2 := mkAt_in s
  exact ⟨(mkWho_len n hn who).1, h2.1, h1.1, h1.2, rfl, ok_of_rises (mkWho_rises n who) (mkWho_in n hn who)⟩
end Go.Proofs.YtolkagkfedpjmaaDoor.QT
