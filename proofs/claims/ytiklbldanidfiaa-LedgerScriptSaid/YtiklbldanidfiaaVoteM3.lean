/-
  The plain laws of what the statements make of any configuration, and of any vote: both may be; with enough rounds.
-/
import Derived.Test.YtiklbldanidfiaaQLx11
import Derived.Test.YtiklbldanidfiaaQLx12
import Derived.Test.YtiklbldanidfiaaLB
namespace Go.Proofs.Ytiklbldanidfiaa.QLV
open Go.Proofs.Ytiklbldanidfiaa.QL
open Go.RowKit Go.Proofs.YtiklbldanidfiaaW.PrintWords Go.Proofs.YtiklbldanidfiaaW.PrintLast Go.Proofs.YtiklbldanidfiaaW.PrintMore
set_option linter.unusedVariables false

theorem drop_rd (l : List Int) (i : Nat) (h : i < l.length) : l.drop i = rd l i :: l.drop (i + 1) := by
  rw [List.drop_eq_getElem_cons h]
  simp [rd, List.getD_eq_getElem?_getD, h]
theorem wrap_next {i n : Nat} (hi : i < n) (hn : n ≤ 140737488351232) : wrap64 ((i : Int) + 1) = ((i + 1 : Nat) : Int) := by
  unfold wrap64
  omega
theorem wrap_pred {i n : Nat} (h0 : 0 < i) (hi : i < n) (hn : n ≤ 140737488351232) : wrap64 ((i : Int) - 1) = ((i - 1 : Nat) : Int) := by
  unfold wrap64
  omega
theorem rd_mem (l : List Int) (i : Nat) (h : i < l.length) : rd l i ∈ l := by
  simp [rd, List.getD_eq_getElem?_getD, h]
theorem rd_get (l : List Int) (i : Nat) (h : i < l.length) : rd l i = l[i] := by
  simp [rd, List.getD_eq_getElem?_getD, h]

theorem rest_eq (n m : Int) (h1 : -9223372036854775808 ≤ n) (h2 : n ≤ 9223372036854775807) (hm : 0 < m) (hm2 : m ≤ 4611686018427387904) : Int.tmod (wrap64 (Int.tmod n m + m)) m = n % m := by
  have h3 : -m < Int.tmod n m := by have := Int.lt_tmod_of_pos n hm; omega
  have h4 : Int.tmod n m < m := Int.tmod_lt_of_pos n hm
  have hw : wrap64 (Int.tmod n m + m) = Int.tmod n m + m := by unfold wrap64; omega
  have h5 := Int.tmod_add_mul_tdiv n m
  rw [hw, Int.tmod_eq_emod_of_nonneg (by omega), Int.add_emod_right]
  conv => rhs; rw [← h5, Int.add_mul_emod_self_left]
theorem rest03_is (n m : Int) (h1 : -9223372036854775808 ≤ n) (h2 : n ≤ 9223372036854775807) (hm : 0 < m) (hm2 : m ≤ 4611686018427387904) : psephoslaw03_rest.f n m = some (n % m) := by
  unfold psephoslaw03_rest.f
  rw [if_neg (by omega), rest_eq n m h1 h2 hm hm2]
theorem wrap_range (n : Int) : -9223372036854775808 ≤ wrap64 n ∧ wrap64 n ≤ 9223372036854775807 := by
  unfold wrap64
  omega

/-- The balances of a made configuration. -/
def mkBal (l : List Int) : List Int := if l = [] then [7] else (l.take 4096).map (fun b => Int.tmod b 4294967297)
/-- Its slots, its boost. -/
def mkSlots (s : Int) : Int := 1 + wrap64 (s - 1) % 64
def mkBoost (b : Int) : Int := b % 101
theorem mkBal_len (l : List Int) : 1 ≤ (mkBal l).length ∧ (mkBal l).length ≤ 4096 := by
  unfold mkBal
  split
  · simp
  · rename_i h
    have : l.length ≠ 0 := fun e => h (List.eq_nil_of_length_eq_zero e)
    simp
    omega
theorem mkSlots_in (s : Int) : 1 ≤ mkSlots s ∧ mkSlots s ≤ 64 := by
  unfold mkSlots
  have := Int.emod_nonneg (wrap64 (s - 1)) (show (64 : Int) ≠ 0 by decide)
  have := Int.emod_lt_of_pos (wrap64 (s - 1)) (show (0 : Int) < 64 by decide)
  omega
theorem mkBoost_in (s : Int) : 0 ≤ mkBoost s ∧ mkBoost s ≤ 100 := by
  unfold mkBoost
  have := Int.emod_nonneg s (show (101 : Int) ≠ 0 by decide)
  have := Int.emod_lt_of_pos s (show (0 : Int) < 101 by decide)
  omega
theorem mkBal_mem (l : List Int) (hw : ∀ x ∈ l, 0 ≤ x) : ∀ b ∈ mkBal l, 0 ≤ b ∧ b ≤ 4294967296 := by
  intro b hb
  unfold mkBal at hb
  split at hb
  · simp at hb
    omega
  · simp only [List.mem_map] at hb
    obtain ⟨x, hx, rfl⟩ := hb
    have h0 := hw x (List.mem_of_mem_take hx)
    rw [Int.tmod_eq_emod_of_nonneg h0]
    have := Int.emod_nonneg x (show (4294967297 : Int) ≠ 0 by decide)
    have := Int.emod_lt_of_pos x (show (0 : Int) < 4294967297 by decide)
    omega

theorem make3_l0 (l : List Int) (s b : Int) (hn : l.length ≤ 17592186043904) (d : Nat) : ∀ (i : Nat), i + d = l.length →
    Ev (fun k => psephoslaw03_Make.l0 k l l.length i ((l.take (min i 4096)).map fun b => Int.tmod b 4294967297) s b) (mkBal l, s, b) := by
  induction d with
  | zero =>
    intro i hi
    refine Ev.step (f := fun _ => some (mkBal l, s, b)) (fun k => ?_) (Ev.now _)
    simp only [psephoslaw03_Make.l0]
    rw [if_neg (by omega)]
    by_cases h : l = []
    · subst h
      rw [if_pos (by simp)]
      rfl
    · have h0 : l.length ≠ 0 := fun e => h (List.eq_nil_of_length_eq_zero e)
      have hlen : ((l.take (min i 4096)).map fun b => Int.tmod b 4294967297).length = min i 4096 := by rw [List.length_map, List.length_take]; omega
      rw [if_neg (by omega)]
      unfold mkBal
      rw [if_neg h]
      have : l.take (min i 4096) = l.take 4096 := by
        have hi' : i = l.length := by omega
        subst hi'
        rw [List.take_eq_take_iff]
        omega
      rw [this]
  | succ d ih =>
    intro i hi
    have hg : i < l.length := by omega
    by_cases h : i < 4096
    · refine Ev.step (f := fun k => psephoslaw03_Make.l0 k l l.length ((i + 1 : Nat) : Int) ((l.take (min (i + 1) 4096)).map fun b => Int.tmod b 4294967297) s b) (fun k => ?_) (ih (i + 1) (by omega))
      simp only [psephoslaw03_Make.l0]
      rw [if_pos (by omega), if_pos (by omega), if_pos (by omega), if_pos (by omega), if_pos (by simp; omega), wrap_next (n := l.length) hg (by omega)]
      have : (l.take (min i 4096)).map (fun b => Int.tmod b 4294967297) ++ [Int.tmod (rd l i) 4294967297] = (l.take (min (i + 1) 4096)).map fun b => Int.tmod b 4294967297 := by
        rw [show min i 4096 = i by omega, show min (i + 1) 4096 = i + 1 by omega, List.take_succ_eq_append_getElem hg, List.map_append, rd_get l i hg]
        rfl
      rw [this]
    · refine Ev.step (f := fun k => psephoslaw03_Make.l0 k l l.length ((i + 1 : Nat) : Int) ((l.take (min (i + 1) 4096)).map fun b => Int.tmod b 4294967297) s b) (fun k => ?_) (ih (i + 1) (by omega))
      simp only [psephoslaw03_Make.l0]
      rw [if_pos (by omega), if_pos (by omega), if_pos (by omega), if_neg (by omega), wrap_next (n := l.length) hg (by omega), show min (i + 1) 4096 = min i 4096 by omega]
theorem make3_f (l : List Int) (s b : Int) (hn : l.length ≤ 17592186043904) (hb1 : -9223372036854775808 ≤ b) (hb2 : b ≤ 9223372036854775807) :
    Ev (fun k => psephoslaw03_Make.f k l s b) (mkBal l, mkSlots s, mkBoost b) := by
  have h1 := rest03_is (wrap64 (s - 1)) 64 (wrap_range _).1 (wrap_range _).2 (by decide) (by decide)
  have h2 := rest03_is b 101 hb1 hb2 (by decide) (by decide)
  have h3 : wrap64 (1 + wrap64 (s - 1) % 64) = mkSlots s := by have := mkSlots_in s; unfold mkSlots at this ⊢; generalize wrap64 (s - 1) % 64 = t at *; unfold wrap64; omega
  have := make3_l0 l (mkSlots s) (mkBoost b) hn l.length 0 (by omega)
  refine Ev.congr (fun k => ?_) this
  unfold psephoslaw03_Make.f
  rw [h1, h2]
  simp only [Option.bind_some]
  rw [h3]
  rfl
end Go.Proofs.Ytiklbldanidfiaa.QLV
