/-
  The plain side of the law LedgerPull of package psephoslaw10: what would be justified is what is, when the epoch has ended.
-/
import Derived.Test.YtiklbldanidfiaaPartsP
namespace Go.Proofs.Ytiklbldanidfiaa.QL
open Go.RowKit Go.Proofs.YtiklbldanidfiaaW.PrintWords Go.Proofs.YtiklbldanidfiaaW.PrintLast Go.Proofs.YtiklbldanidfiaaW.PrintMore Go.Proofs.Ytiklbldanidfiaa.Own Go.Proofs.Ytiklbldanidfiaa.Justify
set_option linter.unusedVariables false

/-- An epoch later. -/
theorem adv_one (lx : List Int) (sl : Int) (f : Int → Int) (s : LS) (h0 : 0 ≤ s.ep) (he : s.ep ≤ 20) (hs : 1 ≤ sl) (hs2 : sl ≤ 64) :
    advTo lx sl f s (startOf (s.ep + 1) sl) = advStep lx sl f s s.ep := by
  have h1 : 0 ≤ (s.ep + 1) * sl := Int.mul_nonneg (by omega) (by omega)
  have h2 : (s.ep + 1) * sl ≤ 21 * 64 := Int.mul_le_mul (by omega) hs2 (by omega) (by omega)
  have h3 : startOf (s.ep + 1) sl = (s.ep + 1) * sl := by
    unfold startOf
    rw [mx1 hs, show mx 0 (s.ep + 1) = s.ep + 1 by unfold mx; omega]
    generalize (s.ep + 1) * sl = q at h1 h2 ⊢
    unfold wrap64
    omega
  rw [h3, adv_small lx sl f s _ h0 (by omega) hs hs2 h1 (by omega), Int.mul_ediv_cancel _ (by omega)]
  rw [show (s.ep + 1 - s.ep).toNat = 1 by omega]
  rfl
theorem start_range (e sl : Int) : -9223372036854775808 ≤ startOf e sl ∧ startOf e sl ≤ 9223372036854775807 := by unfold startOf wrap64; omega
/-- A row of bools, as far as it goes, and as far as has been come. -/
def rowOf (b : List Bool) (k n : Nat) : List Bool := (List.range n).map fun j => decide (j < k) && rdOf false b (j : Int)
theorem rowOf_len (b : List Bool) (k n : Nat) : (rowOf b k n).length = n := by simp [rowOf]
theorem rowOf_zero (b : List Bool) (n : Nat) : rowOf b 0 n = List.replicate n false := by
  refine List.ext_getElem (by simp [rowOf]) fun i h1 h2 => ?_
  simp [rowOf]
theorem rowOf_next (b : List Bool) (k n : Nat) (hk : k < n) : rowOf b (k + 1) n = (rowOf b k n).set k (rdOf false b (k : Int)) := by
  refine List.ext_getElem (by simp [rowOf]) fun i h1 h2 => ?_
  rw [List.getElem_set]
  by_cases e : k = i
  · subst e
    rw [if_pos rfl]
    simp [rowOf]
  · rw [if_neg e]
    simp only [rowOf, List.getElem_map, List.getElem_range]
    congr 1
    exact decide_eq_decide.2 (by omega)
theorem rd_past (b : List Bool) (k : Nat) (h : ¬ k < b.length) : rdOf false b (k : Int) = false := by
  simp [rdOf, List.getD_eq_getElem?_getD, List.getElem?_eq_none (Nat.le_of_not_lt h)]
/-- The state with those votes. -/
def pullS (e : Int) (b1 b2 : List Bool) (k n : Nat) : LS := ⟨⟨false, false, false, false, 0, 7, 0, 7, 0, 7⟩, e, rowOf b1 k n, rowOf b2 k n⟩
end Go.Proofs.Ytiklbldanidfiaa.QL
