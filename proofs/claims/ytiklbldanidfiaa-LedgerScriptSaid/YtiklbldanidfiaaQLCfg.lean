/-
  The plain laws of package config's printed functions: a sum over some, all numbers below one, a total; with enough rounds.
-/
import Derived.Test.YtiklbldanidfiaaQLx2
import Derived.Test.YtiklbldanidfiaaQLx3
import Derived.Test.YtiklbldanidfiaaQLx4
namespace Go.Proofs.Ytiklbldanidfiaa.QL
open Go.RowKit Go.Proofs.YtiklbldanidfiaaW.PrintWords

/-- What some have together, from acc on. -/
def sumOf (bs : List Int) (acc : Int) (who : List Int) : Int := who.foldl (fun a k => if 0 ≤ k ∧ k < (bs.length : Int) then IntKind.u64.wrap (a + rd bs k) else a) acc
/-- What all have together, from acc on. -/
def allOf (acc : Int) (bs : List Int) : Int := bs.foldl (fun a b => IntKind.u64.wrap (a + b)) acc

/-- The numbers from i on, d of them. -/
def upFrom : Nat → Nat → List Int
  | _, 0 => []
  | i, d + 1 => (i : Int) :: upFrom (i + 1) d
theorem upFrom_length (d : Nat) : ∀ i, (upFrom i d).length = d := by
  induction d with
  | zero => intro i; rfl
  | succ d ih => intro i; simp [upFrom, ih]

theorem drop_rd (l : List Int) (i : Nat) (h : i < l.length) : l.drop i = rd l i :: l.drop (i + 1) := by
  rw [List.drop_eq_getElem_cons h]
  simp [rd, List.getD_eq_getElem?_getD, h]
theorem wrap_next {i n : Nat} (hi : i < n) (hn : n ≤ 140737488351232) : wrap64 ((i : Int) + 1) = ((i + 1 : Nat) : Int) := by
  unfold wrap64
  omega

theorem sum_l0 (bs who : List Int) (s b : Int) (hn : who.length ≤ 140737488351232) (d : Nat) : ∀ (i : Nat) (acc : Int), i + d = who.length →
    Ev (fun k => config_Sum.l0 k acc who who.length i bs s b) (sumOf bs acc (who.drop i)) := by
  induction d with
  | zero =>
    intro i acc hi
    refine Ev.step (f := fun _ => some (sumOf bs acc (who.drop i))) (fun k => ?_) (Ev.now _)
    simp only [config_Sum.l0]
    rw [if_neg (by omega), List.drop_eq_nil_of_le (by omega)]
    rfl
  | succ d ih =>
    intro i acc hi
    rw [drop_rd who i (by omega)]
    simp only [sumOf, List.foldl_cons]
    by_cases h : 0 ≤ rd who i ∧ rd who i < (bs.length : Int)
    · rw [if_pos h]
      refine Ev.step (f := fun k => config_Sum.l0 k (IntKind.u64.wrap (acc + rd bs (rd who i))) who who.length ((i + 1 : Nat) : Int) bs s b) (fun k => ?_) (ih (i + 1) _ (by omega))
      simp only [config_Sum.l0]
      rw [if_pos (by omega), if_pos (by omega), if_pos (by omega), if_pos h.1, if_pos h.2, if_pos h.1, wrap_next (n := who.length) (by omega) hn]
    · rw [if_neg h]
      refine Ev.step (f := fun k => config_Sum.l0 k acc who who.length ((i + 1 : Nat) : Int) bs s b) (fun k => ?_) (ih (i + 1) _ (by omega))
      simp only [config_Sum.l0]
      rw [if_pos (by omega), if_pos (by omega), if_pos (by omega), wrap_next (n := who.length) (by omega) hn]
      by_cases h0 : rd who i ≥ 0
      · rw [if_pos h0, if_neg (by omega)]
      · rw [if_neg h0]
theorem sum_f (bs who : List Int) (s b : Int) (hn : who.length ≤ 140737488351232) : Ev (fun k => config_Sum.f k bs s b who) (sumOf bs 0 who) := by
  have := sum_l0 bs who s b hn who.length 0 0 (by omega)
  rwa [List.drop_zero] at this

theorem all_l0 (n : Nat) (hn : n ≤ 140737488351232) (d : Nat) : ∀ (i : Nat) (xs : List Int), xs.length = n → i + d = n →
    Ev (fun k => config_all.l0 k xs n i) (xs.take i ++ upFrom i d) := by
  induction d with
  | zero =>
    intro i xs hx hi
    refine Ev.step (f := fun _ => some xs) (fun k => ?_) ?_
    · simp only [config_all.l0]
      rw [if_neg (by omega)]
    · rw [List.take_of_length_le (by omega)]
      simpa [upFrom] using Ev.now xs
  | succ d ih =>
    intro i xs hx hi
    have h := ih (i + 1) (xs.set i i) (by rw [List.length_set]; exact hx) (by omega)
    have e : (xs.set i (i : Int)).take (i + 1) ++ upFrom (i + 1) d = xs.take i ++ upFrom i (d + 1) := by
      rw [List.take_succ_eq_append_getElem (by rw [List.length_set]; omega), List.getElem_set_self, List.take_set_of_le (Nat.le_refl _), upFrom, List.append_assoc]
      rfl
    rw [e] at h
    refine Ev.step (fun k => ?_) h
    simp only [config_all.l0]
    rw [if_pos (by omega), if_pos (by omega), if_pos (by omega), wrap_next (n := n) (by omega) hn, Int.toNat_natCast]
theorem all_f (n : Nat) (hn : n ≤ 35184372088832) : Ev (fun k => config_all.f k n) (upFrom 0 n) := by
  refine Ev.congr (f := fun k => config_all.l0 k (List.replicate n 0) n 0) (fun k => ?_) ?_
  · unfold config_all.f
    rw [if_pos (by omega), Int.toNat_natCast, if_pos hn]
    simp
  · simpa using all_l0 n (by omega) n 0 (List.replicate n 0) (by simp) (by omega)

theorem sum_all (bs : List Int) (d : Nat) : ∀ (i : Nat) (acc : Int), i + d = bs.length → sumOf bs acc (upFrom i d) = allOf acc (bs.drop i) := by
  induction d with
  | zero => intro i acc hi; rw [List.drop_eq_nil_of_le (by omega)]; rfl
  | succ d ih =>
    intro i acc hi
    rw [drop_rd bs i (by omega), upFrom]
    simp only [sumOf, allOf, List.foldl_cons]
    rw [if_pos (by omega)]
    exact ih (i + 1) _ (by omega)
theorem total_f (bs : List Int) (s b : Int) (hn : bs.length ≤ 35184372088832) : Ev (fun k => config_Total.f k bs s b) (allOf 0 bs) := by
  unfold config_Total.f
  refine Ev.bind (all_f bs.length hn) ?_
  have h := sum_f bs (upFrom 0 bs.length) s b (by rw [upFrom_length]; omega)
  rw [sum_all bs bs.length 0 0 (by omega), List.drop_zero] at h
  refine Ev.congr (fun k => ?_) h
  cases config_Sum.f k bs s b (upFrom 0 bs.length) <;> rfl
end Go.Proofs.Ytiklbldanidfiaa.QL
