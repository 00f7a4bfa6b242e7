/-
  Package psephoslaw09: trees laid by deeds (the plain side).
-/
import Derived.Test.YtgbhblbfodphfaaDoorTreeM
import Derived.Test.YtgbhblbfodphfaaDoorActs
namespace Go.Proofs.YtgbhblbfodphfaaDoor.Tree
open Go.RowKit Go.Maps Go.Proofs.YtgbhblbfodphfaaDoorW.PrintWords Go.Proofs.YtgbhblbfodphfaaDoor.Open
set_option linter.unusedVariables false

theorem u64_in (n : Int) (h0 : 0 ≤ n) (h1 : n ≤ 18446744073709551615) : IntKind.u64.wrap n = n := by
  simp only [IntKind.wrap, IntKind.bits, IntKind.signed]
  simp
  omega
/-- A tree laid by deeds. -/
def deed (t : T) (a : Int × Int × Int × Int) : T := addOf t (a.2.1 % 24) (a.2.2.1 % 24) (a.2.2.2 % 40)
def laid (f : Nat → Int × Int × Int × Int) : Nat → T
  | 0 => ⟨1, [⟨1, 1, 2, 0⟩]⟩
  | k + 1 => deed (laid f k) (f k)
theorem laid_succ (f : Nat → Int × Int × Int × Int) (k : Nat) : laid f (k + 1) = addOf (laid f k) ((f k).2.1 % 24) ((f k).2.2.1 % 24) ((f k).2.2.2 % 40) := rfl
/-- A tree of deeds: fit, its slots below 40, its roots below 24. -/
structure Deeds (t : T) : Prop where
  fit : Fit t
  slot : ∀ r, has t.ns r = true → (getD t.ns r).s ≤ 39
  len : t.ns.length ≤ 1024
  root : ∀ r, has t.ns r = true → r < 24
theorem Deeds.high {t : T} (h : Deeds t) : ∀ x, has t.ns x = true → 0 ≤ (getD t.ns x).h ∧ (getD t.ns x).h < 1024 :=
  h.fit.limit (fun r hr => by have := h.slot r hr; omega)
theorem add_roots {t : T} (r p s : Int) (b : Int) (hs : ∀ q, has t.ns q = true → q < b) (hb : r < b) : ∀ q, has (addOf t r p s).ns q = true → q < b := by
  unfold addOf
  by_cases h : addErr t r p s = none
  · rw [if_pos h]
    obtain ⟨h1, h2, h3, h4⟩ := addErr_none h
    have hno : has t.ns (Nd.r ⟨r, p, s, (getD t.ns p).h + 1⟩) = false := h1
    intro q hq
    replace hq : has (t.ns ++ [⟨r, p, s, (getD t.ns p).h + 1⟩]) q = true := hq
    rw [has_new hno] at hq
    by_cases e : q = r
    · omega
    · exact hs q (by simpa [e] using hq)
  · rw [if_neg h]
    exact hs
theorem Deeds.add {t : T} (h : Deeds t) (r p s : Int) (hr : 0 ≤ r ∧ r < 24) (hs : s ≤ 39) : Deeds (addOf t r p s) :=
  ⟨h.fit.add r p s (by omega), add_slots r p s 39 h.slot hs, by have h1 := add_length t r p s; have h2 := h.len; omega, add_roots r p s 24 h.root hr.2⟩
theorem Deeds.one : Deeds ⟨1, [⟨1, 1, 2, 0⟩]⟩ := by
  refine ⟨Fit.one 1 2 (by omega) (by omega), fun r hr => ?_, by simp, fun r hr => ?_⟩
  · rw [has_mem] at hr
    simp at hr
    subst hr
    decide
  · rw [has_mem] at hr
    simp at hr
    omega
theorem Deeds.deed {t : T} (h : Deeds t) (a : Int × Int × Int × Int) : Deeds (deed t a) := h.add _ _ _ (by omega) (by omega)
theorem laid_deeds (f : Nat → Int × Int × Int × Int) : ∀ k, Deeds (laid f k)
  | 0 => Deeds.one
  | k + 1 => (laid_deeds f k).deed (f k)
/-- An octet's rest, as the walk meets it. -/
theorem rest8 {a m : Int} (h : 0 ≤ a ∧ a ≤ 255) (hm : 0 < m) (hm2 : m ≤ 255) : IntKind.u64.wrap (a.tmod m) = a % m ∧ wrap64 (a.tmod m) = a % m ∧ 0 ≤ a % m ∧ a % m < m := by
  have h1 := Int.emod_nonneg a (show m ≠ 0 by omega)
  have h2 := Int.emod_lt_of_pos a hm
  rw [Int.tmod_eq_emod_of_nonneg h.1, u64_in _ h1 (by omega)]
  refine ⟨rfl, ?_, h1, h2⟩
  unfold wrap64
  omega

end Go.Proofs.YtgbhblbfodphfaaDoor.Tree
