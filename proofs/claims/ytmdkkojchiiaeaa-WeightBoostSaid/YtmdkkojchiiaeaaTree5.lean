/-
  Package tree: Add as a whole: the error that it answers, and the tree behind it; nothing else is written than the map.
-/
import Derived.Test.YtmdkkojchiiaeaaTree4
import Derived.Test.YtmdkkojchiiaeaaWKept
namespace Go.Proofs.Ytmdkkojchiiaeaa.Tree
open Go.RowKit Go.Maps Go.ChangeMaps Go.Proofs.YtmdkkojchiiaeaaW.PrintWords
set_option linter.unusedVariables false

/-- Add, whatever it answers. -/
theorem add_calls (p B : Nat) (t : T) (r q s : Int) (w : World) (h : Mem w p B t) (hr : 0 ≤ r ∧ r ≤ 18446744073709551615) (hq : 0 ≤ q ∧ q ≤ 18446744073709551615) (hh : ∀ x, has t.ns x = true → 0 ≤ (getD t.ns x).h ∧ (getD t.ns x).h < 1024) :
    Calls Try.prog 27 #[.pointer (some ⟨p, 0, none⟩), .int .u64 r, .int .u64 q, .int .i64 s] w fun e w' => e = .returned (errV (addErr t r q s)) ∧ Mem w' p B (addOf t r q s) ∧ (∀ b, b ≤ B → b ≤ w.heap.size → Below b w w') ∧ Kept w w' (fun k => k = B) := by
  have keep : ∀ c, addErr t r q s = some c → ∀ (e : Ending) (w' : World), (e = .returned (errV (some c)) ∧ Below w.heap.size w w') → e = .returned (errV (addErr t r q s)) ∧ Mem w' p B (addOf t r q s) ∧ (∀ b, b ≤ B → b ≤ w.heap.size → Below b w w') ∧ Kept w w' (fun k => k = B) := by
    rintro c hc e w' ⟨rfl, hb⟩
    refine ⟨by rw [hc], ?_, fun b _ h2 => hb.mono h2, Kept.of_below hb _⟩
    unfold addOf
    rw [hc, if_neg (by simp)]
    exact h.below hb
  by_cases h1 : has t.ns r = true
  · exact (add_twice p B t r q s w h hr hq h1).mono fun e w' => keep 6 (by unfold addErr; rw [if_pos h1]) e w'
  · have h1' : has t.ns r = false := by simpa using h1
    by_cases h2 : has t.ns q = false
    · exact (add_parent p B t r q s w h hr hq h1' h2).mono fun e w' => keep 5 (by unfold addErr; rw [if_neg h1, if_pos h2]) e w'
    · have h2' : has t.ns q = true := by simpa using h2
      by_cases h3 : s ≤ (getD t.ns q).s
      · exact (add_slot p B t r q s w h hr hq h1' h2' h3).mono fun e w' => keep 7 (by unfold addErr; rw [if_neg h1, if_neg h2, if_pos h3]) e w'
      · by_cases h5 : (t.ns.length : Int) ≥ 1024
        · exact (add_full p B t r q s w h hr hq h1' h2' h3 h5).mono fun e w' => keep 12 (by unfold addErr; rw [if_neg h1, if_neg h2, if_neg h3, if_pos h5]) e w'
        · have hn : addErr t r q s = none := by unfold addErr; rw [if_neg h1, if_neg h2, if_neg h3, if_neg h5]
          refine (add_done p B t r q s w h hr hq h1' h2' h3 h5 (hh q h2')).mono fun e w' hx => ?_
          rw [hn]
          unfold addOf
          rw [hn, if_pos rfl]
          exact hx
end Go.Proofs.Ytmdkkojchiiaeaa.Tree
