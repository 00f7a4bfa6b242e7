-- Laid by this work's own turn of the print (gprint.py); not the print's own text.
import Derived.Test.YtiklbldanidfiaaQLx0
namespace Go.Proofs.Ytiklbldanidfiaa.QL
open Go.RowKit Go.Proofs.YtiklbldanidfiaaW.PrintWords Go.Proofs.YtiklbldanidfiaaW.PrintLast Go.Proofs.YtiklbldanidfiaaW.PrintMore
attribute [local go_sem] max2_int min2_int max_two min_two   -- for this text's walks alone
set_option linter.unusedVariables false
set_option linter.unusedSimpArgs false

-- NOT PRINTED: function 12 (ledger_Open)

/-! ### quorum_Enough: function 23 -/
def quorum_Enough.f (a0 : Int) (a1 : Int) : Option (Bool) := if a1 > 0 then (some (decide (a0 ≥ (IntKind.u64.wrap ((IntKind.u64.wrap (2 * (IntKind.u64.wrap (Int.tdiv a1 3)))) + (IntKind.u64.wrap (Int.tdiv (IntKind.u64.wrap ((IntKind.u64.wrap (2 * (Int.tmod a1 3))) + 2)) 3))))))) else (some false)
set_option maxHeartbeats 8000000 in
set_option maxRecDepth 100000 in
theorem quorum_Enough.calls (a0 : Int) (a1 : Int) (r : Bool) (w : World) (h : quorum_Enough.f a0 a1 = some r) :
    Calls Try.prog 23 #[.int .u64 a0, .int .u64 a1] w fun e w' => e = .returned (.bool r) ∧ Drawn0 w w' := by
  have H : (if a1 > 0 then (some (decide (a0 ≥ (IntKind.u64.wrap ((IntKind.u64.wrap (2 * (IntKind.u64.wrap (Int.tdiv a1 3)))) + (IntKind.u64.wrap (Int.tdiv (IntKind.u64.wrap ((IntKind.u64.wrap (2 * (Int.tmod a1 3))) + 2)) 3))))))) else (some false)) = some r := h
  clear h
  by_cases c3 : a1 > 0
  · rw [if_pos c3] at H
    have c3b0 : decide (0 < a1) = true := decide_eq_true c3
    clear c3
    obtain rfl := Option.some.inj H
    go_enter Try.func23, Try.ntmps23
    go_wp2
    go_ret
    exact ⟨by first | rfl | (simp; done) | (simp [*]; done), by repeat (first | exact Drawn0.refl _ | apply Drawn0.step)⟩
  · rw [if_neg c3] at H
    have c3b0 : decide (0 < a1) = false := decide_eq_false c3
    clear c3
    obtain rfl := Option.some.inj H
    go_enter Try.func23, Try.ntmps23
    go_wp2
    go_ret
    exact ⟨by first | rfl | (simp; done) | (simp [*]; done), by repeat (first | exact Drawn0.refl _ | apply Drawn0.step)⟩

end Go.Proofs.Ytiklbldanidfiaa.QL
