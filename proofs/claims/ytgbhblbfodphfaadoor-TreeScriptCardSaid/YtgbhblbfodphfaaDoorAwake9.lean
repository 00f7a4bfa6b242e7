/-
  psephoslaw09's awake: the document's examples.
-/
import Derived.Test.YtgbhblbfodphfaaDoorTreeM
namespace Go.Proofs.YtgbhblbfodphfaaDoor.Tree
open Go.RowKit Go.Maps Go.Proofs.YtgbhblbfodphfaaDoorW.PrintWords
set_option linter.unusedVariables false

def a0 : T := ⟨1, [⟨1, 1, 0, 0⟩]⟩
def a3 : T := ⟨1, [⟨1, 1, 0, 0⟩, ⟨2, 1, 3, 1⟩, ⟨3, 2, 5, 2⟩, ⟨4, 1, 4, 1⟩]⟩
theorem a_one : addErr a0 2 1 3 = none := by decide
theorem a_two : addErr (addOf a0 2 1 3) 3 2 5 = none := by decide
theorem a_three : addErr (addOf (addOf a0 2 1 3) 3 2 5) 4 1 4 = none := by decide
theorem a_is : addOf (addOf (addOf a0 2 1 3) 3 2 5) 4 1 4 = a3 := by
  unfold addOf
  rfl
theorem a0_fit : Fit a0 := Fit.one 1 0 (by omega) (by omega)
theorem a3_fit : Fit a3 := by
  rw [← a_is]
  exact ((a0_fit.add 2 1 3 (by omega)).add 3 2 5 (by omega)).add 4 1 4 (by omega)
theorem a0_high : ∀ q, has a0.ns q = true → (getD a0.ns q).s ≤ 10 := fun q hq => by
  rw [has_mem] at hq
  simp [a0] at hq
  subst hq
  decide
theorem a_high1 : ∀ x, has (addOf a0 2 1 3).ns x = true → 0 ≤ (getD (addOf a0 2 1 3).ns x).h ∧ (getD (addOf a0 2 1 3).ns x).h < 1024 :=
  (a0_fit.add 2 1 3 (by omega)).limit (fun q hq => by have := add_slots 2 1 3 10 a0_high (by omega) q hq; omega)
theorem a_high2 : ∀ x, has (addOf (addOf a0 2 1 3) 3 2 5).ns x = true → 0 ≤ (getD (addOf (addOf a0 2 1 3) 3 2 5).ns x).h ∧ (getD (addOf (addOf a0 2 1 3) 3 2 5).ns x).h < 1024 :=
  ((a0_fit.add 2 1 3 (by omega)).add 3 2 5 (by omega)).limit (fun q hq => by have := add_slots 3 2 5 10 (add_slots 2 1 3 10 a0_high (by omega)) (by omega) q hq; omega)
theorem a_high3 : ∀ x, has a3.ns x = true → 0 ≤ (getD a3.ns x).h ∧ (getD a3.ns x).h < 1024 :=
  a3_fit.limit (fun q hq => by rw [← a_is] at hq ⊢; have := add_slots 4 1 4 10 (add_slots 3 2 5 10 (add_slots 2 1 3 10 a0_high (by omega)) (by omega)) (by omega) q hq; omega)
theorem a_roots : rootsOf a3.ns = [1, 2, 3, 4] := by
  show List.mergeSort [1, 2, 3, 4] (fun x y => decide (x ≤ y)) = _
  first
    | exact List.mergeSort_of_pairwise (by decide)
    | exact List.mergeSort_of_sorted (by decide)
theorem a_gone : goneOf a3 2 = [1, 4] := by
  unfold goneOf
  rw [a_roots]
  decide
theorem a_at : atOf a3 3 4 = 2 := by decide
theorem a_below : below a3 3 4 = false := by decide
/-- A row of two that was made here, by its cells. -/
theorem row2 {w : World} {b : Nat} {ok : Nat → Prop} {v : Value} {x y : Int} (h : Kd.R (Kd.int .u64) 25 w b ok v [x, y]) : ∃ g c, v = .slice (some ⟨g, 0, none⟩) 2 c ∧ w.cell? ⟨g, 0, none⟩ = some (.int .u64 x) ∧ w.cell? ⟨g, 1, none⟩ = some (.int .u64 y) := by
  obtain ⟨inner, ho⟩ := Kd.R_own h
  rcases ho.2 with ⟨rfl, hz⟩ | ⟨gb, cap, cur, rfl, _⟩
  · cases hz
  · obtain ⟨ad, e1, hc⟩ := Kd.at_int (Kd.R_reads' h).2.2 (0 : Int) (by simp) (by simp)
    obtain ⟨ad', e2, hc2⟩ := Kd.at_int (Kd.R_reads' h).2.2 (1 : Int) (by simp) (by simp)
    injection e1 with e1
    injection e2 with e2
    subst e1
    subst e2
    rw [add_plain] at hc hc2
    exact ⟨gb, cap, rfl, hc, hc2⟩
set_option maxHeartbeats 8000000 in
set_option maxRecDepth 100000 in
theorem awake_calls (w : World) : Calls Tryd.prog 5 #[] w fun e w' => e = .returned (.bool true) ∧ Below w.heap.size w w' := by
  go_enter Tryd.func5, Tryd.ntmps5
  go_wp2_with fail
  go_at_call 6
  refine (of_calls 1 0 w (by omega)).mono ?_
  rintro e w1 ⟨p, B, rfl, hm, hb, hp, hB⟩
  have HM := Aside0.mk (show Mem w1 p B a0 from hm)
  have HB1 := Aside0.mk hb
  have HP := Aside0.mk (And.intro hp hB)
  clear hm hb hp hB
  go_wp2_with fail
  go_at_call 7
  refine (add_calls p B a0 2 1 3 w1 HM.out (by omega) (by omega) (a0_fit.limit (fun q hq => by have := a0_high q hq; omega))).mono ?_
  rw [a_one]
  rintro e w2 ⟨rfl, hm, hb, _⟩
  have HM2 := Aside0.mk hm
  have HB2 := Aside0.mk (HB1.out.trans (hb w.heap.size HP.out.2 HB1.out.size))
  clear hm hb HM HB1
  go_wp2_with fail
  go_at_call 7
  refine (add_calls p B _ 3 2 5 w2 HM2.out (by omega) (by omega) a_high1).mono ?_
  rw [a_two]
  rintro e w3 ⟨rfl, hm, hb, _⟩
  have HM3 := Aside0.mk hm
  have HB3 := Aside0.mk (HB2.out.trans (hb w.heap.size HP.out.2 HB2.out.size))
  clear hm hb HM2 HB2
  go_wp2_with fail
  go_at_call 7
  refine (add_calls p B _ 4 1 4 w3 HM3.out (by omega) (by omega) a_high2).mono ?_
  rw [a_three, a_is]
  rintro e w4 ⟨rfl, hm, hb, _⟩
  have HM4 := Aside0.mk hm
  have HB4 := Aside0.mk (HB3.out.trans (hb w.heap.size HP.out.2 HB3.out.size))
  clear hm hb HM3 HB3
  unfold errV
  go_wp2_with fail
  go_at_call 17
  refine (at_calls p B a3 3 4 w4 HM4.out a3_fit.well (by omega)).mono ?_
  rw [a_at]
  rintro e w5 ⟨rfl, hb⟩
  have HM5 := Aside0.mk (HM4.out.below hb)
  have HB5 := Aside0.mk (HB4.out.trans (hb.mono HB4.out.size))
  clear hb HM4 HB4
  go_wp2_with fail
  go_at_call 16
  refine (below_calls p B a3 3 4 w5 HM5.out a3_fit.well (by omega) (by omega)).mono ?_
  rw [a_below]
  rintro e w6 ⟨rfl, hb⟩
  have HM6 := Aside0.mk (HM5.out.below hb)
  have HB6 := Aside0.mk (HB5.out.trans (hb.mono HB5.out.size))
  clear hb HM5 HB5
  go_wp2_with fail
  go_at_call 11
  refine (cut_calls p B a3 2 w6 HM6.out a3_fit.well a3_fit.uniq a3_fit.ne (by decide) a_high3 (by omega) (by decide)).mono ?_
  rw [a_gone]
  rintro e w7 ⟨v, B', rfl, hR, hm, _, hb, _⟩
  have HM7 := Aside0.mk hm
  have HB7 := Aside0.mk (HB6.out.trans (hb w.heap.size HP.out.1 HB6.out.size))
  obtain ⟨gb, c, rfl, hc0, hc1⟩ := row2 hR
  clear hm hb HM6 HB6 hR
  go_wp2_with (go_at_call 19; refine (first_calls p B' _ w7 HM7.out).mono ?_; rintro e w8 ⟨rfl, hb⟩; have HB8 := Aside0.mk (HB7.out.trans (hb.mono HB7.out.size)); clear hb)
  go_ret
  exact ⟨rfl, HB8.out⟩
end Go.Proofs.YtgbhblbfodphfaaDoor.Tree
