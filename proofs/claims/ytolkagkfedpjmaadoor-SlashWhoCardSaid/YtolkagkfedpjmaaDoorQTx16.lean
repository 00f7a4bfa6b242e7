-- Laid by this work's own turn of the print (gprint.py); not the print's own text.
import Derived.Test.YtolkagkfedpjmaaDoorQTx0
namespace Go.Proofs.YtolkagkfedpjmaaDoor.QT
open Go.RowKit Go.Proofs.YtolkagkfedpjmaaDoorW.PrintWords Go.Proofs.YtolkagkfedpjmaaDoorW.PrintLast Go.Proofs.YtolkagkfedpjmaaDoorW.PrintMore
attribute [local go_sem] max2_int min2_int max_two min_two max_three min_three max_four min_four   -- for this text's walks alone
set_option linter.unusedVariables false
set_option linter.unusedSimpArgs false

/-! ### slices_Sort_int_int: function 21 -/
def slices_Sort_int_int.f (k : Nat) (l0 : List Int) : Option (List Int) := if l0.length < 4611686018427387904 then some (l0.mergeSort fun x y => decide (x ≤ y)) else none
theorem slices_Sort_int_int.mono : ∀ a0 k, LeO (slices_Sort_int_int.f k a0) (slices_Sort_int_int.f (k + 1) a0) := fun _ _ => LeO.refl _
theorem slices_Sort_int_int.calls (k : Nat) (P0_ : Nat → Prop) (u9000_ : Value) (l0 : List Int) (r : List Int) (w0 w : World) (hB : Below w0.heap.size w0 w) (ho0 : Kd.R (Kd.int .i64) 3 w w0.heap.size P0_ u9000_ l0) (h : slices_Sort_int_int.f k l0 = some r) :
    Calls Tryd.prog 21 #[u9000_] w fun e w' => e = .returned (.tuple #[]) ∧ Kd.R (Kd.int .i64) 3 w' w0.heap.size (fun k_ => (P0_ k_ ∨ w.heap.size ≤ k_)) u9000_ r ∧ Below w0.heap.size w0 w' ∧ Kept w w' (fun k_ => P0_ k_) := by
  unfold slices_Sort_int_int.f at h
  split at h
  case isFalse => cases h
  rename_i hsz
  obtain rfl := Option.some.inj h
  have hown := Kd.own_of_R ho0
  rcases hown.2 with ⟨rfl, hn⟩ | ⟨g, cap, cur, rfl, hbase, hb, h1, h2, h3, h4⟩
  · obtain rfl : l0 = [] := List.eq_nil_of_length_eq_zero hn
    refine (Tryd.slices_Sort_int_none _ _ _).mono ?_
    rintro e w' ⟨rfl, rfl⟩
    exact ⟨rfl, by rw [show List.mergeSort ([] : List Int) (fun x y => decide (x ≤ y)) = [] from by simp]; exact Kd.R_mono ho0 (fun _ hk => .inl hk), hB, Kept.refl _ _⟩
  · have hg : g < w.heap.size := (Array.getElem?_eq_some_iff.1 hb).1
    have hP : P0_ g := ho0.1 g (by simp [Value.ownBlock])
    have hH : Go.Sort.Holds (Value.int .i64) w g 0 l0.toArray := SortWords.holds_row hb (by rw [Nat.mul_one] at h4; exact h4)
    refine (Tryd.slices_Sort_int g 0 cap l0 w hH hg hsz).mono ?_
    rintro e w' ⟨rfl, n, os, rfl⟩
    have hgr : w.grownBy (Go.Sort.grow (Go.Sort.putRow (Value.int .i64) (Go.Sort.ahead w n) g 0 (l0.mergeSort fun x y => decide (x ≤ y)).toArray) os) (some g) := SortWords.grownBy_row _
    refine ⟨rfl, Kd.R_of_own ?_ (fun k hk => ?_), hB.grown hgr hB.size (fun j hj => by cases hj; exact hbase), Kept.of_grown hgr (Kept.refl _ _) (fun j hj => by cases hj; exact .inl hP)⟩
    · rw [List.length_mergeSort]
      exact SortWords.owns_row (by rw [List.length_mergeSort]) hbase hb h1 h2 h3
    · have : g = k := by simpa [Value.ownBlock] using hk
      subst this
      exact .inl hP


end Go.Proofs.YtolkagkfedpjmaaDoor.QT
