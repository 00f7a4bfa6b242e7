-- Laid by this work's own turn of the print (gprint.py); not the print's own text.
import Derived.Test.YtiklbldanidfiaaQLx0
import Derived.Test.YtiklbldanidfiaaQLx7
import Derived.Test.YtiklbldanidfiaaQLx15
import Derived.Test.YtiklbldanidfiaaQLx16
namespace Go.Proofs.Ytiklbldanidfiaa.QL
open Go.RowKit Go.Proofs.YtiklbldanidfiaaW.PrintWords Go.Proofs.YtiklbldanidfiaaW.PrintLast Go.Proofs.YtiklbldanidfiaaW.PrintMore
attribute [local go_sem] max2_int min2_int max_two min_two   -- for this text's walks alone
set_option linter.unusedVariables false
set_option linter.unusedSimpArgs false

/-! ### psephoslaw05_Make: function 15 -/
def psephoslaw05_Make.l0 : Nat → Int → Int → Int → Int → Int → Int → Int → Int → List Int → Int → Int → Int → Int → Int → Int → List Int → Option (Int × Int × Int × Int × Int × Int × List Int)
  | 0, _, _, _, _, _, _, _, _, _, _, _, _, _, _, _, _ => none
  | k + 1, x41, x42, x149000, x149001, x149002, x149003, x149004, x149005, x149006, x152000, x152001, x152002, x152003, x152004, x152005, x152006 => if x42 < x41 then ((psephoslaw05_has.f k x149006 x42).bind fun t154 => (if t154 = true then (if x152006.length < 17592186044416 then (psephoslaw05_Make.l0 k x41 (wrap64 (x42 + 1)) x149000 x149001 x149002 x149003 x149004 x149005 x149006 x152000 x152001 x152002 x152003 x152004 x152005 (x152006 ++ [x42])) else (none)) else (if x42 = 0 then (if (x149006.length : Int) = 0 then (if x152006.length < 17592186044416 then (psephoslaw05_Make.l0 k x41 (wrap64 (x42 + 1)) x149000 x149001 x149002 x149003 x149004 x149005 x149006 x152000 x152001 x152002 x152003 x152004 x152005 (x152006 ++ [x42])) else (none)) else (psephoslaw05_Make.l0 k x41 (wrap64 (x42 + 1)) x149000 x149001 x149002 x149003 x149004 x149005 x149006 x152000 x152001 x152002 x152003 x152004 x152005 x152006)) else (psephoslaw05_Make.l0 k x41 (wrap64 (x42 + 1)) x149000 x149001 x149002 x149003 x149004 x149005 x149006 x152000 x152001 x152002 x152003 x152004 x152005 x152006)))) else (if (x152006.length : Int) = 0 then (some (x152000, x152001, x152002, x152003, x152004, x152005, (([0] : List Int)))) else (some (x152000, x152001, x152002, x152003, x152004, x152005, x152006)))
def psephoslaw05_Make.f (k : Nat) (l0_0 : List Int) (a0_1 : Int) (a0_2 : Int) (a1_0 : Int) (a1_1 : Int) (a1_2 : Int) (a1_3 : Int) (a1_4 : Int) (a1_5 : Int) (l1_6 : List Int) : Option (Int × Int × Int × Int × Int × Int × List Int) := (psephoslaw05_rest.f a1_0 200).bind fun t150 => ((epoch_Of.f t150 a0_1).bind fun t152 => ((psephoslaw05_rest.f a1_2 (wrap64 (t152 + 1))).bind fun t153 => (psephoslaw05_Make.l0 k (l0_0.length : Int) 0 a1_0 a1_1 a1_2 a1_3 a1_4 a1_5 l1_6 t150 (Int.tmod a1_1 8) t153 (Int.tmod a1_3 8) t152 (Int.tmod a1_5 8) ([] : List Int))))
theorem psephoslaw05_Make.mono_l : ∀ k, (∀ y0 y1 y2 y3 y4 y5 y6 y7 y8 y9 y10 y11 y12 y13 y14 y15, LeO (psephoslaw05_Make.l0 k y0 y1 y2 y3 y4 y5 y6 y7 y8 y9 y10 y11 y12 y13 y14 y15) (psephoslaw05_Make.l0 (k + 1) y0 y1 y2 y3 y4 y5 y6 y7 y8 y9 y10 y11 y12 y13 y14 y15))
  | 0 => fun _ _ _ _ _ _ _ _ _ _ _ _ _ _ _ _ r h => by simp [psephoslaw05_Make.l0] at h
  | k + 1 => by
    have ih0 := psephoslaw05_Make.mono_l k
    · intro y0 y1 y2 y3 y4 y5 y6 y7 y8 y9 y10 y11 y12 y13 y14 y15
      unfold psephoslaw05_Make.l0
      repeat' first
      | (with_reducible exact ih0 _ _ _ _ _ _ _ _ _ _ _ _ _ _ _ _)
      | (with_reducible exact psephoslaw05_has.mono _ _ _)
      | (with_reducible exact LeO.refl _)
      | (with_reducible exact LeO.none _)
      | (with_reducible refine LeO.ite ?_ ?_)
      | (with_reducible refine LeO.bind ?_ (fun _ => ?_))
      | exact ih0 _ _ _ _ _ _ _ _ _ _ _ _ _ _ _ _
      | exact psephoslaw05_has.mono _ _ _
      | exact LeO.none _
      | refine LeO.ite ?_ ?_
      | refine LeO.bind ?_ (fun _ => ?_)
theorem psephoslaw05_Make.mono : ∀ a0 a1 a2 a3 a4 a5 a6 a7 a8 a9 k, LeO (psephoslaw05_Make.f k a0 a1 a2 a3 a4 a5 a6 a7 a8 a9) (psephoslaw05_Make.f (k + 1) a0 a1 a2 a3 a4 a5 a6 a7 a8 a9) := by
  intro a0 a1 a2 a3 a4 a5 a6 a7 a8 a9 k
  have ih0 := psephoslaw05_Make.mono_l k
  unfold psephoslaw05_Make.f
  repeat' first
      | (with_reducible exact ih0 _ _ _ _ _ _ _ _ _ _ _ _ _ _ _ _)
      | (with_reducible exact psephoslaw05_has.mono _ _ _)
      | (with_reducible exact LeO.refl _)
      | (with_reducible exact LeO.none _)
      | (with_reducible refine LeO.ite ?_ ?_)
      | (with_reducible refine LeO.bind ?_ (fun _ => ?_))
      | exact ih0 _ _ _ _ _ _ _ _ _ _ _ _ _ _ _ _
      | exact psephoslaw05_has.mono _ _ _
      | exact LeO.none _
      | refine LeO.ite ?_ ?_
      | refine LeO.bind ?_ (fun _ => ?_)
def psephoslaw05_Make.T1 : Bool × List (List Nat × List Nat) := (true, [([], []), ([0], [0]), ([1], [1]), ([], []), ([3], [3]), ([4], [4]), ([2, 5], [2, 5]), ([], []), ([7, 6, 2, 0, 1, 2, 3, 4, 5, 6, 7], [6, 7])])
def psephoslaw05_Make.B1 : List Nat := [0, 1, 3, 0, 8, 24, 63, 0, 255]
theorem psephoslaw05_Make.tab1 : rtab .any (opsOf Try.f15 1) = psephoslaw05_Make.T1 := by kernel_rfl
theorem psephoslaw05_Make.bits1 : waitsOk psephoslaw05_Make.T1.2 psephoslaw05_Make.B1 = true := by kernel_rfl
def psephoslaw05_Make.T2 : Bool × List (List Nat × List Nat) := (true, [([], []), ([0], [0]), ([], []), ([2], [2]), ([1, 3], [1, 3]), ([], []), ([5], [5]), ([6], [6]), ([7], [7]), ([4, 8], [4, 8]), ([0, 1, 2, 3, 4, 5, 6, 7, 8, 9], []), ([10, 9, 4, 0, 1, 2, 3, 4, 5, 6, 7, 8, 9], [9, 10])])
def psephoslaw05_Make.B2 : List Nat := [0, 1, 0, 4, 15, 0, 32, 96, 224, 511, 1023, 2047]
theorem psephoslaw05_Make.tab2 : rtab .any (opsOf Try.f15 2) = psephoslaw05_Make.T2 := by kernel_rfl
theorem psephoslaw05_Make.bits2 : waitsOk psephoslaw05_Make.T2.2 psephoslaw05_Make.B2 = true := by kernel_rfl
def psephoslaw05_Make.T3 : Bool × List (List Nat × List Nat) := (true, [([], []), ([0], [0]), ([1], [1]), ([], []), ([3], [3]), ([4], [4]), ([5], [5]), ([2, 6], [2, 6]), ([], []), ([8], [8]), ([9], [9]), ([10], [10]), ([7, 11], [7, 11]), ([0, 1, 2, 3, 4, 5, 6, 7, 8, 9, 10, 11, 12], []), ([13, 12, 7, 0, 1, 2, 3, 4, 5, 6, 7, 8, 9, 10, 11, 12], [12, 13])])
def psephoslaw05_Make.B3 : List Nat := [0, 1, 3, 0, 8, 24, 56, 127, 0, 256, 768, 1792, 4095, 8191, 16383]
theorem psephoslaw05_Make.tab3 : rtab .any (opsOf Try.f15 3) = psephoslaw05_Make.T3 := by kernel_rfl
theorem psephoslaw05_Make.bits3 : waitsOk psephoslaw05_Make.T3.2 psephoslaw05_Make.B3 = true := by kernel_rfl
set_option maxHeartbeats 8000000 in
set_option maxRecDepth 100000 in
theorem psephoslaw05_Make.calls (k : Nat) (A0_0 : Option Addr) (c0_0 : Nat) (l0_0 : List Int) (a0_1 : Int) (a0_2 : Int) (a1_0 : Int) (a1_1 : Int) (a1_2 : Int) (a1_3 : Int) (a1_4 : Int) (a1_5 : Int) (A1_6 : Option Addr) (c1_6 : Nat) (l1_6 : List Int) (r1 : Int) (r2 : Int) (r3 : Int) (r4 : Int) (r5 : Int) (r6 : Int) (r7 : List Int) (w : World) (hr0_0 : Kd.C (Kd.int .u64) w A0_0 l0_0.length l0_0) (hc0_0 : l0_0.length ≤ c0_0) (hr1_6 : Kd.C (Kd.int .i64) w A1_6 l1_6.length l1_6) (hc1_6 : l1_6.length ≤ c1_6) (h : psephoslaw05_Make.f k l0_0 a0_1 a0_2 a1_0 a1_1 a1_2 a1_3 a1_4 a1_5 l1_6 = some (r1, r2, r3, r4, r5, r6, r7)) :
    Calls Try.prog 15 #[.agg #[.slice A0_0 l0_0.length c0_0, .int .i64 a0_1, .int .i64 a0_2], .agg #[.int .i64 a1_0, .int .u64 a1_1, .int .i64 a1_2, .int .u64 a1_3, .int .i64 a1_4, .int .u64 a1_5, .slice A1_6 l1_6.length c1_6]] w fun e w' => ∃ v6_ : Value, e = .returned (.agg #[.int .i64 r1, .int .u64 r2, .int .i64 r3, .int .u64 r4, .int .i64 r5, .int .u64 r6, v6_]) ∧ Kd.R (Kd.int .i64) 3 w' w.heap.size (fun _ => True) v6_ r7 ∧ Below w.heap.size w w' := by
  have hu24 := Try.underlying24
  have hu43 := Try.underlying43
  have hu34 := Try.underlying34
  have HR0_0 := Aside0.mk hr0_0
  have HC0_0 := Aside0.mk hc0_0
  clear hr0_0 hc0_0
  have HR1_6 := Aside0.mk hr1_6
  have HC1_6 := Aside0.mk hc1_6
  clear hr1_6 hc1_6
  have HB := Aside0.mk (Below.refl w.heap.size w)
  have H : ((psephoslaw05_rest.f a1_0 200).bind fun t150 => ((epoch_Of.f t150 a0_1).bind fun t152 => ((psephoslaw05_rest.f a1_2 (wrap64 (t152 + 1))).bind fun t153 => (psephoslaw05_Make.l0 k (l0_0.length : Int) 0 a1_0 a1_1 a1_2 a1_3 a1_4 a1_5 l1_6 t150 (Int.tmod a1_1 8) t153 (Int.tmod a1_3 8) t152 (Int.tmod a1_5 8) ([] : List Int))))) = some (r1, r2, r3, r4, r5, r6, r7) := h
  clear h
  replace H := Option.bind_eq_some_iff.mp H
  obtain ⟨t150, A30, H⟩ := H
  replace H : ((epoch_Of.f t150 a0_1).bind fun t152 => ((psephoslaw05_rest.f a1_2 (wrap64 (t152 + 1))).bind fun t153 => (psephoslaw05_Make.l0 k (l0_0.length : Int) 0 a1_0 a1_1 a1_2 a1_3 a1_4 a1_5 l1_6 t150 (Int.tmod a1_1 8) t153 (Int.tmod a1_3 8) t152 (Int.tmod a1_5 8) ([] : List Int)))) = some (r1, r2, r3, r4, r5, r6, r7) := H
  have A3 := Aside0.mk A30
  clear A30
  replace H := Option.bind_eq_some_iff.mp H
  obtain ⟨t152, A40, H⟩ := H
  replace H : ((psephoslaw05_rest.f a1_2 (wrap64 (t152 + 1))).bind fun t153 => (psephoslaw05_Make.l0 k (l0_0.length : Int) 0 a1_0 a1_1 a1_2 a1_3 a1_4 a1_5 l1_6 t150 (Int.tmod a1_1 8) t153 (Int.tmod a1_3 8) t152 (Int.tmod a1_5 8) ([] : List Int))) = some (r1, r2, r3, r4, r5, r6, r7) := H
  have A4 := Aside0.mk A40
  clear A40
  replace H := Option.bind_eq_some_iff.mp H
  obtain ⟨t153, A50, H⟩ := H
  replace H : (psephoslaw05_Make.l0 k (l0_0.length : Int) 0 a1_0 a1_1 a1_2 a1_3 a1_4 a1_5 l1_6 t150 (Int.tmod a1_1 8) t153 (Int.tmod a1_3 8) t152 (Int.tmod a1_5 8) ([] : List Int)) = some (r1, r2, r3, r4, r5, r6, r7) := H
  have A5 := Aside0.mk A50
  clear A50
  have H' := Aside0.mk H
  clear H
  go_enter Try.func15, Try.ntmps15
  try go_wp2_with (first | ((with_reducible refine gate_dst (N := 2) rfl ?_); (try (refine gate_guard (by rfl) ?_; dsimp only)); refine box_event ?hg (N := 2) ?hd (cs := #[.slice A0_0 l0_0.length c0_0, .int .i64 a0_1, .int .i64 a0_2]) (t := 24) ?hr ?_; (case hd => rfl); (case hg => rfl); (case hr => first | (go_simp; done) | (go_simp; rfl)); intro gb147 hg w6 hbox hb; have n0_ := Aside0.mk (below_step (by repeat (first | (with_reducible first | exact HB.out | apply below_alloc | apply pw_below_drewN | apply below_drew1) | exact HB.out)) hb); have n1_ := Aside0.mk (hbox); have n2_ := Aside0.mk ((by rw [hg]; exact (below_size (by repeat (first | (with_reducible first | exact HB.out | apply below_alloc | apply pw_below_drewN | apply below_drew1) | exact HB.out))) : w.heap.size ≤ gb147)); have n3_ := Aside0.mk ((by rw [hg]; exact (below_size (by repeat (first | (with_reducible first | exact HB.out | apply below_alloc | apply pw_below_drewN | apply below_drew1) | exact HB.out))) : w.heap.size ≤ gb147)); clear HB; have HB := n0_; have BK147 := n1_; have GW147 := n2_; have GE147 := n3_; clear n0_ n1_ n2_ n3_; clear hb hbox hg) | ((with_reducible refine gate_dst (N := 3) rfl ?_); (try (refine gate_guard (by rfl) ?_; dsimp only)); refine box_event ?hg (N := 3) ?hd (cs := #[.int .i64 a1_0, .int .u64 a1_1, .int .i64 a1_2, .int .u64 a1_3, .int .i64 a1_4, .int .u64 a1_5, .slice A1_6 l1_6.length c1_6]) (t := 43) ?hr ?_; (case hd => rfl); (case hg => rfl); (case hr => first | (go_simp; done) | (go_simp; rfl)); intro gb148 hg w7 hbox hb; have n0_ := Aside0.mk (blk_below (g := gb147) (o := .cells #[.slice A0_0 l0_0.length c0_0, .int .i64 a0_1, .int .i64 a0_2] 24 (0, 0)) (by (with_reducible repeat (first | refine blk_drewN ?_ _ | refine blk_drew ?_ | refine blk_alloc ?_ _)); exact BK147.out) hb); have n1_ := Aside0.mk (below_step (by repeat (first | (with_reducible first | exact HB.out | apply below_alloc | apply pw_below_drewN | apply below_drew1 | refine below_set ?_ GE147.out) | exact HB.out)) hb); have n2_ := Aside0.mk (hbox); have n3_ := Aside0.mk ((by rw [hg]; exact (below_size (by repeat (first | (with_reducible first | exact HB.out | apply below_alloc | apply pw_below_drewN | apply below_drew1 | refine below_set ?_ GE147.out) | exact HB.out))) : w.heap.size ≤ gb148)); have n4_ := Aside0.mk ((by rw [hg]; exact (below_size (by repeat (first | (with_reducible first | exact HB.out | apply below_alloc | apply pw_below_drewN | apply below_drew1 | refine below_set ?_ GE147.out) | exact HB.out))) : w.heap.size ≤ gb148)); have n5_ := Aside0.mk ((by rw [hg]; exact Nat.ne_of_lt (blk_lt (g := gb147) (o := .cells #[.slice A0_0 l0_0.length c0_0, .int .i64 a0_1, .int .i64 a0_2] 24 (0, 0)) (by (with_reducible repeat (first | refine blk_drewN ?_ _ | refine blk_drew ?_ | refine blk_alloc ?_ _)); exact BK147.out)) : gb147 ≠ gb148)); have n6_ := Aside0.mk ((by rw [hg]; exact Nat.ne_of_gt (blk_lt (g := gb147) (o := .cells #[.slice A0_0 l0_0.length c0_0, .int .i64 a0_1, .int .i64 a0_2] 24 (0, 0)) (by (with_reducible repeat (first | refine blk_drewN ?_ _ | refine blk_drew ?_ | refine blk_alloc ?_ _)); exact BK147.out)) : gb148 ≠ gb147)); clear BK147; clear HB; have BK147 := n0_; have HB := n1_; have BK148 := n2_; have GW148 := n3_; have GE148 := n4_; have NB147_148 := n5_; have NB148_147 := n6_; clear n0_ n1_ n2_ n3_ n4_ n5_ n6_; clear hb hbox hg) | ((with_reducible refine gate_dst (N := 4) rfl ?_); (try (refine gate_guard (by rfl) ?_; dsimp only)); refine box_event ?hg (N := 4) ?hd (cs := #[.int .i64 0, .int .u64 0, .int .i64 0, .int .u64 0, .int .i64 0, .int .u64 0, .slice none 0 0]) (t := 43) ?hr ?_; (case hd => rfl); (case hg => rfl); (case hr => first | (go_simp; done) | (go_simp; rfl)); intro gb149 hg w8 hbox hb; have n0_ := Aside0.mk (blk_below (g := gb147) (o := .cells #[.slice A0_0 l0_0.length c0_0, .int .i64 a0_1, .int .i64 a0_2] 24 (0, 0)) (by (with_reducible repeat (first | refine blk_drewN ?_ _ | refine blk_drew ?_ | refine blk_alloc ?_ _)); exact BK147.out) hb); have n1_ := Aside0.mk (blk_below (g := gb148) (o := .cells #[.int .i64 a1_0, .int .u64 a1_1, .int .i64 a1_2, .int .u64 a1_3, .int .i64 a1_4, .int .u64 a1_5, .slice A1_6 l1_6.length c1_6] 43 (0, 0)) (by (with_reducible repeat (first | refine blk_drewN ?_ _ | refine blk_drew ?_ | refine blk_alloc ?_ _)); exact BK148.out) hb); have n2_ := Aside0.mk (below_step (by repeat (first | (with_reducible first | exact HB.out | apply below_alloc | apply pw_below_drewN | apply below_drew1 | refine below_set ?_ GE147.out | refine below_set ?_ GE148.out) | exact HB.out)) hb); have n3_ := Aside0.mk (hbox); have n4_ := Aside0.mk ((by rw [hg]; exact (below_size (by repeat (first | (with_reducible first | exact HB.out | apply below_alloc | apply pw_below_drewN | apply below_drew1 | refine below_set ?_ GE147.out | refine below_set ?_ GE148.out) | exact HB.out))) : w.heap.size ≤ gb149)); have n5_ := Aside0.mk ((by rw [hg]; exact (below_size (by repeat (first | (with_reducible first | exact HB.out | apply below_alloc | apply pw_below_drewN | apply below_drew1 | refine below_set ?_ GE147.out | refine below_set ?_ GE148.out) | exact HB.out))) : w.heap.size ≤ gb149)); have n6_ := Aside0.mk ((by rw [hg]; exact Nat.ne_of_lt (blk_lt (g := gb147) (o := .cells #[.slice A0_0 l0_0.length c0_0, .int .i64 a0_1, .int .i64 a0_2] 24 (0, 0)) (by (with_reducible repeat (first | refine blk_drewN ?_ _ | refine blk_drew ?_ | refine blk_alloc ?_ _)); exact BK147.out)) : gb147 ≠ gb149)); have n7_ := Aside0.mk ((by rw [hg]; exact Nat.ne_of_gt (blk_lt (g := gb147) (o := .cells #[.slice A0_0 l0_0.length c0_0, .int .i64 a0_1, .int .i64 a0_2] 24 (0, 0)) (by (with_reducible repeat (first | refine blk_drewN ?_ _ | refine blk_drew ?_ | refine blk_alloc ?_ _)); exact BK147.out)) : gb149 ≠ gb147)); have n8_ := Aside0.mk ((by rw [hg]; exact Nat.ne_of_lt (blk_lt (g := gb148) (o := .cells #[.int .i64 a1_0, .int .u64 a1_1, .int .i64 a1_2, .int .u64 a1_3, .int .i64 a1_4, .int .u64 a1_5, .slice A1_6 l1_6.length c1_6] 43 (0, 0)) (by (with_reducible repeat (first | refine blk_drewN ?_ _ | refine blk_drew ?_ | refine blk_alloc ?_ _)); exact BK148.out)) : gb148 ≠ gb149)); have n9_ := Aside0.mk ((by rw [hg]; exact Nat.ne_of_gt (blk_lt (g := gb148) (o := .cells #[.int .i64 a1_0, .int .u64 a1_1, .int .i64 a1_2, .int .u64 a1_3, .int .i64 a1_4, .int .u64 a1_5, .slice A1_6 l1_6.length c1_6] 43 (0, 0)) (by (with_reducible repeat (first | refine blk_drewN ?_ _ | refine blk_drew ?_ | refine blk_alloc ?_ _)); exact BK148.out)) : gb149 ≠ gb148)); clear BK147; clear BK148; clear HB; have BK147 := n0_; have BK148 := n1_; have HB := n2_; have BK149 := n3_; have GW149 := n4_; have GE149 := n5_; have NB147_149 := n6_; have NB149_147 := n7_; have NB148_149 := n8_; have NB149_148 := n9_; clear n0_ n1_ n2_ n3_ n4_ n5_ n6_ n7_ n8_ n9_; clear hb hbox hg))
  have n0_ := Aside0.mk (blk_drew BK147.out)
  have n1_ := Aside0.mk (blk_drew BK148.out)
  have n2_ := Aside0.mk (blk_drew BK149.out)
  have n3_ := Aside0.mk (below_drew1 HB.out)
  clear BK147
  clear BK148
  clear BK149
  clear HB
  have BK147 := n0_
  have BK148 := n1_
  have BK149 := n2_
  have HB := n3_
  clear n0_ n1_ n2_ n3_
  refine start_ (n := 9) (S := fun w' => w'.cell? ⟨gb148, 0, none⟩ = some (.int .i64 a1_0) ∧ w'.cell? ⟨gb148, 1, none⟩ = some (.int .u64 a1_1) ∧ w'.cell? ⟨gb148, 2, none⟩ = some (.int .i64 a1_2) ∧ w'.cell? ⟨gb148, 3, none⟩ = some (.int .u64 a1_3) ∧ w'.cell? ⟨gb148, 4, none⟩ = some (.int .i64 a1_4) ∧ w'.cell? ⟨gb148, 5, none⟩ = some (.int .u64 a1_5) ∧ w'.cell? ⟨gb148, 6, none⟩ = some (.slice A1_6 l1_6.length c1_6)) (ds := []) #[false, false, false, false, false, false, false, false, false] (by kernel_rfl) rfl rfl ⟨(blk_cell BK148.out 0).trans rfl, (blk_cell BK148.out 1).trans rfl, (blk_cell BK148.out 2).trans rfl, (blk_cell BK148.out 3).trans rfl, (blk_cell BK148.out 4).trans rfl, (blk_cell BK148.out 5).trans rfl, (blk_cell BK148.out 6).trans rfl⟩ (fun hHeld => ?_); refine with_tabW psephoslaw05_Make.tab1 psephoslaw05_Make.bits1 (fun HT_ HW_ => ?_)
  generalize w8.drew = w9 at BK147 BK148 BK149 HB hHeld ⊢
  refine pure_ (i := 0) (N := some 7) (v := ?_) (a' := ?_) #[true, false, false, false, false, false, false, false, false] rfl rfl (any_of HT_.out (by kernel_rfl)) (fun _ _ _ h => h) (Or.inl ⟨by rfl, ?_⟩) ?_ ?_
  rotate_left
  · intro w'
    go_simp
    with_reducible rfl
  rotate_left
  · simp only [Act.put, List.setIfInBounds_toArray, List.set_cons_zero, List.set_cons_succ, i64_w, i32_w]
    rfl
  refine pure_ (i := 3) (N := some 10) (v := ?_) (a' := ?_) #[true, false, false, true, false, false, false, false, false] rfl rfl (any_of HT_.out (by kernel_rfl)) (fun _ _ _ h => h) (Or.inl ⟨by rfl, ?_⟩) ?_ ?_
  rotate_left
  · intro w'
    go_simp
    with_reducible rfl
  rotate_left
  · simp only [Act.put, List.setIfInBounds_toArray, List.set_cons_zero, List.set_cons_succ, i64_w, i32_w]
    rfl
  refine take_ (i := 1) (N := some 8) (v := ?_) (a' := ?_) #[true, true, false, true, false, false, false, false, false] rfl rfl (take_ofW HT_.out HW_.out (by kernel_rfl)) (fun _ _ _ h => h) (Or.inl ⟨by rfl, ?_⟩) hHeld ?_ ?_
  rotate_left
  · rintro w' ⟨s0, s1, s2, s3, s4, s5, s6⟩
    go_simp
    with_reducible rfl
  rotate_left
  · simp only [Act.put, List.setIfInBounds_toArray, List.set_cons_zero, List.set_cons_succ, i64_w, i32_w]
    rfl
  refine take_ (i := 4) (N := some 11) (v := ?_) (a' := ?_) #[true, true, false, true, true, false, false, false, false] rfl rfl (take_ofW HT_.out HW_.out (by kernel_rfl)) (fun _ _ _ h => h) (Or.inl ⟨by rfl, ?_⟩) hHeld ?_ ?_
  rotate_left
  · rintro w' ⟨s0, s1, s2, s3, s4, s5, s6⟩
    go_simp
    with_reducible rfl
  rotate_left
  · simp only [Act.put, List.setIfInBounds_toArray, List.set_cons_zero, List.set_cons_succ, i64_w, i32_w]
    rfl
  refine pure_ (i := 5) (N := some 12) (v := ?_) (a' := ?_) #[true, true, false, true, true, true, false, false, false] rfl rfl (any_of HT_.out (by kernel_rfl)) (fun _ _ _ h => h) (Or.inl ⟨by rfl, ?_⟩) ?_ ?_
  rotate_left
  · intro w'
    go_simp
    with_reducible rfl
  rotate_left
  · simp only [Act.put, List.setIfInBounds_toArray, List.set_cons_zero, List.set_cons_succ, i64_w, i32_w]
    rfl
  refine join_ (σ := Nat) 1 #[true, true, true, true, true, true, true, true, false] (fun s_ => [(9, .int .i64 t150), (5, .pointer (some ⟨s_, 0, none⟩)), (13, .agg #[.int .i64 t150, .int .u64 (Int.tmod a1_1 8), .int .i64 0, .int .u64 0, .int .i64 0, .int .u64 0, .slice none 0 0])]) (fun s_ w' => (w'.cell? ⟨gb148, 0, none⟩ = some (.int .i64 a1_0) ∧ w'.cell? ⟨gb148, 1, none⟩ = some (.int .u64 a1_1) ∧ w'.cell? ⟨gb148, 2, none⟩ = some (.int .i64 a1_2) ∧ w'.cell? ⟨gb148, 3, none⟩ = some (.int .u64 a1_3) ∧ w'.cell? ⟨gb148, 4, none⟩ = some (.int .i64 a1_4) ∧ w'.cell? ⟨gb148, 5, none⟩ = some (.int .u64 a1_5) ∧ w'.cell? ⟨gb148, 6, none⟩ = some (.slice A1_6 l1_6.length c1_6)) ∧ (w'.heap[gb147]? = some (.cells #[.slice A0_0 l0_0.length c0_0, .int .i64 a0_1, .int .i64 a0_2] 24 (0, 0))) ∧ (w'.heap[gb148]? = some (.cells #[.int .i64 a1_0, .int .u64 a1_1, .int .i64 a1_2, .int .u64 a1_3, .int .i64 a1_4, .int .u64 a1_5, .slice A1_6 l1_6.length c1_6] 43 (0, 0))) ∧ (w'.heap[gb149]? = some (.cells #[.int .i64 0, .int .u64 0, .int .i64 0, .int .u64 0, .int .i64 0, .int .u64 0, .slice none 0 0] 43 (0, 0))) ∧ (w'.heap[s_]? = some (.cells #[.int .i64 0, .int .u64 0, .int .i64 0, .int .u64 0, .int .i64 0, .int .u64 0, .slice none 0 0] 43 (0, 0))) ∧ (w.heap.size ≤ s_) ∧ (w.heap.size ≤ s_) ∧ (gb147 ≠ s_) ∧ (s_ ≠ gb147) ∧ (gb148 ≠ s_) ∧ (s_ ≠ gb148) ∧ (gb149 ≠ s_) ∧ (s_ ≠ gb149) ∧ (Below w.heap.size w w')) ?_ ?_
  rotate_left
  · intro hCont
    refine two_ (i := 2) (j := 7) (Ni := some 9) (Nj := some 5) #[true, true, true, true, true, true, false, false, false] #[true, true, false, true, true, true, false, true, false] rfl rfl rfl rfl (two_of HT_.out (by kernel_rfl)) (by decide) (by decide) (fun K hK => ?_) (fun K hK => ?_)
    · skip
      refine goes_ Try.func32 (by kernel_rfl) rfl #[.int .i64 a1_0, .int .i64 200] (by rfl) rfl rfl (by (try simp only [List.map_toArray, List.map_cons, List.map_nil]); first | done | rfl | (simp only [List.length_drop, List.length_take]; rfl)) ?_
      with_reducible refine (psephoslaw05_rest.calls a1_0 200 t150 _ A3.out).mono ?_
      rintro e w' ⟨rfl, ⟨nd, rfl⟩⟩
      refine ⟨_, rfl, ?_⟩
      refine hK.out _ _ ⟨(blk_cell BK148.out 0).trans rfl, (blk_cell BK148.out 1).trans rfl, (blk_cell BK148.out 2).trans rfl, (blk_cell BK148.out 3).trans rfl, (blk_cell BK148.out 4).trans rfl, (blk_cell BK148.out 5).trans rfl, (blk_cell BK148.out 6).trans rfl⟩ (fun hHeld => ?_)
      clear hK K
      refine norm_ (a' := ?_) ?_ ?_
      rotate_left
      · show Act.put _ (some 9) _ = _
        simp only [Act.put, List.setIfInBounds_toArray, List.set_cons_zero, List.set_cons_succ, i64_w, i32_w]
        rfl
      refine pure_ (i := 6) (N := some 13) (v := ?_) (a' := ?_) #[true, true, true, true, true, true, true, false, false] rfl rfl (any_of HT_.out (by kernel_rfl)) (fun _ _ _ h => h) (Or.inl ⟨by rfl, ?_⟩) ?_ ?_
      rotate_left
      · intro w'
        go_simp
        with_reducible rfl
      rotate_left
      · simp only [Act.put, List.setIfInBounds_toArray, List.set_cons_zero, List.set_cons_succ, i64_w, i32_w]
        rfl
      refine one_ (i := 7) (N := some 5) #[true, true, true, true, true, true, true, true, false] rfl rfl (one_of HT_.out (by kernel_rfl)) (by decide) (fun K hK => ?_)
      refine box_step ?hg (N := 5) ?hd (cs := #[.int .i64 0, .int .u64 0, .int .i64 0, .int .u64 0, .int .i64 0, .int .u64 0, .slice none 0 0]) (t := 43) ?hr ?_; (case hd => rfl); (case hg => rfl); (case hr => first | (go_simp; done) | (go_simp; rfl))
      intro gb151 hg w10 hbox hb
      have n0_ := Aside0.mk (blk_below (g := gb147) (o := .cells #[.slice A0_0 l0_0.length c0_0, .int .i64 a0_1, .int .i64 a0_2] 24 (0, 0)) (by (with_reducible repeat (first | refine blk_drewN ?_ _ | refine blk_drew ?_ | refine blk_alloc ?_ _)); exact BK147.out) hb)
      have n1_ := Aside0.mk (blk_below (g := gb148) (o := .cells #[.int .i64 a1_0, .int .u64 a1_1, .int .i64 a1_2, .int .u64 a1_3, .int .i64 a1_4, .int .u64 a1_5, .slice A1_6 l1_6.length c1_6] 43 (0, 0)) (by (with_reducible repeat (first | refine blk_drewN ?_ _ | refine blk_drew ?_ | refine blk_alloc ?_ _)); exact BK148.out) hb)
      have n2_ := Aside0.mk (blk_below (g := gb149) (o := .cells #[.int .i64 0, .int .u64 0, .int .i64 0, .int .u64 0, .int .i64 0, .int .u64 0, .slice none 0 0] 43 (0, 0)) (by (with_reducible repeat (first | refine blk_drewN ?_ _ | refine blk_drew ?_ | refine blk_alloc ?_ _)); exact BK149.out) hb)
      have n3_ := Aside0.mk (below_step (by repeat (first | (with_reducible first | exact HB.out | apply below_alloc | apply pw_below_drewN | apply below_drew1 | refine below_set ?_ GE147.out | refine below_set ?_ GE148.out | refine below_set ?_ GE149.out) | exact HB.out)) hb)
      have n4_ := Aside0.mk (hbox)
      have n5_ := Aside0.mk ((by rw [hg]; exact (below_size (by repeat (first | (with_reducible first | exact HB.out | apply below_alloc | apply pw_below_drewN | apply below_drew1 | refine below_set ?_ GE147.out | refine below_set ?_ GE148.out | refine below_set ?_ GE149.out) | exact HB.out))) : w.heap.size ≤ gb151))
      have n6_ := Aside0.mk ((by rw [hg]; exact (below_size (by repeat (first | (with_reducible first | exact HB.out | apply below_alloc | apply pw_below_drewN | apply below_drew1 | refine below_set ?_ GE147.out | refine below_set ?_ GE148.out | refine below_set ?_ GE149.out) | exact HB.out))) : w.heap.size ≤ gb151))
      have n7_ := Aside0.mk ((by rw [hg]; exact Nat.ne_of_lt (blk_lt (g := gb147) (o := .cells #[.slice A0_0 l0_0.length c0_0, .int .i64 a0_1, .int .i64 a0_2] 24 (0, 0)) (by (with_reducible repeat (first | refine blk_drewN ?_ _ | refine blk_drew ?_ | refine blk_alloc ?_ _)); exact BK147.out)) : gb147 ≠ gb151))
      have n8_ := Aside0.mk ((by rw [hg]; exact Nat.ne_of_gt (blk_lt (g := gb147) (o := .cells #[.slice A0_0 l0_0.length c0_0, .int .i64 a0_1, .int .i64 a0_2] 24 (0, 0)) (by (with_reducible repeat (first | refine blk_drewN ?_ _ | refine blk_drew ?_ | refine blk_alloc ?_ _)); exact BK147.out)) : gb151 ≠ gb147))
      have n9_ := Aside0.mk ((by rw [hg]; exact Nat.ne_of_lt (blk_lt (g := gb148) (o := .cells #[.int .i64 a1_0, .int .u64 a1_1, .int .i64 a1_2, .int .u64 a1_3, .int .i64 a1_4, .int .u64 a1_5, .slice A1_6 l1_6.length c1_6] 43 (0, 0)) (by (with_reducible repeat (first | refine blk_drewN ?_ _ | refine blk_drew ?_ | refine blk_alloc ?_ _)); exact BK148.out)) : gb148 ≠ gb151))
      have n10_ := Aside0.mk ((by rw [hg]; exact Nat.ne_of_gt (blk_lt (g := gb148) (o := .cells #[.int .i64 a1_0, .int .u64 a1_1, .int .i64 a1_2, .int .u64 a1_3, .int .i64 a1_4, .int .u64 a1_5, .slice A1_6 l1_6.length c1_6] 43 (0, 0)) (by (with_reducible repeat (first | refine blk_drewN ?_ _ | refine blk_drew ?_ | refine blk_alloc ?_ _)); exact BK148.out)) : gb151 ≠ gb148))
      have n11_ := Aside0.mk ((by rw [hg]; exact Nat.ne_of_lt (blk_lt (g := gb149) (o := .cells #[.int .i64 0, .int .u64 0, .int .i64 0, .int .u64 0, .int .i64 0, .int .u64 0, .slice none 0 0] 43 (0, 0)) (by (with_reducible repeat (first | refine blk_drewN ?_ _ | refine blk_drew ?_ | refine blk_alloc ?_ _)); exact BK149.out)) : gb149 ≠ gb151))
      have n12_ := Aside0.mk ((by rw [hg]; exact Nat.ne_of_gt (blk_lt (g := gb149) (o := .cells #[.int .i64 0, .int .u64 0, .int .i64 0, .int .u64 0, .int .i64 0, .int .u64 0, .slice none 0 0] 43 (0, 0)) (by (with_reducible repeat (first | refine blk_drewN ?_ _ | refine blk_drew ?_ | refine blk_alloc ?_ _)); exact BK149.out)) : gb151 ≠ gb149))
      clear BK147
      clear BK148
      clear BK149
      clear HB
      have BK147 := n0_
      have BK148 := n1_
      have BK149 := n2_
      have HB := n3_
      have BK151 := n4_
      have GW151 := n5_
      have GE151 := n6_
      have NB147_151 := n7_
      have NB151_147 := n8_
      have NB148_151 := n9_
      have NB151_148 := n10_
      have NB149_151 := n11_
      have NB151_149 := n12_
      clear n0_ n1_ n2_ n3_ n4_ n5_ n6_ n7_ n8_ n9_ n10_ n11_ n12_
      clear hb hbox hg
      refine hK.out _ _ ⟨(blk_cell BK148.out 0).trans rfl, (blk_cell BK148.out 1).trans rfl, (blk_cell BK148.out 2).trans rfl, (blk_cell BK148.out 3).trans rfl, (blk_cell BK148.out 4).trans rfl, (blk_cell BK148.out 5).trans rfl, (blk_cell BK148.out 6).trans rfl⟩ (fun hHeld => ?_)
      clear hK K
      refine norm_ (a' := ?_) ?_ ?_
      rotate_left
      · show Act.put _ (some 5) _ = _
        simp only [Act.put, List.setIfInBounds_toArray, List.set_cons_zero, List.set_cons_succ, i64_w, i32_w]
        rfl
      exact norm_ (by simp only [putAll, Act.put, List.setIfInBounds_toArray, List.set_cons_zero, List.set_cons_succ]) (hCont (gb151) _ ⟨hHeld, (by (with_reducible repeat (first | refine blk_drewN ?_ _ | refine blk_drew ?_ | refine blk_alloc ?_ _)); exact BK147.out), (by (with_reducible repeat (first | refine blk_drewN ?_ _ | refine blk_drew ?_ | refine blk_alloc ?_ _)); exact BK148.out), (by (with_reducible repeat (first | refine blk_drewN ?_ _ | refine blk_drew ?_ | refine blk_alloc ?_ _)); exact BK149.out), (by (with_reducible repeat (first | refine blk_drewN ?_ _ | refine blk_drew ?_ | refine blk_alloc ?_ _)); exact BK151.out), GW151.out, GE151.out, NB147_151.out, NB151_147.out, NB148_151.out, NB151_148.out, NB149_151.out, NB151_149.out, (by repeat (first | (with_reducible first | exact HB.out | apply below_alloc | apply pw_below_drewN | apply below_drew1 | refine below_set ?_ GE147.out | refine below_set ?_ GE148.out | refine below_set ?_ GE149.out | refine below_set ?_ GE151.out) | exact HB.out))⟩)
    · skip
      refine box_step ?hg (N := 5) ?hd (cs := #[.int .i64 0, .int .u64 0, .int .i64 0, .int .u64 0, .int .i64 0, .int .u64 0, .slice none 0 0]) (t := 43) ?hr ?_; (case hd => rfl); (case hg => rfl); (case hr => first | (go_simp; done) | (go_simp; rfl))
      intro gb151 hg w10 hbox hb
      have n0_ := Aside0.mk (blk_below (g := gb147) (o := .cells #[.slice A0_0 l0_0.length c0_0, .int .i64 a0_1, .int .i64 a0_2] 24 (0, 0)) (by (with_reducible repeat (first | refine blk_drewN ?_ _ | refine blk_drew ?_ | refine blk_alloc ?_ _)); exact BK147.out) hb)
      have n1_ := Aside0.mk (blk_below (g := gb148) (o := .cells #[.int .i64 a1_0, .int .u64 a1_1, .int .i64 a1_2, .int .u64 a1_3, .int .i64 a1_4, .int .u64 a1_5, .slice A1_6 l1_6.length c1_6] 43 (0, 0)) (by (with_reducible repeat (first | refine blk_drewN ?_ _ | refine blk_drew ?_ | refine blk_alloc ?_ _)); exact BK148.out) hb)
      have n2_ := Aside0.mk (blk_below (g := gb149) (o := .cells #[.int .i64 0, .int .u64 0, .int .i64 0, .int .u64 0, .int .i64 0, .int .u64 0, .slice none 0 0] 43 (0, 0)) (by (with_reducible repeat (first | refine blk_drewN ?_ _ | refine blk_drew ?_ | refine blk_alloc ?_ _)); exact BK149.out) hb)
      have n3_ := Aside0.mk (below_step (by repeat (first | (with_reducible first | exact HB.out | apply below_alloc | apply pw_below_drewN | apply below_drew1 | refine below_set ?_ GE147.out | refine below_set ?_ GE148.out | refine below_set ?_ GE149.out) | exact HB.out)) hb)
      have n4_ := Aside0.mk (hbox)
      have n5_ := Aside0.mk ((by rw [hg]; exact (below_size (by repeat (first | (with_reducible first | exact HB.out | apply below_alloc | apply pw_below_drewN | apply below_drew1 | refine below_set ?_ GE147.out | refine below_set ?_ GE148.out | refine below_set ?_ GE149.out) | exact HB.out))) : w.heap.size ≤ gb151))
      have n6_ := Aside0.mk ((by rw [hg]; exact (below_size (by repeat (first | (with_reducible first | exact HB.out | apply below_alloc | apply pw_below_drewN | apply below_drew1 | refine below_set ?_ GE147.out | refine below_set ?_ GE148.out | refine below_set ?_ GE149.out) | exact HB.out))) : w.heap.size ≤ gb151))
      have n7_ := Aside0.mk ((by rw [hg]; exact Nat.ne_of_lt (blk_lt (g := gb147) (o := .cells #[.slice A0_0 l0_0.length c0_0, .int .i64 a0_1, .int .i64 a0_2] 24 (0, 0)) (by (with_reducible repeat (first | refine blk_drewN ?_ _ | refine blk_drew ?_ | refine blk_alloc ?_ _)); exact BK147.out)) : gb147 ≠ gb151))
      have n8_ := Aside0.mk ((by rw [hg]; exact Nat.ne_of_gt (blk_lt (g := gb147) (o := .cells #[.slice A0_0 l0_0.length c0_0, .int .i64 a0_1, .int .i64 a0_2] 24 (0, 0)) (by (with_reducible repeat (first | refine blk_drewN ?_ _ | refine blk_drew ?_ | refine blk_alloc ?_ _)); exact BK147.out)) : gb151 ≠ gb147))
      have n9_ := Aside0.mk ((by rw [hg]; exact Nat.ne_of_lt (blk_lt (g := gb148) (o := .cells #[.int .i64 a1_0, .int .u64 a1_1, .int .i64 a1_2, .int .u64 a1_3, .int .i64 a1_4, .int .u64 a1_5, .slice A1_6 l1_6.length c1_6] 43 (0, 0)) (by (with_reducible repeat (first | refine blk_drewN ?_ _ | refine blk_drew ?_ | refine blk_alloc ?_ _)); exact BK148.out)) : gb148 ≠ gb151))
      have n10_ := Aside0.mk ((by rw [hg]; exact Nat.ne_of_gt (blk_lt (g := gb148) (o := .cells #[.int .i64 a1_0, .int .u64 a1_1, .int .i64 a1_2, .int .u64 a1_3, .int .i64 a1_4, .int .u64 a1_5, .slice A1_6 l1_6.length c1_6] 43 (0, 0)) (by (with_reducible repeat (first | refine blk_drewN ?_ _ | refine blk_drew ?_ | refine blk_alloc ?_ _)); exact BK148.out)) : gb151 ≠ gb148))
      have n11_ := Aside0.mk ((by rw [hg]; exact Nat.ne_of_lt (blk_lt (g := gb149) (o := .cells #[.int .i64 0, .int .u64 0, .int .i64 0, .int .u64 0, .int .i64 0, .int .u64 0, .slice none 0 0] 43 (0, 0)) (by (with_reducible repeat (first | refine blk_drewN ?_ _ | refine blk_drew ?_ | refine blk_alloc ?_ _)); exact BK149.out)) : gb149 ≠ gb151))
      have n12_ := Aside0.mk ((by rw [hg]; exact Nat.ne_of_gt (blk_lt (g := gb149) (o := .cells #[.int .i64 0, .int .u64 0, .int .i64 0, .int .u64 0, .int .i64 0, .int .u64 0, .slice none 0 0] 43 (0, 0)) (by (with_reducible repeat (first | refine blk_drewN ?_ _ | refine blk_drew ?_ | refine blk_alloc ?_ _)); exact BK149.out)) : gb151 ≠ gb149))
      clear BK147
      clear BK148
      clear BK149
      clear HB
      have BK147 := n0_
      have BK148 := n1_
      have BK149 := n2_
      have HB := n3_
      have BK151 := n4_
      have GW151 := n5_
      have GE151 := n6_
      have NB147_151 := n7_
      have NB151_147 := n8_
      have NB148_151 := n9_
      have NB151_148 := n10_
      have NB149_151 := n11_
      have NB151_149 := n12_
      clear n0_ n1_ n2_ n3_ n4_ n5_ n6_ n7_ n8_ n9_ n10_ n11_ n12_
      clear hb hbox hg
      refine hK.out _ _ ⟨(blk_cell BK148.out 0).trans rfl, (blk_cell BK148.out 1).trans rfl, (blk_cell BK148.out 2).trans rfl, (blk_cell BK148.out 3).trans rfl, (blk_cell BK148.out 4).trans rfl, (blk_cell BK148.out 5).trans rfl, (blk_cell BK148.out 6).trans rfl⟩ (fun hHeld => ?_)
      clear hK K
      refine norm_ (a' := ?_) ?_ ?_
      rotate_left
      · show Act.put _ (some 5) _ = _
        simp only [Act.put, List.setIfInBounds_toArray, List.set_cons_zero, List.set_cons_succ, i64_w, i32_w]
        rfl
      refine one_ (i := 2) (N := some 9) #[true, true, true, true, true, true, false, true, false] rfl rfl (one_of HT_.out (by kernel_rfl)) (by decide) (fun K hK => ?_)
      refine goes_ Try.func32 (by kernel_rfl) rfl #[.int .i64 a1_0, .int .i64 200] (by rfl) rfl rfl (by (try simp only [List.map_toArray, List.map_cons, List.map_nil]); first | done | rfl | (simp only [List.length_drop, List.length_take]; rfl)) ?_
      with_reducible refine (psephoslaw05_rest.calls a1_0 200 t150 _ A3.out).mono ?_
      rintro e w' ⟨rfl, ⟨nd, rfl⟩⟩
      refine ⟨_, rfl, ?_⟩
      refine hK.out _ _ ⟨(blk_cell BK148.out 0).trans rfl, (blk_cell BK148.out 1).trans rfl, (blk_cell BK148.out 2).trans rfl, (blk_cell BK148.out 3).trans rfl, (blk_cell BK148.out 4).trans rfl, (blk_cell BK148.out 5).trans rfl, (blk_cell BK148.out 6).trans rfl⟩ (fun hHeld => ?_)
      clear hK K
      refine norm_ (a' := ?_) ?_ ?_
      rotate_left
      · show Act.put _ (some 9) _ = _
        simp only [Act.put, List.setIfInBounds_toArray, List.set_cons_zero, List.set_cons_succ, i64_w, i32_w]
        rfl
      refine pure_ (i := 6) (N := some 13) (v := ?_) (a' := ?_) #[true, true, true, true, true, true, true, true, false] rfl rfl (any_of HT_.out (by kernel_rfl)) (fun _ _ _ h => h) (Or.inl ⟨by rfl, ?_⟩) ?_ ?_
      rotate_left
      · intro w'
        go_simp
        with_reducible rfl
      rotate_left
      · simp only [Act.put, List.setIfInBounds_toArray, List.set_cons_zero, List.set_cons_succ, i64_w, i32_w]
        rfl
      exact norm_ (by simp only [putAll, Act.put, List.setIfInBounds_toArray, List.set_cons_zero, List.set_cons_succ]) (hCont (gb151) _ ⟨hHeld, (by (with_reducible repeat (first | refine blk_drewN ?_ _ | refine blk_drew ?_ | refine blk_alloc ?_ _)); exact BK147.out), (by (with_reducible repeat (first | refine blk_drewN ?_ _ | refine blk_drew ?_ | refine blk_alloc ?_ _)); exact BK148.out), (by (with_reducible repeat (first | refine blk_drewN ?_ _ | refine blk_drew ?_ | refine blk_alloc ?_ _)); exact BK149.out), (by (with_reducible repeat (first | refine blk_drewN ?_ _ | refine blk_drew ?_ | refine blk_alloc ?_ _)); exact BK151.out), GW151.out, GE151.out, NB147_151.out, NB151_147.out, NB148_151.out, NB151_148.out, NB149_151.out, NB151_149.out, (by repeat (first | (with_reducible first | exact HB.out | apply below_alloc | apply pw_below_drewN | apply below_drew1 | refine below_set ?_ GE147.out | refine below_set ?_ GE148.out | refine below_set ?_ GE149.out | refine below_set ?_ GE151.out) | exact HB.out))⟩)
  rintro gb151 w11 ⟨hS_, h0_, h1_, h2_, h3_, h4_, h5_, h6_, h7_, h8_, h9_, h10_, h11_, h12_⟩
  have n0_ : Aside0 (w11.heap[gb147]? = some (.cells #[.slice A0_0 l0_0.length c0_0, .int .i64 a0_1, .int .i64 a0_2] 24 (0, 0))) := ⟨h0_⟩
  have n1_ : Aside0 (w11.heap[gb148]? = some (.cells #[.int .i64 a1_0, .int .u64 a1_1, .int .i64 a1_2, .int .u64 a1_3, .int .i64 a1_4, .int .u64 a1_5, .slice A1_6 l1_6.length c1_6] 43 (0, 0))) := ⟨h1_⟩
  have n2_ : Aside0 (w11.heap[gb149]? = some (.cells #[.int .i64 0, .int .u64 0, .int .i64 0, .int .u64 0, .int .i64 0, .int .u64 0, .slice none 0 0] 43 (0, 0))) := ⟨h2_⟩
  have n3_ : Aside0 (w11.heap[gb151]? = some (.cells #[.int .i64 0, .int .u64 0, .int .i64 0, .int .u64 0, .int .i64 0, .int .u64 0, .slice none 0 0] 43 (0, 0))) := ⟨h3_⟩
  have n4_ : Aside0 (w.heap.size ≤ gb151) := ⟨h4_⟩
  have n5_ : Aside0 (w.heap.size ≤ gb151) := ⟨h5_⟩
  have n6_ : Aside0 (gb147 ≠ gb151) := ⟨h6_⟩
  have n7_ : Aside0 (gb151 ≠ gb147) := ⟨h7_⟩
  have n8_ : Aside0 (gb148 ≠ gb151) := ⟨h8_⟩
  have n9_ : Aside0 (gb151 ≠ gb148) := ⟨h9_⟩
  have n10_ : Aside0 (gb149 ≠ gb151) := ⟨h10_⟩
  have n11_ : Aside0 (gb151 ≠ gb149) := ⟨h11_⟩
  have n12_ : Aside0 (Below w.heap.size w w11) := ⟨h12_⟩
  clear BK147
  clear BK148
  clear BK149
  clear HB
  clear h0_ h1_ h2_ h3_ h4_ h5_ h6_ h7_ h8_ h9_ h10_ h11_ h12_
  have BK147 := n0_
  have BK148 := n1_
  have BK149 := n2_
  have BK151 := n3_
  have GW151 := n4_
  have GE151 := n5_
  have NB147_151 := n6_
  have NB151_147 := n7_
  have NB148_151 := n8_
  have NB151_148 := n9_
  have NB149_151 := n10_
  have NB151_149 := n11_
  have HB := n12_
  clear n0_ n1_ n2_ n3_ n4_ n5_ n6_ n7_ n8_ n9_ n10_ n11_ n12_
  have hHeld : w11.cell? ⟨gb148, 0, none⟩ = some (.int .i64 a1_0) ∧ w11.cell? ⟨gb148, 1, none⟩ = some (.int .u64 a1_1) ∧ w11.cell? ⟨gb148, 2, none⟩ = some (.int .i64 a1_2) ∧ w11.cell? ⟨gb148, 3, none⟩ = some (.int .u64 a1_3) ∧ w11.cell? ⟨gb148, 4, none⟩ = some (.int .i64 a1_4) ∧ w11.cell? ⟨gb148, 5, none⟩ = some (.int .u64 a1_5) ∧ w11.cell? ⟨gb148, 6, none⟩ = some (.slice A1_6 l1_6.length c1_6) := hS_
  refine norm_ (a' := ?_) ?_ ?_
  rotate_left
  · simp only [putAll, Act.put, List.setIfInBounds_toArray, List.set_cons_zero, List.set_cons_succ]
    rfl
  refine one_ (i := 8) (N := none) #[true, true, true, true, true, true, true, true, true] rfl rfl (one_of HT_.out (by kernel_rfl)) (by decide) (fun K hK => ?_)
  have hs12 : w11.cell? ⟨gb151, 0, none⟩ = some (.int .i64 0) := (blk_cell BK151.out 0).trans rfl
  have hfs12 := blk_frozen BK151.out 0
  have hns12_0 := NB147_151.out
  have hns12_1 := NB148_151.out
  have hns12_2 := NB149_151.out
  have hms12_0 := NB151_147.out
  have hms12_1 := NB151_148.out
  have hms12_2 := NB151_149.out
  have hs13 : w11.cell? ⟨gb151, 1, none⟩ = some (.int .u64 0) := (blk_cell BK151.out 1).trans rfl
  have hs14 : w11.cell? ⟨gb151, 2, none⟩ = some (.int .i64 0) := (blk_cell BK151.out 2).trans rfl
  have hs15 : w11.cell? ⟨gb151, 3, none⟩ = some (.int .u64 0) := (blk_cell BK151.out 3).trans rfl
  have hs16 : w11.cell? ⟨gb151, 4, none⟩ = some (.int .i64 0) := (blk_cell BK151.out 4).trans rfl
  have hs17 : w11.cell? ⟨gb151, 5, none⟩ = some (.int .u64 0) := (blk_cell BK151.out 5).trans rfl
  have hs18 : w11.cell? ⟨gb151, 6, none⟩ = some (.slice none 0 0) := (blk_cell BK151.out 6).trans rfl
  have hfs13 := blk_frozen BK151.out 1
  have hfs14 := blk_frozen BK151.out 2
  have hfs15 := blk_frozen BK151.out 3
  have hfs16 := blk_frozen BK151.out 4
  have hfs17 := blk_frozen BK151.out 5
  have hfs18 := blk_frozen BK151.out 6
  with_reducible refine skip_ (w1 := ?_) ?ax1 ?ax2 ?_ ?_
  case ax1 => kernel_rfl
  case ax2 => kernel_rfl
  rotate_left
  · go_simp
    rfl
  refine hK.out _ _ ⟨((cell_far (p := ⟨gb151, _, none⟩) NB148_151.out _).trans (((cell_far (p := ⟨gb151, _, none⟩) NB148_151.out _).trans (((cell_far (p := ⟨gb151, _, none⟩) NB148_151.out _).trans (((cell_far (p := ⟨gb151, _, none⟩) NB148_151.out _).trans (((cell_far (p := ⟨gb151, _, none⟩) NB148_151.out _).trans (((cell_far (p := ⟨gb151, _, none⟩) NB148_151.out _).trans (((cell_far (p := ⟨gb151, _, none⟩) NB148_151.out _).trans (hHeld.1)))))))))))))), ((cell_far (p := ⟨gb151, _, none⟩) NB148_151.out _).trans (((cell_far (p := ⟨gb151, _, none⟩) NB148_151.out _).trans (((cell_far (p := ⟨gb151, _, none⟩) NB148_151.out _).trans (((cell_far (p := ⟨gb151, _, none⟩) NB148_151.out _).trans (((cell_far (p := ⟨gb151, _, none⟩) NB148_151.out _).trans (((cell_far (p := ⟨gb151, _, none⟩) NB148_151.out _).trans (((cell_far (p := ⟨gb151, _, none⟩) NB148_151.out _).trans (hHeld.2.1)))))))))))))), ((cell_far (p := ⟨gb151, _, none⟩) NB148_151.out _).trans (((cell_far (p := ⟨gb151, _, none⟩) NB148_151.out _).trans (((cell_far (p := ⟨gb151, _, none⟩) NB148_151.out _).trans (((cell_far (p := ⟨gb151, _, none⟩) NB148_151.out _).trans (((cell_far (p := ⟨gb151, _, none⟩) NB148_151.out _).trans (((cell_far (p := ⟨gb151, _, none⟩) NB148_151.out _).trans (((cell_far (p := ⟨gb151, _, none⟩) NB148_151.out _).trans (hHeld.2.2.1)))))))))))))), ((cell_far (p := ⟨gb151, _, none⟩) NB148_151.out _).trans (((cell_far (p := ⟨gb151, _, none⟩) NB148_151.out _).trans (((cell_far (p := ⟨gb151, _, none⟩) NB148_151.out _).trans (((cell_far (p := ⟨gb151, _, none⟩) NB148_151.out _).trans (((cell_far (p := ⟨gb151, _, none⟩) NB148_151.out _).trans (((cell_far (p := ⟨gb151, _, none⟩) NB148_151.out _).trans (((cell_far (p := ⟨gb151, _, none⟩) NB148_151.out _).trans (hHeld.2.2.2.1)))))))))))))), ((cell_far (p := ⟨gb151, _, none⟩) NB148_151.out _).trans (((cell_far (p := ⟨gb151, _, none⟩) NB148_151.out _).trans (((cell_far (p := ⟨gb151, _, none⟩) NB148_151.out _).trans (((cell_far (p := ⟨gb151, _, none⟩) NB148_151.out _).trans (((cell_far (p := ⟨gb151, _, none⟩) NB148_151.out _).trans (((cell_far (p := ⟨gb151, _, none⟩) NB148_151.out _).trans (((cell_far (p := ⟨gb151, _, none⟩) NB148_151.out _).trans (hHeld.2.2.2.2.1)))))))))))))), ((cell_far (p := ⟨gb151, _, none⟩) NB148_151.out _).trans (((cell_far (p := ⟨gb151, _, none⟩) NB148_151.out _).trans (((cell_far (p := ⟨gb151, _, none⟩) NB148_151.out _).trans (((cell_far (p := ⟨gb151, _, none⟩) NB148_151.out _).trans (((cell_far (p := ⟨gb151, _, none⟩) NB148_151.out _).trans (((cell_far (p := ⟨gb151, _, none⟩) NB148_151.out _).trans (((cell_far (p := ⟨gb151, _, none⟩) NB148_151.out _).trans (hHeld.2.2.2.2.2.1)))))))))))))), ((cell_far (p := ⟨gb151, _, none⟩) NB148_151.out _).trans (((cell_far (p := ⟨gb151, _, none⟩) NB148_151.out _).trans (((cell_far (p := ⟨gb151, _, none⟩) NB148_151.out _).trans (((cell_far (p := ⟨gb151, _, none⟩) NB148_151.out _).trans (((cell_far (p := ⟨gb151, _, none⟩) NB148_151.out _).trans (((cell_far (p := ⟨gb151, _, none⟩) NB148_151.out _).trans (((cell_far (p := ⟨gb151, _, none⟩) NB148_151.out _).trans (hHeld.2.2.2.2.2.2))))))))))))))⟩ (fun hHeld => ?_)
  clear hK K
  refine done_ (done_of HT_.out (by kernel_rfl)) ?_
  try go_wp2
  have n0_ : Aside0 ((((((((w11.setCell ⟨gb151, 0, none⟩ (.int .i64 t150)).setCell ⟨gb151, 1, none⟩ (.int .u64 (Int.tmod a1_1 8))).setCell ⟨gb151, 2, none⟩ (.int .i64 0)).setCell ⟨gb151, 3, none⟩ (.int .u64 0)).setCell ⟨gb151, 4, none⟩ (.int .i64 0)).setCell ⟨gb151, 5, none⟩ (.int .u64 0)).setCell ⟨gb151, 6, none⟩ (.slice none 0 0)).heap[gb147]? = some (.cells #[.slice A0_0 l0_0.length c0_0, .int .i64 a0_1, .int .i64 a0_2] 24 (0, 0))) := ⟨by (with_reducible repeat (first | refine blk_drewN ?_ _ | refine blk_drew ?_ | refine blk_alloc ?_ _)); refine blk_far ?_ NB147_151.out _; (with_reducible repeat (first | refine blk_drewN ?_ _ | refine blk_drew ?_ | refine blk_alloc ?_ _)); refine blk_far ?_ NB147_151.out _; (with_reducible repeat (first | refine blk_drewN ?_ _ | refine blk_drew ?_ | refine blk_alloc ?_ _)); refine blk_far ?_ NB147_151.out _; (with_reducible repeat (first | refine blk_drewN ?_ _ | refine blk_drew ?_ | refine blk_alloc ?_ _)); refine blk_far ?_ NB147_151.out _; (with_reducible repeat (first | refine blk_drewN ?_ _ | refine blk_drew ?_ | refine blk_alloc ?_ _)); refine blk_far ?_ NB147_151.out _; (with_reducible repeat (first | refine blk_drewN ?_ _ | refine blk_drew ?_ | refine blk_alloc ?_ _)); refine blk_far ?_ NB147_151.out _; (with_reducible repeat (first | refine blk_drewN ?_ _ | refine blk_drew ?_ | refine blk_alloc ?_ _)); refine blk_far ?_ NB147_151.out _; (with_reducible repeat (first | refine blk_drewN ?_ _ | refine blk_drew ?_ | refine blk_alloc ?_ _)); exact BK147.out⟩
  have n1_ : Aside0 ((((((((w11.setCell ⟨gb151, 0, none⟩ (.int .i64 t150)).setCell ⟨gb151, 1, none⟩ (.int .u64 (Int.tmod a1_1 8))).setCell ⟨gb151, 2, none⟩ (.int .i64 0)).setCell ⟨gb151, 3, none⟩ (.int .u64 0)).setCell ⟨gb151, 4, none⟩ (.int .i64 0)).setCell ⟨gb151, 5, none⟩ (.int .u64 0)).setCell ⟨gb151, 6, none⟩ (.slice none 0 0)).heap[gb148]? = some (.cells #[.int .i64 a1_0, .int .u64 a1_1, .int .i64 a1_2, .int .u64 a1_3, .int .i64 a1_4, .int .u64 a1_5, .slice A1_6 l1_6.length c1_6] 43 (0, 0))) := ⟨by (with_reducible repeat (first | refine blk_drewN ?_ _ | refine blk_drew ?_ | refine blk_alloc ?_ _)); refine blk_far ?_ NB148_151.out _; (with_reducible repeat (first | refine blk_drewN ?_ _ | refine blk_drew ?_ | refine blk_alloc ?_ _)); refine blk_far ?_ NB148_151.out _; (with_reducible repeat (first | refine blk_drewN ?_ _ | refine blk_drew ?_ | refine blk_alloc ?_ _)); refine blk_far ?_ NB148_151.out _; (with_reducible repeat (first | refine blk_drewN ?_ _ | refine blk_drew ?_ | refine blk_alloc ?_ _)); refine blk_far ?_ NB148_151.out _; (with_reducible repeat (first | refine blk_drewN ?_ _ | refine blk_drew ?_ | refine blk_alloc ?_ _)); refine blk_far ?_ NB148_151.out _; (with_reducible repeat (first | refine blk_drewN ?_ _ | refine blk_drew ?_ | refine blk_alloc ?_ _)); refine blk_far ?_ NB148_151.out _; (with_reducible repeat (first | refine blk_drewN ?_ _ | refine blk_drew ?_ | refine blk_alloc ?_ _)); refine blk_far ?_ NB148_151.out _; (with_reducible repeat (first | refine blk_drewN ?_ _ | refine blk_drew ?_ | refine blk_alloc ?_ _)); exact BK148.out⟩
  have n2_ : Aside0 ((((((((w11.setCell ⟨gb151, 0, none⟩ (.int .i64 t150)).setCell ⟨gb151, 1, none⟩ (.int .u64 (Int.tmod a1_1 8))).setCell ⟨gb151, 2, none⟩ (.int .i64 0)).setCell ⟨gb151, 3, none⟩ (.int .u64 0)).setCell ⟨gb151, 4, none⟩ (.int .i64 0)).setCell ⟨gb151, 5, none⟩ (.int .u64 0)).setCell ⟨gb151, 6, none⟩ (.slice none 0 0)).heap[gb149]? = some (.cells #[.int .i64 0, .int .u64 0, .int .i64 0, .int .u64 0, .int .i64 0, .int .u64 0, .slice none 0 0] 43 (0, 0))) := ⟨by (with_reducible repeat (first | refine blk_drewN ?_ _ | refine blk_drew ?_ | refine blk_alloc ?_ _)); refine blk_far ?_ NB149_151.out _; (with_reducible repeat (first | refine blk_drewN ?_ _ | refine blk_drew ?_ | refine blk_alloc ?_ _)); refine blk_far ?_ NB149_151.out _; (with_reducible repeat (first | refine blk_drewN ?_ _ | refine blk_drew ?_ | refine blk_alloc ?_ _)); refine blk_far ?_ NB149_151.out _; (with_reducible repeat (first | refine blk_drewN ?_ _ | refine blk_drew ?_ | refine blk_alloc ?_ _)); refine blk_far ?_ NB149_151.out _; (with_reducible repeat (first | refine blk_drewN ?_ _ | refine blk_drew ?_ | refine blk_alloc ?_ _)); refine blk_far ?_ NB149_151.out _; (with_reducible repeat (first | refine blk_drewN ?_ _ | refine blk_drew ?_ | refine blk_alloc ?_ _)); refine blk_far ?_ NB149_151.out _; (with_reducible repeat (first | refine blk_drewN ?_ _ | refine blk_drew ?_ | refine blk_alloc ?_ _)); refine blk_far ?_ NB149_151.out _; (with_reducible repeat (first | refine blk_drewN ?_ _ | refine blk_drew ?_ | refine blk_alloc ?_ _)); exact BK149.out⟩
  have n3_ : Aside0 ((((((((w11.setCell ⟨gb151, 0, none⟩ (.int .i64 t150)).setCell ⟨gb151, 1, none⟩ (.int .u64 (Int.tmod a1_1 8))).setCell ⟨gb151, 2, none⟩ (.int .i64 0)).setCell ⟨gb151, 3, none⟩ (.int .u64 0)).setCell ⟨gb151, 4, none⟩ (.int .i64 0)).setCell ⟨gb151, 5, none⟩ (.int .u64 0)).setCell ⟨gb151, 6, none⟩ (.slice none 0 0)).heap[gb151]? = some (.cells #[.int .i64 t150, .int .u64 (Int.tmod a1_1 8), .int .i64 0, .int .u64 0, .int .i64 0, .int .u64 0, .slice none 0 0] 43 (0, 0))) := ⟨by (with_reducible repeat (first | refine blk_drewN ?_ _ | refine blk_drew ?_ | refine blk_alloc ?_ _)); refine blk_put (cs := #[.int .i64 t150, .int .u64 (Int.tmod a1_1 8), .int .i64 0, .int .u64 0, .int .i64 0, .int .u64 0, .slice none 0 0]) ?_ 6 _ rfl; (with_reducible repeat (first | refine blk_drewN ?_ _ | refine blk_drew ?_ | refine blk_alloc ?_ _)); refine blk_put (cs := #[.int .i64 t150, .int .u64 (Int.tmod a1_1 8), .int .i64 0, .int .u64 0, .int .i64 0, .int .u64 0, .slice none 0 0]) ?_ 5 _ rfl; (with_reducible repeat (first | refine blk_drewN ?_ _ | refine blk_drew ?_ | refine blk_alloc ?_ _)); refine blk_put (cs := #[.int .i64 t150, .int .u64 (Int.tmod a1_1 8), .int .i64 0, .int .u64 0, .int .i64 0, .int .u64 0, .slice none 0 0]) ?_ 4 _ rfl; (with_reducible repeat (first | refine blk_drewN ?_ _ | refine blk_drew ?_ | refine blk_alloc ?_ _)); refine blk_put (cs := #[.int .i64 t150, .int .u64 (Int.tmod a1_1 8), .int .i64 0, .int .u64 0, .int .i64 0, .int .u64 0, .slice none 0 0]) ?_ 3 _ rfl; (with_reducible repeat (first | refine blk_drewN ?_ _ | refine blk_drew ?_ | refine blk_alloc ?_ _)); refine blk_put (cs := #[.int .i64 t150, .int .u64 (Int.tmod a1_1 8), .int .i64 0, .int .u64 0, .int .i64 0, .int .u64 0, .slice none 0 0]) ?_ 2 _ rfl; (with_reducible repeat (first | refine blk_drewN ?_ _ | refine blk_drew ?_ | refine blk_alloc ?_ _)); refine blk_put (cs := #[.int .i64 t150, .int .u64 0, .int .i64 0, .int .u64 0, .int .i64 0, .int .u64 0, .slice none 0 0]) ?_ 1 _ rfl; (with_reducible repeat (first | refine blk_drewN ?_ _ | refine blk_drew ?_ | refine blk_alloc ?_ _)); refine blk_put (cs := #[.int .i64 0, .int .u64 0, .int .i64 0, .int .u64 0, .int .i64 0, .int .u64 0, .slice none 0 0]) ?_ 0 _ rfl; (with_reducible repeat (first | refine blk_drewN ?_ _ | refine blk_drew ?_ | refine blk_alloc ?_ _)); exact BK151.out⟩
  have n4_ : Aside0 (Below w.heap.size w (((((((w11.setCell ⟨gb151, 0, none⟩ (.int .i64 t150)).setCell ⟨gb151, 1, none⟩ (.int .u64 (Int.tmod a1_1 8))).setCell ⟨gb151, 2, none⟩ (.int .i64 0)).setCell ⟨gb151, 3, none⟩ (.int .u64 0)).setCell ⟨gb151, 4, none⟩ (.int .i64 0)).setCell ⟨gb151, 5, none⟩ (.int .u64 0)).setCell ⟨gb151, 6, none⟩ (.slice none 0 0))) := ⟨by repeat (first | (with_reducible first | exact HB.out | apply below_alloc | apply pw_below_drewN | apply below_drew1 | refine below_set ?_ GE147.out | refine below_set ?_ GE148.out | refine below_set ?_ GE149.out | refine below_set ?_ GE151.out) | exact HB.out)⟩
  (try clear BK147)
  (try clear BK148)
  (try clear BK149)
  (try clear BK151)
  (try clear HB)
  generalize (((((((w11.setCell ⟨gb151, 0, none⟩ (.int .i64 t150)).setCell ⟨gb151, 1, none⟩ (.int .u64 (Int.tmod a1_1 8))).setCell ⟨gb151, 2, none⟩ (.int .i64 0)).setCell ⟨gb151, 3, none⟩ (.int .u64 0)).setCell ⟨gb151, 4, none⟩ (.int .i64 0)).setCell ⟨gb151, 5, none⟩ (.int .u64 0)).setCell ⟨gb151, 6, none⟩ (.slice none 0 0)) = w19 at n0_ n1_ n2_ n3_ n4_ ⊢
  have BK147 := n0_
  have BK148 := n1_
  have BK149 := n2_
  have BK151 := n3_
  have HB := n4_
  clear n0_ n1_ n2_ n3_ n4_
  have n0_ := Aside0.mk (blk_drew BK147.out)
  have n1_ := Aside0.mk (blk_drew BK148.out)
  have n2_ := Aside0.mk (blk_drew BK149.out)
  have n3_ := Aside0.mk (blk_drew BK151.out)
  have n4_ := Aside0.mk (below_drew1 HB.out)
  clear BK147
  clear BK148
  clear BK149
  clear BK151
  clear HB
  have BK147 := n0_
  have BK148 := n1_
  have BK149 := n2_
  have BK151 := n3_
  have HB := n4_
  clear n0_ n1_ n2_ n3_ n4_
  refine start_ (n := 12) (S := fun w' => w'.cell? ⟨gb151, 0, none⟩ = some (.int .i64 t150) ∧ w'.cell? ⟨gb151, 1, none⟩ = some (.int .u64 (Int.tmod a1_1 8)) ∧ w'.cell? ⟨gb151, 2, none⟩ = some (.int .i64 0) ∧ w'.cell? ⟨gb151, 3, none⟩ = some (.int .u64 0) ∧ w'.cell? ⟨gb151, 4, none⟩ = some (.int .i64 0) ∧ w'.cell? ⟨gb151, 5, none⟩ = some (.int .u64 0) ∧ w'.cell? ⟨gb151, 6, none⟩ = some (.slice none 0 0) ∧ w'.cell? ⟨gb147, 0, none⟩ = some (.slice A0_0 l0_0.length c0_0) ∧ w'.cell? ⟨gb147, 1, none⟩ = some (.int .i64 a0_1) ∧ w'.cell? ⟨gb147, 2, none⟩ = some (.int .i64 a0_2) ∧ w'.cell? ⟨gb148, 0, none⟩ = some (.int .i64 a1_0) ∧ w'.cell? ⟨gb148, 1, none⟩ = some (.int .u64 a1_1) ∧ w'.cell? ⟨gb148, 2, none⟩ = some (.int .i64 a1_2) ∧ w'.cell? ⟨gb148, 3, none⟩ = some (.int .u64 a1_3) ∧ w'.cell? ⟨gb148, 4, none⟩ = some (.int .i64 a1_4) ∧ w'.cell? ⟨gb148, 5, none⟩ = some (.int .u64 a1_5) ∧ w'.cell? ⟨gb148, 6, none⟩ = some (.slice A1_6 l1_6.length c1_6)) (ds := [11]) #[false, false, false, false, false, false, false, false, false, false, false, false] (by kernel_rfl) rfl rfl ⟨(blk_cell BK151.out 0).trans rfl, (blk_cell BK151.out 1).trans rfl, (blk_cell BK151.out 2).trans rfl, (blk_cell BK151.out 3).trans rfl, (blk_cell BK151.out 4).trans rfl, (blk_cell BK151.out 5).trans rfl, (blk_cell BK151.out 6).trans rfl, (blk_cell BK147.out 0).trans rfl, (blk_cell BK147.out 1).trans rfl, (blk_cell BK147.out 2).trans rfl, (blk_cell BK148.out 0).trans rfl, (blk_cell BK148.out 1).trans rfl, (blk_cell BK148.out 2).trans rfl, (blk_cell BK148.out 3).trans rfl, (blk_cell BK148.out 4).trans rfl, (blk_cell BK148.out 5).trans rfl, (blk_cell BK148.out 6).trans rfl⟩ (fun hHeld => ?_); refine with_tabW psephoslaw05_Make.tab2 psephoslaw05_Make.bits2 (fun HT_ HW_ => ?_)
  generalize w19.drew = w20 at BK147 BK148 BK149 BK151 HB hHeld ⊢
  refine pure_ (i := 0) (N := some 14) (v := ?_) (a' := ?_) #[true, false, false, false, false, false, false, false, false, false, false, false] rfl rfl (any_of HT_.out (by kernel_rfl)) (fun _ _ _ h => h) (Or.inl ⟨by rfl, ?_⟩) ?_ ?_
  rotate_left
  · intro w'
    go_simp
    with_reducible rfl
  rotate_left
  · simp only [Act.put, List.setIfInBounds_toArray, List.set_cons_zero, List.set_cons_succ, i64_w, i32_w]
    rfl
  refine pure_ (i := 2) (N := some 16) (v := ?_) (a' := ?_) #[true, false, true, false, false, false, false, false, false, false, false, false] rfl rfl (any_of HT_.out (by kernel_rfl)) (fun _ _ _ h => h) (Or.inl ⟨by rfl, ?_⟩) ?_ ?_
  rotate_left
  · intro w'
    go_simp
    with_reducible rfl
  rotate_left
  · simp only [Act.put, List.setIfInBounds_toArray, List.set_cons_zero, List.set_cons_succ, i64_w, i32_w]
    rfl
  refine pure_ (i := 5) (N := some 19) (v := ?_) (a' := ?_) #[true, false, true, false, false, true, false, false, false, false, false, false] rfl rfl (any_of HT_.out (by kernel_rfl)) (fun _ _ _ h => h) (Or.inl ⟨by rfl, ?_⟩) ?_ ?_
  rotate_left
  · intro w'
    go_simp
    with_reducible rfl
  rotate_left
  · simp only [Act.put, List.setIfInBounds_toArray, List.set_cons_zero, List.set_cons_succ, i64_w, i32_w]
    rfl
  refine pure_ (i := 6) (N := some 20) (v := ?_) (a' := ?_) #[true, false, true, false, false, true, true, false, false, false, false, false] rfl rfl (any_of HT_.out (by kernel_rfl)) (fun _ _ _ h => h) (Or.inl ⟨by rfl, ?_⟩) ?_ ?_
  rotate_left
  · intro w'
    go_simp
    with_reducible rfl
  rotate_left
  · simp only [Act.put, List.setIfInBounds_toArray, List.set_cons_zero, List.set_cons_succ, i64_w, i32_w]
    rfl
  refine take_ (i := 1) (N := some 15) (v := ?_) (a' := ?_) #[true, true, true, false, false, true, true, false, false, false, false, false] rfl rfl (take_ofW HT_.out HW_.out (by kernel_rfl)) (fun _ _ _ h => h) (Or.inl ⟨by rfl, ?_⟩) hHeld ?_ ?_
  rotate_left
  · rintro w' ⟨s0, s1, s2, s3, s4, s5, s6, s7, s8, s9, s10, s11, s12, s13, s14, s15, s16⟩
    go_simp
    with_reducible rfl
  rotate_left
  · simp only [Act.put, List.setIfInBounds_toArray, List.set_cons_zero, List.set_cons_succ, i64_w, i32_w]
    rfl
  refine take_ (i := 3) (N := some 17) (v := ?_) (a' := ?_) #[true, true, true, true, false, true, true, false, false, false, false, false] rfl rfl (take_ofW HT_.out HW_.out (by kernel_rfl)) (fun _ _ _ h => h) (Or.inl ⟨by rfl, ?_⟩) hHeld ?_ ?_
  rotate_left
  · rintro w' ⟨s0, s1, s2, s3, s4, s5, s6, s7, s8, s9, s10, s11, s12, s13, s14, s15, s16⟩
    go_simp
    with_reducible rfl
  rotate_left
  · simp only [Act.put, List.setIfInBounds_toArray, List.set_cons_zero, List.set_cons_succ, i64_w, i32_w]
    rfl
  refine take_ (i := 7) (N := some 21) (v := ?_) (a' := ?_) #[true, true, true, true, false, true, true, true, false, false, false, false] rfl rfl (take_ofW HT_.out HW_.out (by kernel_rfl)) (fun _ _ _ h => h) (Or.inl ⟨by rfl, ?_⟩) hHeld ?_ ?_
  rotate_left
  · rintro w' ⟨s0, s1, s2, s3, s4, s5, s6, s7, s8, s9, s10, s11, s12, s13, s14, s15, s16⟩
    go_simp
    with_reducible rfl
  rotate_left
  · simp only [Act.put, List.setIfInBounds_toArray, List.set_cons_zero, List.set_cons_succ, i64_w, i32_w]
    rfl
  refine pure_ (i := 8) (N := some 22) (v := ?_) (a' := ?_) #[true, true, true, true, false, true, true, true, true, false, false, false] rfl rfl (any_of HT_.out (by kernel_rfl)) (fun _ _ _ h => h) (Or.inl ⟨by rfl, ?_⟩) ?_ ?_
  rotate_left
  · intro w'
    go_simp
    with_reducible rfl
  rotate_left
  · simp only [Act.put, List.setIfInBounds_toArray, List.set_cons_zero, List.set_cons_succ, i64_w, i32_w]
    rfl
  refine one_ (i := 4) (N := some 18) #[true, true, true, true, true, true, true, true, true, false, false, false] rfl rfl (one_of HT_.out (by kernel_rfl)) (by decide) (fun K hK => ?_)
  refine goes_ Try.func33 (by kernel_rfl) rfl #[.int .i64 t150, .int .i64 a0_1] (by rfl) rfl rfl (by (try simp only [List.map_toArray, List.map_cons, List.map_nil]); first | done | rfl | (simp only [List.length_drop, List.length_take]; rfl)) ?_
  with_reducible refine (epoch_Of.calls t150 a0_1 t152 _ A4.out).mono ?_
  rintro e w21 ⟨rfl, hb⟩
  refine ⟨_, rfl, ?_⟩
  have n0_ := Aside0.mk (blk_below (g := gb147) (o := .cells #[.slice A0_0 l0_0.length c0_0, .int .i64 a0_1, .int .i64 a0_2] 24 (0, 0)) (by (with_reducible repeat (first | refine blk_drewN ?_ _ | refine blk_drew ?_ | refine blk_alloc ?_ _)); exact BK147.out) hb)
  have n1_ := Aside0.mk (blk_below (g := gb148) (o := .cells #[.int .i64 a1_0, .int .u64 a1_1, .int .i64 a1_2, .int .u64 a1_3, .int .i64 a1_4, .int .u64 a1_5, .slice A1_6 l1_6.length c1_6] 43 (0, 0)) (by (with_reducible repeat (first | refine blk_drewN ?_ _ | refine blk_drew ?_ | refine blk_alloc ?_ _)); exact BK148.out) hb)
  have n2_ := Aside0.mk (blk_below (g := gb149) (o := .cells #[.int .i64 0, .int .u64 0, .int .i64 0, .int .u64 0, .int .i64 0, .int .u64 0, .slice none 0 0] 43 (0, 0)) (by (with_reducible repeat (first | refine blk_drewN ?_ _ | refine blk_drew ?_ | refine blk_alloc ?_ _)); exact BK149.out) hb)
  have n3_ := Aside0.mk (blk_below (g := gb151) (o := .cells #[.int .i64 t150, .int .u64 (Int.tmod a1_1 8), .int .i64 0, .int .u64 0, .int .i64 0, .int .u64 0, .slice none 0 0] 43 (0, 0)) (by (with_reducible repeat (first | refine blk_drewN ?_ _ | refine blk_drew ?_ | refine blk_alloc ?_ _)); exact BK151.out) hb)
  have n4_ := Aside0.mk (below_step (by repeat (first | (with_reducible first | exact HB.out | apply below_alloc | apply pw_below_drewN | apply below_drew1 | refine below_set ?_ GE147.out | refine below_set ?_ GE148.out | refine below_set ?_ GE149.out | refine below_set ?_ GE151.out) | exact HB.out)) hb)
  clear BK147
  clear BK148
  clear BK149
  clear BK151
  clear HB
  have BK147 := n0_
  have BK148 := n1_
  have BK149 := n2_
  have BK151 := n3_
  have HB := n4_
  clear n0_ n1_ n2_ n3_ n4_
  (try clear hb)
  (try clear hb2)
  (try clear hk)
  (try clear hi)
  refine hK.out _ _ ⟨(blk_cell BK151.out 0).trans rfl, (blk_cell BK151.out 1).trans rfl, (blk_cell BK151.out 2).trans rfl, (blk_cell BK151.out 3).trans rfl, (blk_cell BK151.out 4).trans rfl, (blk_cell BK151.out 5).trans rfl, (blk_cell BK151.out 6).trans rfl, (blk_cell BK147.out 0).trans rfl, (blk_cell BK147.out 1).trans rfl, (blk_cell BK147.out 2).trans rfl, (blk_cell BK148.out 0).trans rfl, (blk_cell BK148.out 1).trans rfl, (blk_cell BK148.out 2).trans rfl, (blk_cell BK148.out 3).trans rfl, (blk_cell BK148.out 4).trans rfl, (blk_cell BK148.out 5).trans rfl, (blk_cell BK148.out 6).trans rfl⟩ (fun hHeld => ?_)
  clear hK K
  refine norm_ (a' := ?_) ?_ ?_
  rotate_left
  · show Act.put _ (some 18) _ = _
    simp only [Act.put, List.setIfInBounds_toArray, List.set_cons_zero, List.set_cons_succ, i64_w, i32_w]
    rfl
  refine pure_ (i := 9) (N := some 23) (v := ?_) (a' := ?_) #[true, true, true, true, true, true, true, true, true, true, false, false] rfl rfl (any_of HT_.out (by kernel_rfl)) (fun _ _ _ h => h) (Or.inl ⟨by rfl, ?_⟩) ?_ ?_
  rotate_left
  · intro w'
    go_simp
    with_reducible rfl
  rotate_left
  · simp only [Act.put, List.setIfInBounds_toArray, List.set_cons_zero, List.set_cons_succ, i64_w, i32_w]
    rfl
  refine pure_ (i := 10) (N := some 24) (v := ?_) (a' := ?_) #[true, true, true, true, true, true, true, true, true, true, true, false] rfl rfl (any_of HT_.out (by kernel_rfl)) (fun _ _ _ h => h) (Or.inl ⟨by rfl, ?_⟩) ?_ ?_
  rotate_left
  · intro w'
    go_simp
    with_reducible rfl
  rotate_left
  · simp only [Act.put, List.setIfInBounds_toArray, List.set_cons_zero, List.set_cons_succ, i64_w, i32_w]
    rfl
  refine last_ (i := 11) (N := none) #[true, true, true, true, true, true, true, true, true, true, true, true] rfl rfl (one_of HT_.out (by kernel_rfl)) (by decide) (fun K hK => ?_)
  have hs22 : w21.cell? ⟨gb151, 4, none⟩ = some (.int .i64 0) := (blk_cell BK151.out 4).trans rfl
  have hs23 : w21.cell? ⟨gb151, 5, none⟩ = some (.int .u64 0) := (blk_cell BK151.out 5).trans rfl
  have hfs22 := blk_frozen BK151.out 4
  have hfs23 := blk_frozen BK151.out 5
  with_reducible refine skip_ (w1 := ?_) ?ax1 ?ax2 ?_ ?_
  case ax1 => kernel_rfl
  case ax2 => kernel_rfl
  rotate_left
  · go_simp
    rfl
  refine hK.out _ _ ?_
  clear hK K
  refine done_ (done_of HT_.out (by kernel_rfl)) ?_
  try go_wp2
  have n0_ : Aside0 (((w21.setCell ⟨gb151, 4, none⟩ (.int .i64 t152)).setCell ⟨gb151, 5, none⟩ (.int .u64 (Int.tmod a1_5 8))).heap[gb147]? = some (.cells #[.slice A0_0 l0_0.length c0_0, .int .i64 a0_1, .int .i64 a0_2] 24 (0, 0))) := ⟨by (with_reducible repeat (first | refine blk_drewN ?_ _ | refine blk_drew ?_ | refine blk_alloc ?_ _)); refine blk_far ?_ NB147_151.out _; (with_reducible repeat (first | refine blk_drewN ?_ _ | refine blk_drew ?_ | refine blk_alloc ?_ _)); refine blk_far ?_ NB147_151.out _; (with_reducible repeat (first | refine blk_drewN ?_ _ | refine blk_drew ?_ | refine blk_alloc ?_ _)); exact BK147.out⟩
  have n1_ : Aside0 (((w21.setCell ⟨gb151, 4, none⟩ (.int .i64 t152)).setCell ⟨gb151, 5, none⟩ (.int .u64 (Int.tmod a1_5 8))).heap[gb148]? = some (.cells #[.int .i64 a1_0, .int .u64 a1_1, .int .i64 a1_2, .int .u64 a1_3, .int .i64 a1_4, .int .u64 a1_5, .slice A1_6 l1_6.length c1_6] 43 (0, 0))) := ⟨by (with_reducible repeat (first | refine blk_drewN ?_ _ | refine blk_drew ?_ | refine blk_alloc ?_ _)); refine blk_far ?_ NB148_151.out _; (with_reducible repeat (first | refine blk_drewN ?_ _ | refine blk_drew ?_ | refine blk_alloc ?_ _)); refine blk_far ?_ NB148_151.out _; (with_reducible repeat (first | refine blk_drewN ?_ _ | refine blk_drew ?_ | refine blk_alloc ?_ _)); exact BK148.out⟩
  have n2_ : Aside0 (((w21.setCell ⟨gb151, 4, none⟩ (.int .i64 t152)).setCell ⟨gb151, 5, none⟩ (.int .u64 (Int.tmod a1_5 8))).heap[gb149]? = some (.cells #[.int .i64 0, .int .u64 0, .int .i64 0, .int .u64 0, .int .i64 0, .int .u64 0, .slice none 0 0] 43 (0, 0))) := ⟨by (with_reducible repeat (first | refine blk_drewN ?_ _ | refine blk_drew ?_ | refine blk_alloc ?_ _)); refine blk_far ?_ NB149_151.out _; (with_reducible repeat (first | refine blk_drewN ?_ _ | refine blk_drew ?_ | refine blk_alloc ?_ _)); refine blk_far ?_ NB149_151.out _; (with_reducible repeat (first | refine blk_drewN ?_ _ | refine blk_drew ?_ | refine blk_alloc ?_ _)); exact BK149.out⟩
  have n3_ : Aside0 (((w21.setCell ⟨gb151, 4, none⟩ (.int .i64 t152)).setCell ⟨gb151, 5, none⟩ (.int .u64 (Int.tmod a1_5 8))).heap[gb151]? = some (.cells #[.int .i64 t150, .int .u64 (Int.tmod a1_1 8), .int .i64 0, .int .u64 0, .int .i64 t152, .int .u64 (Int.tmod a1_5 8), .slice none 0 0] 43 (0, 0))) := ⟨by (with_reducible repeat (first | refine blk_drewN ?_ _ | refine blk_drew ?_ | refine blk_alloc ?_ _)); refine blk_put (cs := #[.int .i64 t150, .int .u64 (Int.tmod a1_1 8), .int .i64 0, .int .u64 0, .int .i64 t152, .int .u64 0, .slice none 0 0]) ?_ 5 _ rfl; (with_reducible repeat (first | refine blk_drewN ?_ _ | refine blk_drew ?_ | refine blk_alloc ?_ _)); refine blk_put (cs := #[.int .i64 t150, .int .u64 (Int.tmod a1_1 8), .int .i64 0, .int .u64 0, .int .i64 0, .int .u64 0, .slice none 0 0]) ?_ 4 _ rfl; (with_reducible repeat (first | refine blk_drewN ?_ _ | refine blk_drew ?_ | refine blk_alloc ?_ _)); exact BK151.out⟩
  have n4_ : Aside0 (Below w.heap.size w ((w21.setCell ⟨gb151, 4, none⟩ (.int .i64 t152)).setCell ⟨gb151, 5, none⟩ (.int .u64 (Int.tmod a1_5 8)))) := ⟨by repeat (first | (with_reducible first | exact HB.out | apply below_alloc | apply pw_below_drewN | apply below_drew1 | refine below_set ?_ GE147.out | refine below_set ?_ GE148.out | refine below_set ?_ GE149.out | refine below_set ?_ GE151.out) | exact HB.out)⟩
  (try clear BK147)
  (try clear BK148)
  (try clear BK149)
  (try clear BK151)
  (try clear HB)
  generalize ((w21.setCell ⟨gb151, 4, none⟩ (.int .i64 t152)).setCell ⟨gb151, 5, none⟩ (.int .u64 (Int.tmod a1_5 8))) = w24 at n0_ n1_ n2_ n3_ n4_ ⊢
  have BK147 := n0_
  have BK148 := n1_
  have BK149 := n2_
  have BK151 := n3_
  have HB := n4_
  clear n0_ n1_ n2_ n3_ n4_
  have n0_ := Aside0.mk (blk_drew BK147.out)
  have n1_ := Aside0.mk (blk_drew BK148.out)
  have n2_ := Aside0.mk (blk_drew BK149.out)
  have n3_ := Aside0.mk (blk_drew BK151.out)
  have n4_ := Aside0.mk (below_drew1 HB.out)
  clear BK147
  clear BK148
  clear BK149
  clear BK151
  clear HB
  have BK147 := n0_
  have BK148 := n1_
  have BK149 := n2_
  have BK151 := n3_
  have HB := n4_
  clear n0_ n1_ n2_ n3_ n4_
  refine start_ (n := 15) (S := fun w' => w'.cell? ⟨gb148, 0, none⟩ = some (.int .i64 a1_0) ∧ w'.cell? ⟨gb148, 1, none⟩ = some (.int .u64 a1_1) ∧ w'.cell? ⟨gb148, 2, none⟩ = some (.int .i64 a1_2) ∧ w'.cell? ⟨gb148, 3, none⟩ = some (.int .u64 a1_3) ∧ w'.cell? ⟨gb148, 4, none⟩ = some (.int .i64 a1_4) ∧ w'.cell? ⟨gb148, 5, none⟩ = some (.int .u64 a1_5) ∧ w'.cell? ⟨gb148, 6, none⟩ = some (.slice A1_6 l1_6.length c1_6) ∧ w'.cell? ⟨gb151, 0, none⟩ = some (.int .i64 t150) ∧ w'.cell? ⟨gb151, 1, none⟩ = some (.int .u64 (Int.tmod a1_1 8)) ∧ w'.cell? ⟨gb151, 2, none⟩ = some (.int .i64 0) ∧ w'.cell? ⟨gb151, 3, none⟩ = some (.int .u64 0) ∧ w'.cell? ⟨gb151, 4, none⟩ = some (.int .i64 t152) ∧ w'.cell? ⟨gb151, 5, none⟩ = some (.int .u64 (Int.tmod a1_5 8)) ∧ w'.cell? ⟨gb151, 6, none⟩ = some (.slice none 0 0)) (ds := [14]) #[false, false, false, false, false, false, false, false, false, false, false, false, false, false, false] (by kernel_rfl) rfl rfl ⟨(blk_cell BK148.out 0).trans rfl, (blk_cell BK148.out 1).trans rfl, (blk_cell BK148.out 2).trans rfl, (blk_cell BK148.out 3).trans rfl, (blk_cell BK148.out 4).trans rfl, (blk_cell BK148.out 5).trans rfl, (blk_cell BK148.out 6).trans rfl, (blk_cell BK151.out 0).trans rfl, (blk_cell BK151.out 1).trans rfl, (blk_cell BK151.out 2).trans rfl, (blk_cell BK151.out 3).trans rfl, (blk_cell BK151.out 4).trans rfl, (blk_cell BK151.out 5).trans rfl, (blk_cell BK151.out 6).trans rfl⟩ (fun hHeld => ?_); refine with_tabW psephoslaw05_Make.tab3 psephoslaw05_Make.bits3 (fun HT_ HW_ => ?_)
  generalize w24.drew = w25 at BK147 BK148 BK149 BK151 HB hHeld ⊢
  refine pure_ (i := 0) (N := some 25) (v := ?_) (a' := ?_) #[true, false, false, false, false, false, false, false, false, false, false, false, false, false, false] rfl rfl (any_of HT_.out (by kernel_rfl)) (fun _ _ _ h => h) (Or.inl ⟨by rfl, ?_⟩) ?_ ?_
  rotate_left
  · intro w'
    go_simp
    with_reducible rfl
  rotate_left
  · simp only [Act.put, List.setIfInBounds_toArray, List.set_cons_zero, List.set_cons_succ, i64_w, i32_w]
    rfl
  refine pure_ (i := 1) (N := some 26) (v := ?_) (a' := ?_) #[true, true, false, false, false, false, false, false, false, false, false, false, false, false, false] rfl rfl (any_of HT_.out (by kernel_rfl)) (fun _ _ _ h => h) (Or.inl ⟨by rfl, ?_⟩) ?_ ?_
  rotate_left
  · intro w'
    go_simp
    with_reducible rfl
  rotate_left
  · simp only [Act.put, List.setIfInBounds_toArray, List.set_cons_zero, List.set_cons_succ, i64_w, i32_w]
    rfl
  refine pure_ (i := 3) (N := some 28) (v := ?_) (a' := ?_) #[true, true, false, true, false, false, false, false, false, false, false, false, false, false, false] rfl rfl (any_of HT_.out (by kernel_rfl)) (fun _ _ _ h => h) (Or.inl ⟨by rfl, ?_⟩) ?_ ?_
  rotate_left
  · intro w'
    go_simp
    with_reducible rfl
  rotate_left
  · simp only [Act.put, List.setIfInBounds_toArray, List.set_cons_zero, List.set_cons_succ, i64_w, i32_w]
    rfl
  refine pure_ (i := 4) (N := some 29) (v := ?_) (a' := ?_) #[true, true, false, true, true, false, false, false, false, false, false, false, false, false, false] rfl rfl (any_of HT_.out (by kernel_rfl)) (fun _ _ _ h => h) (Or.inl ⟨by rfl, ?_⟩) ?_ ?_
  rotate_left
  · intro w'
    go_simp
    with_reducible rfl
  rotate_left
  · simp only [Act.put, List.setIfInBounds_toArray, List.set_cons_zero, List.set_cons_succ, i64_w, i32_w]
    rfl
  refine pure_ (i := 8) (N := some 33) (v := ?_) (a' := ?_) #[true, true, false, true, true, false, false, false, true, false, false, false, false, false, false] rfl rfl (any_of HT_.out (by kernel_rfl)) (fun _ _ _ h => h) (Or.inl ⟨by rfl, ?_⟩) ?_ ?_
  rotate_left
  · intro w'
    go_simp
    with_reducible rfl
  rotate_left
  · simp only [Act.put, List.setIfInBounds_toArray, List.set_cons_zero, List.set_cons_succ, i64_w, i32_w]
    rfl
  refine pure_ (i := 9) (N := some 34) (v := ?_) (a' := ?_) #[true, true, false, true, true, false, false, false, true, true, false, false, false, false, false] rfl rfl (any_of HT_.out (by kernel_rfl)) (fun _ _ _ h => h) (Or.inl ⟨by rfl, ?_⟩) ?_ ?_
  rotate_left
  · intro w'
    go_simp
    with_reducible rfl
  rotate_left
  · simp only [Act.put, List.setIfInBounds_toArray, List.set_cons_zero, List.set_cons_succ, i64_w, i32_w]
    rfl
  refine take_ (i := 2) (N := some 27) (v := ?_) (a' := ?_) #[true, true, true, true, true, false, false, false, true, true, false, false, false, false, false] rfl rfl (take_ofW HT_.out HW_.out (by kernel_rfl)) (fun _ _ _ h => h) (Or.inl ⟨by rfl, ?_⟩) hHeld ?_ ?_
  rotate_left
  · rintro w' ⟨s0, s1, s2, s3, s4, s5, s6, s7, s8, s9, s10, s11, s12, s13⟩
    go_simp
    with_reducible rfl
  rotate_left
  · simp only [Act.put, List.setIfInBounds_toArray, List.set_cons_zero, List.set_cons_succ, i64_w, i32_w]
    rfl
  refine take_ (i := 5) (N := some 30) (v := ?_) (a' := ?_) #[true, true, true, true, true, true, false, false, true, true, false, false, false, false, false] rfl rfl (take_ofW HT_.out HW_.out (by kernel_rfl)) (fun _ _ _ h => h) (Or.inl ⟨by rfl, ?_⟩) hHeld ?_ ?_
  rotate_left
  · rintro w' ⟨s0, s1, s2, s3, s4, s5, s6, s7, s8, s9, s10, s11, s12, s13⟩
    go_simp
    with_reducible rfl
  rotate_left
  · simp only [Act.put, List.setIfInBounds_toArray, List.set_cons_zero, List.set_cons_succ, i64_w, i32_w]
    rfl
  refine pure_ (i := 6) (N := some 31) (v := ?_) (a' := ?_) #[true, true, true, true, true, true, true, false, true, true, false, false, false, false, false] rfl rfl (any_of HT_.out (by kernel_rfl)) (fun _ _ _ h => h) (Or.inl ⟨by rfl, ?_⟩) ?_ ?_
  rotate_left
  · intro w'
    go_simp
    with_reducible rfl
  rotate_left
  · simp only [Act.put, List.setIfInBounds_toArray, List.set_cons_zero, List.set_cons_succ, i64_w, i32_w]
    rfl
  refine take_ (i := 10) (N := some 35) (v := ?_) (a' := ?_) #[true, true, true, true, true, true, true, false, true, true, true, false, false, false, false] rfl rfl (take_ofW HT_.out HW_.out (by kernel_rfl)) (fun _ _ _ h => h) (Or.inl ⟨by rfl, ?_⟩) hHeld ?_ ?_
  rotate_left
  · rintro w' ⟨s0, s1, s2, s3, s4, s5, s6, s7, s8, s9, s10, s11, s12, s13⟩
    go_simp
    with_reducible rfl
  rotate_left
  · simp only [Act.put, List.setIfInBounds_toArray, List.set_cons_zero, List.set_cons_succ, i64_w, i32_w]
    rfl
  refine pure_ (i := 11) (N := some 36) (v := ?_) (a' := ?_) #[true, true, true, true, true, true, true, false, true, true, true, true, false, false, false] rfl rfl (any_of HT_.out (by kernel_rfl)) (fun _ _ _ h => h) (Or.inl ⟨by rfl, ?_⟩) ?_ ?_
  rotate_left
  · intro w'
    go_simp
    with_reducible rfl
  rotate_left
  · simp only [Act.put, List.setIfInBounds_toArray, List.set_cons_zero, List.set_cons_succ, i64_w, i32_w]
    rfl
  refine one_ (i := 7) (N := some 32) #[true, true, true, true, true, true, true, true, true, true, true, true, false, false, false] rfl rfl (one_of HT_.out (by kernel_rfl)) (by decide) (fun K hK => ?_)
  refine goes_ Try.func32 (by kernel_rfl) rfl #[.int .i64 a1_2, .int .i64 (wrap64 (t152 + 1))] (by rfl) rfl rfl (by (try simp only [List.map_toArray, List.map_cons, List.map_nil]); first | done | rfl | (simp only [List.length_drop, List.length_take]; rfl)) ?_
  with_reducible refine (psephoslaw05_rest.calls a1_2 (wrap64 (t152 + 1)) t153 _ A5.out).mono ?_
  rintro e w' ⟨rfl, ⟨nd, rfl⟩⟩
  refine ⟨_, rfl, ?_⟩
  refine hK.out _ _ ⟨(blk_cell BK148.out 0).trans rfl, (blk_cell BK148.out 1).trans rfl, (blk_cell BK148.out 2).trans rfl, (blk_cell BK148.out 3).trans rfl, (blk_cell BK148.out 4).trans rfl, (blk_cell BK148.out 5).trans rfl, (blk_cell BK148.out 6).trans rfl, (blk_cell BK151.out 0).trans rfl, (blk_cell BK151.out 1).trans rfl, (blk_cell BK151.out 2).trans rfl, (blk_cell BK151.out 3).trans rfl, (blk_cell BK151.out 4).trans rfl, (blk_cell BK151.out 5).trans rfl, (blk_cell BK151.out 6).trans rfl⟩ (fun hHeld => ?_)
  clear hK K
  refine norm_ (a' := ?_) ?_ ?_
  rotate_left
  · show Act.put _ (some 32) _ = _
    simp only [Act.put, List.setIfInBounds_toArray, List.set_cons_zero, List.set_cons_succ, i64_w, i32_w]
    rfl
  refine pure_ (i := 12) (N := some 37) (v := ?_) (a' := ?_) #[true, true, true, true, true, true, true, true, true, true, true, true, true, false, false] rfl rfl (any_of HT_.out (by kernel_rfl)) (fun _ _ _ h => h) (Or.inl ⟨by rfl, ?_⟩) ?_ ?_
  rotate_left
  · intro w'
    go_simp
    with_reducible rfl
  rotate_left
  · simp only [Act.put, List.setIfInBounds_toArray, List.set_cons_zero, List.set_cons_succ, i64_w, i32_w]
    rfl
  refine pure_ (i := 13) (N := some 38) (v := ?_) (a' := ?_) #[true, true, true, true, true, true, true, true, true, true, true, true, true, true, false] rfl rfl (any_of HT_.out (by kernel_rfl)) (fun _ _ _ h => h) (Or.inl ⟨by rfl, ?_⟩) ?_ ?_
  rotate_left
  · intro w'
    go_simp
    with_reducible rfl
  rotate_left
  · simp only [Act.put, List.setIfInBounds_toArray, List.set_cons_zero, List.set_cons_succ, i64_w, i32_w]
    rfl
  refine last_ (i := 14) (N := none) #[true, true, true, true, true, true, true, true, true, true, true, true, true, true, true] rfl rfl (one_of HT_.out (by kernel_rfl)) (by decide) (fun K hK => ?_)
  have hs26 : w25.cell? ⟨gb151, 2, none⟩ = some (.int .i64 0) := (blk_cell BK151.out 2).trans rfl
  have hs27 : w25.cell? ⟨gb151, 3, none⟩ = some (.int .u64 0) := (blk_cell BK151.out 3).trans rfl
  have hfs26 := blk_frozen BK151.out 2
  have hfs27 := blk_frozen BK151.out 3
  with_reducible refine skip_ (w1 := ?_) ?ax1 ?ax2 ?_ ?_
  case ax1 => kernel_rfl
  case ax2 => kernel_rfl
  rotate_left
  · go_simp
    rfl
  refine hK.out _ _ ?_
  clear hK K
  refine done_ (done_of HT_.out (by kernel_rfl)) ?_
  have hnb28 := NB147_148.out
  have hnc28 := NB148_147.out
  have hnb29 := NB147_149.out
  have hnc29 := NB149_147.out
  obtain ⟨hcz31_0, hcz31_1, hcz31_2⟩ := Cells.c3 BK147.out
  obtain ⟨hfz31_0, hfz31_1, hfz31_2⟩ := Cells.z3 BK147.out
  try go_wp2
  go_loopg [42] k (fun kq v42 w' => ∃ (x42_1 : Int) (x152006_1 : List Int) (u152006 : Value), v42 = .int .i64 x42_1 ∧ Aside0 (psephoslaw05_Make.l0 kq (l0_0.length : Int) x42_1 a1_0 a1_1 a1_2 a1_3 a1_4 a1_5 l1_6 t150 (Int.tmod a1_1 8) t153 (Int.tmod a1_3 8) t152 (Int.tmod a1_5 8) x152006_1 = some (r1, r2, r3, r4, r5, r6, r7)) ∧ Aside0 (kq ≤ k) ∧ Aside0 (Kd.R (Kd.int .i64) 3 w' w.heap.size (fun _ => True) u152006 x152006_1) ∧ Aside0 (w'.heap[gb147]? = some (.cells #[(.slice A0_0 l0_0.length c0_0), .int .i64 a0_1, .int .i64 a0_2] 24 (0, 0))) ∧ Aside0 (w'.heap[gb148]? = some (.cells #[.int .i64 a1_0, .int .u64 a1_1, .int .i64 a1_2, .int .u64 a1_3, .int .i64 a1_4, .int .u64 a1_5, (.slice A1_6 l1_6.length c1_6)] 43 (0, 0))) ∧ Aside0 (w'.heap[gb149]? = some (.cells #[.int .i64 0, .int .u64 0, .int .i64 0, .int .u64 0, .int .i64 0, .int .u64 0, (.slice none 0 0)] 43 (0, 0))) ∧ Aside0 (w'.heap[gb151]? = some (.cells #[.int .i64 t150, .int .u64 (Int.tmod a1_1 8), .int .i64 t153, .int .u64 (Int.tmod a1_3 8), .int .i64 t152, .int .u64 (Int.tmod a1_5 8), u152006] 43 (0, 0))) ∧ Aside0 (Below w.heap.size w w'))
  case atStart => exact ⟨(0), (([] : List Int)), (.slice none 0 0), (by first | rfl | (simp; done) | (simp [*]; done)), H', ⟨Nat.le_refl _⟩, ⟨by first | exact Kd.R_nil _ _ _ _ _ | exact Kd.N_nil _ _ _ _ _ | exact Kd.V_nil _ _ _ _ _ | exact Kd.Q_nil _ _ _ _ _ | exact Kd.S_nil _ _ _ _ _⟩, ⟨by (with_reducible repeat (first | refine blk_drewN ?_ _ | refine blk_drew ?_ | refine blk_alloc ?_ _)); refine blk_far ?_ NB147_151.out _; (with_reducible repeat (first | refine blk_drewN ?_ _ | refine blk_drew ?_ | refine blk_alloc ?_ _)); refine blk_far ?_ NB147_151.out _; (with_reducible repeat (first | refine blk_drewN ?_ _ | refine blk_drew ?_ | refine blk_alloc ?_ _)); exact BK147.out⟩, ⟨by (with_reducible repeat (first | refine blk_drewN ?_ _ | refine blk_drew ?_ | refine blk_alloc ?_ _)); refine blk_far ?_ NB148_151.out _; (with_reducible repeat (first | refine blk_drewN ?_ _ | refine blk_drew ?_ | refine blk_alloc ?_ _)); refine blk_far ?_ NB148_151.out _; (with_reducible repeat (first | refine blk_drewN ?_ _ | refine blk_drew ?_ | refine blk_alloc ?_ _)); exact BK148.out⟩, ⟨by (with_reducible repeat (first | refine blk_drewN ?_ _ | refine blk_drew ?_ | refine blk_alloc ?_ _)); refine blk_far ?_ NB149_151.out _; (with_reducible repeat (first | refine blk_drewN ?_ _ | refine blk_drew ?_ | refine blk_alloc ?_ _)); refine blk_far ?_ NB149_151.out _; (with_reducible repeat (first | refine blk_drewN ?_ _ | refine blk_drew ?_ | refine blk_alloc ?_ _)); exact BK149.out⟩, ⟨by (with_reducible repeat (first | refine blk_drewN ?_ _ | refine blk_drew ?_ | refine blk_alloc ?_ _)); refine blk_put (cs := #[.int .i64 t150, .int .u64 (Int.tmod a1_1 8), .int .i64 t153, .int .u64 0, .int .i64 t152, .int .u64 (Int.tmod a1_5 8), .slice none 0 0]) ?_ 3 _ rfl; (with_reducible repeat (first | refine blk_drewN ?_ _ | refine blk_drew ?_ | refine blk_alloc ?_ _)); refine blk_put (cs := #[.int .i64 t150, .int .u64 (Int.tmod a1_1 8), .int .i64 0, .int .u64 0, .int .i64 t152, .int .u64 (Int.tmod a1_5 8), .slice none 0 0]) ?_ 2 _ rfl; (with_reducible repeat (first | refine blk_drewN ?_ _ | refine blk_drew ?_ | refine blk_alloc ?_ _)); exact BK151.out⟩, ⟨by repeat (first | (with_reducible first | exact HB.out | apply below_alloc | apply pw_below_drewN | apply below_drew1 | refine below_set ?_ GE147.out | refine below_set ?_ GE148.out | refine below_set ?_ GE149.out | refine below_set ?_ GE151.out) | exact HB.out)⟩⟩
  case round =>
    clear H'
    try clear c1
    try clear c2
    try clear p2
    try clear c3
    try clear p6
    try clear c28
    try clear c29
    try clear c30
    try clear hcz31_0
    try clear hcz31_1
    try clear hcz31_2
    try clear hfz31_0
    try clear hfz31_1
    try clear hfz31_2
    obtain ⟨x42_1, x152006_1, u152006, rfl, HA, HK1, HO_152006, BK147, BK148, BK149, BK151, HB⟩ := hrel
    cases gk with
    | zero => exact absurd HA.out (by simp [psephoslaw05_Make.l0])
    | succ k1 =>
      have H := HA.out
      clear HA
      simp only [psephoslaw05_Make.l0] at H
      by_cases c32 : x42_1 < (l0_0.length : Int)
      · rw [if_pos c32] at H
        have c32b0 : decide (x42_1 < (l0_0.length : Int)) = true := decide_eq_true c32
        clear c32
        replace H := Option.bind_eq_some_iff.mp H
        obtain ⟨t154, A330, H⟩ := H
        replace H : (if t154 = true then (if x152006_1.length < 17592186044416 then (psephoslaw05_Make.l0 k1 (l0_0.length : Int) (wrap64 (x42_1 + 1)) a1_0 a1_1 a1_2 a1_3 a1_4 a1_5 l1_6 t150 (Int.tmod a1_1 8) t153 (Int.tmod a1_3 8) t152 (Int.tmod a1_5 8) (x152006_1 ++ [x42_1])) else (none)) else (if x42_1 = 0 then (if (l1_6.length : Int) = 0 then (if x152006_1.length < 17592186044416 then (psephoslaw05_Make.l0 k1 (l0_0.length : Int) (wrap64 (x42_1 + 1)) a1_0 a1_1 a1_2 a1_3 a1_4 a1_5 l1_6 t150 (Int.tmod a1_1 8) t153 (Int.tmod a1_3 8) t152 (Int.tmod a1_5 8) (x152006_1 ++ [x42_1])) else (none)) else (psephoslaw05_Make.l0 k1 (l0_0.length : Int) (wrap64 (x42_1 + 1)) a1_0 a1_1 a1_2 a1_3 a1_4 a1_5 l1_6 t150 (Int.tmod a1_1 8) t153 (Int.tmod a1_3 8) t152 (Int.tmod a1_5 8) x152006_1)) else (psephoslaw05_Make.l0 k1 (l0_0.length : Int) (wrap64 (x42_1 + 1)) a1_0 a1_1 a1_2 a1_3 a1_4 a1_5 l1_6 t150 (Int.tmod a1_1 8) t153 (Int.tmod a1_3 8) t152 (Int.tmod a1_5 8) x152006_1))) = some (r1, r2, r3, r4, r5, r6, r7) := H
        have A33 := Aside0.mk A330
        clear A330
        by_cases c34 : t154 = true
        · subst c34
          have H1 : (if x152006_1.length < 17592186044416 then (psephoslaw05_Make.l0 k1 (l0_0.length : Int) (wrap64 (x42_1 + 1)) a1_0 a1_1 a1_2 a1_3 a1_4 a1_5 l1_6 t150 (Int.tmod a1_1 8) t153 (Int.tmod a1_3 8) t152 (Int.tmod a1_5 8) (x152006_1 ++ [x42_1])) else (none)) = some (r1, r2, r3, r4, r5, r6, r7) := by rw [if_pos rfl] at H; exact H
          clear H
          have H := H1
          clear H1
          by_cases c35 : x152006_1.length < 17592186044416
          · rw [if_pos c35] at H
            have LMc35 := Aside0.mk c35
            clear c35
            obtain ⟨y155, hy155⟩ : ∃ y_ : List Int, y_ = (x152006_1 ++ [x42_1]) := ⟨_, rfl⟩
            replace H : (psephoslaw05_Make.l0 k1 (l0_0.length : Int) (wrap64 (x42_1 + 1)) a1_0 a1_1 a1_2 a1_3 a1_4 a1_5 l1_6 t150 (Int.tmod a1_1 8) t153 (Int.tmod a1_3 8) t152 (Int.tmod a1_5 8) y155) = some (r1, r2, r3, r4, r5, r6, r7) := by first | (rw [hy155]; with_reducible exact H) | (have H2_ := (Option.bind_some _ _).symm.trans H; rw [hy155]; with_reducible exact H2_) | (have H2_ := (Option.bind_some _ _).symm.trans H; with_reducible exact H2_) | with_reducible exact H | (rw [hy155]; exact H) | exact H
            have Ny155 := Aside0.mk hy155
            clear hy155
            have H' := Aside0.mk H
            clear H
            have hnb37 := NB148_149.out
            have hnc37 := NB149_148.out
            obtain ⟨hcz39_0, hcz39_1, hcz39_2, hcz39_3, hcz39_4, hcz39_5, hcz39_6⟩ := Cells.c7 BK148.out
            obtain ⟨hfz39_0, hfz39_1, hfz39_2, hfz39_3, hfz39_4, hfz39_5, hfz39_6⟩ := Cells.z7 BK148.out
            go_wp2_with (first | ((with_reducible refine gate_callee (f := 34) rfl ?_); refine goesL_ (some 48) rfl rfl Try.func34 (by kernel_rfl) rfl #[.slice A1_6 l1_6.length c1_6, .int .i64 x42_1] rfl (by (try simp only [List.map_toArray, List.map_cons, List.map_nil]); first | done | rfl | (simp only [List.length_drop, List.length_take]; rfl)) ?_; (with_reducible refine (psephoslaw05_has.calls k1 _ _ l1_6 x42_1 true _ ?side1 ?side2 A33.out).mono ?_); (case side1 => repeat (first | exact (Kd.C_below HR1_6.out HB.out) | (with_reducible refine Kd.C_alloc ?_ _) | (with_reducible refine Kd.C_drewN ?_ _) | (with_reducible refine Kd.C_drew ?_))); (case side2 => exact HC1_6.out); rintro e w' ⟨rfl, ⟨nd, rfl⟩⟩; refine ⟨_, rfl, ?_⟩; (try (rw [drewN_self wr]; generalize hq_ : World.drewN wr _ = wr; have n0_ : Aside0 (Kd.R (Kd.int .i64) 3 wr w.heap.size (fun _ => True) u152006 x152006_1) := ⟨by rw [← hq_]; exact (by (with_reducible repeat (first | apply Kd.R_alloc | apply Kd.R_drewN | apply Kd.R_drew)); exact HO_152006.out)⟩; have n1_ : Aside0 (wr.heap[gb147]? = some (.cells #[.slice A0_0 l0_0.length c0_0, .int .i64 a0_1, .int .i64 a0_2] 24 (0, 0))) := ⟨by rw [← hq_]; exact (by (with_reducible repeat (first | refine blk_drewN ?_ _ | refine blk_drew ?_ | refine blk_alloc ?_ _)); exact BK147.out)⟩; have n2_ : Aside0 (wr.heap[gb148]? = some (.cells #[.int .i64 a1_0, .int .u64 a1_1, .int .i64 a1_2, .int .u64 a1_3, .int .i64 a1_4, .int .u64 a1_5, .slice A1_6 l1_6.length c1_6] 43 (0, 0))) := ⟨by rw [← hq_]; exact (by (with_reducible repeat (first | refine blk_drewN ?_ _ | refine blk_drew ?_ | refine blk_alloc ?_ _)); exact BK148.out)⟩; have n3_ : Aside0 (wr.heap[gb149]? = some (.cells #[.int .i64 0, .int .u64 0, .int .i64 0, .int .u64 0, .int .i64 0, .int .u64 0, .slice none 0 0] 43 (0, 0))) := ⟨by rw [← hq_]; exact (by (with_reducible repeat (first | refine blk_drewN ?_ _ | refine blk_drew ?_ | refine blk_alloc ?_ _)); exact BK149.out)⟩; have n4_ : Aside0 (wr.heap[gb151]? = some (.cells #[.int .i64 t150, .int .u64 (Int.tmod a1_1 8), .int .i64 t153, .int .u64 (Int.tmod a1_3 8), .int .i64 t152, .int .u64 (Int.tmod a1_5 8), u152006] 43 (0, 0))) := ⟨by rw [← hq_]; exact (by (with_reducible repeat (first | refine blk_drewN ?_ _ | refine blk_drew ?_ | refine blk_alloc ?_ _)); exact BK151.out)⟩; have n5_ : Aside0 (Below w.heap.size w wr) := ⟨by rw [← hq_]; exact (by repeat (first | (with_reducible first | exact HB.out | apply below_alloc | apply pw_below_drewN | apply below_drew1 | refine below_set ?_ GE147.out | refine below_set ?_ GE148.out | refine below_set ?_ GE149.out | refine below_set ?_ GE151.out) | exact HB.out))⟩; clear HO_152006 BK147 BK148 BK149 BK151 HB hq_; have HO_152006 := n0_; have BK147 := n1_; have BK148 := n2_; have BK149 := n3_; have BK151 := n4_; have HB := n5_; clear n0_ n1_ n2_ n3_ n4_ n5_)); have hcy_6 : wr.cell? ⟨gb148, 6, none⟩ = some (.slice A1_6 l1_6.length c1_6) := (blk_cell BK148.out 6).trans rfl; have hnb40 := NB151_147.out; have hnc40 := NB147_151.out; have hnb41 := NB151_149.out; have hnc41 := NB149_151.out; obtain ⟨hcz42_0, hcz42_1, hcz42_2, hcz42_3, hcz42_4, hcz42_5, hcz42_6⟩ := Cells.c7 BK151.out; obtain ⟨hfz42_0, hfz42_1, hfz42_2, hfz42_3, hfz42_4, hfz42_5, hfz42_6⟩ := Cells.z7 BK151.out) | ((with_reducible refine gate_builtin (b := .append) (xs := #[.tmp 60, .tmp 62]) rfl ?_); (try (refine gate_guard (by rfl) ?_; dsimp only)); at_builtin; refine Kd.R_append (Kd.int .i64) (w0 := w) w.heap.size rfl (.tmp 60) (.tmp 62) 41 3 (.int .i64 0) 8 rfl Try.underlying41 info3 rfl (by decide) (by omega) u152006 x152006_1 x42_1 [.int .i64 x42_1] (fun _ => True) (fun _ => False) rfl rfl ?aP (fun _ hk => hk.elim) ?aF ?aO ?aB ?aS ?aL ?_; (case aP => exact rfl); (case aB => exact (by repeat (first | (with_reducible first | exact HB.out | apply below_alloc | apply pw_below_drewN | apply below_drew1 | refine below_set ?_ GE147.out | refine below_set ?_ GE148.out | refine below_set ?_ GE149.out | refine below_set ?_ GE151.out) | exact HB.out))); (case aF => exact (fun _ _ => trivial)); (case aO => exact (by (with_reducible repeat (first | apply Kd.R_alloc | apply Kd.R_drewN | apply Kd.R_drew)); exact HO_152006.out)); (case aS => exact (below_size (by repeat (first | (with_reducible first | exact HB.out | apply below_alloc | apply pw_below_drewN | apply below_drew1 | refine below_set ?_ GE147.out | refine below_set ?_ GE148.out | refine below_set ?_ GE149.out | refine below_set ?_ GE151.out) | exact HB.out)))); (case aL => have := LMc35.out; omega); intro v156 w43 ho hb hg hat; rw [← Ny155.out] at ho; have n0_ := Aside0.mk (blk_grown (g := gb147) (o := .cells #[.slice A0_0 l0_0.length c0_0, .int .i64 a0_1, .int .i64 a0_2] 24 (0, 0)) (by (with_reducible repeat (first | refine blk_drewN ?_ _ | refine blk_drew ?_ | refine blk_alloc ?_ _)); exact BK147.out) hg (Kd.R_ne HO_152006.out BK147.out (by decide))); have n1_ := Aside0.mk (blk_grown (g := gb148) (o := .cells #[.int .i64 a1_0, .int .u64 a1_1, .int .i64 a1_2, .int .u64 a1_3, .int .i64 a1_4, .int .u64 a1_5, .slice A1_6 l1_6.length c1_6] 43 (0, 0)) (by (with_reducible repeat (first | refine blk_drewN ?_ _ | refine blk_drew ?_ | refine blk_alloc ?_ _)); exact BK148.out) hg (Kd.R_ne HO_152006.out BK148.out (by decide))); have n2_ := Aside0.mk (blk_grown (g := gb149) (o := .cells #[.int .i64 0, .int .u64 0, .int .i64 0, .int .u64 0, .int .i64 0, .int .u64 0, .slice none 0 0] 43 (0, 0)) (by (with_reducible repeat (first | refine blk_drewN ?_ _ | refine blk_drew ?_ | refine blk_alloc ?_ _)); exact BK149.out) hg (Kd.R_ne HO_152006.out BK149.out (by decide))); have n3_ := Aside0.mk (blk_grown (g := gb151) (o := .cells #[.int .i64 t150, .int .u64 (Int.tmod a1_1 8), .int .i64 t153, .int .u64 (Int.tmod a1_3 8), .int .i64 t152, .int .u64 (Int.tmod a1_5 8), u152006] 43 (0, 0)) (by (with_reducible repeat (first | refine blk_drewN ?_ _ | refine blk_drew ?_ | refine blk_alloc ?_ _)); exact BK151.out) hg (Kd.R_ne HO_152006.out BK151.out (by decide))); have n4_ := Aside0.mk (hb); have n5_ := Aside0.mk (ho); clear BK147; clear BK148; clear BK149; clear BK151; clear HB; clear HO_152006; have BK147 := n0_; have BK148 := n1_; have BK149 := n2_; have BK151 := n3_; have HB := n4_; have HO157 := n5_; clear n0_ n1_ n2_ n3_ n4_ n5_; clear ho hb hg hat; obtain ⟨Ao44, co44, eo44⟩ := Kd.R_slice HO157.out; subst eo44; obtain ⟨hcz45_0, hcz45_1, hcz45_2, hcz45_3, hcz45_4, hcz45_5, hcz45_6⟩ := Cells.c7 BK151.out; obtain ⟨hfz45_0, hfz45_1, hfz45_2, hfz45_3, hfz45_4, hfz45_5, hfz45_6⟩ := Cells.z7 BK151.out))
            go_roundg k1
            case measure => have := HK1.out; omega
            case rel => exact ⟨(wrap64 (x42_1 + 1)), (y155), (.slice Ao44 y155.length co44), (by first | rfl | (simp; done) | (simp [*]; done)), H', ⟨by have := HK1.out; omega⟩, ⟨by (with_reducible repeat (first | apply Kd.R_alloc | apply Kd.R_drewN | apply Kd.R_drew)); exact Kd.R_mono (Kd.R_far (p := ⟨gb151, 6, none⟩) (Kd.R_types HO157.out BK151.out (by decide)) (fun _ hk => hk.2) (.slice Ao44 y155.length co44)) (fun _ hk => trivial)⟩, ⟨by (with_reducible repeat (first | refine blk_drewN ?_ _ | refine blk_drew ?_ | refine blk_alloc ?_ _)); refine blk_far ?_ NB147_151.out _; (with_reducible repeat (first | refine blk_drewN ?_ _ | refine blk_drew ?_ | refine blk_alloc ?_ _)); exact BK147.out⟩, ⟨by (with_reducible repeat (first | refine blk_drewN ?_ _ | refine blk_drew ?_ | refine blk_alloc ?_ _)); refine blk_far ?_ NB148_151.out _; (with_reducible repeat (first | refine blk_drewN ?_ _ | refine blk_drew ?_ | refine blk_alloc ?_ _)); exact BK148.out⟩, ⟨by (with_reducible repeat (first | refine blk_drewN ?_ _ | refine blk_drew ?_ | refine blk_alloc ?_ _)); refine blk_far ?_ NB149_151.out _; (with_reducible repeat (first | refine blk_drewN ?_ _ | refine blk_drew ?_ | refine blk_alloc ?_ _)); exact BK149.out⟩, ⟨by (with_reducible repeat (first | refine blk_drewN ?_ _ | refine blk_drew ?_ | refine blk_alloc ?_ _)); refine blk_put (cs := #[.int .i64 t150, .int .u64 (Int.tmod a1_1 8), .int .i64 t153, .int .u64 (Int.tmod a1_3 8), .int .i64 t152, .int .u64 (Int.tmod a1_5 8), u152006]) ?_ 6 _ rfl; (with_reducible repeat (first | refine blk_drewN ?_ _ | refine blk_drew ?_ | refine blk_alloc ?_ _)); exact BK151.out⟩, ⟨by repeat (first | (with_reducible first | exact HB.out | apply below_alloc | apply pw_below_drewN | apply below_drew1 | refine below_set ?_ GE147.out | refine below_set ?_ GE148.out | refine below_set ?_ GE149.out | refine below_set ?_ GE151.out) | exact HB.out)⟩⟩
          · rw [if_neg c35] at H
            exact absurd H (by simp)
        · replace c34 := Bool.eq_false_iff.mpr c34
          subst c34
          have H1 : (if x42_1 = 0 then (if (l1_6.length : Int) = 0 then (if x152006_1.length < 17592186044416 then (psephoslaw05_Make.l0 k1 (l0_0.length : Int) (wrap64 (x42_1 + 1)) a1_0 a1_1 a1_2 a1_3 a1_4 a1_5 l1_6 t150 (Int.tmod a1_1 8) t153 (Int.tmod a1_3 8) t152 (Int.tmod a1_5 8) (x152006_1 ++ [x42_1])) else (none)) else (psephoslaw05_Make.l0 k1 (l0_0.length : Int) (wrap64 (x42_1 + 1)) a1_0 a1_1 a1_2 a1_3 a1_4 a1_5 l1_6 t150 (Int.tmod a1_1 8) t153 (Int.tmod a1_3 8) t152 (Int.tmod a1_5 8) x152006_1)) else (psephoslaw05_Make.l0 k1 (l0_0.length : Int) (wrap64 (x42_1 + 1)) a1_0 a1_1 a1_2 a1_3 a1_4 a1_5 l1_6 t150 (Int.tmod a1_1 8) t153 (Int.tmod a1_3 8) t152 (Int.tmod a1_5 8) x152006_1)) = some (r1, r2, r3, r4, r5, r6, r7) := by rw [if_neg (show ¬ (false = true) by decide)] at H; exact H
          clear H
          have H := H1
          clear H1
          by_cases c46 : x42_1 = 0
          · rw [if_pos c46] at H
            have c46b0 : (x42_1 == 0) = true := beq_iff_eq.mpr c46
            have c46b1 : (x42_1 != 0) = false := bne_eq_false_iff_eq.mpr c46
            clear c46
            by_cases c47 : (l1_6.length : Int) = 0
            · rw [if_pos c47] at H
              have c47b0 : ((l1_6.length : Int) == 0) = true := beq_iff_eq.mpr c47
              have c47b1 : ((l1_6.length : Int) != 0) = false := bne_eq_false_iff_eq.mpr c47
              clear c47
              by_cases c48 : x152006_1.length < 17592186044416
              · rw [if_pos c48] at H
                have LMc48 := Aside0.mk c48
                clear c48
                obtain ⟨y158, hy158⟩ : ∃ y_ : List Int, y_ = (x152006_1 ++ [x42_1]) := ⟨_, rfl⟩
                replace H : (psephoslaw05_Make.l0 k1 (l0_0.length : Int) (wrap64 (x42_1 + 1)) a1_0 a1_1 a1_2 a1_3 a1_4 a1_5 l1_6 t150 (Int.tmod a1_1 8) t153 (Int.tmod a1_3 8) t152 (Int.tmod a1_5 8) y158) = some (r1, r2, r3, r4, r5, r6, r7) := by first | (rw [hy158]; with_reducible exact H) | (have H2_ := (Option.bind_some _ _).symm.trans H; rw [hy158]; with_reducible exact H2_) | (have H2_ := (Option.bind_some _ _).symm.trans H; with_reducible exact H2_) | with_reducible exact H | (rw [hy158]; exact H) | exact H
                have Ny158 := Aside0.mk hy158
                clear hy158
                have H' := Aside0.mk H
                clear H
                have hnb50 := NB148_149.out
                have hnc50 := NB149_148.out
                obtain ⟨hcz52_0, hcz52_1, hcz52_2, hcz52_3, hcz52_4, hcz52_5, hcz52_6⟩ := Cells.c7 BK148.out
                obtain ⟨hfz52_0, hfz52_1, hfz52_2, hfz52_3, hfz52_4, hfz52_5, hfz52_6⟩ := Cells.z7 BK148.out
                go_wp2_with (first | ((with_reducible refine gate_callee (f := 34) rfl ?_); refine goesL_ (some 48) rfl rfl Try.func34 (by kernel_rfl) rfl #[.slice A1_6 l1_6.length c1_6, .int .i64 x42_1] rfl (by (try simp only [List.map_toArray, List.map_cons, List.map_nil]); first | done | rfl | (simp only [List.length_drop, List.length_take]; rfl)) ?_; (with_reducible refine (psephoslaw05_has.calls k1 _ _ l1_6 x42_1 false _ ?side1 ?side2 A33.out).mono ?_); (case side1 => repeat (first | exact (Kd.C_below HR1_6.out HB.out) | (with_reducible refine Kd.C_alloc ?_ _) | (with_reducible refine Kd.C_drewN ?_ _) | (with_reducible refine Kd.C_drew ?_))); (case side2 => exact HC1_6.out); rintro e w' ⟨rfl, ⟨nd, rfl⟩⟩; refine ⟨_, rfl, ?_⟩; (try (rw [drewN_self wr]; generalize hq_ : World.drewN wr _ = wr; have n0_ : Aside0 (Kd.R (Kd.int .i64) 3 wr w.heap.size (fun _ => True) u152006 x152006_1) := ⟨by rw [← hq_]; exact (by (with_reducible repeat (first | apply Kd.R_alloc | apply Kd.R_drewN | apply Kd.R_drew)); exact HO_152006.out)⟩; have n1_ : Aside0 (wr.heap[gb147]? = some (.cells #[.slice A0_0 l0_0.length c0_0, .int .i64 a0_1, .int .i64 a0_2] 24 (0, 0))) := ⟨by rw [← hq_]; exact (by (with_reducible repeat (first | refine blk_drewN ?_ _ | refine blk_drew ?_ | refine blk_alloc ?_ _)); exact BK147.out)⟩; have n2_ : Aside0 (wr.heap[gb148]? = some (.cells #[.int .i64 a1_0, .int .u64 a1_1, .int .i64 a1_2, .int .u64 a1_3, .int .i64 a1_4, .int .u64 a1_5, .slice A1_6 l1_6.length c1_6] 43 (0, 0))) := ⟨by rw [← hq_]; exact (by (with_reducible repeat (first | refine blk_drewN ?_ _ | refine blk_drew ?_ | refine blk_alloc ?_ _)); exact BK148.out)⟩; have n3_ : Aside0 (wr.heap[gb149]? = some (.cells #[.int .i64 0, .int .u64 0, .int .i64 0, .int .u64 0, .int .i64 0, .int .u64 0, .slice none 0 0] 43 (0, 0))) := ⟨by rw [← hq_]; exact (by (with_reducible repeat (first | refine blk_drewN ?_ _ | refine blk_drew ?_ | refine blk_alloc ?_ _)); exact BK149.out)⟩; have n4_ : Aside0 (wr.heap[gb151]? = some (.cells #[.int .i64 t150, .int .u64 (Int.tmod a1_1 8), .int .i64 t153, .int .u64 (Int.tmod a1_3 8), .int .i64 t152, .int .u64 (Int.tmod a1_5 8), u152006] 43 (0, 0))) := ⟨by rw [← hq_]; exact (by (with_reducible repeat (first | refine blk_drewN ?_ _ | refine blk_drew ?_ | refine blk_alloc ?_ _)); exact BK151.out)⟩; have n5_ : Aside0 (Below w.heap.size w wr) := ⟨by rw [← hq_]; exact (by repeat (first | (with_reducible first | exact HB.out | apply below_alloc | apply pw_below_drewN | apply below_drew1 | refine below_set ?_ GE147.out | refine below_set ?_ GE148.out | refine below_set ?_ GE149.out | refine below_set ?_ GE151.out) | exact HB.out))⟩; clear HO_152006 BK147 BK148 BK149 BK151 HB hq_; have HO_152006 := n0_; have BK147 := n1_; have BK148 := n2_; have BK149 := n3_; have BK151 := n4_; have HB := n5_; clear n0_ n1_ n2_ n3_ n4_ n5_)); have hcy_6 : wr.cell? ⟨gb148, 6, none⟩ = some (.slice A1_6 l1_6.length c1_6) := (blk_cell BK148.out 6).trans rfl; have hnb53 := NB151_147.out; have hnc53 := NB147_151.out; have hnb54 := NB151_149.out; have hnc54 := NB149_151.out; obtain ⟨hcz55_0, hcz55_1, hcz55_2, hcz55_3, hcz55_4, hcz55_5, hcz55_6⟩ := Cells.c7 BK151.out; obtain ⟨hfz55_0, hfz55_1, hfz55_2, hfz55_3, hfz55_4, hfz55_5, hfz55_6⟩ := Cells.z7 BK151.out) | ((with_reducible refine gate_builtin (b := .append) (xs := #[.tmp 60, .tmp 62]) rfl ?_); (try (refine gate_guard (by rfl) ?_; dsimp only)); at_builtin; refine Kd.R_append (Kd.int .i64) (w0 := w) w.heap.size rfl (.tmp 60) (.tmp 62) 41 3 (.int .i64 0) 8 rfl Try.underlying41 info3 rfl (by decide) (by omega) u152006 x152006_1 x42_1 [.int .i64 x42_1] (fun _ => True) (fun _ => False) rfl rfl ?aP (fun _ hk => hk.elim) ?aF ?aO ?aB ?aS ?aL ?_; (case aP => exact rfl); (case aB => exact (by repeat (first | (with_reducible first | exact HB.out | apply below_alloc | apply pw_below_drewN | apply below_drew1 | refine below_set ?_ GE147.out | refine below_set ?_ GE148.out | refine below_set ?_ GE149.out | refine below_set ?_ GE151.out) | exact HB.out))); (case aF => exact (fun _ _ => trivial)); (case aO => exact (by (with_reducible repeat (first | apply Kd.R_alloc | apply Kd.R_drewN | apply Kd.R_drew)); exact HO_152006.out)); (case aS => exact (below_size (by repeat (first | (with_reducible first | exact HB.out | apply below_alloc | apply pw_below_drewN | apply below_drew1 | refine below_set ?_ GE147.out | refine below_set ?_ GE148.out | refine below_set ?_ GE149.out | refine below_set ?_ GE151.out) | exact HB.out)))); (case aL => have := LMc48.out; omega); intro v159 w56 ho hb hg hat; rw [← Ny158.out] at ho; have n0_ := Aside0.mk (blk_grown (g := gb147) (o := .cells #[.slice A0_0 l0_0.length c0_0, .int .i64 a0_1, .int .i64 a0_2] 24 (0, 0)) (by (with_reducible repeat (first | refine blk_drewN ?_ _ | refine blk_drew ?_ | refine blk_alloc ?_ _)); exact BK147.out) hg (Kd.R_ne HO_152006.out BK147.out (by decide))); have n1_ := Aside0.mk (blk_grown (g := gb148) (o := .cells #[.int .i64 a1_0, .int .u64 a1_1, .int .i64 a1_2, .int .u64 a1_3, .int .i64 a1_4, .int .u64 a1_5, .slice A1_6 l1_6.length c1_6] 43 (0, 0)) (by (with_reducible repeat (first | refine blk_drewN ?_ _ | refine blk_drew ?_ | refine blk_alloc ?_ _)); exact BK148.out) hg (Kd.R_ne HO_152006.out BK148.out (by decide))); have n2_ := Aside0.mk (blk_grown (g := gb149) (o := .cells #[.int .i64 0, .int .u64 0, .int .i64 0, .int .u64 0, .int .i64 0, .int .u64 0, .slice none 0 0] 43 (0, 0)) (by (with_reducible repeat (first | refine blk_drewN ?_ _ | refine blk_drew ?_ | refine blk_alloc ?_ _)); exact BK149.out) hg (Kd.R_ne HO_152006.out BK149.out (by decide))); have n3_ := Aside0.mk (blk_grown (g := gb151) (o := .cells #[.int .i64 t150, .int .u64 (Int.tmod a1_1 8), .int .i64 t153, .int .u64 (Int.tmod a1_3 8), .int .i64 t152, .int .u64 (Int.tmod a1_5 8), u152006] 43 (0, 0)) (by (with_reducible repeat (first | refine blk_drewN ?_ _ | refine blk_drew ?_ | refine blk_alloc ?_ _)); exact BK151.out) hg (Kd.R_ne HO_152006.out BK151.out (by decide))); have n4_ := Aside0.mk (hb); have n5_ := Aside0.mk (ho); clear BK147; clear BK148; clear BK149; clear BK151; clear HB; clear HO_152006; have BK147 := n0_; have BK148 := n1_; have BK149 := n2_; have BK151 := n3_; have HB := n4_; have HO160 := n5_; clear n0_ n1_ n2_ n3_ n4_ n5_; clear ho hb hg hat; obtain ⟨Ao57, co57, eo57⟩ := Kd.R_slice HO160.out; subst eo57; obtain ⟨hcz58_0, hcz58_1, hcz58_2, hcz58_3, hcz58_4, hcz58_5, hcz58_6⟩ := Cells.c7 BK151.out; obtain ⟨hfz58_0, hfz58_1, hfz58_2, hfz58_3, hfz58_4, hfz58_5, hfz58_6⟩ := Cells.z7 BK151.out))
                go_roundg k1
                case measure => have := HK1.out; omega
                case rel => exact ⟨(wrap64 (x42_1 + 1)), (y158), (.slice Ao57 y158.length co57), (by first | rfl | (simp; done) | (simp [*]; done)), H', ⟨by have := HK1.out; omega⟩, ⟨by (with_reducible repeat (first | apply Kd.R_alloc | apply Kd.R_drewN | apply Kd.R_drew)); exact Kd.R_mono (Kd.R_far (p := ⟨gb151, 6, none⟩) (Kd.R_types HO160.out BK151.out (by decide)) (fun _ hk => hk.2) (.slice Ao57 y158.length co57)) (fun _ hk => trivial)⟩, ⟨by (with_reducible repeat (first | refine blk_drewN ?_ _ | refine blk_drew ?_ | refine blk_alloc ?_ _)); refine blk_far ?_ NB147_151.out _; (with_reducible repeat (first | refine blk_drewN ?_ _ | refine blk_drew ?_ | refine blk_alloc ?_ _)); exact BK147.out⟩, ⟨by (with_reducible repeat (first | refine blk_drewN ?_ _ | refine blk_drew ?_ | refine blk_alloc ?_ _)); refine blk_far ?_ NB148_151.out _; (with_reducible repeat (first | refine blk_drewN ?_ _ | refine blk_drew ?_ | refine blk_alloc ?_ _)); exact BK148.out⟩, ⟨by (with_reducible repeat (first | refine blk_drewN ?_ _ | refine blk_drew ?_ | refine blk_alloc ?_ _)); refine blk_far ?_ NB149_151.out _; (with_reducible repeat (first | refine blk_drewN ?_ _ | refine blk_drew ?_ | refine blk_alloc ?_ _)); exact BK149.out⟩, ⟨by (with_reducible repeat (first | refine blk_drewN ?_ _ | refine blk_drew ?_ | refine blk_alloc ?_ _)); refine blk_put (cs := #[.int .i64 t150, .int .u64 (Int.tmod a1_1 8), .int .i64 t153, .int .u64 (Int.tmod a1_3 8), .int .i64 t152, .int .u64 (Int.tmod a1_5 8), u152006]) ?_ 6 _ rfl; (with_reducible repeat (first | refine blk_drewN ?_ _ | refine blk_drew ?_ | refine blk_alloc ?_ _)); exact BK151.out⟩, ⟨by repeat (first | (with_reducible first | exact HB.out | apply below_alloc | apply pw_below_drewN | apply below_drew1 | refine below_set ?_ GE147.out | refine below_set ?_ GE148.out | refine below_set ?_ GE149.out | refine below_set ?_ GE151.out) | exact HB.out)⟩⟩
              · rw [if_neg c48] at H
                exact absurd H (by simp)
            · rw [if_neg c47] at H
              have c47b0 : ((l1_6.length : Int) == 0) = false := beq_eq_false_iff_ne.mpr c47
              have c47b1 : ((l1_6.length : Int) != 0) = true := bne_iff_ne.mpr c47
              have c47b2 : ¬ (l1_6 = []) := fun h_ => c47 (by rw [h_]; rfl)
              have H' := Aside0.mk H
              clear H
              have hnb60 := NB148_149.out
              have hnc60 := NB149_148.out
              obtain ⟨hcz62_0, hcz62_1, hcz62_2, hcz62_3, hcz62_4, hcz62_5, hcz62_6⟩ := Cells.c7 BK148.out
              obtain ⟨hfz62_0, hfz62_1, hfz62_2, hfz62_3, hfz62_4, hfz62_5, hfz62_6⟩ := Cells.z7 BK148.out
              go_wp2_with (first | ((with_reducible refine gate_callee (f := 34) rfl ?_); refine goesL_ (some 48) rfl rfl Try.func34 (by kernel_rfl) rfl #[.slice A1_6 l1_6.length c1_6, .int .i64 x42_1] rfl (by (try simp only [List.map_toArray, List.map_cons, List.map_nil]); first | done | rfl | (simp only [List.length_drop, List.length_take]; rfl)) ?_; (with_reducible refine (psephoslaw05_has.calls k1 _ _ l1_6 x42_1 false _ ?side1 ?side2 A33.out).mono ?_); (case side1 => repeat (first | exact (Kd.C_below HR1_6.out HB.out) | (with_reducible refine Kd.C_alloc ?_ _) | (with_reducible refine Kd.C_drewN ?_ _) | (with_reducible refine Kd.C_drew ?_))); (case side2 => exact HC1_6.out); rintro e w' ⟨rfl, ⟨nd, rfl⟩⟩; refine ⟨_, rfl, ?_⟩))
              go_roundg k1
              case measure => have := HK1.out; omega
              case rel => exact ⟨(wrap64 (x42_1 + 1)), (x152006_1), (u152006), (by first | rfl | (simp; done) | (simp [*]; done)), H', ⟨by have := HK1.out; omega⟩, ⟨by (with_reducible repeat (first | apply Kd.R_alloc | apply Kd.R_drewN | apply Kd.R_drew)); exact HO_152006.out⟩, ⟨by (with_reducible repeat (first | refine blk_drewN ?_ _ | refine blk_drew ?_ | refine blk_alloc ?_ _)); exact BK147.out⟩, ⟨by (with_reducible repeat (first | refine blk_drewN ?_ _ | refine blk_drew ?_ | refine blk_alloc ?_ _)); exact BK148.out⟩, ⟨by (with_reducible repeat (first | refine blk_drewN ?_ _ | refine blk_drew ?_ | refine blk_alloc ?_ _)); exact BK149.out⟩, ⟨by (with_reducible repeat (first | refine blk_drewN ?_ _ | refine blk_drew ?_ | refine blk_alloc ?_ _)); exact BK151.out⟩, ⟨by repeat (first | (with_reducible first | exact HB.out | apply below_alloc | apply pw_below_drewN | apply below_drew1 | refine below_set ?_ GE147.out | refine below_set ?_ GE148.out | refine below_set ?_ GE149.out | refine below_set ?_ GE151.out) | exact HB.out)⟩⟩
          · rw [if_neg c46] at H
            have c46b0 : (x42_1 == 0) = false := beq_eq_false_iff_ne.mpr c46
            have c46b1 : (x42_1 != 0) = true := bne_iff_ne.mpr c46
            have H' := Aside0.mk H
            clear H
            have hnb64 := NB148_149.out
            have hnc64 := NB149_148.out
            obtain ⟨hcz66_0, hcz66_1, hcz66_2, hcz66_3, hcz66_4, hcz66_5, hcz66_6⟩ := Cells.c7 BK148.out
            obtain ⟨hfz66_0, hfz66_1, hfz66_2, hfz66_3, hfz66_4, hfz66_5, hfz66_6⟩ := Cells.z7 BK148.out
            go_wp2_with (first | ((with_reducible refine gate_callee (f := 34) rfl ?_); refine goesL_ (some 48) rfl rfl Try.func34 (by kernel_rfl) rfl #[.slice A1_6 l1_6.length c1_6, .int .i64 x42_1] rfl (by (try simp only [List.map_toArray, List.map_cons, List.map_nil]); first | done | rfl | (simp only [List.length_drop, List.length_take]; rfl)) ?_; (with_reducible refine (psephoslaw05_has.calls k1 _ _ l1_6 x42_1 false _ ?side1 ?side2 A33.out).mono ?_); (case side1 => repeat (first | exact (Kd.C_below HR1_6.out HB.out) | (with_reducible refine Kd.C_alloc ?_ _) | (with_reducible refine Kd.C_drewN ?_ _) | (with_reducible refine Kd.C_drew ?_))); (case side2 => exact HC1_6.out); rintro e w' ⟨rfl, ⟨nd, rfl⟩⟩; refine ⟨_, rfl, ?_⟩))
            go_roundg k1
            case measure => have := HK1.out; omega
            case rel => exact ⟨(wrap64 (x42_1 + 1)), (x152006_1), (u152006), (by first | rfl | (simp; done) | (simp [*]; done)), H', ⟨by have := HK1.out; omega⟩, ⟨by (with_reducible repeat (first | apply Kd.R_alloc | apply Kd.R_drewN | apply Kd.R_drew)); exact HO_152006.out⟩, ⟨by (with_reducible repeat (first | refine blk_drewN ?_ _ | refine blk_drew ?_ | refine blk_alloc ?_ _)); exact BK147.out⟩, ⟨by (with_reducible repeat (first | refine blk_drewN ?_ _ | refine blk_drew ?_ | refine blk_alloc ?_ _)); exact BK148.out⟩, ⟨by (with_reducible repeat (first | refine blk_drewN ?_ _ | refine blk_drew ?_ | refine blk_alloc ?_ _)); exact BK149.out⟩, ⟨by (with_reducible repeat (first | refine blk_drewN ?_ _ | refine blk_drew ?_ | refine blk_alloc ?_ _)); exact BK151.out⟩, ⟨by repeat (first | (with_reducible first | exact HB.out | apply below_alloc | apply pw_below_drewN | apply below_drew1 | refine below_set ?_ GE147.out | refine below_set ?_ GE148.out | refine below_set ?_ GE149.out | refine below_set ?_ GE151.out) | exact HB.out)⟩⟩
      · rw [if_neg c32] at H
        have c32b0 : decide (x42_1 < (l0_0.length : Int)) = false := decide_eq_false c32
        clear c32
        by_cases c67 : (x152006_1.length : Int) = 0
        · rw [if_pos c67] at H
          have c67b0 : ((x152006_1.length : Int) == 0) = true := beq_iff_eq.mpr c67
          have c67b1 : ((x152006_1.length : Int) != 0) = false := bne_eq_false_iff_eq.mpr c67
          clear c67
          obtain ⟨y161, hy161⟩ : ∃ y_ : List Int, y_ = (([0] : List Int)) := ⟨_, rfl⟩
          replace H : (some (t150, (Int.tmod a1_1 8), t153, (Int.tmod a1_3 8), t152, (Int.tmod a1_5 8), y161)) = some (r1, r2, r3, r4, r5, r6, r7) := by first | (rw [hy161]; with_reducible exact H) | (have H2_ := (Option.bind_some _ _).symm.trans H; rw [hy161]; with_reducible exact H2_) | (have H2_ := (Option.bind_some _ _).symm.trans H; with_reducible exact H2_) | with_reducible exact H | (rw [hy161]; exact H) | exact H
          have Ny161 := Aside0.mk hy161
          clear hy161
          simp only [Option.some.injEq, Prod.mk.injEq] at H
          obtain ⟨rfl, rfl, rfl, rfl, rfl, rfl, rfl⟩ := H
          obtain ⟨hcz71_0, hcz71_1, hcz71_2, hcz71_3, hcz71_4, hcz71_5, hcz71_6⟩ := Cells.c7 BK151.out
          obtain ⟨hfz71_0, hfz71_1, hfz71_2, hfz71_3, hfz71_4, hfz71_5, hfz71_6⟩ := Cells.z7 BK151.out
          obtain ⟨Ao72, co72, eo72⟩ := Kd.R_slice HO_152006.out
          subst eo72
          go_wp2_with (first | ((with_reducible refine gate_dst (N := 70) rfl ?_); (try (refine gate_guard (by rfl) ?_; dsimp only)); refine Kd.R_lit (Kd.int .i64) _ 3 ?hg (N := 70) ?hd (xs := ([0] : List Int)) (inner := [.int .i64 0]) (ok := fun _ => True) (okp := fun _ => True) ?hr ?hp (fun _ hk => hk) trivial (Below.refl _ _) (Nat.le_refl _) (by simp) ?_; (case hd => rfl); (case hg => rfl); (case hr => first | (go_simp; done) | (go_simp; rfl)); (case hp => exact (Reps.one (show Kd.M (Kd.int .i64) _ _ _ 0 [.int .i64 0] from rfl) (Reps.none _ _))); intro v162 w73 ho74 hb hg_ hnew_; clear hg_ hnew_; (first | rw [← Ny161.out] at ho74 | (simp only [Int.reduceToNat] at ho74; rw [← Ny161.out] at ho74)); have n0_ := Aside0.mk (Kd.R_elder' (by (with_reducible repeat (first | apply Kd.R_alloc | apply Kd.R_drewN | apply Kd.R_drew)); exact HO_152006.out) (Kd.R_base ho74) hb); have n1_ := Aside0.mk (Kd.R_lower (Kd.R_new' ho74 (Kd.R_lt (by (with_reducible repeat (first | apply Kd.R_alloc | apply Kd.R_drewN | apply Kd.R_drew)); exact HO_152006.out))) (below_size (by repeat (first | (with_reducible first | exact HB.out | apply below_alloc | apply pw_below_drewN | apply below_drew1 | refine below_set ?_ GE147.out | refine below_set ?_ GE148.out | refine below_set ?_ GE149.out | refine below_set ?_ GE151.out) | exact HB.out)))); have n2_ := Aside0.mk (blk_below (g := gb147) (o := .cells #[.slice A0_0 l0_0.length c0_0, .int .i64 a0_1, .int .i64 a0_2] 24 (0, 0)) (by (with_reducible repeat (first | refine blk_drewN ?_ _ | refine blk_drew ?_ | refine blk_alloc ?_ _)); exact BK147.out) hb); have n3_ := Aside0.mk (blk_below (g := gb148) (o := .cells #[.int .i64 a1_0, .int .u64 a1_1, .int .i64 a1_2, .int .u64 a1_3, .int .i64 a1_4, .int .u64 a1_5, .slice A1_6 l1_6.length c1_6] 43 (0, 0)) (by (with_reducible repeat (first | refine blk_drewN ?_ _ | refine blk_drew ?_ | refine blk_alloc ?_ _)); exact BK148.out) hb); have n4_ := Aside0.mk (blk_below (g := gb149) (o := .cells #[.int .i64 0, .int .u64 0, .int .i64 0, .int .u64 0, .int .i64 0, .int .u64 0, .slice none 0 0] 43 (0, 0)) (by (with_reducible repeat (first | refine blk_drewN ?_ _ | refine blk_drew ?_ | refine blk_alloc ?_ _)); exact BK149.out) hb); have n5_ := Aside0.mk (blk_below (g := gb151) (o := .cells #[.int .i64 t150, .int .u64 (Int.tmod a1_1 8), .int .i64 t153, .int .u64 (Int.tmod a1_3 8), .int .i64 t152, .int .u64 (Int.tmod a1_5 8), .slice Ao72 x152006_1.length co72] 43 (0, 0)) (by (with_reducible repeat (first | refine blk_drewN ?_ _ | refine blk_drew ?_ | refine blk_alloc ?_ _)); exact BK151.out) hb); have n6_ := Aside0.mk (below_step (by repeat (first | (with_reducible first | exact HB.out | apply below_alloc | apply pw_below_drewN | apply below_drew1 | refine below_set ?_ GE147.out | refine below_set ?_ GE148.out | refine below_set ?_ GE149.out | refine below_set ?_ GE151.out) | exact HB.out)) hb); clear HO_152006; clear BK147; clear BK148; clear BK149; clear BK151; clear HB; have HO_152006 := n0_; have HO163 := n1_; have BK147 := n2_; have BK148 := n3_; have BK149 := n4_; have BK151 := n5_; have HB := n6_; clear n0_ n1_ n2_ n3_ n4_ n5_ n6_; clear hb ho74; obtain ⟨Ao75, co75, eo75⟩ := Kd.R_slice HO163.out; subst eo75; obtain ⟨hcz76_0, hcz76_1, hcz76_2, hcz76_3, hcz76_4, hcz76_5, hcz76_6⟩ := Cells.c7 BK151.out; obtain ⟨hfz76_0, hfz76_1, hfz76_2, hfz76_3, hfz76_4, hfz76_5, hfz76_6⟩ := Cells.z7 BK151.out; have hnb77 := NB149_147.out; have hnc77 := NB147_149.out; have hnb78 := NB149_148.out; have hnc78 := NB148_149.out; obtain ⟨hcz79_0, hcz79_1, hcz79_2, hcz79_3, hcz79_4, hcz79_5, hcz79_6⟩ := Cells.c7 BK149.out; obtain ⟨hfz79_0, hfz79_1, hfz79_2, hfz79_3, hfz79_4, hfz79_5, hfz79_6⟩ := Cells.z7 BK149.out))
          refine bodyPost_ret (results_cell_row rfl _ _ gb149 43 #[.int .i64 t150, .int .u64 (Int.tmod a1_1 8), .int .i64 t153, .int .u64 (Int.tmod a1_3 8), .int .i64 t152, .int .u64 (Int.tmod a1_5 8), .slice Ao75 y161.length co75] (0, 0) _ rfl (by (with_reducible repeat (first | refine blk_drewN ?_ _ | refine blk_drew ?_ | refine blk_alloc ?_ _)); refine blk_put (cs := #[.int .i64 t150, .int .u64 (Int.tmod a1_1 8), .int .i64 t153, .int .u64 (Int.tmod a1_3 8), .int .i64 t152, .int .u64 (Int.tmod a1_5 8), .slice none 0 0]) ?_ 6 _ rfl; (with_reducible repeat (first | refine blk_drewN ?_ _ | refine blk_drew ?_ | refine blk_alloc ?_ _)); refine blk_put (cs := #[.int .i64 t150, .int .u64 (Int.tmod a1_1 8), .int .i64 t153, .int .u64 (Int.tmod a1_3 8), .int .i64 t152, .int .u64 0, .slice none 0 0]) ?_ 5 _ rfl; (with_reducible repeat (first | refine blk_drewN ?_ _ | refine blk_drew ?_ | refine blk_alloc ?_ _)); refine blk_put (cs := #[.int .i64 t150, .int .u64 (Int.tmod a1_1 8), .int .i64 t153, .int .u64 (Int.tmod a1_3 8), .int .i64 0, .int .u64 0, .slice none 0 0]) ?_ 4 _ rfl; (with_reducible repeat (first | refine blk_drewN ?_ _ | refine blk_drew ?_ | refine blk_alloc ?_ _)); refine blk_put (cs := #[.int .i64 t150, .int .u64 (Int.tmod a1_1 8), .int .i64 t153, .int .u64 0, .int .i64 0, .int .u64 0, .slice none 0 0]) ?_ 3 _ rfl; (with_reducible repeat (first | refine blk_drewN ?_ _ | refine blk_drew ?_ | refine blk_alloc ?_ _)); refine blk_put (cs := #[.int .i64 t150, .int .u64 (Int.tmod a1_1 8), .int .i64 0, .int .u64 0, .int .i64 0, .int .u64 0, .slice none 0 0]) ?_ 2 _ rfl; (with_reducible repeat (first | refine blk_drewN ?_ _ | refine blk_drew ?_ | refine blk_alloc ?_ _)); refine blk_put (cs := #[.int .i64 t150, .int .u64 0, .int .i64 0, .int .u64 0, .int .i64 0, .int .u64 0, .slice none 0 0]) ?_ 1 _ rfl; (with_reducible repeat (first | refine blk_drewN ?_ _ | refine blk_drew ?_ | refine blk_alloc ?_ _)); refine blk_put (cs := #[.int .i64 0, .int .u64 0, .int .i64 0, .int .u64 0, .int .i64 0, .int .u64 0, .slice none 0 0]) ?_ 0 _ rfl; (with_reducible repeat (first | refine blk_drewN ?_ _ | refine blk_drew ?_ | refine blk_alloc ?_ _)); refine blk_far ?_ NB149_151.out _; (with_reducible repeat (first | refine blk_drewN ?_ _ | refine blk_drew ?_ | refine blk_alloc ?_ _)); exact BK149.out) Try.underlying43 rfl (by kernel_rfl)) rfl ?_
          exact ⟨_, by first | rfl | (simp [errW_none, errW_some] <;> rfl) | (simp [*, errW_none, errW_some] <;> rfl), by (with_reducible repeat (first | apply Kd.R_alloc | apply Kd.R_drewN | apply Kd.R_drew)); exact Kd.R_mono (Kd.R_far (p := ⟨gb149, 6, none⟩) (Kd.R_far (p := ⟨gb149, 5, none⟩) (Kd.R_far (p := ⟨gb149, 4, none⟩) (Kd.R_far (p := ⟨gb149, 3, none⟩) (Kd.R_far (p := ⟨gb149, 2, none⟩) (Kd.R_far (p := ⟨gb149, 1, none⟩) (Kd.R_far (p := ⟨gb149, 0, none⟩) (Kd.R_far (p := ⟨gb151, 6, none⟩) (Kd.R_types (Kd.R_types HO163.out BK151.out (by decide)) BK149.out (by decide)) (fun _ hk => hk.1.2) (.slice Ao75 y161.length co75)) (fun _ hk => hk.2) (.int .i64 t150)) (fun _ hk => hk.2) (.int .u64 (Int.tmod a1_1 8))) (fun _ hk => hk.2) (.int .i64 t153)) (fun _ hk => hk.2) (.int .u64 (Int.tmod a1_3 8))) (fun _ hk => hk.2) (.int .i64 t152)) (fun _ hk => hk.2) (.int .u64 (Int.tmod a1_5 8))) (fun _ hk => hk.2) (.slice Ao75 y161.length co75)) (fun _ hk => trivial), by repeat (first | (with_reducible first | exact HB.out | apply below_alloc | apply pw_below_drewN | apply below_drew1 | refine below_set ?_ GE147.out | refine below_set ?_ GE148.out | refine below_set ?_ GE149.out | refine below_set ?_ GE151.out) | exact HB.out)⟩
        · rw [if_neg c67] at H
          have c67b0 : ((x152006_1.length : Int) == 0) = false := beq_eq_false_iff_ne.mpr c67
          have c67b1 : ((x152006_1.length : Int) != 0) = true := bne_iff_ne.mpr c67
          have c67b2 : ¬ (x152006_1 = []) := fun h_ => c67 (by rw [h_]; rfl)
          simp only [Option.some.injEq, Prod.mk.injEq] at H
          obtain ⟨rfl, rfl, rfl, rfl, rfl, rfl, rfl⟩ := H
          obtain ⟨hcz83_0, hcz83_1, hcz83_2, hcz83_3, hcz83_4, hcz83_5, hcz83_6⟩ := Cells.c7 BK151.out
          obtain ⟨hfz83_0, hfz83_1, hfz83_2, hfz83_3, hfz83_4, hfz83_5, hfz83_6⟩ := Cells.z7 BK151.out
          obtain ⟨Ao84, co84, eo84⟩ := Kd.R_slice HO_152006.out
          subst eo84
          have hnb86 := NB149_148.out
          have hnc86 := NB148_149.out
          obtain ⟨hcz87_0, hcz87_1, hcz87_2, hcz87_3, hcz87_4, hcz87_5, hcz87_6⟩ := Cells.c7 BK149.out
          obtain ⟨hfz87_0, hfz87_1, hfz87_2, hfz87_3, hfz87_4, hfz87_5, hfz87_6⟩ := Cells.z7 BK149.out
          go_wp2
          refine bodyPost_ret (results_cell_row rfl _ _ gb149 43 #[.int .i64 t150, .int .u64 (Int.tmod a1_1 8), .int .i64 t153, .int .u64 (Int.tmod a1_3 8), .int .i64 t152, .int .u64 (Int.tmod a1_5 8), .slice Ao84 x152006_1.length co84] (0, 0) _ rfl (by (with_reducible repeat (first | refine blk_drewN ?_ _ | refine blk_drew ?_ | refine blk_alloc ?_ _)); refine blk_put (cs := #[.int .i64 t150, .int .u64 (Int.tmod a1_1 8), .int .i64 t153, .int .u64 (Int.tmod a1_3 8), .int .i64 t152, .int .u64 (Int.tmod a1_5 8), .slice none 0 0]) ?_ 6 _ rfl; (with_reducible repeat (first | refine blk_drewN ?_ _ | refine blk_drew ?_ | refine blk_alloc ?_ _)); refine blk_put (cs := #[.int .i64 t150, .int .u64 (Int.tmod a1_1 8), .int .i64 t153, .int .u64 (Int.tmod a1_3 8), .int .i64 t152, .int .u64 0, .slice none 0 0]) ?_ 5 _ rfl; (with_reducible repeat (first | refine blk_drewN ?_ _ | refine blk_drew ?_ | refine blk_alloc ?_ _)); refine blk_put (cs := #[.int .i64 t150, .int .u64 (Int.tmod a1_1 8), .int .i64 t153, .int .u64 (Int.tmod a1_3 8), .int .i64 0, .int .u64 0, .slice none 0 0]) ?_ 4 _ rfl; (with_reducible repeat (first | refine blk_drewN ?_ _ | refine blk_drew ?_ | refine blk_alloc ?_ _)); refine blk_put (cs := #[.int .i64 t150, .int .u64 (Int.tmod a1_1 8), .int .i64 t153, .int .u64 0, .int .i64 0, .int .u64 0, .slice none 0 0]) ?_ 3 _ rfl; (with_reducible repeat (first | refine blk_drewN ?_ _ | refine blk_drew ?_ | refine blk_alloc ?_ _)); refine blk_put (cs := #[.int .i64 t150, .int .u64 (Int.tmod a1_1 8), .int .i64 0, .int .u64 0, .int .i64 0, .int .u64 0, .slice none 0 0]) ?_ 2 _ rfl; (with_reducible repeat (first | refine blk_drewN ?_ _ | refine blk_drew ?_ | refine blk_alloc ?_ _)); refine blk_put (cs := #[.int .i64 t150, .int .u64 0, .int .i64 0, .int .u64 0, .int .i64 0, .int .u64 0, .slice none 0 0]) ?_ 1 _ rfl; (with_reducible repeat (first | refine blk_drewN ?_ _ | refine blk_drew ?_ | refine blk_alloc ?_ _)); refine blk_put (cs := #[.int .i64 0, .int .u64 0, .int .i64 0, .int .u64 0, .int .i64 0, .int .u64 0, .slice none 0 0]) ?_ 0 _ rfl; (with_reducible repeat (first | refine blk_drewN ?_ _ | refine blk_drew ?_ | refine blk_alloc ?_ _)); exact BK149.out) Try.underlying43 rfl (by kernel_rfl)) rfl ?_
          exact ⟨_, by first | rfl | (simp [errW_none, errW_some] <;> rfl) | (simp [*, errW_none, errW_some] <;> rfl), by (with_reducible repeat (first | apply Kd.R_alloc | apply Kd.R_drewN | apply Kd.R_drew)); exact Kd.R_mono (Kd.R_far (p := ⟨gb149, 6, none⟩) (Kd.R_far (p := ⟨gb149, 5, none⟩) (Kd.R_far (p := ⟨gb149, 4, none⟩) (Kd.R_far (p := ⟨gb149, 3, none⟩) (Kd.R_far (p := ⟨gb149, 2, none⟩) (Kd.R_far (p := ⟨gb149, 1, none⟩) (Kd.R_far (p := ⟨gb149, 0, none⟩) (Kd.R_types HO_152006.out BK149.out (by decide)) (fun _ hk => hk.2) (.int .i64 t150)) (fun _ hk => hk.2) (.int .u64 (Int.tmod a1_1 8))) (fun _ hk => hk.2) (.int .i64 t153)) (fun _ hk => hk.2) (.int .u64 (Int.tmod a1_3 8))) (fun _ hk => hk.2) (.int .i64 t152)) (fun _ hk => hk.2) (.int .u64 (Int.tmod a1_5 8))) (fun _ hk => hk.2) (.slice Ao84 x152006_1.length co84)) (fun _ hk => trivial), by repeat (first | (with_reducible first | exact HB.out | apply below_alloc | apply pw_below_drewN | apply below_drew1 | refine below_set ?_ GE147.out | refine below_set ?_ GE148.out | refine below_set ?_ GE149.out | refine below_set ?_ GE151.out) | exact HB.out)⟩

end Go.Proofs.Ytiklbldanidfiaa.QL
