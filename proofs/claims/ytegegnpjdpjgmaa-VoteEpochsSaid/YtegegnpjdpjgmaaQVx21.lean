-- Laid by this work's own turn of the print (gprint.py); not the print's own text.
import Derived.Test.YtegegnpjdpjgmaaQVx0
import Derived.Test.YtegegnpjdpjgmaaQVx3
import Derived.Test.YtegegnpjdpjgmaaQVx10
import Derived.Test.YtegegnpjdpjgmaaQVx14
import Derived.Test.YtegegnpjdpjgmaaQVx16
namespace Go.Proofs.Ytegegnpjdpjgmaa.QV
open Go.RowKit Go.Proofs.YtegegnpjdpjgmaaW.PrintWords Go.Proofs.YtegegnpjdpjgmaaW.PrintLast Go.Proofs.YtegegnpjdpjgmaaW.PrintMore
attribute [local go_sem] max2_int min2_int max_two min_two max_three min_three max_four min_four   -- for this text's walks alone
set_option linter.unusedVariables false
set_option linter.unusedSimpArgs false

/-! ### psephoslaw05_VoteEpochs: function 6 -/
def psephoslaw05_VoteEpochs.f (k : Nat) (l0_0 : List Int) (a0_1 : Int) (a0_2 : Int) (a1_0 : Int) (a1_1 : Int) (a1_2 : Int) (a1_3 : Int) (a1_4 : Int) (a1_5 : Int) (l1_6 : List Int) (a2 : Int) : Option (Bool) := (psephoslaw05_awake.f k).bind fun t273 => (if t273 = true then ((psephoslaw03_Make.f k l0_0 a0_1 a0_2).bind fun bt274 => ((psephoslaw05_Make.f k bt274.1 bt274.2.1 bt274.2.2 a1_0 a1_1 a1_2 a1_3 a1_4 a1_5 l1_6).bind fun bt280 => ((vote_Right.f k bt274.1 bt274.2.1 bt274.2.2 bt280.1 bt280.2.1 bt280.2.2.1 bt280.2.2.2.1 (wrap64 (bt280.2.2.2.2.1 + (wrap64 (1 + (wrap64 (a2)))))) bt280.2.2.2.2.2.1 bt280.2.2.2.2.2.2).bind fun t292 => (if t292 = true then (some false) else ((vote_Right.f k bt274.1 bt274.2.1 bt274.2.2 bt280.1 bt280.2.1 (wrap64 ((wrap64 (bt280.2.2.2.2.1 + 1)) + (wrap64 (a2)))) bt280.2.2.2.1 bt280.2.2.2.2.1 bt280.2.2.2.2.2.1 bt280.2.2.2.2.2.2).bind fun t293 => (some (!t293))))))) else (some false))
theorem psephoslaw05_VoteEpochs.mono : ∀ a0 a1 a2 a3 a4 a5 a6 a7 a8 a9 a10 k, LeO (psephoslaw05_VoteEpochs.f k a0 a1 a2 a3 a4 a5 a6 a7 a8 a9 a10) (psephoslaw05_VoteEpochs.f (k + 1) a0 a1 a2 a3 a4 a5 a6 a7 a8 a9 a10) := by
  intro a0 a1 a2 a3 a4 a5 a6 a7 a8 a9 a10 k
  unfold psephoslaw05_VoteEpochs.f
  repeat' first
      | (with_reducible exact psephoslaw03_Make.mono _ _ _ _)
      | (with_reducible exact psephoslaw05_Make.mono _ _ _ _ _ _ _ _ _ _ _)
      | (with_reducible exact psephoslaw05_awake.mono _)
      | (with_reducible exact vote_Right.mono _ _ _ _ _ _ _ _ _ _ _)
      | (with_reducible exact LeO.refl _)
      | (with_reducible exact LeO.none _)
      | (with_reducible refine LeO.ite ?_ ?_)
      | (with_reducible refine LeO.bind ?_ (fun _ => ?_))
      | exact psephoslaw03_Make.mono _ _ _ _
      | exact psephoslaw05_Make.mono _ _ _ _ _ _ _ _ _ _ _
      | exact psephoslaw05_awake.mono _
      | exact vote_Right.mono _ _ _ _ _ _ _ _ _ _ _
      | exact LeO.none _
      | refine LeO.ite ?_ ?_
      | refine LeO.bind ?_ (fun _ => ?_)
set_option maxHeartbeats 80000000 in
set_option maxRecDepth 100000 in
theorem psephoslaw05_VoteEpochs.calls (k : Nat) (A0_0 : Option Addr) (c0_0 : Nat) (l0_0 : List Int) (a0_1 : Int) (a0_2 : Int) (a1_0 : Int) (a1_1 : Int) (a1_2 : Int) (a1_3 : Int) (a1_4 : Int) (a1_5 : Int) (A1_6 : Option Addr) (c1_6 : Nat) (l1_6 : List Int) (a2 : Int) (r : Bool) (w : World) (hr0_0 : Kd.C (Kd.int .u64) w A0_0 l0_0.length l0_0) (hc0_0 : l0_0.length ≤ c0_0) (hr1_6 : Kd.C (Kd.int .i64) w A1_6 l1_6.length l1_6) (hc1_6 : l1_6.length ≤ c1_6) (h : psephoslaw05_VoteEpochs.f k l0_0 a0_1 a0_2 a1_0 a1_1 a1_2 a1_3 a1_4 a1_5 l1_6 a2 = some r) (hr_ : r = true) :
    Calls Try.prog 6 #[.agg #[.slice A0_0 l0_0.length c0_0, .int .i64 a0_1, .int .i64 a0_2], .agg #[.int .i64 a1_0, .int .u64 a1_1, .int .i64 a1_2, .int .u64 a1_3, .int .i64 a1_4, .int .u64 a1_5, .slice A1_6 l1_6.length c1_6], .int .u8 a2] w fun e w' => e = .returned (.bool r) ∧ Below w.heap.size w w' := by
  have hu24 := Try.underlying24
  have hu30 := Try.underlying30
  have HR0_0 := Aside0.mk hr0_0
  have HC0_0 := Aside0.mk hc0_0
  clear hr0_0 hc0_0
  have HR1_6 := Aside0.mk hr1_6
  have HC1_6 := Aside0.mk hc1_6
  clear hr1_6 hc1_6
  have HB := Aside0.mk (Below.refl w.heap.size w)
  have H : ((psephoslaw05_awake.f k).bind fun t273 => (if t273 = true then ((psephoslaw03_Make.f k l0_0 a0_1 a0_2).bind fun bt274 => ((psephoslaw05_Make.f k bt274.1 bt274.2.1 bt274.2.2 a1_0 a1_1 a1_2 a1_3 a1_4 a1_5 l1_6).bind fun bt280 => ((vote_Right.f k bt274.1 bt274.2.1 bt274.2.2 bt280.1 bt280.2.1 bt280.2.2.1 bt280.2.2.2.1 (wrap64 (bt280.2.2.2.2.1 + (wrap64 (1 + (wrap64 (a2)))))) bt280.2.2.2.2.2.1 bt280.2.2.2.2.2.2).bind fun t292 => (if t292 = true then (some false) else ((vote_Right.f k bt274.1 bt274.2.1 bt274.2.2 bt280.1 bt280.2.1 (wrap64 ((wrap64 (bt280.2.2.2.2.1 + 1)) + (wrap64 (a2)))) bt280.2.2.2.1 bt280.2.2.2.2.1 bt280.2.2.2.2.2.1 bt280.2.2.2.2.2.2).bind fun t293 => (some (!t293))))))) else (some false))) = some r := h
  clear h
  replace H := Option.bind_eq_some_iff.mp H
  obtain ⟨t273, A40, H⟩ := H
  replace H : (if t273 = true then ((psephoslaw03_Make.f k l0_0 a0_1 a0_2).bind fun bt274 => ((psephoslaw05_Make.f k bt274.1 bt274.2.1 bt274.2.2 a1_0 a1_1 a1_2 a1_3 a1_4 a1_5 l1_6).bind fun bt280 => ((vote_Right.f k bt274.1 bt274.2.1 bt274.2.2 bt280.1 bt280.2.1 bt280.2.2.1 bt280.2.2.2.1 (wrap64 (bt280.2.2.2.2.1 + (wrap64 (1 + (wrap64 (a2)))))) bt280.2.2.2.2.2.1 bt280.2.2.2.2.2.2).bind fun t292 => (if t292 = true then (some false) else ((vote_Right.f k bt274.1 bt274.2.1 bt274.2.2 bt280.1 bt280.2.1 (wrap64 ((wrap64 (bt280.2.2.2.2.1 + 1)) + (wrap64 (a2)))) bt280.2.2.2.1 bt280.2.2.2.2.1 bt280.2.2.2.2.2.1 bt280.2.2.2.2.2.2).bind fun t293 => (some (!t293))))))) else (some false)) = some r := H
  have A4 := Aside0.mk A40
  clear A40
  by_cases c5 : t273 = true
  · subst c5
    have H1 : ((psephoslaw03_Make.f k l0_0 a0_1 a0_2).bind fun bt274 => ((psephoslaw05_Make.f k bt274.1 bt274.2.1 bt274.2.2 a1_0 a1_1 a1_2 a1_3 a1_4 a1_5 l1_6).bind fun bt280 => ((vote_Right.f k bt274.1 bt274.2.1 bt274.2.2 bt280.1 bt280.2.1 bt280.2.2.1 bt280.2.2.2.1 (wrap64 (bt280.2.2.2.2.1 + (wrap64 (1 + (wrap64 (a2)))))) bt280.2.2.2.2.2.1 bt280.2.2.2.2.2.2).bind fun t292 => (if t292 = true then (some false) else ((vote_Right.f k bt274.1 bt274.2.1 bt274.2.2 bt280.1 bt280.2.1 (wrap64 ((wrap64 (bt280.2.2.2.2.1 + 1)) + (wrap64 (a2)))) bt280.2.2.2.1 bt280.2.2.2.2.1 bt280.2.2.2.2.2.1 bt280.2.2.2.2.2.2).bind fun t293 => (some (!t293))))))) = some r := by rw [if_pos rfl] at H; exact H
    clear H
    have H := H1
    clear H1
    replace H := Option.bind_eq_some_iff.mp H
    obtain ⟨⟨t274, t277, t278⟩, A60, H⟩ := H
    replace H : ((psephoslaw05_Make.f k t274 t277 t278 a1_0 a1_1 a1_2 a1_3 a1_4 a1_5 l1_6).bind fun bt280 => ((vote_Right.f k t274 t277 t278 bt280.1 bt280.2.1 bt280.2.2.1 bt280.2.2.2.1 (wrap64 (bt280.2.2.2.2.1 + (wrap64 (1 + (wrap64 (a2)))))) bt280.2.2.2.2.2.1 bt280.2.2.2.2.2.2).bind fun t292 => (if t292 = true then (some false) else ((vote_Right.f k t274 t277 t278 bt280.1 bt280.2.1 (wrap64 ((wrap64 (bt280.2.2.2.2.1 + 1)) + (wrap64 (a2)))) bt280.2.2.2.1 bt280.2.2.2.2.1 bt280.2.2.2.2.2.1 bt280.2.2.2.2.2.2).bind fun t293 => (some (!t293)))))) = some r := H
    have A6 := Aside0.mk A60
    clear A60
    replace H := Option.bind_eq_some_iff.mp H
    obtain ⟨⟨t280, t281, t282, t283, t284, t285, t286⟩, A70, H⟩ := H
    replace H : ((vote_Right.f k t274 t277 t278 t280 t281 t282 t283 (wrap64 (t284 + (wrap64 (1 + (wrap64 (a2)))))) t285 t286).bind fun t292 => (if t292 = true then (some false) else ((vote_Right.f k t274 t277 t278 t280 t281 (wrap64 ((wrap64 (t284 + 1)) + (wrap64 (a2)))) t283 t284 t285 t286).bind fun t293 => (some (!t293))))) = some r := H
    have A7 := Aside0.mk A70
    clear A70
    replace H := Option.bind_eq_some_iff.mp H
    obtain ⟨t292, A80, H⟩ := H
    replace H : (if t292 = true then (some false) else ((vote_Right.f k t274 t277 t278 t280 t281 (wrap64 ((wrap64 (t284 + 1)) + (wrap64 (a2)))) t283 t284 t285 t286).bind fun t293 => (some (!t293)))) = some r := H
    have A8 := Aside0.mk A80
    clear A80
    by_cases c9 : t292 = true
    · subst c9
      have H1 : (some false) = some r := by rw [if_pos rfl] at H; exact H
      clear H
      have H := H1
      clear H1
      exact absurd ((Option.some.inj H).trans hr_) Bool.false_ne_true
    · replace c9 := Bool.eq_false_iff.mpr c9
      subst c9
      have H1 : ((vote_Right.f k t274 t277 t278 t280 t281 (wrap64 ((wrap64 (t284 + 1)) + (wrap64 (a2)))) t283 t284 t285 t286).bind fun t293 => (some (!t293))) = some r := by rw [if_neg (show ¬ (false = true) by decide)] at H; exact H
      clear H
      have H := H1
      clear H1
      replace H := Option.bind_eq_some_iff.mp H
      obtain ⟨t293, A100, H⟩ := H
      replace H : (some (!t293)) = some r := H
      have A10 := Aside0.mk A100
      clear A100
      obtain rfl := Option.some.inj H
      go_enter Try.func6, Try.ntmps6
      try go_wp2_with (first | ((with_reducible refine gate_dst (N := 3) rfl ?_); refine box_event ?hg (N := 3) ?hd (cs := #[.slice A0_0 l0_0.length c0_0, .int .i64 a0_1, .int .i64 a0_2]) (t := 24) ?hr ?_; (case hd => rfl); (case hg => rfl); (case hr => first | (go_simp; done) | (go_simp; rfl)); intro gb271 hg w11 hbox hb; have n0_ := Aside0.mk (below_step (by repeat (first | (with_reducible first | exact HB.out | apply below_alloc | apply pw_below_drewN | apply below_drew1) | exact HB.out)) hb); have n1_ := Aside0.mk (hbox); have n2_ := Aside0.mk ((by rw [hg]; exact (below_size (by repeat (first | (with_reducible first | exact HB.out | apply below_alloc | apply pw_below_drewN | apply below_drew1) | exact HB.out))) : w.heap.size ≤ gb271)); have n3_ := Aside0.mk ((by rw [hg]; exact (below_size (by repeat (first | (with_reducible first | exact HB.out | apply below_alloc | apply pw_below_drewN | apply below_drew1) | exact HB.out))) : w.heap.size ≤ gb271)); clear HB; have HB := n0_; have BK271 := n1_; have GW271 := n2_; have GE271 := n3_; clear n0_ n1_ n2_ n3_; clear hb hbox hg) | ((with_reducible refine gate_dst (N := 4) rfl ?_); refine box_event ?hg (N := 4) ?hd (cs := #[.int .i64 a1_0, .int .u64 a1_1, .int .i64 a1_2, .int .u64 a1_3, .int .i64 a1_4, .int .u64 a1_5, .slice A1_6 l1_6.length c1_6]) (t := 30) ?hr ?_; (case hd => rfl); (case hg => rfl); (case hr => first | (go_simp; done) | (go_simp; rfl)); intro gb272 hg w12 hbox hb; have n0_ := Aside0.mk (blk_below (g := gb271) (o := .cells #[.slice A0_0 l0_0.length c0_0, .int .i64 a0_1, .int .i64 a0_2] 24 (0, 0)) (by (with_reducible repeat (first | refine blk_drewN ?_ _ | refine blk_drew ?_ | refine blk_alloc ?_ _)); exact BK271.out) hb); have n1_ := Aside0.mk (below_step (by repeat (first | (with_reducible first | exact HB.out | apply below_alloc | apply pw_below_drewN | apply below_drew1 | refine below_set ?_ GE271.out) | exact HB.out)) hb); have n2_ := Aside0.mk (hbox); have n3_ := Aside0.mk ((by rw [hg]; exact (below_size (by repeat (first | (with_reducible first | exact HB.out | apply below_alloc | apply pw_below_drewN | apply below_drew1 | refine below_set ?_ GE271.out) | exact HB.out))) : w.heap.size ≤ gb272)); have n4_ := Aside0.mk ((by rw [hg]; exact (below_size (by repeat (first | (with_reducible first | exact HB.out | apply below_alloc | apply pw_below_drewN | apply below_drew1 | refine below_set ?_ GE271.out) | exact HB.out))) : w.heap.size ≤ gb272)); have n5_ := Aside0.mk ((by rw [hg]; exact Nat.ne_of_lt (blk_lt (g := gb271) (o := .cells #[.slice A0_0 l0_0.length c0_0, .int .i64 a0_1, .int .i64 a0_2] 24 (0, 0)) (by (with_reducible repeat (first | refine blk_drewN ?_ _ | refine blk_drew ?_ | refine blk_alloc ?_ _)); exact BK271.out)) : gb271 ≠ gb272)); have n6_ := Aside0.mk ((by rw [hg]; exact Nat.ne_of_gt (blk_lt (g := gb271) (o := .cells #[.slice A0_0 l0_0.length c0_0, .int .i64 a0_1, .int .i64 a0_2] 24 (0, 0)) (by (with_reducible repeat (first | refine blk_drewN ?_ _ | refine blk_drew ?_ | refine blk_alloc ?_ _)); exact BK271.out)) : gb272 ≠ gb271)); clear BK271; clear HB; have BK271 := n0_; have HB := n1_; have BK272 := n2_; have GW272 := n3_; have GE272 := n4_; have NB271_272 := n5_; have NB272_271 := n6_; clear n0_ n1_ n2_ n3_ n4_ n5_ n6_; clear hb hbox hg) | ((with_reducible refine gate_callee (f := 9) rfl ?_); refine goesL_ (some 11) rfl rfl Try.func9 (by kernel_rfl) rfl #[] rfl (by (try simp only [List.map_toArray, List.map_cons, List.map_nil]); first | done | rfl | (simp only [List.length_drop, List.length_take]; rfl)) ?_; (with_reducible refine (psephoslaw05_awake.calls k  true _ A4.out).mono ?_); rintro e w13 ⟨rfl, hb⟩; refine ⟨_, rfl, ?_⟩; have n0_ := Aside0.mk (blk_below (g := gb271) (o := .cells #[.slice A0_0 l0_0.length c0_0, .int .i64 a0_1, .int .i64 a0_2] 24 (0, 0)) (by (with_reducible repeat (first | refine blk_drewN ?_ _ | refine blk_drew ?_ | refine blk_alloc ?_ _)); exact BK271.out) hb); have n1_ := Aside0.mk (blk_below (g := gb272) (o := .cells #[.int .i64 a1_0, .int .u64 a1_1, .int .i64 a1_2, .int .u64 a1_3, .int .i64 a1_4, .int .u64 a1_5, .slice A1_6 l1_6.length c1_6] 30 (0, 0)) (by (with_reducible repeat (first | refine blk_drewN ?_ _ | refine blk_drew ?_ | refine blk_alloc ?_ _)); exact BK272.out) hb); have n2_ := Aside0.mk (below_step (by repeat (first | (with_reducible first | exact HB.out | apply below_alloc | apply pw_below_drewN | apply below_drew1 | refine below_set ?_ GE271.out | refine below_set ?_ GE272.out) | exact HB.out)) hb); clear BK271; clear BK272; clear HB; have BK271 := n0_; have BK272 := n1_; have HB := n2_; clear n0_ n1_ n2_; (try clear hb); (try clear hb2); (try clear hk); (try clear hi); have hnb14 := NB271_272.out; have hnc14 := NB272_271.out; obtain ⟨hcz15_0, hcz15_1, hcz15_2⟩ := Cells.c3 BK271.out; obtain ⟨hfz15_0, hfz15_1, hfz15_2⟩ := Cells.z3 BK271.out) | ((with_reducible refine gate_callee (f := 10) rfl ?_); refine goesL_ (some 14) rfl rfl Try.func10 (by kernel_rfl) rfl #[.agg #[.slice A0_0 l0_0.length c0_0, .int .i64 a0_1, .int .i64 a0_2]] rfl (by (try simp only [List.map_toArray, List.map_cons, List.map_nil]); first | done | rfl | (simp only [List.length_drop, List.length_take]; rfl)) ?_; (with_reducible refine (psephoslaw03_Make.calls k _ _ l0_0 a0_1 a0_2 t274 t277 t278 _ ?side1 ?side2 A6.out).mono ?_); (case side1 => repeat (first | exact (Kd.C_below HR0_0.out HB.out) | (with_reducible refine Kd.C_alloc ?_ _) | (with_reducible refine Kd.C_drewN ?_ _) | (with_reducible refine Kd.C_drew ?_))); (case side2 => exact HC0_0.out); rintro e w16 ⟨v275, rfl, ho0, hb⟩; refine ⟨_, rfl, ?_⟩; have n0_ := Aside0.mk (Kd.R_lower ho0 (below_size (by repeat (first | (with_reducible first | exact HB.out | apply below_alloc | apply pw_below_drewN | apply below_drew1 | refine below_set ?_ GE271.out | refine below_set ?_ GE272.out) | exact HB.out)))); have n1_ := Aside0.mk (blk_below (g := gb271) (o := .cells #[.slice A0_0 l0_0.length c0_0, .int .i64 a0_1, .int .i64 a0_2] 24 (0, 0)) (by (with_reducible repeat (first | refine blk_drewN ?_ _ | refine blk_drew ?_ | refine blk_alloc ?_ _)); exact BK271.out) hb); have n2_ := Aside0.mk (blk_below (g := gb272) (o := .cells #[.int .i64 a1_0, .int .u64 a1_1, .int .i64 a1_2, .int .u64 a1_3, .int .i64 a1_4, .int .u64 a1_5, .slice A1_6 l1_6.length c1_6] 30 (0, 0)) (by (with_reducible repeat (first | refine blk_drewN ?_ _ | refine blk_drew ?_ | refine blk_alloc ?_ _)); exact BK272.out) hb); have n3_ := Aside0.mk (below_step (by repeat (first | (with_reducible first | exact HB.out | apply below_alloc | apply pw_below_drewN | apply below_drew1 | refine below_set ?_ GE271.out | refine below_set ?_ GE272.out) | exact HB.out)) hb); clear BK271; clear BK272; clear HB; have HO276 := n0_; have BK271 := n1_; have BK272 := n2_; have HB := n3_; clear n0_ n1_ n2_ n3_; (try clear hb); (try clear hb2); (try clear hk); (try clear hi); (try clear ho0)) | ((with_reducible refine gate_dst (N := 7) rfl ?_); refine box_event ?hg (N := 7) ?hd (cs := #[.slice none 0 0, .int .i64 0, .int .i64 0]) (t := 24) ?hr ?_; (case hd => rfl); (case hg => rfl); (case hr => first | (go_simp; done) | (go_simp; rfl)); intro gb279 hg w17 hbox hb; have n0_ := Aside0.mk (Kd.R_below (by (with_reducible repeat (first | apply Kd.R_alloc | apply Kd.R_drewN | apply Kd.R_drew)); exact HO276.out) hb); have n1_ := Aside0.mk (blk_below (g := gb271) (o := .cells #[.slice A0_0 l0_0.length c0_0, .int .i64 a0_1, .int .i64 a0_2] 24 (0, 0)) (by (with_reducible repeat (first | refine blk_drewN ?_ _ | refine blk_drew ?_ | refine blk_alloc ?_ _)); exact BK271.out) hb); have n2_ := Aside0.mk (blk_below (g := gb272) (o := .cells #[.int .i64 a1_0, .int .u64 a1_1, .int .i64 a1_2, .int .u64 a1_3, .int .i64 a1_4, .int .u64 a1_5, .slice A1_6 l1_6.length c1_6] 30 (0, 0)) (by (with_reducible repeat (first | refine blk_drewN ?_ _ | refine blk_drew ?_ | refine blk_alloc ?_ _)); exact BK272.out) hb); have n3_ := Aside0.mk (below_step (by repeat (first | (with_reducible first | exact HB.out | apply below_alloc | apply pw_below_drewN | apply below_drew1 | refine below_set ?_ GE271.out | refine below_set ?_ GE272.out) | exact HB.out)) hb); have n4_ := Aside0.mk (hbox); have n5_ := Aside0.mk ((by rw [hg]; exact (below_size (by repeat (first | (with_reducible first | exact HB.out | apply below_alloc | apply pw_below_drewN | apply below_drew1 | refine below_set ?_ GE271.out | refine below_set ?_ GE272.out) | exact HB.out))) : w.heap.size ≤ gb279)); have n6_ := Aside0.mk ((by rw [hg]; exact (below_size (by repeat (first | (with_reducible first | exact HB.out | apply below_alloc | apply pw_below_drewN | apply below_drew1 | refine below_set ?_ GE271.out | refine below_set ?_ GE272.out) | exact HB.out))) : w.heap.size ≤ gb279)); have n7_ := Aside0.mk ((by rw [hg]; exact Nat.ne_of_lt (blk_lt (g := gb271) (o := .cells #[.slice A0_0 l0_0.length c0_0, .int .i64 a0_1, .int .i64 a0_2] 24 (0, 0)) (by (with_reducible repeat (first | refine blk_drewN ?_ _ | refine blk_drew ?_ | refine blk_alloc ?_ _)); exact BK271.out)) : gb271 ≠ gb279)); have n8_ := Aside0.mk ((by rw [hg]; exact Nat.ne_of_gt (blk_lt (g := gb271) (o := .cells #[.slice A0_0 l0_0.length c0_0, .int .i64 a0_1, .int .i64 a0_2] 24 (0, 0)) (by (with_reducible repeat (first | refine blk_drewN ?_ _ | refine blk_drew ?_ | refine blk_alloc ?_ _)); exact BK271.out)) : gb279 ≠ gb271)); have n9_ := Aside0.mk ((by rw [hg]; exact Nat.ne_of_lt (blk_lt (g := gb272) (o := .cells #[.int .i64 a1_0, .int .u64 a1_1, .int .i64 a1_2, .int .u64 a1_3, .int .i64 a1_4, .int .u64 a1_5, .slice A1_6 l1_6.length c1_6] 30 (0, 0)) (by (with_reducible repeat (first | refine blk_drewN ?_ _ | refine blk_drew ?_ | refine blk_alloc ?_ _)); exact BK272.out)) : gb272 ≠ gb279)); have n10_ := Aside0.mk ((by rw [hg]; exact Nat.ne_of_gt (blk_lt (g := gb272) (o := .cells #[.int .i64 a1_0, .int .u64 a1_1, .int .i64 a1_2, .int .u64 a1_3, .int .i64 a1_4, .int .u64 a1_5, .slice A1_6 l1_6.length c1_6] 30 (0, 0)) (by (with_reducible repeat (first | refine blk_drewN ?_ _ | refine blk_drew ?_ | refine blk_alloc ?_ _)); exact BK272.out)) : gb279 ≠ gb272)); clear HO276; clear BK271; clear BK272; clear HB; have HO276 := n0_; have BK271 := n1_; have BK272 := n2_; have HB := n3_; have BK279 := n4_; have GW279 := n5_; have GE279 := n6_; have NB271_279 := n7_; have NB279_271 := n8_; have NB272_279 := n9_; have NB279_272 := n10_; clear n0_ n1_ n2_ n3_ n4_ n5_ n6_ n7_ n8_ n9_ n10_; clear hb hbox hg; obtain ⟨Ao18, co18, eo18⟩ := Kd.R_slice HO276.out; subst eo18; have hnb19 := NB279_271.out; have hnc19 := NB271_279.out; have hnb20 := NB279_272.out; have hnc20 := NB272_279.out; obtain ⟨hcz21_0, hcz21_1, hcz21_2⟩ := Cells.c3 BK279.out; obtain ⟨hfz21_0, hfz21_1, hfz21_2⟩ := Cells.z3 BK279.out; obtain ⟨hcz22_0, hcz22_1, hcz22_2, hcz22_3, hcz22_4, hcz22_5, hcz22_6⟩ := Cells.c7 BK272.out; obtain ⟨hfz22_0, hfz22_1, hfz22_2, hfz22_3, hfz22_4, hfz22_5, hfz22_6⟩ := Cells.z7 BK272.out) | ((with_reducible refine gate_callee (f := 12) rfl ?_); refine goesL_ (some 17) rfl rfl Try.func12 (by kernel_rfl) rfl #[.agg #[.slice Ao18 t274.length co18, .int .i64 t277, .int .i64 t278], .agg #[.int .i64 a1_0, .int .u64 a1_1, .int .i64 a1_2, .int .u64 a1_3, .int .i64 a1_4, .int .u64 a1_5, .slice A1_6 l1_6.length c1_6]] rfl (by (try simp only [List.map_toArray, List.map_cons, List.map_nil]); first | done | rfl | (simp only [List.length_drop, List.length_take]; rfl)) ?_; (with_reducible refine (psephoslaw05_Make.calls k _ _ t274 t277 t278 a1_0 a1_1 a1_2 a1_3 a1_4 a1_5 _ _ l1_6 t280 t281 t282 t283 t284 t285 t286 _ ?side1 ?side2 ?side3 ?side4 A7.out).mono ?_); (case side1 => refine (Kd.R_reads' (e := 25) (base := w.heap.size) (ok := fun k_ => True) (n := t274.length) (c := co18) ?_).2.2; exact (by (with_reducible repeat (first | apply Kd.R_alloc | apply Kd.R_drewN | apply Kd.R_drew)); exact (Kd.R_mono (Kd.R_far (p := ⟨gb279, 2, none⟩) (Kd.R_far (p := ⟨gb279, 1, none⟩) (Kd.R_far (p := ⟨gb279, 0, none⟩) (Kd.R_types HO276.out BK279.out (by decide)) (fun _ hk => hk.2) (.slice Ao18 t274.length co18)) (fun _ hk => hk.2) (.int .i64 t277)) (fun _ hk => hk.2) (.int .i64 t278)) (fun _ h_ => h_.1)))); (case side2 => exact (Kd.R_reads' HO276.out).2.1); (case side3 => exact Kd.C_below HR1_6.out (by repeat (first | (with_reducible first | exact HB.out | apply below_alloc | apply pw_below_drewN | apply below_drew1 | refine below_set ?_ GE271.out | refine below_set ?_ GE272.out | refine below_set ?_ GE279.out) | exact HB.out))); (case side4 => exact HC1_6.out); rintro e w23 ⟨v287, rfl, ho0, hb⟩; refine ⟨_, rfl, ?_⟩; have n0_ := Aside0.mk (Kd.R_below (by (with_reducible repeat (first | apply Kd.R_alloc | apply Kd.R_drewN | apply Kd.R_drew)); exact (Kd.R_mono (Kd.R_far (p := ⟨gb279, 2, none⟩) (Kd.R_far (p := ⟨gb279, 1, none⟩) (Kd.R_far (p := ⟨gb279, 0, none⟩) (Kd.R_types HO276.out BK279.out (by decide)) (fun _ hk => hk.2) (.slice Ao18 t274.length co18)) (fun _ hk => hk.2) (.int .i64 t277)) (fun _ hk => hk.2) (.int .i64 t278)) (fun _ h_ => h_.1))) hb); have n1_ := Aside0.mk (Kd.R_lower ho0 (below_size (by repeat (first | (with_reducible first | exact HB.out | apply below_alloc | apply pw_below_drewN | apply below_drew1 | refine below_set ?_ GE271.out | refine below_set ?_ GE272.out | refine below_set ?_ GE279.out) | exact HB.out)))); have n2_ := Aside0.mk (blk_below (g := gb271) (o := .cells #[.slice A0_0 l0_0.length c0_0, .int .i64 a0_1, .int .i64 a0_2] 24 (0, 0)) (by (with_reducible repeat (first | refine blk_drewN ?_ _ | refine blk_drew ?_ | refine blk_alloc ?_ _)); refine blk_far ?_ NB271_279.out _; (with_reducible repeat (first | refine blk_drewN ?_ _ | refine blk_drew ?_ | refine blk_alloc ?_ _)); refine blk_far ?_ NB271_279.out _; (with_reducible repeat (first | refine blk_drewN ?_ _ | refine blk_drew ?_ | refine blk_alloc ?_ _)); refine blk_far ?_ NB271_279.out _; (with_reducible repeat (first | refine blk_drewN ?_ _ | refine blk_drew ?_ | refine blk_alloc ?_ _)); exact BK271.out) hb); have n3_ := Aside0.mk (blk_below (g := gb272) (o := .cells #[.int .i64 a1_0, .int .u64 a1_1, .int .i64 a1_2, .int .u64 a1_3, .int .i64 a1_4, .int .u64 a1_5, .slice A1_6 l1_6.length c1_6] 30 (0, 0)) (by (with_reducible repeat (first | refine blk_drewN ?_ _ | refine blk_drew ?_ | refine blk_alloc ?_ _)); refine blk_far ?_ NB272_279.out _; (with_reducible repeat (first | refine blk_drewN ?_ _ | refine blk_drew ?_ | refine blk_alloc ?_ _)); refine blk_far ?_ NB272_279.out _; (with_reducible repeat (first | refine blk_drewN ?_ _ | refine blk_drew ?_ | refine blk_alloc ?_ _)); refine blk_far ?_ NB272_279.out _; (with_reducible repeat (first | refine blk_drewN ?_ _ | refine blk_drew ?_ | refine blk_alloc ?_ _)); exact BK272.out) hb); have n4_ := Aside0.mk (blk_below (g := gb279) (o := .cells #[.slice Ao18 t274.length co18, .int .i64 t277, .int .i64 t278] 24 (0, 0)) (by (with_reducible repeat (first | refine blk_drewN ?_ _ | refine blk_drew ?_ | refine blk_alloc ?_ _)); refine blk_put (cs := #[.slice Ao18 t274.length co18, .int .i64 t277, .int .i64 0]) ?_ 2 _ rfl; (with_reducible repeat (first | refine blk_drewN ?_ _ | refine blk_drew ?_ | refine blk_alloc ?_ _)); refine blk_put (cs := #[.slice Ao18 t274.length co18, .int .i64 0, .int .i64 0]) ?_ 1 _ rfl; (with_reducible repeat (first | refine blk_drewN ?_ _ | refine blk_drew ?_ | refine blk_alloc ?_ _)); refine blk_put (cs := #[.slice none 0 0, .int .i64 0, .int .i64 0]) ?_ 0 _ rfl; (with_reducible repeat (first | refine blk_drewN ?_ _ | refine blk_drew ?_ | refine blk_alloc ?_ _)); exact BK279.out) hb); have n5_ := Aside0.mk (below_step (by repeat (first | (with_reducible first | exact HB.out | apply below_alloc | apply pw_below_drewN | apply below_drew1 | refine below_set ?_ GE271.out | refine below_set ?_ GE272.out | refine below_set ?_ GE279.out) | exact HB.out)) hb); clear HO276; clear BK271; clear BK272; clear BK279; clear HB; have HO276 := n0_; have HO288 := n1_; have BK271 := n2_; have BK272 := n3_; have BK279 := n4_; have HB := n5_; clear n0_ n1_ n2_ n3_ n4_ n5_; (try clear hb); (try clear hb2); (try clear hk); (try clear hi); (try clear ho0)) | ((with_reducible refine gate_dst (N := 8) rfl ?_); refine box_event ?hg (N := 8) ?hd (cs := #[.int .i64 0, .int .u64 0, .int .i64 0, .int .u64 0, .int .i64 0, .int .u64 0, .slice none 0 0]) (t := 30) ?hr ?_; (case hd => rfl); (case hg => rfl); (case hr => first | (go_simp; done) | (go_simp; rfl)); intro gb289 hg w24 hbox hb; have n0_ := Aside0.mk (Kd.R_below (by (with_reducible repeat (first | apply Kd.R_alloc | apply Kd.R_drewN | apply Kd.R_drew)); exact HO276.out) hb); have n1_ := Aside0.mk (Kd.R_below (by (with_reducible repeat (first | apply Kd.R_alloc | apply Kd.R_drewN | apply Kd.R_drew)); exact HO288.out) hb); have n2_ := Aside0.mk (blk_below (g := gb271) (o := .cells #[.slice A0_0 l0_0.length c0_0, .int .i64 a0_1, .int .i64 a0_2] 24 (0, 0)) (by (with_reducible repeat (first | refine blk_drewN ?_ _ | refine blk_drew ?_ | refine blk_alloc ?_ _)); exact BK271.out) hb); have n3_ := Aside0.mk (blk_below (g := gb272) (o := .cells #[.int .i64 a1_0, .int .u64 a1_1, .int .i64 a1_2, .int .u64 a1_3, .int .i64 a1_4, .int .u64 a1_5, .slice A1_6 l1_6.length c1_6] 30 (0, 0)) (by (with_reducible repeat (first | refine blk_drewN ?_ _ | refine blk_drew ?_ | refine blk_alloc ?_ _)); exact BK272.out) hb); have n4_ := Aside0.mk (blk_below (g := gb279) (o := .cells #[.slice Ao18 t274.length co18, .int .i64 t277, .int .i64 t278] 24 (0, 0)) (by (with_reducible repeat (first | refine blk_drewN ?_ _ | refine blk_drew ?_ | refine blk_alloc ?_ _)); exact BK279.out) hb); have n5_ := Aside0.mk (below_step (by repeat (first | (with_reducible first | exact HB.out | apply below_alloc | apply pw_below_drewN | apply below_drew1 | refine below_set ?_ GE271.out | refine below_set ?_ GE272.out | refine below_set ?_ GE279.out) | exact HB.out)) hb); have n6_ := Aside0.mk (hbox); have n7_ := Aside0.mk ((by rw [hg]; exact (below_size (by repeat (first | (with_reducible first | exact HB.out | apply below_alloc | apply pw_below_drewN | apply below_drew1 | refine below_set ?_ GE271.out | refine below_set ?_ GE272.out | refine below_set ?_ GE279.out) | exact HB.out))) : w.heap.size ≤ gb289)); have n8_ := Aside0.mk ((by rw [hg]; exact (below_size (by repeat (first | (with_reducible first | exact HB.out | apply below_alloc | apply pw_below_drewN | apply below_drew1 | refine below_set ?_ GE271.out | refine below_set ?_ GE272.out | refine below_set ?_ GE279.out) | exact HB.out))) : w.heap.size ≤ gb289)); have n9_ := Aside0.mk ((by rw [hg]; exact Nat.ne_of_lt (blk_lt (g := gb271) (o := .cells #[.slice A0_0 l0_0.length c0_0, .int .i64 a0_1, .int .i64 a0_2] 24 (0, 0)) (by (with_reducible repeat (first | refine blk_drewN ?_ _ | refine blk_drew ?_ | refine blk_alloc ?_ _)); exact BK271.out)) : gb271 ≠ gb289)); have n10_ := Aside0.mk ((by rw [hg]; exact Nat.ne_of_gt (blk_lt (g := gb271) (o := .cells #[.slice A0_0 l0_0.length c0_0, .int .i64 a0_1, .int .i64 a0_2] 24 (0, 0)) (by (with_reducible repeat (first | refine blk_drewN ?_ _ | refine blk_drew ?_ | refine blk_alloc ?_ _)); exact BK271.out)) : gb289 ≠ gb271)); have n11_ := Aside0.mk ((by rw [hg]; exact Nat.ne_of_lt (blk_lt (g := gb272) (o := .cells #[.int .i64 a1_0, .int .u64 a1_1, .int .i64 a1_2, .int .u64 a1_3, .int .i64 a1_4, .int .u64 a1_5, .slice A1_6 l1_6.length c1_6] 30 (0, 0)) (by (with_reducible repeat (first | refine blk_drewN ?_ _ | refine blk_drew ?_ | refine blk_alloc ?_ _)); exact BK272.out)) : gb272 ≠ gb289)); have n12_ := Aside0.mk ((by rw [hg]; exact Nat.ne_of_gt (blk_lt (g := gb272) (o := .cells #[.int .i64 a1_0, .int .u64 a1_1, .int .i64 a1_2, .int .u64 a1_3, .int .i64 a1_4, .int .u64 a1_5, .slice A1_6 l1_6.length c1_6] 30 (0, 0)) (by (with_reducible repeat (first | refine blk_drewN ?_ _ | refine blk_drew ?_ | refine blk_alloc ?_ _)); exact BK272.out)) : gb289 ≠ gb272)); have n13_ := Aside0.mk ((by rw [hg]; exact Nat.ne_of_lt (blk_lt (g := gb279) (o := .cells #[.slice Ao18 t274.length co18, .int .i64 t277, .int .i64 t278] 24 (0, 0)) (by (with_reducible repeat (first | refine blk_drewN ?_ _ | refine blk_drew ?_ | refine blk_alloc ?_ _)); exact BK279.out)) : gb279 ≠ gb289)); have n14_ := Aside0.mk ((by rw [hg]; exact Nat.ne_of_gt (blk_lt (g := gb279) (o := .cells #[.slice Ao18 t274.length co18, .int .i64 t277, .int .i64 t278] 24 (0, 0)) (by (with_reducible repeat (first | refine blk_drewN ?_ _ | refine blk_drew ?_ | refine blk_alloc ?_ _)); exact BK279.out)) : gb289 ≠ gb279)); clear HO276; clear HO288; clear BK271; clear BK272; clear BK279; clear HB; have HO276 := n0_; have HO288 := n1_; have BK271 := n2_; have BK272 := n3_; have BK279 := n4_; have HB := n5_; have BK289 := n6_; have GW289 := n7_; have GE289 := n8_; have NB271_289 := n9_; have NB289_271 := n10_; have NB272_289 := n11_; have NB289_272 := n12_; have NB279_289 := n13_; have NB289_279 := n14_; clear n0_ n1_ n2_ n3_ n4_ n5_ n6_ n7_ n8_ n9_ n10_ n11_ n12_ n13_ n14_; clear hb hbox hg; have hnb25 := NB289_271.out; have hnc25 := NB271_289.out; have hnb26 := NB289_272.out; have hnc26 := NB272_289.out; have hnb27 := NB289_279.out; have hnc27 := NB279_289.out; obtain ⟨hcz28_0, hcz28_1, hcz28_2, hcz28_3, hcz28_4, hcz28_5, hcz28_6⟩ := Cells.c7 BK289.out; obtain ⟨hfz28_0, hfz28_1, hfz28_2, hfz28_3, hfz28_4, hfz28_5, hfz28_6⟩ := Cells.z7 BK289.out; obtain ⟨Ao29, co29, eo29⟩ := Kd.R_slice HO288.out; subst eo29))
      have n0_ : Aside0 (Kd.R (Kd.int .u64) 25 (((((((w24.setCell ⟨gb289, 0, none⟩ (.int .i64 t280)).setCell ⟨gb289, 1, none⟩ (.int .u64 t281)).setCell ⟨gb289, 2, none⟩ (.int .i64 t282)).setCell ⟨gb289, 3, none⟩ (.int .u64 t283)).setCell ⟨gb289, 4, none⟩ (.int .i64 t284)).setCell ⟨gb289, 5, none⟩ (.int .u64 t285)).setCell ⟨gb289, 6, none⟩ (.slice Ao29 t286.length co29)) w.heap.size (fun _ => True) (.slice Ao18 t274.length co18) t274) := ⟨by (with_reducible repeat (first | apply Kd.R_alloc | apply Kd.R_drewN | apply Kd.R_drew)); exact Kd.R_mono (Kd.R_far (p := ⟨gb289, 6, none⟩) (Kd.R_far (p := ⟨gb289, 5, none⟩) (Kd.R_far (p := ⟨gb289, 4, none⟩) (Kd.R_far (p := ⟨gb289, 3, none⟩) (Kd.R_far (p := ⟨gb289, 2, none⟩) (Kd.R_far (p := ⟨gb289, 1, none⟩) (Kd.R_far (p := ⟨gb289, 0, none⟩) (Kd.R_types HO276.out BK289.out (by decide)) (fun _ hk => hk.2) (.int .i64 t280)) (fun _ hk => hk.2) (.int .u64 t281)) (fun _ hk => hk.2) (.int .i64 t282)) (fun _ hk => hk.2) (.int .u64 t283)) (fun _ hk => hk.2) (.int .i64 t284)) (fun _ hk => hk.2) (.int .u64 t285)) (fun _ hk => hk.2) (.slice Ao29 t286.length co29)) (fun _ hk => trivial)⟩
      have n1_ : Aside0 (Kd.R (Kd.int .i64) 3 (((((((w24.setCell ⟨gb289, 0, none⟩ (.int .i64 t280)).setCell ⟨gb289, 1, none⟩ (.int .u64 t281)).setCell ⟨gb289, 2, none⟩ (.int .i64 t282)).setCell ⟨gb289, 3, none⟩ (.int .u64 t283)).setCell ⟨gb289, 4, none⟩ (.int .i64 t284)).setCell ⟨gb289, 5, none⟩ (.int .u64 t285)).setCell ⟨gb289, 6, none⟩ (.slice Ao29 t286.length co29)) w.heap.size (fun _ => True) (.slice Ao29 t286.length co29) t286) := ⟨by (with_reducible repeat (first | apply Kd.R_alloc | apply Kd.R_drewN | apply Kd.R_drew)); exact Kd.R_mono (Kd.R_far (p := ⟨gb289, 6, none⟩) (Kd.R_far (p := ⟨gb289, 5, none⟩) (Kd.R_far (p := ⟨gb289, 4, none⟩) (Kd.R_far (p := ⟨gb289, 3, none⟩) (Kd.R_far (p := ⟨gb289, 2, none⟩) (Kd.R_far (p := ⟨gb289, 1, none⟩) (Kd.R_far (p := ⟨gb289, 0, none⟩) (Kd.R_types HO288.out BK289.out (by decide)) (fun _ hk => hk.2) (.int .i64 t280)) (fun _ hk => hk.2) (.int .u64 t281)) (fun _ hk => hk.2) (.int .i64 t282)) (fun _ hk => hk.2) (.int .u64 t283)) (fun _ hk => hk.2) (.int .i64 t284)) (fun _ hk => hk.2) (.int .u64 t285)) (fun _ hk => hk.2) (.slice Ao29 t286.length co29)) (fun _ hk => trivial)⟩
      have n2_ : Aside0 ((((((((w24.setCell ⟨gb289, 0, none⟩ (.int .i64 t280)).setCell ⟨gb289, 1, none⟩ (.int .u64 t281)).setCell ⟨gb289, 2, none⟩ (.int .i64 t282)).setCell ⟨gb289, 3, none⟩ (.int .u64 t283)).setCell ⟨gb289, 4, none⟩ (.int .i64 t284)).setCell ⟨gb289, 5, none⟩ (.int .u64 t285)).setCell ⟨gb289, 6, none⟩ (.slice Ao29 t286.length co29)).heap[gb271]? = some (.cells #[.slice A0_0 l0_0.length c0_0, .int .i64 a0_1, .int .i64 a0_2] 24 (0, 0))) := ⟨by (with_reducible repeat (first | refine blk_drewN ?_ _ | refine blk_drew ?_ | refine blk_alloc ?_ _)); refine blk_far ?_ NB271_289.out _; (with_reducible repeat (first | refine blk_drewN ?_ _ | refine blk_drew ?_ | refine blk_alloc ?_ _)); refine blk_far ?_ NB271_289.out _; (with_reducible repeat (first | refine blk_drewN ?_ _ | refine blk_drew ?_ | refine blk_alloc ?_ _)); refine blk_far ?_ NB271_289.out _; (with_reducible repeat (first | refine blk_drewN ?_ _ | refine blk_drew ?_ | refine blk_alloc ?_ _)); refine blk_far ?_ NB271_289.out _; (with_reducible repeat (first | refine blk_drewN ?_ _ | refine blk_drew ?_ | refine blk_alloc ?_ _)); refine blk_far ?_ NB271_289.out _; (with_reducible repeat (first | refine blk_drewN ?_ _ | refine blk_drew ?_ | refine blk_alloc ?_ _)); refine blk_far ?_ NB271_289.out _; (with_reducible repeat (first | refine blk_drewN ?_ _ | refine blk_drew ?_ | refine blk_alloc ?_ _)); refine blk_far ?_ NB271_289.out _; (with_reducible repeat (first | refine blk_drewN ?_ _ | refine blk_drew ?_ | refine blk_alloc ?_ _)); exact BK271.out⟩
      have n3_ : Aside0 ((((((((w24.setCell ⟨gb289, 0, none⟩ (.int .i64 t280)).setCell ⟨gb289, 1, none⟩ (.int .u64 t281)).setCell ⟨gb289, 2, none⟩ (.int .i64 t282)).setCell ⟨gb289, 3, none⟩ (.int .u64 t283)).setCell ⟨gb289, 4, none⟩ (.int .i64 t284)).setCell ⟨gb289, 5, none⟩ (.int .u64 t285)).setCell ⟨gb289, 6, none⟩ (.slice Ao29 t286.length co29)).heap[gb272]? = some (.cells #[.int .i64 a1_0, .int .u64 a1_1, .int .i64 a1_2, .int .u64 a1_3, .int .i64 a1_4, .int .u64 a1_5, .slice A1_6 l1_6.length c1_6] 30 (0, 0))) := ⟨by (with_reducible repeat (first | refine blk_drewN ?_ _ | refine blk_drew ?_ | refine blk_alloc ?_ _)); refine blk_far ?_ NB272_289.out _; (with_reducible repeat (first | refine blk_drewN ?_ _ | refine blk_drew ?_ | refine blk_alloc ?_ _)); refine blk_far ?_ NB272_289.out _; (with_reducible repeat (first | refine blk_drewN ?_ _ | refine blk_drew ?_ | refine blk_alloc ?_ _)); refine blk_far ?_ NB272_289.out _; (with_reducible repeat (first | refine blk_drewN ?_ _ | refine blk_drew ?_ | refine blk_alloc ?_ _)); refine blk_far ?_ NB272_289.out _; (with_reducible repeat (first | refine blk_drewN ?_ _ | refine blk_drew ?_ | refine blk_alloc ?_ _)); refine blk_far ?_ NB272_289.out _; (with_reducible repeat (first | refine blk_drewN ?_ _ | refine blk_drew ?_ | refine blk_alloc ?_ _)); refine blk_far ?_ NB272_289.out _; (with_reducible repeat (first | refine blk_drewN ?_ _ | refine blk_drew ?_ | refine blk_alloc ?_ _)); refine blk_far ?_ NB272_289.out _; (with_reducible repeat (first | refine blk_drewN ?_ _ | refine blk_drew ?_ | refine blk_alloc ?_ _)); exact BK272.out⟩
      have n4_ : Aside0 ((((((((w24.setCell ⟨gb289, 0, none⟩ (.int .i64 t280)).setCell ⟨gb289, 1, none⟩ (.int .u64 t281)).setCell ⟨gb289, 2, none⟩ (.int .i64 t282)).setCell ⟨gb289, 3, none⟩ (.int .u64 t283)).setCell ⟨gb289, 4, none⟩ (.int .i64 t284)).setCell ⟨gb289, 5, none⟩ (.int .u64 t285)).setCell ⟨gb289, 6, none⟩ (.slice Ao29 t286.length co29)).heap[gb279]? = some (.cells #[.slice Ao18 t274.length co18, .int .i64 t277, .int .i64 t278] 24 (0, 0))) := ⟨by (with_reducible repeat (first | refine blk_drewN ?_ _ | refine blk_drew ?_ | refine blk_alloc ?_ _)); refine blk_far ?_ NB279_289.out _; (with_reducible repeat (first | refine blk_drewN ?_ _ | refine blk_drew ?_ | refine blk_alloc ?_ _)); refine blk_far ?_ NB279_289.out _; (with_reducible repeat (first | refine blk_drewN ?_ _ | refine blk_drew ?_ | refine blk_alloc ?_ _)); refine blk_far ?_ NB279_289.out _; (with_reducible repeat (first | refine blk_drewN ?_ _ | refine blk_drew ?_ | refine blk_alloc ?_ _)); refine blk_far ?_ NB279_289.out _; (with_reducible repeat (first | refine blk_drewN ?_ _ | refine blk_drew ?_ | refine blk_alloc ?_ _)); refine blk_far ?_ NB279_289.out _; (with_reducible repeat (first | refine blk_drewN ?_ _ | refine blk_drew ?_ | refine blk_alloc ?_ _)); refine blk_far ?_ NB279_289.out _; (with_reducible repeat (first | refine blk_drewN ?_ _ | refine blk_drew ?_ | refine blk_alloc ?_ _)); refine blk_far ?_ NB279_289.out _; (with_reducible repeat (first | refine blk_drewN ?_ _ | refine blk_drew ?_ | refine blk_alloc ?_ _)); exact BK279.out⟩
      have n5_ : Aside0 ((((((((w24.setCell ⟨gb289, 0, none⟩ (.int .i64 t280)).setCell ⟨gb289, 1, none⟩ (.int .u64 t281)).setCell ⟨gb289, 2, none⟩ (.int .i64 t282)).setCell ⟨gb289, 3, none⟩ (.int .u64 t283)).setCell ⟨gb289, 4, none⟩ (.int .i64 t284)).setCell ⟨gb289, 5, none⟩ (.int .u64 t285)).setCell ⟨gb289, 6, none⟩ (.slice Ao29 t286.length co29)).heap[gb289]? = some (.cells #[.int .i64 t280, .int .u64 t281, .int .i64 t282, .int .u64 t283, .int .i64 t284, .int .u64 t285, .slice Ao29 t286.length co29] 30 (0, 0))) := ⟨by (with_reducible repeat (first | refine blk_drewN ?_ _ | refine blk_drew ?_ | refine blk_alloc ?_ _)); refine blk_put (cs := #[.int .i64 t280, .int .u64 t281, .int .i64 t282, .int .u64 t283, .int .i64 t284, .int .u64 t285, .slice none 0 0]) ?_ 6 _ rfl; (with_reducible repeat (first | refine blk_drewN ?_ _ | refine blk_drew ?_ | refine blk_alloc ?_ _)); refine blk_put (cs := #[.int .i64 t280, .int .u64 t281, .int .i64 t282, .int .u64 t283, .int .i64 t284, .int .u64 0, .slice none 0 0]) ?_ 5 _ rfl; (with_reducible repeat (first | refine blk_drewN ?_ _ | refine blk_drew ?_ | refine blk_alloc ?_ _)); refine blk_put (cs := #[.int .i64 t280, .int .u64 t281, .int .i64 t282, .int .u64 t283, .int .i64 0, .int .u64 0, .slice none 0 0]) ?_ 4 _ rfl; (with_reducible repeat (first | refine blk_drewN ?_ _ | refine blk_drew ?_ | refine blk_alloc ?_ _)); refine blk_put (cs := #[.int .i64 t280, .int .u64 t281, .int .i64 t282, .int .u64 0, .int .i64 0, .int .u64 0, .slice none 0 0]) ?_ 3 _ rfl; (with_reducible repeat (first | refine blk_drewN ?_ _ | refine blk_drew ?_ | refine blk_alloc ?_ _)); refine blk_put (cs := #[.int .i64 t280, .int .u64 t281, .int .i64 0, .int .u64 0, .int .i64 0, .int .u64 0, .slice none 0 0]) ?_ 2 _ rfl; (with_reducible repeat (first | refine blk_drewN ?_ _ | refine blk_drew ?_ | refine blk_alloc ?_ _)); refine blk_put (cs := #[.int .i64 t280, .int .u64 0, .int .i64 0, .int .u64 0, .int .i64 0, .int .u64 0, .slice none 0 0]) ?_ 1 _ rfl; (with_reducible repeat (first | refine blk_drewN ?_ _ | refine blk_drew ?_ | refine blk_alloc ?_ _)); refine blk_put (cs := #[.int .i64 0, .int .u64 0, .int .i64 0, .int .u64 0, .int .i64 0, .int .u64 0, .slice none 0 0]) ?_ 0 _ rfl; (with_reducible repeat (first | refine blk_drewN ?_ _ | refine blk_drew ?_ | refine blk_alloc ?_ _)); exact BK289.out⟩
      have n6_ : Aside0 (Below w.heap.size w (((((((w24.setCell ⟨gb289, 0, none⟩ (.int .i64 t280)).setCell ⟨gb289, 1, none⟩ (.int .u64 t281)).setCell ⟨gb289, 2, none⟩ (.int .i64 t282)).setCell ⟨gb289, 3, none⟩ (.int .u64 t283)).setCell ⟨gb289, 4, none⟩ (.int .i64 t284)).setCell ⟨gb289, 5, none⟩ (.int .u64 t285)).setCell ⟨gb289, 6, none⟩ (.slice Ao29 t286.length co29))) := ⟨by repeat (first | (with_reducible first | exact HB.out | apply below_alloc | apply pw_below_drewN | apply below_drew1 | refine below_set ?_ GE271.out | refine below_set ?_ GE272.out | refine below_set ?_ GE279.out | refine below_set ?_ GE289.out) | exact HB.out)⟩
      (try clear HO276)
      (try clear HO288)
      (try clear BK271)
      (try clear BK272)
      (try clear BK279)
      (try clear BK289)
      (try clear HB)
      generalize (((((((w24.setCell ⟨gb289, 0, none⟩ (.int .i64 t280)).setCell ⟨gb289, 1, none⟩ (.int .u64 t281)).setCell ⟨gb289, 2, none⟩ (.int .i64 t282)).setCell ⟨gb289, 3, none⟩ (.int .u64 t283)).setCell ⟨gb289, 4, none⟩ (.int .i64 t284)).setCell ⟨gb289, 5, none⟩ (.int .u64 t285)).setCell ⟨gb289, 6, none⟩ (.slice Ao29 t286.length co29)) = w30 at n0_ n1_ n2_ n3_ n4_ n5_ n6_ ⊢
      have HO276 := n0_
      have HO288 := n1_
      have BK271 := n2_
      have BK272 := n3_
      have BK279 := n4_
      have BK289 := n5_
      have HB := n6_
      clear n0_ n1_ n2_ n3_ n4_ n5_ n6_
      have n0_ := Aside0.mk (Kd.R_drew HO276.out)
      have n1_ := Aside0.mk (Kd.R_drew HO288.out)
      have n2_ := Aside0.mk (blk_drew BK271.out)
      have n3_ := Aside0.mk (blk_drew BK272.out)
      have n4_ := Aside0.mk (blk_drew BK279.out)
      have n5_ := Aside0.mk (blk_drew BK289.out)
      have n6_ := Aside0.mk (below_drew1 HB.out)
      clear HO276
      clear HO288
      clear BK271
      clear BK272
      clear BK279
      clear BK289
      clear HB
      have HO276 := n0_
      have HO288 := n1_
      have BK271 := n2_
      have BK272 := n3_
      have BK279 := n4_
      have BK289 := n5_
      have HB := n6_
      clear n0_ n1_ n2_ n3_ n4_ n5_ n6_
      refine start_ (n := 6) (S := fun w' => w'.cell? ⟨gb289, 0, none⟩ = some (.int .i64 t280) ∧ w'.cell? ⟨gb289, 1, none⟩ = some (.int .u64 t281) ∧ w'.cell? ⟨gb289, 2, none⟩ = some (.int .i64 t282) ∧ w'.cell? ⟨gb289, 3, none⟩ = some (.int .u64 t283) ∧ w'.cell? ⟨gb289, 4, none⟩ = some (.int .i64 t284) ∧ w'.cell? ⟨gb289, 5, none⟩ = some (.int .u64 t285) ∧ w'.cell? ⟨gb289, 6, none⟩ = some (.slice Ao29 t286.length co29)) (ds := []) #[false, false, false, false, false, false] (by kernel_rfl) rfl rfl ⟨(blk_cell BK289.out 0).trans rfl, (blk_cell BK289.out 1).trans rfl, (blk_cell BK289.out 2).trans rfl, (blk_cell BK289.out 3).trans rfl, (blk_cell BK289.out 4).trans rfl, (blk_cell BK289.out 5).trans rfl, (blk_cell BK289.out 6).trans rfl⟩ (fun hHeld => ?_)
      generalize w30.drew = w31 at HO276 HO288 BK271 BK272 BK279 BK289 HB hHeld ⊢
      refine take_ (i := 0) (N := some 18) (v := ?_) (a' := ?_) #[true, false, false, false, false, false] rfl rfl (by kernel_rfl) (fun _ _ _ h => h) (Or.inl ⟨by rfl, ?_⟩) hHeld ?_ ?_
      rotate_left
      · rintro w' ⟨s0, s1, s2, s3, s4, s5, s6⟩
        go_simp
        with_reducible rfl
      rotate_left
      · simp only [Act.put, List.setIfInBounds_toArray, List.set_cons_zero, List.set_cons_succ, i64_w, i32_w]
        rfl
      refine take_ (i := 1) (N := some 19) (v := ?_) (a' := ?_) #[true, true, false, false, false, false] rfl rfl (by kernel_rfl) (fun _ _ _ h => h) (Or.inl ⟨by rfl, ?_⟩) hHeld ?_ ?_
      rotate_left
      · rintro w' ⟨s0, s1, s2, s3, s4, s5, s6⟩
        go_simp
        with_reducible rfl
      rotate_left
      · simp only [Act.put, List.setIfInBounds_toArray, List.set_cons_zero, List.set_cons_succ, i64_w, i32_w]
        rfl
      refine join_ (σ := Nat × Nat) 2 #[true, true, true, true, false, false] (fun s_ => [(9, .pointer (some ⟨s_.1, 0, none⟩)), (10, .pointer (some ⟨s_.2, 0, none⟩))]) (fun s_ w' => (w'.cell? ⟨gb289, 0, none⟩ = some (.int .i64 t280) ∧ w'.cell? ⟨gb289, 1, none⟩ = some (.int .u64 t281) ∧ w'.cell? ⟨gb289, 2, none⟩ = some (.int .i64 t282) ∧ w'.cell? ⟨gb289, 3, none⟩ = some (.int .u64 t283) ∧ w'.cell? ⟨gb289, 4, none⟩ = some (.int .i64 t284) ∧ w'.cell? ⟨gb289, 5, none⟩ = some (.int .u64 t285) ∧ w'.cell? ⟨gb289, 6, none⟩ = some (.slice Ao29 t286.length co29)) ∧ (Kd.R (Kd.int .u64) 25 w' w.heap.size (fun _ => True) (.slice Ao18 t274.length co18) t274) ∧ (Kd.R (Kd.int .i64) 3 w' w.heap.size (fun _ => True) (.slice Ao29 t286.length co29) t286) ∧ (w'.heap[gb271]? = some (.cells #[.slice A0_0 l0_0.length c0_0, .int .i64 a0_1, .int .i64 a0_2] 24 (0, 0))) ∧ (w'.heap[gb272]? = some (.cells #[.int .i64 a1_0, .int .u64 a1_1, .int .i64 a1_2, .int .u64 a1_3, .int .i64 a1_4, .int .u64 a1_5, .slice A1_6 l1_6.length c1_6] 30 (0, 0))) ∧ (w'.heap[gb279]? = some (.cells #[.slice Ao18 t274.length co18, .int .i64 t277, .int .i64 t278] 24 (0, 0))) ∧ (w'.heap[gb289]? = some (.cells #[.int .i64 t280, .int .u64 t281, .int .i64 t282, .int .u64 t283, .int .i64 t284, .int .u64 t285, .slice Ao29 t286.length co29] 30 (0, 0))) ∧ (w'.heap[s_.1]? = some (.cells #[.int .i64 0, .int .u64 0, .int .i64 0, .int .u64 0, .int .i64 0, .int .u64 0, .slice none 0 0] 30 (0, 0))) ∧ (w'.heap[s_.2]? = some (.cells #[.int .i64 0, .int .u64 0, .int .i64 0, .int .u64 0, .int .i64 0, .int .u64 0, .slice none 0 0] 30 (0, 0))) ∧ (w.heap.size ≤ s_.1) ∧ (w.heap.size ≤ s_.1) ∧ (gb271 ≠ s_.1) ∧ (s_.1 ≠ gb271) ∧ (gb272 ≠ s_.1) ∧ (s_.1 ≠ gb272) ∧ (gb279 ≠ s_.1) ∧ (s_.1 ≠ gb279) ∧ (gb289 ≠ s_.1) ∧ (s_.1 ≠ gb289) ∧ (s_.2 ≠ s_.1) ∧ (s_.1 ≠ s_.2) ∧ (w.heap.size ≤ s_.2) ∧ (w.heap.size ≤ s_.2) ∧ (gb271 ≠ s_.2) ∧ (s_.2 ≠ gb271) ∧ (gb272 ≠ s_.2) ∧ (s_.2 ≠ gb272) ∧ (gb279 ≠ s_.2) ∧ (s_.2 ≠ gb279) ∧ (gb289 ≠ s_.2) ∧ (s_.2 ≠ gb289) ∧ (Below w.heap.size w w')) ?_ ?_
      rotate_left
      · intro hCont
        refine two_ (i := 2) (j := 3) (Ni := some 9) (Nj := some 10) #[true, true, true, false, false, false] #[true, true, false, true, false, false] rfl rfl rfl rfl (by kernel_rfl) (by decide) (by decide) (fun K hK => ?_) (fun K hK => ?_)
        · skip
          refine box_step ?hg (N := 9) ?hd (cs := #[.int .i64 0, .int .u64 0, .int .i64 0, .int .u64 0, .int .i64 0, .int .u64 0, .slice none 0 0]) (t := 30) ?hr ?_; (case hd => rfl); (case hg => rfl); (case hr => first | (go_simp; done) | (go_simp; rfl))
          intro gb290 hg w32 hbox hb
          have n0_ := Aside0.mk (Kd.R_below (by (with_reducible repeat (first | apply Kd.R_alloc | apply Kd.R_drewN | apply Kd.R_drew)); exact HO276.out) hb)
          have n1_ := Aside0.mk (Kd.R_below (by (with_reducible repeat (first | apply Kd.R_alloc | apply Kd.R_drewN | apply Kd.R_drew)); exact HO288.out) hb)
          have n2_ := Aside0.mk (blk_below (g := gb271) (o := .cells #[.slice A0_0 l0_0.length c0_0, .int .i64 a0_1, .int .i64 a0_2] 24 (0, 0)) (by (with_reducible repeat (first | refine blk_drewN ?_ _ | refine blk_drew ?_ | refine blk_alloc ?_ _)); exact BK271.out) hb)
          have n3_ := Aside0.mk (blk_below (g := gb272) (o := .cells #[.int .i64 a1_0, .int .u64 a1_1, .int .i64 a1_2, .int .u64 a1_3, .int .i64 a1_4, .int .u64 a1_5, .slice A1_6 l1_6.length c1_6] 30 (0, 0)) (by (with_reducible repeat (first | refine blk_drewN ?_ _ | refine blk_drew ?_ | refine blk_alloc ?_ _)); exact BK272.out) hb)
          have n4_ := Aside0.mk (blk_below (g := gb279) (o := .cells #[.slice Ao18 t274.length co18, .int .i64 t277, .int .i64 t278] 24 (0, 0)) (by (with_reducible repeat (first | refine blk_drewN ?_ _ | refine blk_drew ?_ | refine blk_alloc ?_ _)); exact BK279.out) hb)
          have n5_ := Aside0.mk (blk_below (g := gb289) (o := .cells #[.int .i64 t280, .int .u64 t281, .int .i64 t282, .int .u64 t283, .int .i64 t284, .int .u64 t285, .slice Ao29 t286.length co29] 30 (0, 0)) (by (with_reducible repeat (first | refine blk_drewN ?_ _ | refine blk_drew ?_ | refine blk_alloc ?_ _)); exact BK289.out) hb)
          have n6_ := Aside0.mk (below_step (by repeat (first | (with_reducible first | exact HB.out | apply below_alloc | apply pw_below_drewN | apply below_drew1 | refine below_set ?_ GE271.out | refine below_set ?_ GE272.out | refine below_set ?_ GE279.out | refine below_set ?_ GE289.out) | exact HB.out)) hb)
          have n7_ := Aside0.mk (hbox)
          have n8_ := Aside0.mk ((by rw [hg]; exact (below_size (by repeat (first | (with_reducible first | exact HB.out | apply below_alloc | apply pw_below_drewN | apply below_drew1 | refine below_set ?_ GE271.out | refine below_set ?_ GE272.out | refine below_set ?_ GE279.out | refine below_set ?_ GE289.out) | exact HB.out))) : w.heap.size ≤ gb290))
          have n9_ := Aside0.mk ((by rw [hg]; exact (below_size (by repeat (first | (with_reducible first | exact HB.out | apply below_alloc | apply pw_below_drewN | apply below_drew1 | refine below_set ?_ GE271.out | refine below_set ?_ GE272.out | refine below_set ?_ GE279.out | refine below_set ?_ GE289.out) | exact HB.out))) : w.heap.size ≤ gb290))
          have n10_ := Aside0.mk ((by rw [hg]; exact Nat.ne_of_lt (blk_lt (g := gb271) (o := .cells #[.slice A0_0 l0_0.length c0_0, .int .i64 a0_1, .int .i64 a0_2] 24 (0, 0)) (by (with_reducible repeat (first | refine blk_drewN ?_ _ | refine blk_drew ?_ | refine blk_alloc ?_ _)); exact BK271.out)) : gb271 ≠ gb290))
          have n11_ := Aside0.mk ((by rw [hg]; exact Nat.ne_of_gt (blk_lt (g := gb271) (o := .cells #[.slice A0_0 l0_0.length c0_0, .int .i64 a0_1, .int .i64 a0_2] 24 (0, 0)) (by (with_reducible repeat (first | refine blk_drewN ?_ _ | refine blk_drew ?_ | refine blk_alloc ?_ _)); exact BK271.out)) : gb290 ≠ gb271))
          have n12_ := Aside0.mk ((by rw [hg]; exact Nat.ne_of_lt (blk_lt (g := gb272) (o := .cells #[.int .i64 a1_0, .int .u64 a1_1, .int .i64 a1_2, .int .u64 a1_3, .int .i64 a1_4, .int .u64 a1_5, .slice A1_6 l1_6.length c1_6] 30 (0, 0)) (by (with_reducible repeat (first | refine blk_drewN ?_ _ | refine blk_drew ?_ | refine blk_alloc ?_ _)); exact BK272.out)) : gb272 ≠ gb290))
          have n13_ := Aside0.mk ((by rw [hg]; exact Nat.ne_of_gt (blk_lt (g := gb272) (o := .cells #[.int .i64 a1_0, .int .u64 a1_1, .int .i64 a1_2, .int .u64 a1_3, .int .i64 a1_4, .int .u64 a1_5, .slice A1_6 l1_6.length c1_6] 30 (0, 0)) (by (with_reducible repeat (first | refine blk_drewN ?_ _ | refine blk_drew ?_ | refine blk_alloc ?_ _)); exact BK272.out)) : gb290 ≠ gb272))
          have n14_ := Aside0.mk ((by rw [hg]; exact Nat.ne_of_lt (blk_lt (g := gb279) (o := .cells #[.slice Ao18 t274.length co18, .int .i64 t277, .int .i64 t278] 24 (0, 0)) (by (with_reducible repeat (first | refine blk_drewN ?_ _ | refine blk_drew ?_ | refine blk_alloc ?_ _)); exact BK279.out)) : gb279 ≠ gb290))
          have n15_ := Aside0.mk ((by rw [hg]; exact Nat.ne_of_gt (blk_lt (g := gb279) (o := .cells #[.slice Ao18 t274.length co18, .int .i64 t277, .int .i64 t278] 24 (0, 0)) (by (with_reducible repeat (first | refine blk_drewN ?_ _ | refine blk_drew ?_ | refine blk_alloc ?_ _)); exact BK279.out)) : gb290 ≠ gb279))
          have n16_ := Aside0.mk ((by rw [hg]; exact Nat.ne_of_lt (blk_lt (g := gb289) (o := .cells #[.int .i64 t280, .int .u64 t281, .int .i64 t282, .int .u64 t283, .int .i64 t284, .int .u64 t285, .slice Ao29 t286.length co29] 30 (0, 0)) (by (with_reducible repeat (first | refine blk_drewN ?_ _ | refine blk_drew ?_ | refine blk_alloc ?_ _)); exact BK289.out)) : gb289 ≠ gb290))
          have n17_ := Aside0.mk ((by rw [hg]; exact Nat.ne_of_gt (blk_lt (g := gb289) (o := .cells #[.int .i64 t280, .int .u64 t281, .int .i64 t282, .int .u64 t283, .int .i64 t284, .int .u64 t285, .slice Ao29 t286.length co29] 30 (0, 0)) (by (with_reducible repeat (first | refine blk_drewN ?_ _ | refine blk_drew ?_ | refine blk_alloc ?_ _)); exact BK289.out)) : gb290 ≠ gb289))
          clear HO276
          clear HO288
          clear BK271
          clear BK272
          clear BK279
          clear BK289
          clear HB
          have HO276 := n0_
          have HO288 := n1_
          have BK271 := n2_
          have BK272 := n3_
          have BK279 := n4_
          have BK289 := n5_
          have HB := n6_
          have BK290 := n7_
          have GW290 := n8_
          have GE290 := n9_
          have NB271_290 := n10_
          have NB290_271 := n11_
          have NB272_290 := n12_
          have NB290_272 := n13_
          have NB279_290 := n14_
          have NB290_279 := n15_
          have NB289_290 := n16_
          have NB290_289 := n17_
          clear n0_ n1_ n2_ n3_ n4_ n5_ n6_ n7_ n8_ n9_ n10_ n11_ n12_ n13_ n14_ n15_ n16_ n17_
          clear hb hbox hg
          refine hK.out _ _ ⟨(blk_cell BK289.out 0).trans rfl, (blk_cell BK289.out 1).trans rfl, (blk_cell BK289.out 2).trans rfl, (blk_cell BK289.out 3).trans rfl, (blk_cell BK289.out 4).trans rfl, (blk_cell BK289.out 5).trans rfl, (blk_cell BK289.out 6).trans rfl⟩ (fun hHeld => ?_)
          clear hK K
          refine norm_ (a' := ?_) ?_ ?_
          rotate_left
          · show Act.put _ (some 9) _ = _
            simp only [Act.put, List.setIfInBounds_toArray, List.set_cons_zero, List.set_cons_succ, i64_w, i32_w]
            rfl
          refine one_ (i := 3) (N := some 10) #[true, true, true, true, false, false] rfl rfl (by kernel_rfl) (by decide) (fun K hK => ?_)
          refine box_step ?hg (N := 10) ?hd (cs := #[.int .i64 0, .int .u64 0, .int .i64 0, .int .u64 0, .int .i64 0, .int .u64 0, .slice none 0 0]) (t := 30) ?hr ?_; (case hd => rfl); (case hg => rfl); (case hr => first | (go_simp; done) | (go_simp; rfl))
          intro gb291 hg w33 hbox hb
          have n0_ := Aside0.mk (Kd.R_below (by (with_reducible repeat (first | apply Kd.R_alloc | apply Kd.R_drewN | apply Kd.R_drew)); exact HO276.out) hb)
          have n1_ := Aside0.mk (Kd.R_below (by (with_reducible repeat (first | apply Kd.R_alloc | apply Kd.R_drewN | apply Kd.R_drew)); exact HO288.out) hb)
          have n2_ := Aside0.mk (blk_below (g := gb271) (o := .cells #[.slice A0_0 l0_0.length c0_0, .int .i64 a0_1, .int .i64 a0_2] 24 (0, 0)) (by (with_reducible repeat (first | refine blk_drewN ?_ _ | refine blk_drew ?_ | refine blk_alloc ?_ _)); exact BK271.out) hb)
          have n3_ := Aside0.mk (blk_below (g := gb272) (o := .cells #[.int .i64 a1_0, .int .u64 a1_1, .int .i64 a1_2, .int .u64 a1_3, .int .i64 a1_4, .int .u64 a1_5, .slice A1_6 l1_6.length c1_6] 30 (0, 0)) (by (with_reducible repeat (first | refine blk_drewN ?_ _ | refine blk_drew ?_ | refine blk_alloc ?_ _)); exact BK272.out) hb)
          have n4_ := Aside0.mk (blk_below (g := gb279) (o := .cells #[.slice Ao18 t274.length co18, .int .i64 t277, .int .i64 t278] 24 (0, 0)) (by (with_reducible repeat (first | refine blk_drewN ?_ _ | refine blk_drew ?_ | refine blk_alloc ?_ _)); exact BK279.out) hb)
          have n5_ := Aside0.mk (blk_below (g := gb289) (o := .cells #[.int .i64 t280, .int .u64 t281, .int .i64 t282, .int .u64 t283, .int .i64 t284, .int .u64 t285, .slice Ao29 t286.length co29] 30 (0, 0)) (by (with_reducible repeat (first | refine blk_drewN ?_ _ | refine blk_drew ?_ | refine blk_alloc ?_ _)); exact BK289.out) hb)
          have n6_ := Aside0.mk (blk_below (g := gb290) (o := .cells #[.int .i64 0, .int .u64 0, .int .i64 0, .int .u64 0, .int .i64 0, .int .u64 0, .slice none 0 0] 30 (0, 0)) (by (with_reducible repeat (first | refine blk_drewN ?_ _ | refine blk_drew ?_ | refine blk_alloc ?_ _)); exact BK290.out) hb)
          have n7_ := Aside0.mk (below_step (by repeat (first | (with_reducible first | exact HB.out | apply below_alloc | apply pw_below_drewN | apply below_drew1 | refine below_set ?_ GE271.out | refine below_set ?_ GE272.out | refine below_set ?_ GE279.out | refine below_set ?_ GE289.out | refine below_set ?_ GE290.out) | exact HB.out)) hb)
          have n8_ := Aside0.mk (hbox)
          have n9_ := Aside0.mk ((by rw [hg]; exact (below_size (by repeat (first | (with_reducible first | exact HB.out | apply below_alloc | apply pw_below_drewN | apply below_drew1 | refine below_set ?_ GE271.out | refine below_set ?_ GE272.out | refine below_set ?_ GE279.out | refine below_set ?_ GE289.out | refine below_set ?_ GE290.out) | exact HB.out))) : w.heap.size ≤ gb291))
          have n10_ := Aside0.mk ((by rw [hg]; exact (below_size (by repeat (first | (with_reducible first | exact HB.out | apply below_alloc | apply pw_below_drewN | apply below_drew1 | refine below_set ?_ GE271.out | refine below_set ?_ GE272.out | refine below_set ?_ GE279.out | refine below_set ?_ GE289.out | refine below_set ?_ GE290.out) | exact HB.out))) : w.heap.size ≤ gb291))
          have n11_ := Aside0.mk ((by rw [hg]; exact Nat.ne_of_lt (blk_lt (g := gb271) (o := .cells #[.slice A0_0 l0_0.length c0_0, .int .i64 a0_1, .int .i64 a0_2] 24 (0, 0)) (by (with_reducible repeat (first | refine blk_drewN ?_ _ | refine blk_drew ?_ | refine blk_alloc ?_ _)); exact BK271.out)) : gb271 ≠ gb291))
          have n12_ := Aside0.mk ((by rw [hg]; exact Nat.ne_of_gt (blk_lt (g := gb271) (o := .cells #[.slice A0_0 l0_0.length c0_0, .int .i64 a0_1, .int .i64 a0_2] 24 (0, 0)) (by (with_reducible repeat (first | refine blk_drewN ?_ _ | refine blk_drew ?_ | refine blk_alloc ?_ _)); exact BK271.out)) : gb291 ≠ gb271))
          have n13_ := Aside0.mk ((by rw [hg]; exact Nat.ne_of_lt (blk_lt (g := gb272) (o := .cells #[.int .i64 a1_0, .int .u64 a1_1, .int .i64 a1_2, .int .u64 a1_3, .int .i64 a1_4, .int .u64 a1_5, .slice A1_6 l1_6.length c1_6] 30 (0, 0)) (by (with_reducible repeat (first | refine blk_drewN ?_ _ | refine blk_drew ?_ | refine blk_alloc ?_ _)); exact BK272.out)) : gb272 ≠ gb291))
          have n14_ := Aside0.mk ((by rw [hg]; exact Nat.ne_of_gt (blk_lt (g := gb272) (o := .cells #[.int .i64 a1_0, .int .u64 a1_1, .int .i64 a1_2, .int .u64 a1_3, .int .i64 a1_4, .int .u64 a1_5, .slice A1_6 l1_6.length c1_6] 30 (0, 0)) (by (with_reducible repeat (first | refine blk_drewN ?_ _ | refine blk_drew ?_ | refine blk_alloc ?_ _)); exact BK272.out)) : gb291 ≠ gb272))
          have n15_ := Aside0.mk ((by rw [hg]; exact Nat.ne_of_lt (blk_lt (g := gb279) (o := .cells #[.slice Ao18 t274.length co18, .int .i64 t277, .int .i64 t278] 24 (0, 0)) (by (with_reducible repeat (first | refine blk_drewN ?_ _ | refine blk_drew ?_ | refine blk_alloc ?_ _)); exact BK279.out)) : gb279 ≠ gb291))
          have n16_ := Aside0.mk ((by rw [hg]; exact Nat.ne_of_gt (blk_lt (g := gb279) (o := .cells #[.slice Ao18 t274.length co18, .int .i64 t277, .int .i64 t278] 24 (0, 0)) (by (with_reducible repeat (first | refine blk_drewN ?_ _ | refine blk_drew ?_ | refine blk_alloc ?_ _)); exact BK279.out)) : gb291 ≠ gb279))
          have n17_ := Aside0.mk ((by rw [hg]; exact Nat.ne_of_lt (blk_lt (g := gb289) (o := .cells #[.int .i64 t280, .int .u64 t281, .int .i64 t282, .int .u64 t283, .int .i64 t284, .int .u64 t285, .slice Ao29 t286.length co29] 30 (0, 0)) (by (with_reducible repeat (first | refine blk_drewN ?_ _ | refine blk_drew ?_ | refine blk_alloc ?_ _)); exact BK289.out)) : gb289 ≠ gb291))
          have n18_ := Aside0.mk ((by rw [hg]; exact Nat.ne_of_gt (blk_lt (g := gb289) (o := .cells #[.int .i64 t280, .int .u64 t281, .int .i64 t282, .int .u64 t283, .int .i64 t284, .int .u64 t285, .slice Ao29 t286.length co29] 30 (0, 0)) (by (with_reducible repeat (first | refine blk_drewN ?_ _ | refine blk_drew ?_ | refine blk_alloc ?_ _)); exact BK289.out)) : gb291 ≠ gb289))
          have n19_ := Aside0.mk ((by rw [hg]; exact Nat.ne_of_lt (blk_lt (g := gb290) (o := .cells #[.int .i64 0, .int .u64 0, .int .i64 0, .int .u64 0, .int .i64 0, .int .u64 0, .slice none 0 0] 30 (0, 0)) (by (with_reducible repeat (first | refine blk_drewN ?_ _ | refine blk_drew ?_ | refine blk_alloc ?_ _)); exact BK290.out)) : gb290 ≠ gb291))
          have n20_ := Aside0.mk ((by rw [hg]; exact Nat.ne_of_gt (blk_lt (g := gb290) (o := .cells #[.int .i64 0, .int .u64 0, .int .i64 0, .int .u64 0, .int .i64 0, .int .u64 0, .slice none 0 0] 30 (0, 0)) (by (with_reducible repeat (first | refine blk_drewN ?_ _ | refine blk_drew ?_ | refine blk_alloc ?_ _)); exact BK290.out)) : gb291 ≠ gb290))
          clear HO276
          clear HO288
          clear BK271
          clear BK272
          clear BK279
          clear BK289
          clear BK290
          clear HB
          have HO276 := n0_
          have HO288 := n1_
          have BK271 := n2_
          have BK272 := n3_
          have BK279 := n4_
          have BK289 := n5_
          have BK290 := n6_
          have HB := n7_
          have BK291 := n8_
          have GW291 := n9_
          have GE291 := n10_
          have NB271_291 := n11_
          have NB291_271 := n12_
          have NB272_291 := n13_
          have NB291_272 := n14_
          have NB279_291 := n15_
          have NB291_279 := n16_
          have NB289_291 := n17_
          have NB291_289 := n18_
          have NB290_291 := n19_
          have NB291_290 := n20_
          clear n0_ n1_ n2_ n3_ n4_ n5_ n6_ n7_ n8_ n9_ n10_ n11_ n12_ n13_ n14_ n15_ n16_ n17_ n18_ n19_ n20_
          clear hb hbox hg
          refine hK.out _ _ ⟨(blk_cell BK289.out 0).trans rfl, (blk_cell BK289.out 1).trans rfl, (blk_cell BK289.out 2).trans rfl, (blk_cell BK289.out 3).trans rfl, (blk_cell BK289.out 4).trans rfl, (blk_cell BK289.out 5).trans rfl, (blk_cell BK289.out 6).trans rfl⟩ (fun hHeld => ?_)
          clear hK K
          refine norm_ (a' := ?_) ?_ ?_
          rotate_left
          · show Act.put _ (some 10) _ = _
            simp only [Act.put, List.setIfInBounds_toArray, List.set_cons_zero, List.set_cons_succ, i64_w, i32_w]
            rfl
          exact norm_ (by simp only [putAll, Act.put, List.setIfInBounds_toArray, List.set_cons_zero, List.set_cons_succ]) (hCont (gb290, gb291) _ ⟨hHeld, (by (with_reducible repeat (first | apply Kd.R_alloc | apply Kd.R_drewN | apply Kd.R_drew)); exact HO276.out), (by (with_reducible repeat (first | apply Kd.R_alloc | apply Kd.R_drewN | apply Kd.R_drew)); exact HO288.out), (by (with_reducible repeat (first | refine blk_drewN ?_ _ | refine blk_drew ?_ | refine blk_alloc ?_ _)); exact BK271.out), (by (with_reducible repeat (first | refine blk_drewN ?_ _ | refine blk_drew ?_ | refine blk_alloc ?_ _)); exact BK272.out), (by (with_reducible repeat (first | refine blk_drewN ?_ _ | refine blk_drew ?_ | refine blk_alloc ?_ _)); exact BK279.out), (by (with_reducible repeat (first | refine blk_drewN ?_ _ | refine blk_drew ?_ | refine blk_alloc ?_ _)); exact BK289.out), (by (with_reducible repeat (first | refine blk_drewN ?_ _ | refine blk_drew ?_ | refine blk_alloc ?_ _)); exact BK290.out), (by (with_reducible repeat (first | refine blk_drewN ?_ _ | refine blk_drew ?_ | refine blk_alloc ?_ _)); exact BK291.out), GW290.out, GE290.out, NB271_290.out, NB290_271.out, NB272_290.out, NB290_272.out, NB279_290.out, NB290_279.out, NB289_290.out, NB290_289.out, NB291_290.out, NB290_291.out, GW291.out, GE291.out, NB271_291.out, NB291_271.out, NB272_291.out, NB291_272.out, NB279_291.out, NB291_279.out, NB289_291.out, NB291_289.out, (by repeat (first | (with_reducible first | exact HB.out | apply below_alloc | apply pw_below_drewN | apply below_drew1 | refine below_set ?_ GE271.out | refine below_set ?_ GE272.out | refine below_set ?_ GE279.out | refine below_set ?_ GE289.out | refine below_set ?_ GE290.out | refine below_set ?_ GE291.out) | exact HB.out))⟩)
        · skip
          refine box_step ?hg (N := 10) ?hd (cs := #[.int .i64 0, .int .u64 0, .int .i64 0, .int .u64 0, .int .i64 0, .int .u64 0, .slice none 0 0]) (t := 30) ?hr ?_; (case hd => rfl); (case hg => rfl); (case hr => first | (go_simp; done) | (go_simp; rfl))
          intro gb291 hg w32 hbox hb
          have n0_ := Aside0.mk (Kd.R_below (by (with_reducible repeat (first | apply Kd.R_alloc | apply Kd.R_drewN | apply Kd.R_drew)); exact HO276.out) hb)
          have n1_ := Aside0.mk (Kd.R_below (by (with_reducible repeat (first | apply Kd.R_alloc | apply Kd.R_drewN | apply Kd.R_drew)); exact HO288.out) hb)
          have n2_ := Aside0.mk (blk_below (g := gb271) (o := .cells #[.slice A0_0 l0_0.length c0_0, .int .i64 a0_1, .int .i64 a0_2] 24 (0, 0)) (by (with_reducible repeat (first | refine blk_drewN ?_ _ | refine blk_drew ?_ | refine blk_alloc ?_ _)); exact BK271.out) hb)
          have n3_ := Aside0.mk (blk_below (g := gb272) (o := .cells #[.int .i64 a1_0, .int .u64 a1_1, .int .i64 a1_2, .int .u64 a1_3, .int .i64 a1_4, .int .u64 a1_5, .slice A1_6 l1_6.length c1_6] 30 (0, 0)) (by (with_reducible repeat (first | refine blk_drewN ?_ _ | refine blk_drew ?_ | refine blk_alloc ?_ _)); exact BK272.out) hb)
          have n4_ := Aside0.mk (blk_below (g := gb279) (o := .cells #[.slice Ao18 t274.length co18, .int .i64 t277, .int .i64 t278] 24 (0, 0)) (by (with_reducible repeat (first | refine blk_drewN ?_ _ | refine blk_drew ?_ | refine blk_alloc ?_ _)); exact BK279.out) hb)
          have n5_ := Aside0.mk (blk_below (g := gb289) (o := .cells #[.int .i64 t280, .int .u64 t281, .int .i64 t282, .int .u64 t283, .int .i64 t284, .int .u64 t285, .slice Ao29 t286.length co29] 30 (0, 0)) (by (with_reducible repeat (first | refine blk_drewN ?_ _ | refine blk_drew ?_ | refine blk_alloc ?_ _)); exact BK289.out) hb)
          have n6_ := Aside0.mk (below_step (by repeat (first | (with_reducible first | exact HB.out | apply below_alloc | apply pw_below_drewN | apply below_drew1 | refine below_set ?_ GE271.out | refine below_set ?_ GE272.out | refine below_set ?_ GE279.out | refine below_set ?_ GE289.out) | exact HB.out)) hb)
          have n7_ := Aside0.mk (hbox)
          have n8_ := Aside0.mk ((by rw [hg]; exact (below_size (by repeat (first | (with_reducible first | exact HB.out | apply below_alloc | apply pw_below_drewN | apply below_drew1 | refine below_set ?_ GE271.out | refine below_set ?_ GE272.out | refine below_set ?_ GE279.out | refine below_set ?_ GE289.out) | exact HB.out))) : w.heap.size ≤ gb291))
          have n9_ := Aside0.mk ((by rw [hg]; exact (below_size (by repeat (first | (with_reducible first | exact HB.out | apply below_alloc | apply pw_below_drewN | apply below_drew1 | refine below_set ?_ GE271.out | refine below_set ?_ GE272.out | refine below_set ?_ GE279.out | refine below_set ?_ GE289.out) | exact HB.out))) : w.heap.size ≤ gb291))
          have n10_ := Aside0.mk ((by rw [hg]; exact Nat.ne_of_lt (blk_lt (g := gb271) (o := .cells #[.slice A0_0 l0_0.length c0_0, .int .i64 a0_1, .int .i64 a0_2] 24 (0, 0)) (by (with_reducible repeat (first | refine blk_drewN ?_ _ | refine blk_drew ?_ | refine blk_alloc ?_ _)); exact BK271.out)) : gb271 ≠ gb291))
          have n11_ := Aside0.mk ((by rw [hg]; exact Nat.ne_of_gt (blk_lt (g := gb271) (o := .cells #[.slice A0_0 l0_0.length c0_0, .int .i64 a0_1, .int .i64 a0_2] 24 (0, 0)) (by (with_reducible repeat (first | refine blk_drewN ?_ _ | refine blk_drew ?_ | refine blk_alloc ?_ _)); exact BK271.out)) : gb291 ≠ gb271))
          have n12_ := Aside0.mk ((by rw [hg]; exact Nat.ne_of_lt (blk_lt (g := gb272) (o := .cells #[.int .i64 a1_0, .int .u64 a1_1, .int .i64 a1_2, .int .u64 a1_3, .int .i64 a1_4, .int .u64 a1_5, .slice A1_6 l1_6.length c1_6] 30 (0, 0)) (by (with_reducible repeat (first | refine blk_drewN ?_ _ | refine blk_drew ?_ | refine blk_alloc ?_ _)); exact BK272.out)) : gb272 ≠ gb291))
          have n13_ := Aside0.mk ((by rw [hg]; exact Nat.ne_of_gt (blk_lt (g := gb272) (o := .cells #[.int .i64 a1_0, .int .u64 a1_1, .int .i64 a1_2, .int .u64 a1_3, .int .i64 a1_4, .int .u64 a1_5, .slice A1_6 l1_6.length c1_6] 30 (0, 0)) (by (with_reducible repeat (first | refine blk_drewN ?_ _ | refine blk_drew ?_ | refine blk_alloc ?_ _)); exact BK272.out)) : gb291 ≠ gb272))
          have n14_ := Aside0.mk ((by rw [hg]; exact Nat.ne_of_lt (blk_lt (g := gb279) (o := .cells #[.slice Ao18 t274.length co18, .int .i64 t277, .int .i64 t278] 24 (0, 0)) (by (with_reducible repeat (first | refine blk_drewN ?_ _ | refine blk_drew ?_ | refine blk_alloc ?_ _)); exact BK279.out)) : gb279 ≠ gb291))
          have n15_ := Aside0.mk ((by rw [hg]; exact Nat.ne_of_gt (blk_lt (g := gb279) (o := .cells #[.slice Ao18 t274.length co18, .int .i64 t277, .int .i64 t278] 24 (0, 0)) (by (with_reducible repeat (first | refine blk_drewN ?_ _ | refine blk_drew ?_ | refine blk_alloc ?_ _)); exact BK279.out)) : gb291 ≠ gb279))
          have n16_ := Aside0.mk ((by rw [hg]; exact Nat.ne_of_lt (blk_lt (g := gb289) (o := .cells #[.int .i64 t280, .int .u64 t281, .int .i64 t282, .int .u64 t283, .int .i64 t284, .int .u64 t285, .slice Ao29 t286.length co29] 30 (0, 0)) (by (with_reducible repeat (first | refine blk_drewN ?_ _ | refine blk_drew ?_ | refine blk_alloc ?_ _)); exact BK289.out)) : gb289 ≠ gb291))
          have n17_ := Aside0.mk ((by rw [hg]; exact Nat.ne_of_gt (blk_lt (g := gb289) (o := .cells #[.int .i64 t280, .int .u64 t281, .int .i64 t282, .int .u64 t283, .int .i64 t284, .int .u64 t285, .slice Ao29 t286.length co29] 30 (0, 0)) (by (with_reducible repeat (first | refine blk_drewN ?_ _ | refine blk_drew ?_ | refine blk_alloc ?_ _)); exact BK289.out)) : gb291 ≠ gb289))
          clear HO276
          clear HO288
          clear BK271
          clear BK272
          clear BK279
          clear BK289
          clear HB
          have HO276 := n0_
          have HO288 := n1_
          have BK271 := n2_
          have BK272 := n3_
          have BK279 := n4_
          have BK289 := n5_
          have HB := n6_
          have BK291 := n7_
          have GW291 := n8_
          have GE291 := n9_
          have NB271_291 := n10_
          have NB291_271 := n11_
          have NB272_291 := n12_
          have NB291_272 := n13_
          have NB279_291 := n14_
          have NB291_279 := n15_
          have NB289_291 := n16_
          have NB291_289 := n17_
          clear n0_ n1_ n2_ n3_ n4_ n5_ n6_ n7_ n8_ n9_ n10_ n11_ n12_ n13_ n14_ n15_ n16_ n17_
          clear hb hbox hg
          refine hK.out _ _ ⟨(blk_cell BK289.out 0).trans rfl, (blk_cell BK289.out 1).trans rfl, (blk_cell BK289.out 2).trans rfl, (blk_cell BK289.out 3).trans rfl, (blk_cell BK289.out 4).trans rfl, (blk_cell BK289.out 5).trans rfl, (blk_cell BK289.out 6).trans rfl⟩ (fun hHeld => ?_)
          clear hK K
          refine norm_ (a' := ?_) ?_ ?_
          rotate_left
          · show Act.put _ (some 10) _ = _
            simp only [Act.put, List.setIfInBounds_toArray, List.set_cons_zero, List.set_cons_succ, i64_w, i32_w]
            rfl
          refine one_ (i := 2) (N := some 9) #[true, true, true, true, false, false] rfl rfl (by kernel_rfl) (by decide) (fun K hK => ?_)
          refine box_step ?hg (N := 9) ?hd (cs := #[.int .i64 0, .int .u64 0, .int .i64 0, .int .u64 0, .int .i64 0, .int .u64 0, .slice none 0 0]) (t := 30) ?hr ?_; (case hd => rfl); (case hg => rfl); (case hr => first | (go_simp; done) | (go_simp; rfl))
          intro gb290 hg w33 hbox hb
          have n0_ := Aside0.mk (Kd.R_below (by (with_reducible repeat (first | apply Kd.R_alloc | apply Kd.R_drewN | apply Kd.R_drew)); exact HO276.out) hb)
          have n1_ := Aside0.mk (Kd.R_below (by (with_reducible repeat (first | apply Kd.R_alloc | apply Kd.R_drewN | apply Kd.R_drew)); exact HO288.out) hb)
          have n2_ := Aside0.mk (blk_below (g := gb271) (o := .cells #[.slice A0_0 l0_0.length c0_0, .int .i64 a0_1, .int .i64 a0_2] 24 (0, 0)) (by (with_reducible repeat (first | refine blk_drewN ?_ _ | refine blk_drew ?_ | refine blk_alloc ?_ _)); exact BK271.out) hb)
          have n3_ := Aside0.mk (blk_below (g := gb272) (o := .cells #[.int .i64 a1_0, .int .u64 a1_1, .int .i64 a1_2, .int .u64 a1_3, .int .i64 a1_4, .int .u64 a1_5, .slice A1_6 l1_6.length c1_6] 30 (0, 0)) (by (with_reducible repeat (first | refine blk_drewN ?_ _ | refine blk_drew ?_ | refine blk_alloc ?_ _)); exact BK272.out) hb)
          have n4_ := Aside0.mk (blk_below (g := gb279) (o := .cells #[.slice Ao18 t274.length co18, .int .i64 t277, .int .i64 t278] 24 (0, 0)) (by (with_reducible repeat (first | refine blk_drewN ?_ _ | refine blk_drew ?_ | refine blk_alloc ?_ _)); exact BK279.out) hb)
          have n5_ := Aside0.mk (blk_below (g := gb289) (o := .cells #[.int .i64 t280, .int .u64 t281, .int .i64 t282, .int .u64 t283, .int .i64 t284, .int .u64 t285, .slice Ao29 t286.length co29] 30 (0, 0)) (by (with_reducible repeat (first | refine blk_drewN ?_ _ | refine blk_drew ?_ | refine blk_alloc ?_ _)); exact BK289.out) hb)
          have n6_ := Aside0.mk (blk_below (g := gb291) (o := .cells #[.int .i64 0, .int .u64 0, .int .i64 0, .int .u64 0, .int .i64 0, .int .u64 0, .slice none 0 0] 30 (0, 0)) (by (with_reducible repeat (first | refine blk_drewN ?_ _ | refine blk_drew ?_ | refine blk_alloc ?_ _)); exact BK291.out) hb)
          have n7_ := Aside0.mk (below_step (by repeat (first | (with_reducible first | exact HB.out | apply below_alloc | apply pw_below_drewN | apply below_drew1 | refine below_set ?_ GE271.out | refine below_set ?_ GE272.out | refine below_set ?_ GE279.out | refine below_set ?_ GE289.out | refine below_set ?_ GE291.out) | exact HB.out)) hb)
          have n8_ := Aside0.mk (hbox)
          have n9_ := Aside0.mk ((by rw [hg]; exact (below_size (by repeat (first | (with_reducible first | exact HB.out | apply below_alloc | apply pw_below_drewN | apply below_drew1 | refine below_set ?_ GE271.out | refine below_set ?_ GE272.out | refine below_set ?_ GE279.out | refine below_set ?_ GE289.out | refine below_set ?_ GE291.out) | exact HB.out))) : w.heap.size ≤ gb290))
          have n10_ := Aside0.mk ((by rw [hg]; exact (below_size (by repeat (first | (with_reducible first | exact HB.out | apply below_alloc | apply pw_below_drewN | apply below_drew1 | refine below_set ?_ GE271.out | refine below_set ?_ GE272.out | refine below_set ?_ GE279.out | refine below_set ?_ GE289.out | refine below_set ?_ GE291.out) | exact HB.out))) : w.heap.size ≤ gb290))
          have n11_ := Aside0.mk ((by rw [hg]; exact Nat.ne_of_lt (blk_lt (g := gb271) (o := .cells #[.slice A0_0 l0_0.length c0_0, .int .i64 a0_1, .int .i64 a0_2] 24 (0, 0)) (by (with_reducible repeat (first | refine blk_drewN ?_ _ | refine blk_drew ?_ | refine blk_alloc ?_ _)); exact BK271.out)) : gb271 ≠ gb290))
          have n12_ := Aside0.mk ((by rw [hg]; exact Nat.ne_of_gt (blk_lt (g := gb271) (o := .cells #[.slice A0_0 l0_0.length c0_0, .int .i64 a0_1, .int .i64 a0_2] 24 (0, 0)) (by (with_reducible repeat (first | refine blk_drewN ?_ _ | refine blk_drew ?_ | refine blk_alloc ?_ _)); exact BK271.out)) : gb290 ≠ gb271))
          have n13_ := Aside0.mk ((by rw [hg]; exact Nat.ne_of_lt (blk_lt (g := gb272) (o := .cells #[.int .i64 a1_0, .int .u64 a1_1, .int .i64 a1_2, .int .u64 a1_3, .int .i64 a1_4, .int .u64 a1_5, .slice A1_6 l1_6.length c1_6] 30 (0, 0)) (by (with_reducible repeat (first | refine blk_drewN ?_ _ | refine blk_drew ?_ | refine blk_alloc ?_ _)); exact BK272.out)) : gb272 ≠ gb290))
          have n14_ := Aside0.mk ((by rw [hg]; exact Nat.ne_of_gt (blk_lt (g := gb272) (o := .cells #[.int .i64 a1_0, .int .u64 a1_1, .int .i64 a1_2, .int .u64 a1_3, .int .i64 a1_4, .int .u64 a1_5, .slice A1_6 l1_6.length c1_6] 30 (0, 0)) (by (with_reducible repeat (first | refine blk_drewN ?_ _ | refine blk_drew ?_ | refine blk_alloc ?_ _)); exact BK272.out)) : gb290 ≠ gb272))
          have n15_ := Aside0.mk ((by rw [hg]; exact Nat.ne_of_lt (blk_lt (g := gb279) (o := .cells #[.slice Ao18 t274.length co18, .int .i64 t277, .int .i64 t278] 24 (0, 0)) (by (with_reducible repeat (first | refine blk_drewN ?_ _ | refine blk_drew ?_ | refine blk_alloc ?_ _)); exact BK279.out)) : gb279 ≠ gb290))
          have n16_ := Aside0.mk ((by rw [hg]; exact Nat.ne_of_gt (blk_lt (g := gb279) (o := .cells #[.slice Ao18 t274.length co18, .int .i64 t277, .int .i64 t278] 24 (0, 0)) (by (with_reducible repeat (first | refine blk_drewN ?_ _ | refine blk_drew ?_ | refine blk_alloc ?_ _)); exact BK279.out)) : gb290 ≠ gb279))
          have n17_ := Aside0.mk ((by rw [hg]; exact Nat.ne_of_lt (blk_lt (g := gb289) (o := .cells #[.int .i64 t280, .int .u64 t281, .int .i64 t282, .int .u64 t283, .int .i64 t284, .int .u64 t285, .slice Ao29 t286.length co29] 30 (0, 0)) (by (with_reducible repeat (first | refine blk_drewN ?_ _ | refine blk_drew ?_ | refine blk_alloc ?_ _)); exact BK289.out)) : gb289 ≠ gb290))
          have n18_ := Aside0.mk ((by rw [hg]; exact Nat.ne_of_gt (blk_lt (g := gb289) (o := .cells #[.int .i64 t280, .int .u64 t281, .int .i64 t282, .int .u64 t283, .int .i64 t284, .int .u64 t285, .slice Ao29 t286.length co29] 30 (0, 0)) (by (with_reducible repeat (first | refine blk_drewN ?_ _ | refine blk_drew ?_ | refine blk_alloc ?_ _)); exact BK289.out)) : gb290 ≠ gb289))
          have n19_ := Aside0.mk ((by rw [hg]; exact Nat.ne_of_lt (blk_lt (g := gb291) (o := .cells #[.int .i64 0, .int .u64 0, .int .i64 0, .int .u64 0, .int .i64 0, .int .u64 0, .slice none 0 0] 30 (0, 0)) (by (with_reducible repeat (first | refine blk_drewN ?_ _ | refine blk_drew ?_ | refine blk_alloc ?_ _)); exact BK291.out)) : gb291 ≠ gb290))
          have n20_ := Aside0.mk ((by rw [hg]; exact Nat.ne_of_gt (blk_lt (g := gb291) (o := .cells #[.int .i64 0, .int .u64 0, .int .i64 0, .int .u64 0, .int .i64 0, .int .u64 0, .slice none 0 0] 30 (0, 0)) (by (with_reducible repeat (first | refine blk_drewN ?_ _ | refine blk_drew ?_ | refine blk_alloc ?_ _)); exact BK291.out)) : gb290 ≠ gb291))
          clear HO276
          clear HO288
          clear BK271
          clear BK272
          clear BK279
          clear BK289
          clear BK291
          clear HB
          have HO276 := n0_
          have HO288 := n1_
          have BK271 := n2_
          have BK272 := n3_
          have BK279 := n4_
          have BK289 := n5_
          have BK291 := n6_
          have HB := n7_
          have BK290 := n8_
          have GW290 := n9_
          have GE290 := n10_
          have NB271_290 := n11_
          have NB290_271 := n12_
          have NB272_290 := n13_
          have NB290_272 := n14_
          have NB279_290 := n15_
          have NB290_279 := n16_
          have NB289_290 := n17_
          have NB290_289 := n18_
          have NB291_290 := n19_
          have NB290_291 := n20_
          clear n0_ n1_ n2_ n3_ n4_ n5_ n6_ n7_ n8_ n9_ n10_ n11_ n12_ n13_ n14_ n15_ n16_ n17_ n18_ n19_ n20_
          clear hb hbox hg
          refine hK.out _ _ ⟨(blk_cell BK289.out 0).trans rfl, (blk_cell BK289.out 1).trans rfl, (blk_cell BK289.out 2).trans rfl, (blk_cell BK289.out 3).trans rfl, (blk_cell BK289.out 4).trans rfl, (blk_cell BK289.out 5).trans rfl, (blk_cell BK289.out 6).trans rfl⟩ (fun hHeld => ?_)
          clear hK K
          refine norm_ (a' := ?_) ?_ ?_
          rotate_left
          · show Act.put _ (some 9) _ = _
            simp only [Act.put, List.setIfInBounds_toArray, List.set_cons_zero, List.set_cons_succ, i64_w, i32_w]
            rfl
          exact norm_ (by simp only [putAll, Act.put, List.setIfInBounds_toArray, List.set_cons_zero, List.set_cons_succ]) (hCont (gb290, gb291) _ ⟨hHeld, (by (with_reducible repeat (first | apply Kd.R_alloc | apply Kd.R_drewN | apply Kd.R_drew)); exact HO276.out), (by (with_reducible repeat (first | apply Kd.R_alloc | apply Kd.R_drewN | apply Kd.R_drew)); exact HO288.out), (by (with_reducible repeat (first | refine blk_drewN ?_ _ | refine blk_drew ?_ | refine blk_alloc ?_ _)); exact BK271.out), (by (with_reducible repeat (first | refine blk_drewN ?_ _ | refine blk_drew ?_ | refine blk_alloc ?_ _)); exact BK272.out), (by (with_reducible repeat (first | refine blk_drewN ?_ _ | refine blk_drew ?_ | refine blk_alloc ?_ _)); exact BK279.out), (by (with_reducible repeat (first | refine blk_drewN ?_ _ | refine blk_drew ?_ | refine blk_alloc ?_ _)); exact BK289.out), (by (with_reducible repeat (first | refine blk_drewN ?_ _ | refine blk_drew ?_ | refine blk_alloc ?_ _)); exact BK290.out), (by (with_reducible repeat (first | refine blk_drewN ?_ _ | refine blk_drew ?_ | refine blk_alloc ?_ _)); exact BK291.out), GW290.out, GE290.out, NB271_290.out, NB290_271.out, NB272_290.out, NB290_272.out, NB279_290.out, NB290_279.out, NB289_290.out, NB290_289.out, NB291_290.out, NB290_291.out, GW291.out, GE291.out, NB271_291.out, NB291_271.out, NB272_291.out, NB291_272.out, NB279_291.out, NB291_279.out, NB289_291.out, NB291_289.out, (by repeat (first | (with_reducible first | exact HB.out | apply below_alloc | apply pw_below_drewN | apply below_drew1 | refine below_set ?_ GE271.out | refine below_set ?_ GE272.out | refine below_set ?_ GE279.out | refine below_set ?_ GE289.out | refine below_set ?_ GE291.out | refine below_set ?_ GE290.out) | exact HB.out))⟩)
      rintro ⟨gb290, gb291⟩ w34 ⟨hS_, h0_, h1_, h2_, h3_, h4_, h5_, h6_, h7_, h8_, h9_, h10_, h11_, h12_, h13_, h14_, h15_, h16_, h17_, h18_, h19_, h20_, h21_, h22_, h23_, h24_, h25_, h26_, h27_, h28_, h29_, h30_⟩
      have n0_ : Aside0 (Kd.R (Kd.int .u64) 25 w34 w.heap.size (fun _ => True) (.slice Ao18 t274.length co18) t274) := ⟨h0_⟩
      have n1_ : Aside0 (Kd.R (Kd.int .i64) 3 w34 w.heap.size (fun _ => True) (.slice Ao29 t286.length co29) t286) := ⟨h1_⟩
      have n2_ : Aside0 (w34.heap[gb271]? = some (.cells #[.slice A0_0 l0_0.length c0_0, .int .i64 a0_1, .int .i64 a0_2] 24 (0, 0))) := ⟨h2_⟩
      have n3_ : Aside0 (w34.heap[gb272]? = some (.cells #[.int .i64 a1_0, .int .u64 a1_1, .int .i64 a1_2, .int .u64 a1_3, .int .i64 a1_4, .int .u64 a1_5, .slice A1_6 l1_6.length c1_6] 30 (0, 0))) := ⟨h3_⟩
      have n4_ : Aside0 (w34.heap[gb279]? = some (.cells #[.slice Ao18 t274.length co18, .int .i64 t277, .int .i64 t278] 24 (0, 0))) := ⟨h4_⟩
      have n5_ : Aside0 (w34.heap[gb289]? = some (.cells #[.int .i64 t280, .int .u64 t281, .int .i64 t282, .int .u64 t283, .int .i64 t284, .int .u64 t285, .slice Ao29 t286.length co29] 30 (0, 0))) := ⟨h5_⟩
      have n6_ : Aside0 (w34.heap[gb290]? = some (.cells #[.int .i64 0, .int .u64 0, .int .i64 0, .int .u64 0, .int .i64 0, .int .u64 0, .slice none 0 0] 30 (0, 0))) := ⟨h6_⟩
      have n7_ : Aside0 (w34.heap[gb291]? = some (.cells #[.int .i64 0, .int .u64 0, .int .i64 0, .int .u64 0, .int .i64 0, .int .u64 0, .slice none 0 0] 30 (0, 0))) := ⟨h7_⟩
      have n8_ : Aside0 (w.heap.size ≤ gb290) := ⟨h8_⟩
      have n9_ : Aside0 (w.heap.size ≤ gb290) := ⟨h9_⟩
      have n10_ : Aside0 (gb271 ≠ gb290) := ⟨h10_⟩
      have n11_ : Aside0 (gb290 ≠ gb271) := ⟨h11_⟩
      have n12_ : Aside0 (gb272 ≠ gb290) := ⟨h12_⟩
      have n13_ : Aside0 (gb290 ≠ gb272) := ⟨h13_⟩
      have n14_ : Aside0 (gb279 ≠ gb290) := ⟨h14_⟩
      have n15_ : Aside0 (gb290 ≠ gb279) := ⟨h15_⟩
      have n16_ : Aside0 (gb289 ≠ gb290) := ⟨h16_⟩
      have n17_ : Aside0 (gb290 ≠ gb289) := ⟨h17_⟩
      have n18_ : Aside0 (gb291 ≠ gb290) := ⟨h18_⟩
      have n19_ : Aside0 (gb290 ≠ gb291) := ⟨h19_⟩
      have n20_ : Aside0 (w.heap.size ≤ gb291) := ⟨h20_⟩
      have n21_ : Aside0 (w.heap.size ≤ gb291) := ⟨h21_⟩
      have n22_ : Aside0 (gb271 ≠ gb291) := ⟨h22_⟩
      have n23_ : Aside0 (gb291 ≠ gb271) := ⟨h23_⟩
      have n24_ : Aside0 (gb272 ≠ gb291) := ⟨h24_⟩
      have n25_ : Aside0 (gb291 ≠ gb272) := ⟨h25_⟩
      have n26_ : Aside0 (gb279 ≠ gb291) := ⟨h26_⟩
      have n27_ : Aside0 (gb291 ≠ gb279) := ⟨h27_⟩
      have n28_ : Aside0 (gb289 ≠ gb291) := ⟨h28_⟩
      have n29_ : Aside0 (gb291 ≠ gb289) := ⟨h29_⟩
      have n30_ : Aside0 (Below w.heap.size w w34) := ⟨h30_⟩
      clear HO276
      clear HO288
      clear BK271
      clear BK272
      clear BK279
      clear BK289
      clear HB
      clear h0_ h1_ h2_ h3_ h4_ h5_ h6_ h7_ h8_ h9_ h10_ h11_ h12_ h13_ h14_ h15_ h16_ h17_ h18_ h19_ h20_ h21_ h22_ h23_ h24_ h25_ h26_ h27_ h28_ h29_ h30_
      have HO276 := n0_
      have HO288 := n1_
      have BK271 := n2_
      have BK272 := n3_
      have BK279 := n4_
      have BK289 := n5_
      have BK290 := n6_
      have BK291 := n7_
      have GW290 := n8_
      have GE290 := n9_
      have NB271_290 := n10_
      have NB290_271 := n11_
      have NB272_290 := n12_
      have NB290_272 := n13_
      have NB279_290 := n14_
      have NB290_279 := n15_
      have NB289_290 := n16_
      have NB290_289 := n17_
      have NB291_290 := n18_
      have NB290_291 := n19_
      have GW291 := n20_
      have GE291 := n21_
      have NB271_291 := n22_
      have NB291_271 := n23_
      have NB272_291 := n24_
      have NB291_272 := n25_
      have NB279_291 := n26_
      have NB291_279 := n27_
      have NB289_291 := n28_
      have NB291_289 := n29_
      have HB := n30_
      clear n0_ n1_ n2_ n3_ n4_ n5_ n6_ n7_ n8_ n9_ n10_ n11_ n12_ n13_ n14_ n15_ n16_ n17_ n18_ n19_ n20_ n21_ n22_ n23_ n24_ n25_ n26_ n27_ n28_ n29_ n30_
      have hHeld : w34.cell? ⟨gb289, 0, none⟩ = some (.int .i64 t280) ∧ w34.cell? ⟨gb289, 1, none⟩ = some (.int .u64 t281) ∧ w34.cell? ⟨gb289, 2, none⟩ = some (.int .i64 t282) ∧ w34.cell? ⟨gb289, 3, none⟩ = some (.int .u64 t283) ∧ w34.cell? ⟨gb289, 4, none⟩ = some (.int .i64 t284) ∧ w34.cell? ⟨gb289, 5, none⟩ = some (.int .u64 t285) ∧ w34.cell? ⟨gb289, 6, none⟩ = some (.slice Ao29 t286.length co29) := hS_
      refine norm_ (a' := ?_) ?_ ?_
      rotate_left
      · simp only [putAll, Act.put, List.setIfInBounds_toArray, List.set_cons_zero, List.set_cons_succ]
        rfl
      refine one_ (i := 4) (N := none) #[true, true, true, true, true, false] rfl rfl (by kernel_rfl) (by decide) (fun K hK => ?_)
      have hs35 : w34.cell? ⟨gb290, 0, none⟩ = some (.int .i64 0) := (blk_cell BK290.out 0).trans rfl
      have hfs35 := blk_frozen BK290.out 0
      have hns35_0 := NB271_290.out
      have hns35_1 := NB272_290.out
      have hns35_2 := NB279_290.out
      have hns35_3 := NB289_290.out
      have hns35_5 := NB291_290.out
      have hms35_0 := NB290_271.out
      have hms35_1 := NB290_272.out
      have hms35_2 := NB290_279.out
      have hms35_3 := NB290_289.out
      have hms35_5 := NB290_291.out
      have hs36 : w34.cell? ⟨gb290, 1, none⟩ = some (.int .u64 0) := (blk_cell BK290.out 1).trans rfl
      have hs37 : w34.cell? ⟨gb290, 2, none⟩ = some (.int .i64 0) := (blk_cell BK290.out 2).trans rfl
      have hs38 : w34.cell? ⟨gb290, 3, none⟩ = some (.int .u64 0) := (blk_cell BK290.out 3).trans rfl
      have hs39 : w34.cell? ⟨gb290, 4, none⟩ = some (.int .i64 0) := (blk_cell BK290.out 4).trans rfl
      have hs40 : w34.cell? ⟨gb290, 5, none⟩ = some (.int .u64 0) := (blk_cell BK290.out 5).trans rfl
      have hs41 : w34.cell? ⟨gb290, 6, none⟩ = some (.slice none 0 0) := (blk_cell BK290.out 6).trans rfl
      have hfs36 := blk_frozen BK290.out 1
      have hfs37 := blk_frozen BK290.out 2
      have hfs38 := blk_frozen BK290.out 3
      have hfs39 := blk_frozen BK290.out 4
      have hfs40 := blk_frozen BK290.out 5
      have hfs41 := blk_frozen BK290.out 6
      with_reducible refine skip_ (w1 := ?_) ?ax1 ?ax2 ?_ ?_
      case ax1 => kernel_rfl
      case ax2 => kernel_rfl
      rotate_left
      · go_simp
        rfl
      refine hK.out _ _ ⟨((cell_far (p := ⟨gb290, _, none⟩) NB289_290.out _).trans (((cell_far (p := ⟨gb290, _, none⟩) NB289_290.out _).trans (((cell_far (p := ⟨gb290, _, none⟩) NB289_290.out _).trans (((cell_far (p := ⟨gb290, _, none⟩) NB289_290.out _).trans (((cell_far (p := ⟨gb290, _, none⟩) NB289_290.out _).trans (((cell_far (p := ⟨gb290, _, none⟩) NB289_290.out _).trans (((cell_far (p := ⟨gb290, _, none⟩) NB289_290.out _).trans (hHeld.1)))))))))))))), ((cell_far (p := ⟨gb290, _, none⟩) NB289_290.out _).trans (((cell_far (p := ⟨gb290, _, none⟩) NB289_290.out _).trans (((cell_far (p := ⟨gb290, _, none⟩) NB289_290.out _).trans (((cell_far (p := ⟨gb290, _, none⟩) NB289_290.out _).trans (((cell_far (p := ⟨gb290, _, none⟩) NB289_290.out _).trans (((cell_far (p := ⟨gb290, _, none⟩) NB289_290.out _).trans (((cell_far (p := ⟨gb290, _, none⟩) NB289_290.out _).trans (hHeld.2.1)))))))))))))), ((cell_far (p := ⟨gb290, _, none⟩) NB289_290.out _).trans (((cell_far (p := ⟨gb290, _, none⟩) NB289_290.out _).trans (((cell_far (p := ⟨gb290, _, none⟩) NB289_290.out _).trans (((cell_far (p := ⟨gb290, _, none⟩) NB289_290.out _).trans (((cell_far (p := ⟨gb290, _, none⟩) NB289_290.out _).trans (((cell_far (p := ⟨gb290, _, none⟩) NB289_290.out _).trans (((cell_far (p := ⟨gb290, _, none⟩) NB289_290.out _).trans (hHeld.2.2.1)))))))))))))), ((cell_far (p := ⟨gb290, _, none⟩) NB289_290.out _).trans (((cell_far (p := ⟨gb290, _, none⟩) NB289_290.out _).trans (((cell_far (p := ⟨gb290, _, none⟩) NB289_290.out _).trans (((cell_far (p := ⟨gb290, _, none⟩) NB289_290.out _).trans (((cell_far (p := ⟨gb290, _, none⟩) NB289_290.out _).trans (((cell_far (p := ⟨gb290, _, none⟩) NB289_290.out _).trans (((cell_far (p := ⟨gb290, _, none⟩) NB289_290.out _).trans (hHeld.2.2.2.1)))))))))))))), ((cell_far (p := ⟨gb290, _, none⟩) NB289_290.out _).trans (((cell_far (p := ⟨gb290, _, none⟩) NB289_290.out _).trans (((cell_far (p := ⟨gb290, _, none⟩) NB289_290.out _).trans (((cell_far (p := ⟨gb290, _, none⟩) NB289_290.out _).trans (((cell_far (p := ⟨gb290, _, none⟩) NB289_290.out _).trans (((cell_far (p := ⟨gb290, _, none⟩) NB289_290.out _).trans (((cell_far (p := ⟨gb290, _, none⟩) NB289_290.out _).trans (hHeld.2.2.2.2.1)))))))))))))), ((cell_far (p := ⟨gb290, _, none⟩) NB289_290.out _).trans (((cell_far (p := ⟨gb290, _, none⟩) NB289_290.out _).trans (((cell_far (p := ⟨gb290, _, none⟩) NB289_290.out _).trans (((cell_far (p := ⟨gb290, _, none⟩) NB289_290.out _).trans (((cell_far (p := ⟨gb290, _, none⟩) NB289_290.out _).trans (((cell_far (p := ⟨gb290, _, none⟩) NB289_290.out _).trans (((cell_far (p := ⟨gb290, _, none⟩) NB289_290.out _).trans (hHeld.2.2.2.2.2.1)))))))))))))), ((cell_far (p := ⟨gb290, _, none⟩) NB289_290.out _).trans (((cell_far (p := ⟨gb290, _, none⟩) NB289_290.out _).trans (((cell_far (p := ⟨gb290, _, none⟩) NB289_290.out _).trans (((cell_far (p := ⟨gb290, _, none⟩) NB289_290.out _).trans (((cell_far (p := ⟨gb290, _, none⟩) NB289_290.out _).trans (((cell_far (p := ⟨gb290, _, none⟩) NB289_290.out _).trans (((cell_far (p := ⟨gb290, _, none⟩) NB289_290.out _).trans (hHeld.2.2.2.2.2.2))))))))))))))⟩ (fun hHeld => ?_)
      clear hK K
      refine one_ (i := 5) (N := none) #[true, true, true, true, true, true] rfl rfl (by kernel_rfl) (by decide) (fun K hK => ?_)
      have hs42 : w34.cell? ⟨gb291, 0, none⟩ = some (.int .i64 0) := (blk_cell BK291.out 0).trans rfl
      have hfs42 := blk_frozen BK291.out 0
      have hns42_0 := NB271_291.out
      have hns42_1 := NB272_291.out
      have hns42_2 := NB279_291.out
      have hns42_3 := NB289_291.out
      have hms42_0 := NB291_271.out
      have hms42_1 := NB291_272.out
      have hms42_2 := NB291_279.out
      have hms42_3 := NB291_289.out
      have hs43 : w34.cell? ⟨gb291, 1, none⟩ = some (.int .u64 0) := (blk_cell BK291.out 1).trans rfl
      have hs44 : w34.cell? ⟨gb291, 2, none⟩ = some (.int .i64 0) := (blk_cell BK291.out 2).trans rfl
      have hs45 : w34.cell? ⟨gb291, 3, none⟩ = some (.int .u64 0) := (blk_cell BK291.out 3).trans rfl
      have hs46 : w34.cell? ⟨gb291, 4, none⟩ = some (.int .i64 0) := (blk_cell BK291.out 4).trans rfl
      have hs47 : w34.cell? ⟨gb291, 5, none⟩ = some (.int .u64 0) := (blk_cell BK291.out 5).trans rfl
      have hs48 : w34.cell? ⟨gb291, 6, none⟩ = some (.slice none 0 0) := (blk_cell BK291.out 6).trans rfl
      have hfs43 := blk_frozen BK291.out 1
      have hfs44 := blk_frozen BK291.out 2
      have hfs45 := blk_frozen BK291.out 3
      have hfs46 := blk_frozen BK291.out 4
      have hfs47 := blk_frozen BK291.out 5
      have hfs48 := blk_frozen BK291.out 6
      with_reducible refine skip_ (w1 := ?_) ?ax1 ?ax2 ?_ ?_
      case ax1 => kernel_rfl
      case ax2 => kernel_rfl
      rotate_left
      · go_simp
        rfl
      refine hK.out _ _ ⟨((cell_far (p := ⟨gb291, _, none⟩) NB289_291.out _).trans (((cell_far (p := ⟨gb291, _, none⟩) NB289_291.out _).trans (((cell_far (p := ⟨gb291, _, none⟩) NB289_291.out _).trans (((cell_far (p := ⟨gb291, _, none⟩) NB289_291.out _).trans (((cell_far (p := ⟨gb291, _, none⟩) NB289_291.out _).trans (((cell_far (p := ⟨gb291, _, none⟩) NB289_291.out _).trans (((cell_far (p := ⟨gb291, _, none⟩) NB289_291.out _).trans (hHeld.1)))))))))))))), ((cell_far (p := ⟨gb291, _, none⟩) NB289_291.out _).trans (((cell_far (p := ⟨gb291, _, none⟩) NB289_291.out _).trans (((cell_far (p := ⟨gb291, _, none⟩) NB289_291.out _).trans (((cell_far (p := ⟨gb291, _, none⟩) NB289_291.out _).trans (((cell_far (p := ⟨gb291, _, none⟩) NB289_291.out _).trans (((cell_far (p := ⟨gb291, _, none⟩) NB289_291.out _).trans (((cell_far (p := ⟨gb291, _, none⟩) NB289_291.out _).trans (hHeld.2.1)))))))))))))), ((cell_far (p := ⟨gb291, _, none⟩) NB289_291.out _).trans (((cell_far (p := ⟨gb291, _, none⟩) NB289_291.out _).trans (((cell_far (p := ⟨gb291, _, none⟩) NB289_291.out _).trans (((cell_far (p := ⟨gb291, _, none⟩) NB289_291.out _).trans (((cell_far (p := ⟨gb291, _, none⟩) NB289_291.out _).trans (((cell_far (p := ⟨gb291, _, none⟩) NB289_291.out _).trans (((cell_far (p := ⟨gb291, _, none⟩) NB289_291.out _).trans (hHeld.2.2.1)))))))))))))), ((cell_far (p := ⟨gb291, _, none⟩) NB289_291.out _).trans (((cell_far (p := ⟨gb291, _, none⟩) NB289_291.out _).trans (((cell_far (p := ⟨gb291, _, none⟩) NB289_291.out _).trans (((cell_far (p := ⟨gb291, _, none⟩) NB289_291.out _).trans (((cell_far (p := ⟨gb291, _, none⟩) NB289_291.out _).trans (((cell_far (p := ⟨gb291, _, none⟩) NB289_291.out _).trans (((cell_far (p := ⟨gb291, _, none⟩) NB289_291.out _).trans (hHeld.2.2.2.1)))))))))))))), ((cell_far (p := ⟨gb291, _, none⟩) NB289_291.out _).trans (((cell_far (p := ⟨gb291, _, none⟩) NB289_291.out _).trans (((cell_far (p := ⟨gb291, _, none⟩) NB289_291.out _).trans (((cell_far (p := ⟨gb291, _, none⟩) NB289_291.out _).trans (((cell_far (p := ⟨gb291, _, none⟩) NB289_291.out _).trans (((cell_far (p := ⟨gb291, _, none⟩) NB289_291.out _).trans (((cell_far (p := ⟨gb291, _, none⟩) NB289_291.out _).trans (hHeld.2.2.2.2.1)))))))))))))), ((cell_far (p := ⟨gb291, _, none⟩) NB289_291.out _).trans (((cell_far (p := ⟨gb291, _, none⟩) NB289_291.out _).trans (((cell_far (p := ⟨gb291, _, none⟩) NB289_291.out _).trans (((cell_far (p := ⟨gb291, _, none⟩) NB289_291.out _).trans (((cell_far (p := ⟨gb291, _, none⟩) NB289_291.out _).trans (((cell_far (p := ⟨gb291, _, none⟩) NB289_291.out _).trans (((cell_far (p := ⟨gb291, _, none⟩) NB289_291.out _).trans (hHeld.2.2.2.2.2.1)))))))))))))), ((cell_far (p := ⟨gb291, _, none⟩) NB289_291.out _).trans (((cell_far (p := ⟨gb291, _, none⟩) NB289_291.out _).trans (((cell_far (p := ⟨gb291, _, none⟩) NB289_291.out _).trans (((cell_far (p := ⟨gb291, _, none⟩) NB289_291.out _).trans (((cell_far (p := ⟨gb291, _, none⟩) NB289_291.out _).trans (((cell_far (p := ⟨gb291, _, none⟩) NB289_291.out _).trans (((cell_far (p := ⟨gb291, _, none⟩) NB289_291.out _).trans (hHeld.2.2.2.2.2.2))))))))))))))⟩ (fun hHeld => ?_)
      clear hK K
      refine done_ (by kernel_rfl) ?_
      have m0_ : Aside0 (Kd.R (Kd.int .u64) 25 ((((((((((((((w34.setCell ⟨gb290, 0, none⟩ (.int .i64 t280)).setCell ⟨gb290, 1, none⟩ (.int .u64 t281)).setCell ⟨gb290, 2, none⟩ (.int .i64 t282)).setCell ⟨gb290, 3, none⟩ (.int .u64 t283)).setCell ⟨gb290, 4, none⟩ (.int .i64 t284)).setCell ⟨gb290, 5, none⟩ (.int .u64 t285)).setCell ⟨gb290, 6, none⟩ (.slice Ao29 t286.length co29)).setCell ⟨gb291, 0, none⟩ (.int .i64 t280)).setCell ⟨gb291, 1, none⟩ (.int .u64 t281)).setCell ⟨gb291, 2, none⟩ (.int .i64 t282)).setCell ⟨gb291, 3, none⟩ (.int .u64 t283)).setCell ⟨gb291, 4, none⟩ (.int .i64 t284)).setCell ⟨gb291, 5, none⟩ (.int .u64 t285)).setCell ⟨gb291, 6, none⟩ (.slice Ao29 t286.length co29)) w.heap.size (fun _ => True) (.slice Ao18 t274.length co18) t274) := ⟨Kd.R_mono (Kd.R_mono (Kd.R_far (p := ⟨gb291, 6, none⟩) (Kd.R_far (p := ⟨gb291, 5, none⟩) (Kd.R_far (p := ⟨gb291, 4, none⟩) (Kd.R_far (p := ⟨gb291, 3, none⟩) (Kd.R_far (p := ⟨gb291, 2, none⟩) (Kd.R_far (p := ⟨gb291, 1, none⟩) (Kd.R_far (p := ⟨gb291, 0, none⟩) (Kd.R_far (p := ⟨gb290, 6, none⟩) (Kd.R_far (p := ⟨gb290, 5, none⟩) (Kd.R_far (p := ⟨gb290, 4, none⟩) (Kd.R_far (p := ⟨gb290, 3, none⟩) (Kd.R_far (p := ⟨gb290, 2, none⟩) (Kd.R_far (p := ⟨gb290, 1, none⟩) (Kd.R_far (p := ⟨gb290, 0, none⟩) (Kd.R_types (Kd.R_types HO276.out BK290.out (by decide)) BK291.out (by decide)) (fun _ hk => hk.1.2) (.int .i64 t280)) (fun _ hk => hk.1.2) (.int .u64 t281)) (fun _ hk => hk.1.2) (.int .i64 t282)) (fun _ hk => hk.1.2) (.int .u64 t283)) (fun _ hk => hk.1.2) (.int .i64 t284)) (fun _ hk => hk.1.2) (.int .u64 t285)) (fun _ hk => hk.1.2) (.slice Ao29 t286.length co29)) (fun _ hk => hk.2) (.int .i64 t280)) (fun _ hk => hk.2) (.int .u64 t281)) (fun _ hk => hk.2) (.int .i64 t282)) (fun _ hk => hk.2) (.int .u64 t283)) (fun _ hk => hk.2) (.int .i64 t284)) (fun _ hk => hk.2) (.int .u64 t285)) (fun _ hk => hk.2) (.slice Ao29 t286.length co29)) (fun _ h_ => h_.1)) (fun _ h_ => h_.1)⟩
      have m1_ : Aside0 (Kd.R (Kd.int .i64) 3 ((((((((((((((w34.setCell ⟨gb290, 0, none⟩ (.int .i64 t280)).setCell ⟨gb290, 1, none⟩ (.int .u64 t281)).setCell ⟨gb290, 2, none⟩ (.int .i64 t282)).setCell ⟨gb290, 3, none⟩ (.int .u64 t283)).setCell ⟨gb290, 4, none⟩ (.int .i64 t284)).setCell ⟨gb290, 5, none⟩ (.int .u64 t285)).setCell ⟨gb290, 6, none⟩ (.slice Ao29 t286.length co29)).setCell ⟨gb291, 0, none⟩ (.int .i64 t280)).setCell ⟨gb291, 1, none⟩ (.int .u64 t281)).setCell ⟨gb291, 2, none⟩ (.int .i64 t282)).setCell ⟨gb291, 3, none⟩ (.int .u64 t283)).setCell ⟨gb291, 4, none⟩ (.int .i64 t284)).setCell ⟨gb291, 5, none⟩ (.int .u64 t285)).setCell ⟨gb291, 6, none⟩ (.slice Ao29 t286.length co29)) w.heap.size (fun _ => True) (.slice Ao29 t286.length co29) t286) := ⟨Kd.R_mono (Kd.R_mono (Kd.R_far (p := ⟨gb291, 6, none⟩) (Kd.R_far (p := ⟨gb291, 5, none⟩) (Kd.R_far (p := ⟨gb291, 4, none⟩) (Kd.R_far (p := ⟨gb291, 3, none⟩) (Kd.R_far (p := ⟨gb291, 2, none⟩) (Kd.R_far (p := ⟨gb291, 1, none⟩) (Kd.R_far (p := ⟨gb291, 0, none⟩) (Kd.R_far (p := ⟨gb290, 6, none⟩) (Kd.R_far (p := ⟨gb290, 5, none⟩) (Kd.R_far (p := ⟨gb290, 4, none⟩) (Kd.R_far (p := ⟨gb290, 3, none⟩) (Kd.R_far (p := ⟨gb290, 2, none⟩) (Kd.R_far (p := ⟨gb290, 1, none⟩) (Kd.R_far (p := ⟨gb290, 0, none⟩) (Kd.R_types (Kd.R_types HO288.out BK290.out (by decide)) BK291.out (by decide)) (fun _ hk => hk.1.2) (.int .i64 t280)) (fun _ hk => hk.1.2) (.int .u64 t281)) (fun _ hk => hk.1.2) (.int .i64 t282)) (fun _ hk => hk.1.2) (.int .u64 t283)) (fun _ hk => hk.1.2) (.int .i64 t284)) (fun _ hk => hk.1.2) (.int .u64 t285)) (fun _ hk => hk.1.2) (.slice Ao29 t286.length co29)) (fun _ hk => hk.2) (.int .i64 t280)) (fun _ hk => hk.2) (.int .u64 t281)) (fun _ hk => hk.2) (.int .i64 t282)) (fun _ hk => hk.2) (.int .u64 t283)) (fun _ hk => hk.2) (.int .i64 t284)) (fun _ hk => hk.2) (.int .u64 t285)) (fun _ hk => hk.2) (.slice Ao29 t286.length co29)) (fun _ h_ => h_.1)) (fun _ h_ => h_.1)⟩
      have m2_ : Aside0 (((((((((((((((w34.setCell ⟨gb290, 0, none⟩ (.int .i64 t280)).setCell ⟨gb290, 1, none⟩ (.int .u64 t281)).setCell ⟨gb290, 2, none⟩ (.int .i64 t282)).setCell ⟨gb290, 3, none⟩ (.int .u64 t283)).setCell ⟨gb290, 4, none⟩ (.int .i64 t284)).setCell ⟨gb290, 5, none⟩ (.int .u64 t285)).setCell ⟨gb290, 6, none⟩ (.slice Ao29 t286.length co29)).setCell ⟨gb291, 0, none⟩ (.int .i64 t280)).setCell ⟨gb291, 1, none⟩ (.int .u64 t281)).setCell ⟨gb291, 2, none⟩ (.int .i64 t282)).setCell ⟨gb291, 3, none⟩ (.int .u64 t283)).setCell ⟨gb291, 4, none⟩ (.int .i64 t284)).setCell ⟨gb291, 5, none⟩ (.int .u64 t285)).setCell ⟨gb291, 6, none⟩ (.slice Ao29 t286.length co29)).heap[gb271]? = some (.cells #[.slice A0_0 l0_0.length c0_0, .int .i64 a0_1, .int .i64 a0_2] 24 (0, 0))) := ⟨by refine blk_far ?_ NB271_291.out _; refine blk_far ?_ NB271_291.out _; refine blk_far ?_ NB271_291.out _; refine blk_far ?_ NB271_291.out _; refine blk_far ?_ NB271_291.out _; refine blk_far ?_ NB271_291.out _; refine blk_far ?_ NB271_291.out _; refine blk_far ?_ NB271_290.out _; refine blk_far ?_ NB271_290.out _; refine blk_far ?_ NB271_290.out _; refine blk_far ?_ NB271_290.out _; refine blk_far ?_ NB271_290.out _; refine blk_far ?_ NB271_290.out _; refine blk_far ?_ NB271_290.out _; exact BK271.out⟩
      have m3_ : Aside0 (((((((((((((((w34.setCell ⟨gb290, 0, none⟩ (.int .i64 t280)).setCell ⟨gb290, 1, none⟩ (.int .u64 t281)).setCell ⟨gb290, 2, none⟩ (.int .i64 t282)).setCell ⟨gb290, 3, none⟩ (.int .u64 t283)).setCell ⟨gb290, 4, none⟩ (.int .i64 t284)).setCell ⟨gb290, 5, none⟩ (.int .u64 t285)).setCell ⟨gb290, 6, none⟩ (.slice Ao29 t286.length co29)).setCell ⟨gb291, 0, none⟩ (.int .i64 t280)).setCell ⟨gb291, 1, none⟩ (.int .u64 t281)).setCell ⟨gb291, 2, none⟩ (.int .i64 t282)).setCell ⟨gb291, 3, none⟩ (.int .u64 t283)).setCell ⟨gb291, 4, none⟩ (.int .i64 t284)).setCell ⟨gb291, 5, none⟩ (.int .u64 t285)).setCell ⟨gb291, 6, none⟩ (.slice Ao29 t286.length co29)).heap[gb272]? = some (.cells #[.int .i64 a1_0, .int .u64 a1_1, .int .i64 a1_2, .int .u64 a1_3, .int .i64 a1_4, .int .u64 a1_5, .slice A1_6 l1_6.length c1_6] 30 (0, 0))) := ⟨by refine blk_far ?_ NB272_291.out _; refine blk_far ?_ NB272_291.out _; refine blk_far ?_ NB272_291.out _; refine blk_far ?_ NB272_291.out _; refine blk_far ?_ NB272_291.out _; refine blk_far ?_ NB272_291.out _; refine blk_far ?_ NB272_291.out _; refine blk_far ?_ NB272_290.out _; refine blk_far ?_ NB272_290.out _; refine blk_far ?_ NB272_290.out _; refine blk_far ?_ NB272_290.out _; refine blk_far ?_ NB272_290.out _; refine blk_far ?_ NB272_290.out _; refine blk_far ?_ NB272_290.out _; exact BK272.out⟩
      have m4_ : Aside0 (((((((((((((((w34.setCell ⟨gb290, 0, none⟩ (.int .i64 t280)).setCell ⟨gb290, 1, none⟩ (.int .u64 t281)).setCell ⟨gb290, 2, none⟩ (.int .i64 t282)).setCell ⟨gb290, 3, none⟩ (.int .u64 t283)).setCell ⟨gb290, 4, none⟩ (.int .i64 t284)).setCell ⟨gb290, 5, none⟩ (.int .u64 t285)).setCell ⟨gb290, 6, none⟩ (.slice Ao29 t286.length co29)).setCell ⟨gb291, 0, none⟩ (.int .i64 t280)).setCell ⟨gb291, 1, none⟩ (.int .u64 t281)).setCell ⟨gb291, 2, none⟩ (.int .i64 t282)).setCell ⟨gb291, 3, none⟩ (.int .u64 t283)).setCell ⟨gb291, 4, none⟩ (.int .i64 t284)).setCell ⟨gb291, 5, none⟩ (.int .u64 t285)).setCell ⟨gb291, 6, none⟩ (.slice Ao29 t286.length co29)).heap[gb279]? = some (.cells #[.slice Ao18 t274.length co18, .int .i64 t277, .int .i64 t278] 24 (0, 0))) := ⟨by refine blk_far ?_ NB279_291.out _; refine blk_far ?_ NB279_291.out _; refine blk_far ?_ NB279_291.out _; refine blk_far ?_ NB279_291.out _; refine blk_far ?_ NB279_291.out _; refine blk_far ?_ NB279_291.out _; refine blk_far ?_ NB279_291.out _; refine blk_far ?_ NB279_290.out _; refine blk_far ?_ NB279_290.out _; refine blk_far ?_ NB279_290.out _; refine blk_far ?_ NB279_290.out _; refine blk_far ?_ NB279_290.out _; refine blk_far ?_ NB279_290.out _; refine blk_far ?_ NB279_290.out _; exact BK279.out⟩
      have m5_ : Aside0 (((((((((((((((w34.setCell ⟨gb290, 0, none⟩ (.int .i64 t280)).setCell ⟨gb290, 1, none⟩ (.int .u64 t281)).setCell ⟨gb290, 2, none⟩ (.int .i64 t282)).setCell ⟨gb290, 3, none⟩ (.int .u64 t283)).setCell ⟨gb290, 4, none⟩ (.int .i64 t284)).setCell ⟨gb290, 5, none⟩ (.int .u64 t285)).setCell ⟨gb290, 6, none⟩ (.slice Ao29 t286.length co29)).setCell ⟨gb291, 0, none⟩ (.int .i64 t280)).setCell ⟨gb291, 1, none⟩ (.int .u64 t281)).setCell ⟨gb291, 2, none⟩ (.int .i64 t282)).setCell ⟨gb291, 3, none⟩ (.int .u64 t283)).setCell ⟨gb291, 4, none⟩ (.int .i64 t284)).setCell ⟨gb291, 5, none⟩ (.int .u64 t285)).setCell ⟨gb291, 6, none⟩ (.slice Ao29 t286.length co29)).heap[gb289]? = some (.cells #[.int .i64 t280, .int .u64 t281, .int .i64 t282, .int .u64 t283, .int .i64 t284, .int .u64 t285, .slice Ao29 t286.length co29] 30 (0, 0))) := ⟨by refine blk_far ?_ NB289_291.out _; refine blk_far ?_ NB289_291.out _; refine blk_far ?_ NB289_291.out _; refine blk_far ?_ NB289_291.out _; refine blk_far ?_ NB289_291.out _; refine blk_far ?_ NB289_291.out _; refine blk_far ?_ NB289_291.out _; refine blk_far ?_ NB289_290.out _; refine blk_far ?_ NB289_290.out _; refine blk_far ?_ NB289_290.out _; refine blk_far ?_ NB289_290.out _; refine blk_far ?_ NB289_290.out _; refine blk_far ?_ NB289_290.out _; refine blk_far ?_ NB289_290.out _; exact BK289.out⟩
      have m6_ : Aside0 (((((((((((((((w34.setCell ⟨gb290, 0, none⟩ (.int .i64 t280)).setCell ⟨gb290, 1, none⟩ (.int .u64 t281)).setCell ⟨gb290, 2, none⟩ (.int .i64 t282)).setCell ⟨gb290, 3, none⟩ (.int .u64 t283)).setCell ⟨gb290, 4, none⟩ (.int .i64 t284)).setCell ⟨gb290, 5, none⟩ (.int .u64 t285)).setCell ⟨gb290, 6, none⟩ (.slice Ao29 t286.length co29)).setCell ⟨gb291, 0, none⟩ (.int .i64 t280)).setCell ⟨gb291, 1, none⟩ (.int .u64 t281)).setCell ⟨gb291, 2, none⟩ (.int .i64 t282)).setCell ⟨gb291, 3, none⟩ (.int .u64 t283)).setCell ⟨gb291, 4, none⟩ (.int .i64 t284)).setCell ⟨gb291, 5, none⟩ (.int .u64 t285)).setCell ⟨gb291, 6, none⟩ (.slice Ao29 t286.length co29)).heap[gb290]? = some (.cells #[.int .i64 t280, .int .u64 t281, .int .i64 t282, .int .u64 t283, .int .i64 t284, .int .u64 t285, .slice Ao29 t286.length co29] 30 (0, 0))) := ⟨by refine blk_far ?_ NB290_291.out _; refine blk_far ?_ NB290_291.out _; refine blk_far ?_ NB290_291.out _; refine blk_far ?_ NB290_291.out _; refine blk_far ?_ NB290_291.out _; refine blk_far ?_ NB290_291.out _; refine blk_far ?_ NB290_291.out _; refine blk_put (cs := #[.int .i64 t280, .int .u64 t281, .int .i64 t282, .int .u64 t283, .int .i64 t284, .int .u64 t285, .slice none 0 0]) ?_ 6 _ rfl; refine blk_put (cs := #[.int .i64 t280, .int .u64 t281, .int .i64 t282, .int .u64 t283, .int .i64 t284, .int .u64 0, .slice none 0 0]) ?_ 5 _ rfl; refine blk_put (cs := #[.int .i64 t280, .int .u64 t281, .int .i64 t282, .int .u64 t283, .int .i64 0, .int .u64 0, .slice none 0 0]) ?_ 4 _ rfl; refine blk_put (cs := #[.int .i64 t280, .int .u64 t281, .int .i64 t282, .int .u64 0, .int .i64 0, .int .u64 0, .slice none 0 0]) ?_ 3 _ rfl; refine blk_put (cs := #[.int .i64 t280, .int .u64 t281, .int .i64 0, .int .u64 0, .int .i64 0, .int .u64 0, .slice none 0 0]) ?_ 2 _ rfl; refine blk_put (cs := #[.int .i64 t280, .int .u64 0, .int .i64 0, .int .u64 0, .int .i64 0, .int .u64 0, .slice none 0 0]) ?_ 1 _ rfl; refine blk_put (cs := #[.int .i64 0, .int .u64 0, .int .i64 0, .int .u64 0, .int .i64 0, .int .u64 0, .slice none 0 0]) ?_ 0 _ rfl; exact BK290.out⟩
      have m7_ : Aside0 (((((((((((((((w34.setCell ⟨gb290, 0, none⟩ (.int .i64 t280)).setCell ⟨gb290, 1, none⟩ (.int .u64 t281)).setCell ⟨gb290, 2, none⟩ (.int .i64 t282)).setCell ⟨gb290, 3, none⟩ (.int .u64 t283)).setCell ⟨gb290, 4, none⟩ (.int .i64 t284)).setCell ⟨gb290, 5, none⟩ (.int .u64 t285)).setCell ⟨gb290, 6, none⟩ (.slice Ao29 t286.length co29)).setCell ⟨gb291, 0, none⟩ (.int .i64 t280)).setCell ⟨gb291, 1, none⟩ (.int .u64 t281)).setCell ⟨gb291, 2, none⟩ (.int .i64 t282)).setCell ⟨gb291, 3, none⟩ (.int .u64 t283)).setCell ⟨gb291, 4, none⟩ (.int .i64 t284)).setCell ⟨gb291, 5, none⟩ (.int .u64 t285)).setCell ⟨gb291, 6, none⟩ (.slice Ao29 t286.length co29)).heap[gb291]? = some (.cells #[.int .i64 t280, .int .u64 t281, .int .i64 t282, .int .u64 t283, .int .i64 t284, .int .u64 t285, .slice Ao29 t286.length co29] 30 (0, 0))) := ⟨by refine blk_put (cs := #[.int .i64 t280, .int .u64 t281, .int .i64 t282, .int .u64 t283, .int .i64 t284, .int .u64 t285, .slice none 0 0]) ?_ 6 _ rfl; refine blk_put (cs := #[.int .i64 t280, .int .u64 t281, .int .i64 t282, .int .u64 t283, .int .i64 t284, .int .u64 0, .slice none 0 0]) ?_ 5 _ rfl; refine blk_put (cs := #[.int .i64 t280, .int .u64 t281, .int .i64 t282, .int .u64 t283, .int .i64 0, .int .u64 0, .slice none 0 0]) ?_ 4 _ rfl; refine blk_put (cs := #[.int .i64 t280, .int .u64 t281, .int .i64 t282, .int .u64 0, .int .i64 0, .int .u64 0, .slice none 0 0]) ?_ 3 _ rfl; refine blk_put (cs := #[.int .i64 t280, .int .u64 t281, .int .i64 0, .int .u64 0, .int .i64 0, .int .u64 0, .slice none 0 0]) ?_ 2 _ rfl; refine blk_put (cs := #[.int .i64 t280, .int .u64 0, .int .i64 0, .int .u64 0, .int .i64 0, .int .u64 0, .slice none 0 0]) ?_ 1 _ rfl; refine blk_put (cs := #[.int .i64 0, .int .u64 0, .int .i64 0, .int .u64 0, .int .i64 0, .int .u64 0, .slice none 0 0]) ?_ 0 _ rfl; refine blk_far ?_ NB291_290.out _; refine blk_far ?_ NB291_290.out _; refine blk_far ?_ NB291_290.out _; refine blk_far ?_ NB291_290.out _; refine blk_far ?_ NB291_290.out _; refine blk_far ?_ NB291_290.out _; refine blk_far ?_ NB291_290.out _; exact BK291.out⟩
      have m8_ : Aside0 (Below w.heap.size w ((((((((((((((w34.setCell ⟨gb290, 0, none⟩ (.int .i64 t280)).setCell ⟨gb290, 1, none⟩ (.int .u64 t281)).setCell ⟨gb290, 2, none⟩ (.int .i64 t282)).setCell ⟨gb290, 3, none⟩ (.int .u64 t283)).setCell ⟨gb290, 4, none⟩ (.int .i64 t284)).setCell ⟨gb290, 5, none⟩ (.int .u64 t285)).setCell ⟨gb290, 6, none⟩ (.slice Ao29 t286.length co29)).setCell ⟨gb291, 0, none⟩ (.int .i64 t280)).setCell ⟨gb291, 1, none⟩ (.int .u64 t281)).setCell ⟨gb291, 2, none⟩ (.int .i64 t282)).setCell ⟨gb291, 3, none⟩ (.int .u64 t283)).setCell ⟨gb291, 4, none⟩ (.int .i64 t284)).setCell ⟨gb291, 5, none⟩ (.int .u64 t285)).setCell ⟨gb291, 6, none⟩ (.slice Ao29 t286.length co29))) := ⟨by repeat (first | (with_reducible first | exact HB.out | refine below_set ?_ GE290.out | refine below_set ?_ GE291.out) | exact HB.out)⟩
      clear HO276 HO288 BK271 BK272 BK279 BK289 BK290 BK291 HB
      generalize ((((((((((((((w34.setCell ⟨gb290, 0, none⟩ (.int .i64 t280)).setCell ⟨gb290, 1, none⟩ (.int .u64 t281)).setCell ⟨gb290, 2, none⟩ (.int .i64 t282)).setCell ⟨gb290, 3, none⟩ (.int .u64 t283)).setCell ⟨gb290, 4, none⟩ (.int .i64 t284)).setCell ⟨gb290, 5, none⟩ (.int .u64 t285)).setCell ⟨gb290, 6, none⟩ (.slice Ao29 t286.length co29)).setCell ⟨gb291, 0, none⟩ (.int .i64 t280)).setCell ⟨gb291, 1, none⟩ (.int .u64 t281)).setCell ⟨gb291, 2, none⟩ (.int .i64 t282)).setCell ⟨gb291, 3, none⟩ (.int .u64 t283)).setCell ⟨gb291, 4, none⟩ (.int .i64 t284)).setCell ⟨gb291, 5, none⟩ (.int .u64 t285)).setCell ⟨gb291, 6, none⟩ (.slice Ao29 t286.length co29)) = w35 at m0_ m1_ m2_ m3_ m4_ m5_ m6_ m7_ m8_ ⊢
      have HO276 := m0_
      have HO288 := m1_
      have BK271 := m2_
      have BK272 := m3_
      have BK279 := m4_
      have BK289 := m5_
      have BK290 := m6_
      have BK291 := m7_
      have HB := m8_
      clear m0_ m1_ m2_ m3_ m4_ m5_ m6_ m7_ m8_
      clear hHeld
      obtain ⟨hcz54_0, hcz54_1, hcz54_2, hcz54_3, hcz54_4, hcz54_5, hcz54_6⟩ := Cells.c7 BK290.out
      obtain ⟨hfz54_0, hfz54_1, hfz54_2, hfz54_3, hfz54_4, hfz54_5, hfz54_6⟩ := Cells.z7 BK290.out
      obtain ⟨hcz56_0, hcz56_1, hcz56_2, hcz56_3, hcz56_4, hcz56_5, hcz56_6⟩ := Cells.c7 BK289.out
      obtain ⟨hfz56_0, hfz56_1, hfz56_2, hfz56_3, hfz56_4, hfz56_5, hfz56_6⟩ := Cells.z7 BK289.out
      obtain ⟨hcz60_0, hcz60_1, hcz60_2, hcz60_3, hcz60_4, hcz60_5, hcz60_6⟩ := Cells.c7 BK291.out
      obtain ⟨hfz60_0, hfz60_1, hfz60_2, hfz60_3, hfz60_4, hfz60_5, hfz60_6⟩ := Cells.z7 BK291.out
      obtain ⟨hcz61_0, hcz61_1, hcz61_2⟩ := Cells.c3 BK279.out
      obtain ⟨hfz61_0, hfz61_1, hfz61_2⟩ := Cells.z3 BK279.out
      go_wp2_with fail
      go_at_call 11
      (with_reducible refine (vote_Right.calls k _ _ t274 t277 t278 t280 t281 t282 t283 (wrap64 (t284 + (wrap64 (1 + (wrap64 (a2)))))) t285 _ _ t286 false _ ?side1 ?side2 ?side3 ?side4 A8.out).mono ?_)
      (case side1 => refine (Kd.R_reads' (e := 25) (base := w.heap.size) (ok := fun k_ => True) (n := t274.length) (c := co18) ?_).2.2; exact (by (with_reducible repeat (first | apply Kd.R_alloc | apply Kd.R_drewN | apply Kd.R_drew)); exact (Kd.R_mono (Kd.R_mono (Kd.R_far (p := ⟨gb291, 2, none⟩) (Kd.R_far (p := ⟨gb290, 4, none⟩) (Kd.R_types (Kd.R_types HO276.out BK290.out (by decide)) BK291.out (by decide)) (fun _ hk => hk.1.2) (.int .i64 (wrap64 (t284 + (wrap64 (1 + (wrap64 (a2)))))))) (fun _ hk => hk.2) (.int .i64 (wrap64 ((wrap64 (t284 + 1)) + (wrap64 (a2)))))) (fun _ h_ => h_.1)) (fun _ h_ => h_.1))))
      (case side2 => exact (Kd.R_reads' HO276.out).2.1)
      (case side3 => refine (Kd.R_reads' (e := 3) (base := w.heap.size) (ok := fun k_ => True) (n := t286.length) (c := co29) ?_).2.2; exact (by (with_reducible repeat (first | apply Kd.R_alloc | apply Kd.R_drewN | apply Kd.R_drew)); exact (Kd.R_mono (Kd.R_mono (Kd.R_far (p := ⟨gb291, 2, none⟩) (Kd.R_far (p := ⟨gb290, 4, none⟩) (Kd.R_types (Kd.R_types HO288.out BK290.out (by decide)) BK291.out (by decide)) (fun _ hk => hk.1.2) (.int .i64 (wrap64 (t284 + (wrap64 (1 + (wrap64 (a2)))))))) (fun _ hk => hk.2) (.int .i64 (wrap64 ((wrap64 (t284 + 1)) + (wrap64 (a2)))))) (fun _ h_ => h_.1)) (fun _ h_ => h_.1))))
      (case side4 => exact (Kd.R_reads' HO288.out).2.1)
      rintro e w62 ⟨rfl, hb⟩
      have n0_ := Aside0.mk (Kd.R_below (by (with_reducible repeat (first | apply Kd.R_alloc | apply Kd.R_drewN | apply Kd.R_drew)); exact (Kd.R_mono (Kd.R_mono (Kd.R_far (p := ⟨gb291, 2, none⟩) (Kd.R_far (p := ⟨gb290, 4, none⟩) (Kd.R_types (Kd.R_types HO276.out BK290.out (by decide)) BK291.out (by decide)) (fun _ hk => hk.1.2) (.int .i64 (wrap64 (t284 + (wrap64 (1 + (wrap64 (a2)))))))) (fun _ hk => hk.2) (.int .i64 (wrap64 ((wrap64 (t284 + 1)) + (wrap64 (a2)))))) (fun _ h_ => h_.1)) (fun _ h_ => h_.1))) hb)
      have n1_ := Aside0.mk (Kd.R_below (by (with_reducible repeat (first | apply Kd.R_alloc | apply Kd.R_drewN | apply Kd.R_drew)); exact (Kd.R_mono (Kd.R_mono (Kd.R_far (p := ⟨gb291, 2, none⟩) (Kd.R_far (p := ⟨gb290, 4, none⟩) (Kd.R_types (Kd.R_types HO288.out BK290.out (by decide)) BK291.out (by decide)) (fun _ hk => hk.1.2) (.int .i64 (wrap64 (t284 + (wrap64 (1 + (wrap64 (a2)))))))) (fun _ hk => hk.2) (.int .i64 (wrap64 ((wrap64 (t284 + 1)) + (wrap64 (a2)))))) (fun _ h_ => h_.1)) (fun _ h_ => h_.1))) hb)
      have n2_ := Aside0.mk (blk_below (g := gb271) (o := .cells #[.slice A0_0 l0_0.length c0_0, .int .i64 a0_1, .int .i64 a0_2] 24 (0, 0)) (by (with_reducible repeat (first | refine blk_drewN ?_ _ | refine blk_drew ?_ | refine blk_alloc ?_ _)); refine blk_far ?_ NB271_291.out _; (with_reducible repeat (first | refine blk_drewN ?_ _ | refine blk_drew ?_ | refine blk_alloc ?_ _)); refine blk_far ?_ NB271_290.out _; (with_reducible repeat (first | refine blk_drewN ?_ _ | refine blk_drew ?_ | refine blk_alloc ?_ _)); exact BK271.out) hb)
      have n3_ := Aside0.mk (blk_below (g := gb272) (o := .cells #[.int .i64 a1_0, .int .u64 a1_1, .int .i64 a1_2, .int .u64 a1_3, .int .i64 a1_4, .int .u64 a1_5, .slice A1_6 l1_6.length c1_6] 30 (0, 0)) (by (with_reducible repeat (first | refine blk_drewN ?_ _ | refine blk_drew ?_ | refine blk_alloc ?_ _)); refine blk_far ?_ NB272_291.out _; (with_reducible repeat (first | refine blk_drewN ?_ _ | refine blk_drew ?_ | refine blk_alloc ?_ _)); refine blk_far ?_ NB272_290.out _; (with_reducible repeat (first | refine blk_drewN ?_ _ | refine blk_drew ?_ | refine blk_alloc ?_ _)); exact BK272.out) hb)
      have n4_ := Aside0.mk (blk_below (g := gb279) (o := .cells #[.slice Ao18 t274.length co18, .int .i64 t277, .int .i64 t278] 24 (0, 0)) (by (with_reducible repeat (first | refine blk_drewN ?_ _ | refine blk_drew ?_ | refine blk_alloc ?_ _)); refine blk_far ?_ NB279_291.out _; (with_reducible repeat (first | refine blk_drewN ?_ _ | refine blk_drew ?_ | refine blk_alloc ?_ _)); refine blk_far ?_ NB279_290.out _; (with_reducible repeat (first | refine blk_drewN ?_ _ | refine blk_drew ?_ | refine blk_alloc ?_ _)); exact BK279.out) hb)
      have n5_ := Aside0.mk (blk_below (g := gb289) (o := .cells #[.int .i64 t280, .int .u64 t281, .int .i64 t282, .int .u64 t283, .int .i64 t284, .int .u64 t285, .slice Ao29 t286.length co29] 30 (0, 0)) (by (with_reducible repeat (first | refine blk_drewN ?_ _ | refine blk_drew ?_ | refine blk_alloc ?_ _)); refine blk_far ?_ NB289_291.out _; (with_reducible repeat (first | refine blk_drewN ?_ _ | refine blk_drew ?_ | refine blk_alloc ?_ _)); refine blk_far ?_ NB289_290.out _; (with_reducible repeat (first | refine blk_drewN ?_ _ | refine blk_drew ?_ | refine blk_alloc ?_ _)); exact BK289.out) hb)
      have n6_ := Aside0.mk (blk_below (g := gb290) (o := .cells #[.int .i64 t280, .int .u64 t281, .int .i64 t282, .int .u64 t283, .int .i64 (wrap64 (t284 + (wrap64 (1 + (wrap64 (a2)))))), .int .u64 t285, .slice Ao29 t286.length co29] 30 (0, 0)) (by (with_reducible repeat (first | refine blk_drewN ?_ _ | refine blk_drew ?_ | refine blk_alloc ?_ _)); refine blk_far ?_ NB290_291.out _; (with_reducible repeat (first | refine blk_drewN ?_ _ | refine blk_drew ?_ | refine blk_alloc ?_ _)); refine blk_put (cs := #[.int .i64 t280, .int .u64 t281, .int .i64 t282, .int .u64 t283, .int .i64 t284, .int .u64 t285, .slice Ao29 t286.length co29]) ?_ 4 _ rfl; (with_reducible repeat (first | refine blk_drewN ?_ _ | refine blk_drew ?_ | refine blk_alloc ?_ _)); exact BK290.out) hb)
      have n7_ := Aside0.mk (blk_below (g := gb291) (o := .cells #[.int .i64 t280, .int .u64 t281, .int .i64 (wrap64 ((wrap64 (t284 + 1)) + (wrap64 (a2)))), .int .u64 t283, .int .i64 t284, .int .u64 t285, .slice Ao29 t286.length co29] 30 (0, 0)) (by (with_reducible repeat (first | refine blk_drewN ?_ _ | refine blk_drew ?_ | refine blk_alloc ?_ _)); refine blk_put (cs := #[.int .i64 t280, .int .u64 t281, .int .i64 t282, .int .u64 t283, .int .i64 t284, .int .u64 t285, .slice Ao29 t286.length co29]) ?_ 2 _ rfl; (with_reducible repeat (first | refine blk_drewN ?_ _ | refine blk_drew ?_ | refine blk_alloc ?_ _)); refine blk_far ?_ NB291_290.out _; (with_reducible repeat (first | refine blk_drewN ?_ _ | refine blk_drew ?_ | refine blk_alloc ?_ _)); exact BK291.out) hb)
      have n8_ := Aside0.mk (below_step (by repeat (first | (with_reducible first | exact HB.out | apply below_alloc | apply pw_below_drewN | apply below_drew1 | refine below_set ?_ GE271.out | refine below_set ?_ GE272.out | refine below_set ?_ GE279.out | refine below_set ?_ GE289.out | refine below_set ?_ GE290.out | refine below_set ?_ GE291.out) | exact HB.out)) hb)
      clear HO276
      clear HO288
      clear BK271
      clear BK272
      clear BK279
      clear BK289
      clear BK290
      clear BK291
      clear HB
      have HO276 := n0_
      have HO288 := n1_
      have BK271 := n2_
      have BK272 := n3_
      have BK279 := n4_
      have BK289 := n5_
      have BK290 := n6_
      have BK291 := n7_
      have HB := n8_
      clear n0_ n1_ n2_ n3_ n4_ n5_ n6_ n7_ n8_
      (try clear hb)
      (try clear hb2)
      (try clear hk)
      (try clear hi)
      obtain ⟨hcz63_0, hcz63_1, hcz63_2⟩ := Cells.c3 BK279.out
      obtain ⟨hfz63_0, hfz63_1, hfz63_2⟩ := Cells.z3 BK279.out
      obtain ⟨hcz64_0, hcz64_1, hcz64_2, hcz64_3, hcz64_4, hcz64_5, hcz64_6⟩ := Cells.c7 BK291.out
      obtain ⟨hfz64_0, hfz64_1, hfz64_2, hfz64_3, hfz64_4, hfz64_5, hfz64_6⟩ := Cells.z7 BK291.out
      go_wp2_with (first | (go_at_call 11; (with_reducible refine (vote_Right.calls k _ _ t274 t277 t278 t280 t281 (wrap64 ((wrap64 (t284 + 1)) + (wrap64 (a2)))) t283 t284 t285 _ _ t286 t293 _ ?side1 ?side2 ?side3 ?side4 A10.out).mono ?_); (case side1 => repeat (first | exact (Kd.R_reads' HO276.out).2.2 | (with_reducible refine Kd.C_alloc ?_ _) | (with_reducible refine Kd.C_drewN ?_ _) | (with_reducible refine Kd.C_drew ?_))); (case side2 => exact (Kd.R_reads' HO276.out).2.1); (case side3 => repeat (first | exact (Kd.R_reads' HO288.out).2.2 | (with_reducible refine Kd.C_alloc ?_ _) | (with_reducible refine Kd.C_drewN ?_ _) | (with_reducible refine Kd.C_drew ?_))); (case side4 => exact (Kd.R_reads' HO288.out).2.1); rintro e w65 ⟨rfl, hb⟩; have n0_ := Aside0.mk (Kd.R_below (by (with_reducible repeat (first | apply Kd.R_alloc | apply Kd.R_drewN | apply Kd.R_drew)); exact HO276.out) hb); have n1_ := Aside0.mk (Kd.R_below (by (with_reducible repeat (first | apply Kd.R_alloc | apply Kd.R_drewN | apply Kd.R_drew)); exact HO288.out) hb); have n2_ := Aside0.mk (blk_below (g := gb271) (o := .cells #[.slice A0_0 l0_0.length c0_0, .int .i64 a0_1, .int .i64 a0_2] 24 (0, 0)) (by (with_reducible repeat (first | refine blk_drewN ?_ _ | refine blk_drew ?_ | refine blk_alloc ?_ _)); exact BK271.out) hb); have n3_ := Aside0.mk (blk_below (g := gb272) (o := .cells #[.int .i64 a1_0, .int .u64 a1_1, .int .i64 a1_2, .int .u64 a1_3, .int .i64 a1_4, .int .u64 a1_5, .slice A1_6 l1_6.length c1_6] 30 (0, 0)) (by (with_reducible repeat (first | refine blk_drewN ?_ _ | refine blk_drew ?_ | refine blk_alloc ?_ _)); exact BK272.out) hb); have n4_ := Aside0.mk (blk_below (g := gb279) (o := .cells #[.slice Ao18 t274.length co18, .int .i64 t277, .int .i64 t278] 24 (0, 0)) (by (with_reducible repeat (first | refine blk_drewN ?_ _ | refine blk_drew ?_ | refine blk_alloc ?_ _)); exact BK279.out) hb); have n5_ := Aside0.mk (blk_below (g := gb289) (o := .cells #[.int .i64 t280, .int .u64 t281, .int .i64 t282, .int .u64 t283, .int .i64 t284, .int .u64 t285, .slice Ao29 t286.length co29] 30 (0, 0)) (by (with_reducible repeat (first | refine blk_drewN ?_ _ | refine blk_drew ?_ | refine blk_alloc ?_ _)); exact BK289.out) hb); have n6_ := Aside0.mk (blk_below (g := gb290) (o := .cells #[.int .i64 t280, .int .u64 t281, .int .i64 t282, .int .u64 t283, .int .i64 (wrap64 (t284 + (wrap64 (1 + (wrap64 (a2)))))), .int .u64 t285, .slice Ao29 t286.length co29] 30 (0, 0)) (by (with_reducible repeat (first | refine blk_drewN ?_ _ | refine blk_drew ?_ | refine blk_alloc ?_ _)); exact BK290.out) hb); have n7_ := Aside0.mk (blk_below (g := gb291) (o := .cells #[.int .i64 t280, .int .u64 t281, .int .i64 (wrap64 ((wrap64 (t284 + 1)) + (wrap64 (a2)))), .int .u64 t283, .int .i64 t284, .int .u64 t285, .slice Ao29 t286.length co29] 30 (0, 0)) (by (with_reducible repeat (first | refine blk_drewN ?_ _ | refine blk_drew ?_ | refine blk_alloc ?_ _)); exact BK291.out) hb); have n8_ := Aside0.mk (below_step (by repeat (first | (with_reducible first | exact HB.out | apply below_alloc | apply pw_below_drewN | apply below_drew1 | refine below_set ?_ GE271.out | refine below_set ?_ GE272.out | refine below_set ?_ GE279.out | refine below_set ?_ GE289.out | refine below_set ?_ GE290.out | refine below_set ?_ GE291.out) | exact HB.out)) hb); clear HO276; clear HO288; clear BK271; clear BK272; clear BK279; clear BK289; clear BK290; clear BK291; clear HB; have HO276 := n0_; have HO288 := n1_; have BK271 := n2_; have BK272 := n3_; have BK279 := n4_; have BK289 := n5_; have BK290 := n6_; have BK291 := n7_; have HB := n8_; clear n0_ n1_ n2_ n3_ n4_ n5_ n6_ n7_ n8_; (try clear hb); (try clear hb2); (try clear hk); (try clear hi)))
      go_ret
      exact ⟨by first | rfl | (simp [errW_none, errW_some] <;> rfl) | (simp [*, errW_none, errW_some] <;> rfl), by repeat (first | (with_reducible first | exact HB.out | apply below_alloc | apply pw_below_drewN | apply below_drew1 | refine below_set ?_ GE271.out | refine below_set ?_ GE272.out | refine below_set ?_ GE279.out | refine below_set ?_ GE289.out | refine below_set ?_ GE290.out | refine below_set ?_ GE291.out) | exact HB.out)⟩
  · replace c5 := Bool.eq_false_iff.mpr c5
    subst c5
    have H1 : (some false) = some r := by rw [if_neg (show ¬ (false = true) by decide)] at H; exact H
    clear H
    have H := H1
    clear H1
    exact absurd ((Option.some.inj H).trans hr_) Bool.false_ne_true

end Go.Proofs.Ytegegnpjdpjgmaa.QV
