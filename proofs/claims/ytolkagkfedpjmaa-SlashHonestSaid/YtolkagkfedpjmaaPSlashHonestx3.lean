-- PRINTED BY print.sh 35421559b90ae4d0a3588c463048766b98c2df88dd9212a6774a882060cdf62d: not written by this session
import Derived.Test.YtolkagkfedpjmaaPSlashHonestx0
import Derived.Test.YtolkagkfedpjmaaPSlashHonestx2
namespace Go.Proofs.Ytolkagkfedpjmaa.PSlashHonest
open Go.RowKit Go.Proofs.YtolkagkfedpjmaaW.PrintWords Go.Proofs.YtolkagkfedpjmaaW.PrintLast Go.Proofs.YtolkagkfedpjmaaW.PrintMore
attribute [local go_sem] max2_int min2_int max_two min_two max_three min_three max_four min_four   -- for this text's walks alone
set_option linter.unusedVariables false
set_option linter.unusedSimpArgs false

/-! ### psephoslaw06_SlashHonest: function 4 -/
mutual
def psephoslaw06_SlashHonest.j1 : Nat → List (S27) → Option (Bool)
  | 0, _ => none
  | k + 1, x3 => psephoslaw06_SlashHonest.l1 k x3 (x3.length : Int) 0
def psephoslaw06_SlashHonest.l1 : Nat → List (S27) → Int → Int → Option (Bool)
  | 0, _, _, _ => none
  | k + 1, x3, x40, x41 => if x41 < x40 then (if 0 ≤ x41 then (if x41 ≤ (x3.length : Int) then (psephoslaw06_SlashHonest.l2 k x3 x41 x40 x41 ((x3.take (x41 : Int).toNat).length : Int) 0) else (none)) else (none)) else (some true)
def psephoslaw06_SlashHonest.l2 : Nat → List (S27) → Int → Int → Int → Int → Int → Option (Bool)
  | 0, _, _, _, _, _, _ => none
  | k + 1, x3, x8, x40, x41, x47, x48 => if x48 < x47 then (if 0 ≤ x8 then (if x8 < (x3.length : Int) then (if 0 ≤ x48 then (if x48 < (x3.length : Int) then ((slash_Bad.f ((rd_T27 x3 x8).f0) ((rd_T27 x3 x8).f1) ((rd_T27 x3 x8).f2.f0) ((rd_T27 x3 x8).f2.f1) ((rd_T27 x3 x8).f3.f0) ((rd_T27 x3 x8).f3.f1) ((rd_T27 x3 x8).f4) ((rd_T27 x3 x48).f0) ((rd_T27 x3 x48).f1) ((rd_T27 x3 x48).f2.f0) ((rd_T27 x3 x48).f2.f1) ((rd_T27 x3 x48).f3.f0) ((rd_T27 x3 x48).f3.f1) ((rd_T27 x3 x48).f4)).bind fun t130 => (if t130 = true then (some false) else (psephoslaw06_SlashHonest.l2 k x3 x8 x40 x41 x47 (wrap64 (x48 + 1))))) else (none)) else (none)) else (none)) else (none)) else (psephoslaw06_SlashHonest.l1 k x3 x40 (wrap64 (x41 + 1)))
def psephoslaw06_SlashHonest.l0 : Nat → List (S27) → Int → List Int → Int → Int → Option (Bool)
  | 0, _, _, _, _, _ => none
  | k + 1, x3, x4, x12, x13, x14 => if x14 < x13 then (if 0 ≤ x14 then (if x14 < (x12.length : Int) then (if x14 = 40 then (psephoslaw06_SlashHonest.j1 k x3) else (if x3.length < 1954687338268 then (psephoslaw06_SlashHonest.l0 k (x3 ++ [(⟨0, 0, (⟨x4, 0⟩ : S24), (⟨wrap64 ((wrap64 (x4 + 1)) + (wrap64 (Int.tmod (rd x12 x14) 5))), IntKind.u64.wrap (rd x12 x14)⟩ : S24), ([] : List Int)⟩ : S27)]) (wrap64 ((wrap64 (x4 + 1)) + (wrap64 (Int.tmod (rd x12 x14) 5)))) x12 x13 (wrap64 (x14 + 1))) else (none))) else (none)) else (none)) else (psephoslaw06_SlashHonest.j1 k x3)
end
def psephoslaw06_SlashHonest.f (k : Nat) (l0 : List Int) : Option (Bool) := (psephoslaw06_awake.f).bind fun t119 => (if t119 = true then (psephoslaw06_SlashHonest.l0 k ([] : List (S27)) 0 l0 (l0.length : Int) 0) else (some false))
theorem psephoslaw06_SlashHonest.mono_l : ∀ k, (∀ y0, LeO (psephoslaw06_SlashHonest.j1 k y0) (psephoslaw06_SlashHonest.j1 (k + 1) y0)) ∧ (∀ y0 y1 y2, LeO (psephoslaw06_SlashHonest.l1 k y0 y1 y2) (psephoslaw06_SlashHonest.l1 (k + 1) y0 y1 y2)) ∧ (∀ y0 y1 y2 y3 y4 y5, LeO (psephoslaw06_SlashHonest.l2 k y0 y1 y2 y3 y4 y5) (psephoslaw06_SlashHonest.l2 (k + 1) y0 y1 y2 y3 y4 y5)) ∧ (∀ y0 y1 y2 y3 y4, LeO (psephoslaw06_SlashHonest.l0 k y0 y1 y2 y3 y4) (psephoslaw06_SlashHonest.l0 (k + 1) y0 y1 y2 y3 y4))
  | 0 => ⟨fun _ r h => by simp [psephoslaw06_SlashHonest.j1] at h, fun _ _ _ r h => by simp [psephoslaw06_SlashHonest.l1] at h, fun _ _ _ _ _ _ r h => by simp [psephoslaw06_SlashHonest.l2] at h, fun _ _ _ _ _ r h => by simp [psephoslaw06_SlashHonest.l0] at h⟩
  | k + 1 => by
    obtain ⟨ih0, ih1, ih2, ih3⟩ := psephoslaw06_SlashHonest.mono_l k
    refine ⟨?_, ?_, ?_, ?_⟩
    · intro y0
      unfold psephoslaw06_SlashHonest.j1
      repeat' first
      | (with_reducible exact ih0 _)
      | (with_reducible exact ih1 _ _ _)
      | (with_reducible exact ih2 _ _ _ _ _ _)
      | (with_reducible exact ih3 _ _ _ _ _)
      | (with_reducible exact LeO.refl _)
      | (with_reducible exact LeO.none _)
      | (with_reducible refine LeO.ite ?_ ?_)
      | (with_reducible refine LeO.bind ?_ (fun _ => ?_))
      | exact ih0 _
      | exact ih1 _ _ _
      | exact ih2 _ _ _ _ _ _
      | exact ih3 _ _ _ _ _
      | exact LeO.none _
      | refine LeO.ite ?_ ?_
      | refine LeO.bind ?_ (fun _ => ?_)
    · intro y0 y1 y2
      unfold psephoslaw06_SlashHonest.l1
      repeat' first
      | (with_reducible exact ih0 _)
      | (with_reducible exact ih1 _ _ _)
      | (with_reducible exact ih2 _ _ _ _ _ _)
      | (with_reducible exact ih3 _ _ _ _ _)
      | (with_reducible exact LeO.refl _)
      | (with_reducible exact LeO.none _)
      | (with_reducible refine LeO.ite ?_ ?_)
      | (with_reducible refine LeO.bind ?_ (fun _ => ?_))
      | exact ih0 _
      | exact ih1 _ _ _
      | exact ih2 _ _ _ _ _ _
      | exact ih3 _ _ _ _ _
      | exact LeO.none _
      | refine LeO.ite ?_ ?_
      | refine LeO.bind ?_ (fun _ => ?_)
    · intro y0 y1 y2 y3 y4 y5
      unfold psephoslaw06_SlashHonest.l2
      repeat' first
      | (with_reducible exact ih0 _)
      | (with_reducible exact ih1 _ _ _)
      | (with_reducible exact ih2 _ _ _ _ _ _)
      | (with_reducible exact ih3 _ _ _ _ _)
      | (with_reducible exact LeO.refl _)
      | (with_reducible exact LeO.none _)
      | (with_reducible refine LeO.ite ?_ ?_)
      | (with_reducible refine LeO.bind ?_ (fun _ => ?_))
      | exact ih0 _
      | exact ih1 _ _ _
      | exact ih2 _ _ _ _ _ _
      | exact ih3 _ _ _ _ _
      | exact LeO.none _
      | refine LeO.ite ?_ ?_
      | refine LeO.bind ?_ (fun _ => ?_)
    · intro y0 y1 y2 y3 y4
      unfold psephoslaw06_SlashHonest.l0
      repeat' first
      | (with_reducible exact ih0 _)
      | (with_reducible exact ih1 _ _ _)
      | (with_reducible exact ih2 _ _ _ _ _ _)
      | (with_reducible exact ih3 _ _ _ _ _)
      | (with_reducible exact LeO.refl _)
      | (with_reducible exact LeO.none _)
      | (with_reducible refine LeO.ite ?_ ?_)
      | (with_reducible refine LeO.bind ?_ (fun _ => ?_))
      | exact ih0 _
      | exact ih1 _ _ _
      | exact ih2 _ _ _ _ _ _
      | exact ih3 _ _ _ _ _
      | exact LeO.none _
      | refine LeO.ite ?_ ?_
      | refine LeO.bind ?_ (fun _ => ?_)
theorem psephoslaw06_SlashHonest.mono : ∀ a0 k, LeO (psephoslaw06_SlashHonest.f k a0) (psephoslaw06_SlashHonest.f (k + 1) a0) := by
  intro a0 k
  obtain ⟨ih0, ih1, ih2, ih3⟩ := psephoslaw06_SlashHonest.mono_l k
  unfold psephoslaw06_SlashHonest.f
  repeat' first
      | (with_reducible exact ih0 _)
      | (with_reducible exact ih1 _ _ _)
      | (with_reducible exact ih2 _ _ _ _ _ _)
      | (with_reducible exact ih3 _ _ _ _ _)
      | (with_reducible exact LeO.refl _)
      | (with_reducible exact LeO.none _)
      | (with_reducible refine LeO.ite ?_ ?_)
      | (with_reducible refine LeO.bind ?_ (fun _ => ?_))
      | exact ih0 _
      | exact ih1 _ _ _
      | exact ih2 _ _ _ _ _ _
      | exact ih3 _ _ _ _ _
      | exact LeO.none _
      | refine LeO.ite ?_ ?_
      | refine LeO.bind ?_ (fun _ => ?_)
def psephoslaw06_SlashHonest.T19 : Bool × List (List Nat × List Nat) := (true, [([], []), ([], []), ([0, 1], [0, 1]), ([2], [2]), ([], []), ([], []), ([4, 5], [4, 5]), ([6], [6]), ([3, 7], [3, 7])])
def psephoslaw06_SlashHonest.B19 : List Nat := [0, 0, 3, 7, 0, 0, 48, 112, 255]
theorem psephoslaw06_SlashHonest.tab19 : rtab .any (opsOf Try.f4 19) = psephoslaw06_SlashHonest.T19 := by kernel_rfl
theorem psephoslaw06_SlashHonest.bits19 : waitsOk psephoslaw06_SlashHonest.T19.2 psephoslaw06_SlashHonest.B19 = true := by kernel_rfl
set_option maxHeartbeats 8000000 in
set_option maxRecDepth 100000 in
theorem psephoslaw06_SlashHonest.calls (k : Nat) (A0 : Option Addr) (c0 : Nat) (l0 : List Int) (r : Bool) (w : World) (hr0 : Kd.C (Kd.int .u8) w A0 l0.length l0) (hc0 : l0.length ≤ c0) (h : psephoslaw06_SlashHonest.f k l0 = some r) :
    Calls Try.prog 4 #[.slice A0 l0.length c0] w fun e w' => e = .returned (.bool r) ∧ Below w.heap.size w w' := by
  have hu24 := Try.underlying24
  have hu27 := Try.underlying27
  have HR0 := Aside0.mk hr0
  have HC0 := Aside0.mk hc0
  clear hr0 hc0
  have HB := Aside0.mk (Below.refl w.heap.size w)
  have H : ((psephoslaw06_awake.f).bind fun t119 => (if t119 = true then (psephoslaw06_SlashHonest.l0 k ([] : List (S27)) 0 l0 (l0.length : Int) 0) else (some false))) = some r := h
  clear h
  replace H := Option.bind_eq_some_iff.mp H
  obtain ⟨t119, A20, H⟩ := H
  replace H : (if t119 = true then (psephoslaw06_SlashHonest.l0 k ([] : List (S27)) 0 l0 (l0.length : Int) 0) else (some false)) = some r := H
  have A2 := Aside0.mk A20
  clear A20
  by_cases c3 : t119 = true
  · subst c3
    have H1 : (psephoslaw06_SlashHonest.l0 k ([] : List (S27)) 0 l0 (l0.length : Int) 0) = some r := by rw [if_pos rfl] at H; exact H
    clear H
    have H := H1
    clear H1
    have HC4 := Aside0.mk H
    clear H
    go_enter Try.func4, Try.ntmps4
    go_upto_block 0 with (first | ((with_reducible refine gate_callee (f := 6) rfl ?_); refine goesL_ (some 10) rfl rfl Try.func6 (by kernel_rfl) rfl #[] rfl (by (try simp only [List.map_toArray, List.map_cons, List.map_nil]); first | done | rfl | (simp only [List.length_drop, List.length_take]; rfl)) ?_; (with_reducible refine (psephoslaw06_awake.calls  true _ A2.out).mono ?_); rintro e w5 ⟨rfl, hb⟩; refine ⟨_, rfl, ?_⟩; have n0_ := Aside0.mk (below_step (by repeat (first | (with_reducible first | exact HB.out | apply below_alloc | apply pw_below_drewN | apply below_drew1) | exact HB.out)) hb); clear HB; have HB := n0_; clear n0_; (try clear hb); (try clear hb2); (try clear hk); (try clear hi)))
    (try simp only [Act.put, List.setIfInBounds_toArray, List.set_cons_zero, List.set_cons_succ])
    go_cut [3] (fun v3 wc => ∃ (kq : Nat) (x3_3 : List (S27)), Aside0 (psephoslaw06_SlashHonest.j1 kq x3_3 = some r) ∧ Aside0 (kq ≤ k) ∧ Aside0 (Kd.S k27 27 wc w.heap.size (fun _ => True) v3 x3_3) ∧ Aside0 (Below w.heap.size w wc))
    case first =>
      have H := HC4.out
      clear HC4
      have H' := Aside0.mk H
      clear H
      go_wp2
      go_loopg [3, 4, 14] k (fun kq v3 v4 v14 w' => ∃ (x3_1 : List (S27)) (x4_1 : Int) (x14_1 : Int), v4 = .int .i64 x4_1 ∧ v14 = .int .i64 x14_1 ∧ Aside0 (psephoslaw06_SlashHonest.l0 kq x3_1 x4_1 l0 (l0.length : Int) x14_1 = some r) ∧ Aside0 (kq ≤ k) ∧ Aside0 (Kd.S k27 27 w' w.heap.size (fun _ => True) v3 x3_1) ∧ Aside0 (Below w.heap.size w w'))
      case atStart => exact ⟨(([] : List (S27))), (0), (0), (by first | rfl | (simp; done) | (simp [*]; done)), (by first | rfl | (simp; done) | (simp [*]; done)), H', ⟨Nat.le_refl _⟩, ⟨by first | exact Kd.S_nil _ _ _ _ _ | exact Kd.N_nil _ _ _ _ _ | exact Kd.V_nil _ _ _ _ _ | exact Kd.Q_nil _ _ _ _ _ | exact Kd.R_nil _ _ _ _ _⟩, ⟨by repeat (first | (with_reducible first | exact HB.out | apply below_alloc | apply pw_below_drewN | apply below_drew1) | exact HB.out)⟩⟩
      case round =>
        clear H'
        try clear p2
        try clear c3
        try clear c4
        obtain ⟨x3_1, x4_1, x14_1, rfl, rfl, HA, HK1, HO_3, HB⟩ := hrel
        cases gk with
        | zero => exact absurd HA.out (by simp [psephoslaw06_SlashHonest.l0])
        | succ k1 =>
          have H := HA.out
          clear HA
          simp only [psephoslaw06_SlashHonest.l0] at H
          by_cases c6 : x14_1 < (l0.length : Int)
          · rw [if_pos c6] at H
            have c6b0 : decide (x14_1 < (l0.length : Int)) = true := decide_eq_true c6
            clear c6
            (first | rw [c6b0] | (simp only [i64_w, i32_w]; rw [c6b0]) | skip)
            by_cases c7 : 0 ≤ x14_1
            · rw [if_pos c7] at H
              have c7b0 : decide (0 ≤ x14_1) = true := decide_eq_true c7
              clear c7
              by_cases c8 : x14_1 < (l0.length : Int)
              · rw [if_pos c8] at H
                have c8b0 : decide (x14_1 < (l0.length : Int)) = true := decide_eq_true c8
                clear c8
                by_cases c9 : x14_1 = 40
                · rw [if_pos c9] at H
                  have c9b0 : (x14_1 == 40) = true := beq_iff_eq.mpr c9
                  have c9b1 : (x14_1 != 40) = false := bne_eq_false_iff_eq.mpr c9
                  clear c9
                  have H' := Aside0.mk H
                  clear H
                  have p120 : 0 ≤ (x14_1 : Int) := of_decide_eq_true (by first | (with_reducible assumption) | assumption)
                  have q120 : x14_1 < (l0.length : Int) := of_decide_eq_true (by first | (with_reducible assumption) | assumption)
                  obtain ⟨ad120, e120, hx120_0⟩ := Kd.at_int HR0.out x14_1 p120 q120
                  cases e120
                  replace hx120_0 := (HB.out.cell (World.block_lt_of_cell? w _ hx120_0)).trans hx120_0
                  replace p120 := eq_true p120
                  replace q120 := eq_true q120
                  go_wp2
                  go_meet
                  case rel => exact ⟨_, (x3_1), H', ⟨by have := HK1.out; first | omega | exact Nat.le_refl _⟩, ⟨by (with_reducible repeat (first | apply Kd.S_alloc | apply Kd.S_drewN | apply Kd.S_drew)); exact HO_3.out⟩, ⟨by repeat (first | (with_reducible first | exact HB.out | apply below_alloc | apply pw_below_drewN | apply below_drew1) | exact HB.out)⟩⟩
                · rw [if_neg c9] at H
                  have c9b0 : (x14_1 == 40) = false := beq_eq_false_iff_ne.mpr c9
                  have c9b1 : (x14_1 != 40) = true := bne_iff_ne.mpr c9
                  by_cases c10 : x3_1.length < 1954687338268
                  · rw [if_pos c10] at H
                    have LMc10 := Aside0.mk c10
                    clear c10
                    obtain ⟨y121, hy121⟩ : ∃ y_ : List (S27), y_ = (x3_1 ++ [(⟨0, 0, (⟨x4_1, 0⟩ : S24), (⟨wrap64 ((wrap64 (x4_1 + 1)) + (wrap64 (Int.tmod (rd l0 x14_1) 5))), IntKind.u64.wrap (rd l0 x14_1)⟩ : S24), ([] : List Int)⟩ : S27)]) := ⟨_, rfl⟩
                    replace H : (psephoslaw06_SlashHonest.l0 k1 y121 (wrap64 ((wrap64 (x4_1 + 1)) + (wrap64 (Int.tmod (rd l0 x14_1) 5)))) l0 (l0.length : Int) (wrap64 (x14_1 + 1))) = some r := by first | (rw [hy121]; with_reducible exact H) | (have H2_ := (Option.bind_some _ _).symm.trans H; rw [hy121]; with_reducible exact H2_) | (have H2_ := (Option.bind_some _ _).symm.trans H; with_reducible exact H2_) | with_reducible exact H | (rw [hy121]; exact H) | exact H
                    have Ny121 := Aside0.mk hy121
                    clear hy121
                    have H' := Aside0.mk H
                    clear H
                    have p120 : 0 ≤ (x14_1 : Int) := of_decide_eq_true (by first | (with_reducible assumption) | assumption)
                    have q120 : x14_1 < (l0.length : Int) := of_decide_eq_true (by first | (with_reducible assumption) | assumption)
                    obtain ⟨ad120, e120, hx120_0⟩ := Kd.at_int HR0.out x14_1 p120 q120
                    cases e120
                    replace hx120_0 := (HB.out.cell (World.block_lt_of_cell? w _ hx120_0)).trans hx120_0
                    replace p120 := eq_true p120
                    replace q120 := eq_true q120
                    go_wp2_with (first | ((with_reducible refine gate_builtin (b := .append) (xs := #[.tmp 27, .tmp 35]) rfl ?_); at_builtin; refine Kd.S_append k27 (w0 := w) w.heap.size rfl (.tmp 27) (.tmp 35) 31 27 (.agg #[(.int .i64 0), (.int .u64 0), (.int .i64 0), (.int .u64 0), (.int .i64 0), (.int .u64 0), (.slice none 0 0)]) 72 rfl Try.underlying31 info27 rfl (by decide) (by omega) u3 x3_1 (⟨0, 0, (⟨x4_1, 0⟩ : S24), (⟨wrap64 ((wrap64 (x4_1 + 1)) + (wrap64 (Int.tmod (rd l0 x14_1) 5))), IntKind.u64.wrap (rd l0 x14_1)⟩ : S24), ([] : List Int)⟩ : S27) [.int .i64 0, .int .u64 0, .int .i64 x4_1, .int .u64 0, .int .i64 (wrap64 ((wrap64 (x4_1 + 1)) + (wrap64 (Int.tmod (rd l0 x14_1) 5)))), .int .u64 (IntKind.u64.wrap (rd l0 x14_1)), .slice none 0 0] (fun _ => True) (fun _ => False) rfl rfl ?aP (fun k_ hk_ => hk_.elim) ?aF ?aO ?aB ?aS ?aL ?_; (case aP => exact k27_mkM _ _ _ (⟨0, 0, (⟨x4_1, 0⟩ : S24), (⟨wrap64 ((wrap64 (x4_1 + 1)) + (wrap64 (Int.tmod (rd l0 x14_1) 5))), IntKind.u64.wrap (rd l0 x14_1)⟩ : S24), ([] : List Int)⟩ : S27) (Kd.R_nil _ _ _ _ _)); (case aB => exact (by repeat (first | (with_reducible first | exact HB.out | apply below_alloc | apply pw_below_drewN | apply below_drew1) | exact HB.out))); (case aF => exact (fun _ _ => trivial)); (case aO => exact (by (with_reducible repeat (first | apply Kd.S_alloc | apply Kd.S_drewN | apply Kd.S_drew)); exact Kd.S_mono HO_3.out (fun k_ hk => ⟨trivial, fun e_ => e_⟩))); (case aS => exact (below_size (by repeat (first | (with_reducible first | exact HB.out | apply below_alloc | apply pw_below_drewN | apply below_drew1) | exact HB.out)))); (case aL => have := LMc10.out; omega); intro v122 w11 ho hb hg hat; rw [← Ny121.out] at ho; have n0_ := Aside0.mk (hb); have n1_ := Aside0.mk (ho); clear HB; clear HO_3; have HB := n0_; have HO123 := n1_; clear n0_ n1_; clear ho hb hg hat))
                    go_roundg k1
                    case measure => have := HK1.out; omega
                    case rel => exact ⟨(y121), (wrap64 ((wrap64 (x4_1 + 1)) + (wrap64 (Int.tmod (rd l0 x14_1) 5)))), (wrap64 (x14_1 + 1)), (by first | rfl | (simp; done) | (simp [*]; done)), (by first | rfl | (simp; done) | (simp [*]; done)), H', ⟨by have := HK1.out; omega⟩, ⟨by (with_reducible repeat (first | apply Kd.S_alloc | apply Kd.S_drewN | apply Kd.S_drew)); exact HO123.out⟩, ⟨by repeat (first | (with_reducible first | exact HB.out | apply below_alloc | apply pw_below_drewN | apply below_drew1) | exact HB.out)⟩⟩
                  · rw [if_neg c10] at H
                    exact absurd H (by simp)
              · rw [if_neg c8] at H
                exact absurd H (by simp)
            · rw [if_neg c7] at H
              exact absurd H (by simp)
          · rw [if_neg c6] at H
            have c6b0 : decide (x14_1 < (l0.length : Int)) = false := decide_eq_false c6
            clear c6
            (first | rw [c6b0] | (simp only [i64_w, i32_w]; rw [c6b0]) | skip)
            have H' := Aside0.mk H
            clear H
            go_wp2
            go_meet
            case rel => exact ⟨_, (x3_1), H', ⟨by have := HK1.out; first | omega | exact Nat.le_refl _⟩, ⟨by (with_reducible repeat (first | apply Kd.S_alloc | apply Kd.S_drewN | apply Kd.S_drew)); exact HO_3.out⟩, ⟨by repeat (first | (with_reducible first | exact HB.out | apply below_alloc | apply pw_below_drewN | apply below_drew1) | exact HB.out)⟩⟩
    case rest =>
      clear HC4
      try clear c1
      try clear p1
      try clear q1
      try clear hx1
      try clear p2
      try clear c3
      try clear c4
      try clear c6
      try clear c6b0
      try clear p6
      try clear c7
      try clear c7b0
      try clear c8
      try clear c8b0
      try clear c9
      try clear c9b0
      try clear c9b1
      try clear c10
      try clear hx120_0
      try clear p120
      try clear p2
      try clear q120
      obtain ⟨kq, x3_3, HA, HJ3, HO_3, HB⟩ := hcut
      cases kq with
      | zero => exact absurd HA.out (by simp [psephoslaw06_SlashHonest.j1])
      | succ kj3 =>
        have H := HA.out
        clear HA
        simp only [psephoslaw06_SlashHonest.j1] at H
        have H' := Aside0.mk H
        clear H
        obtain ⟨Ao12, co12, eo12⟩ := Kd.S_slice HO_3.out
        subst eo12
        go_wp2
        go_loopg [41] kj3 (fun kq v41 w' => ∃ (x41_2 : Int), v41 = .int .i64 x41_2 ∧ Aside0 (psephoslaw06_SlashHonest.l1 kq x3_3 (x3_3.length : Int) x41_2 = some r) ∧ Aside0 (kq ≤ kj3) ∧ Aside0 (Kd.S k27 27 w' w.heap.size (fun _ => True) (.slice Ao12 x3_3.length co12) x3_3) ∧ Aside0 (Below w.heap.size w w'))
        case atStart => exact ⟨(0), (by first | rfl | (simp; done) | (simp [*]; done)), H', ⟨Nat.le_refl _⟩, ⟨by (with_reducible repeat (first | apply Kd.S_alloc | apply Kd.S_drewN | apply Kd.S_drew)); exact HO_3.out⟩, ⟨by repeat (first | (with_reducible first | exact HB.out | apply below_alloc | apply pw_below_drewN | apply below_drew1) | exact HB.out)⟩⟩
        case round =>
          clear H'
          try clear c1
          try clear p1
          try clear q1
          try clear hx1
          try clear p2
          try clear c3
          try clear c4
          try clear c6
          try clear c6b0
          try clear p6
          try clear c7
          try clear c7b0
          try clear c8
          try clear c8b0
          try clear c9
          try clear c9b0
          try clear c9b1
          try clear c10
          try clear p12
          try clear q12
          try clear hx12
          try clear hx120_0
          try clear p1
          try clear p120
          try clear p2
          try clear p6
          try clear q1
          try clear q120
          obtain ⟨x41_2, rfl, HA, HK2, HO_3, HB⟩ := hrel
          cases gk with
          | zero => exact absurd HA.out (by simp [psephoslaw06_SlashHonest.l1])
          | succ k2 =>
            have H := HA.out
            clear HA
            simp only [psephoslaw06_SlashHonest.l1] at H
            by_cases c13 : x41_2 < (x3_3.length : Int)
            · rw [if_pos c13] at H
              have c13b0 : decide (x41_2 < (x3_3.length : Int)) = true := decide_eq_true c13
              clear c13
              by_cases c14 : 0 ≤ x41_2
              · rw [if_pos c14] at H
                have c14b0 := eq_true c14
                have c14b1 : decide (0 ≤ x41_2) = true := decide_eq_true c14
                clear c14
                by_cases c15 : x41_2 ≤ (x3_3.length : Int)
                · rw [if_pos c15] at H
                  have c15b0 := eq_true c15
                  have c15b1 : decide (x41_2 ≤ (x3_3.length : Int)) = true := decide_eq_true c15
                  clear c15
                  obtain ⟨y124, hy124⟩ : ∃ y_ : List (S27), y_ = (x3_3.take (x41_2 : Int).toNat) := ⟨_, rfl⟩
                  replace H : (psephoslaw06_SlashHonest.l2 k2 x3_3 x41_2 (x3_3.length : Int) x41_2 (y124.length : Int) 0) = some r := by first | (rw [hy124]; with_reducible exact H) | (have H2_ := (Option.bind_some _ _).symm.trans H; rw [hy124]; with_reducible exact H2_) | (have H2_ := (Option.bind_some _ _).symm.trans H; with_reducible exact H2_) | with_reducible exact H | (rw [hy124]; exact H) | exact H
                  have Ny124 := Aside0.mk hy124
                  clear hy124
                  have H' := Aside0.mk H
                  clear H
                  have q16 : (x41_2 : Int) ≤ ((x3_3.length : Int) : Int) := of_decide_eq_true (by first | (with_reducible assumption) | assumption)
                  obtain ⟨i016, hi016, _, hsz16, _⟩ := info_parts info27
                  have hroom16 : x3_3.length ≤ co12 := (Kd.S_reads' HO_3.out).2.1
                  have hC16 : Kd.C k27 _ Ao12 x3_3.length x3_3 := (Kd.S_reads' HO_3.out).2.2
                  have hcut16 := cut_to (P := Try.prog) 31 27 .i64 Try.underlying31 hi016 Ao12 x3_3.length co12 x41_2 (of_decide_eq_true (by first | (with_reducible assumption) | assumption)) q16 hroom16
                  have hr16 := Kd.C_take (m := (x41_2 : Int).toNat) hC16 (by omega)
                  have hy16 : y124.length = (x41_2 : Int).toNat := (by rw [Ny124.out, List.length_take]; omega)
                  rw [← Ny124.out] at hr16
                  rw [← hy16] at hcut16
                  have HR127 := Aside0.mk hr16
                  have HC127 := Aside0.mk (show y124.length ≤ co12 from by omega)
                  clear hr16 hC16 hroom16 hi016 hsz16
                  have KY16 := Aside0.mk hy16
                  clear hy16
                  have KL16 := Aside0.mk (show (x41_2 : Int).toNat ≤ x3_3.length from by omega)
                  replace q16 := eq_true q16
                  go_wp2
                  go_loopg [48] k2 (fun kq v48 w' => ∃ (x48_3 : Int), v48 = .int .i64 x48_3 ∧ Aside0 (psephoslaw06_SlashHonest.l2 kq x3_3 x41_2 (x3_3.length : Int) x41_2 (y124.length : Int) x48_3 = some r) ∧ Aside0 (kq ≤ k2) ∧ Aside0 (Kd.S k27 27 w' w.heap.size (fun _ => True) (.slice Ao12 x3_3.length co12) x3_3) ∧ Aside0 (Kd.C k27 w' Ao12 y124.length y124) ∧ Aside0 (Below w.heap.size w w'))
                  case atStart => exact ⟨(0), (by first | rfl | (simp; done) | (simp [*]; done)), H', ⟨Nat.le_refl _⟩, ⟨by (with_reducible repeat (first | apply Kd.S_alloc | apply Kd.S_drewN | apply Kd.S_drew)); exact HO_3.out⟩, ⟨by repeat (first | (with_reducible exact HR127.out) | (with_reducible refine Kd.C_alloc ?_ _) | (with_reducible refine Kd.C_drewN ?_ _) | (with_reducible refine Kd.C_drew ?_) | exact HR127.out)⟩, ⟨by repeat (first | (with_reducible first | exact HB.out | apply below_alloc | apply pw_below_drewN | apply below_drew1) | exact HB.out)⟩⟩
                  case round =>
                    clear H'
                    try clear c1
                    try clear p1
                    try clear q1
                    try clear hx1
                    try clear p2
                    try clear c3
                    try clear c4
                    try clear c6
                    try clear c6b0
                    try clear p6
                    try clear c7
                    try clear c7b0
                    try clear c8
                    try clear c8b0
                    try clear c9
                    try clear c9b0
                    try clear c9b1
                    try clear c10
                    try clear p12
                    try clear q12
                    try clear hx12
                    try clear c13
                    try clear c13b0
                    try clear c14
                    try clear c14b0
                    try clear c14b1
                    try clear c15
                    try clear c15b0
                    try clear c15b1
                    try clear q16
                    try clear hx120_0
                    try clear p1
                    try clear p12
                    try clear p120
                    try clear p2
                    try clear p6
                    try clear q1
                    try clear q12
                    try clear q120
                    try clear q16
                    obtain ⟨x48_3, rfl, HA, HK3, HO_3, HR127, HB⟩ := hrel
                    cases gk with
                    | zero => exact absurd HA.out (by simp [psephoslaw06_SlashHonest.l2])
                    | succ k3 =>
                      have H := HA.out
                      clear HA
                      simp only [psephoslaw06_SlashHonest.l2] at H
                      by_cases c17 : x48_3 < (y124.length : Int)
                      · rw [if_pos c17] at H
                        have c17b0 : decide (x48_3 < (y124.length : Int)) = true := decide_eq_true c17
                        clear c17
                        by_cases c18 : 0 ≤ x41_2
                        · rw [if_pos c18] at H
                          have c18b0 : decide (0 ≤ x41_2) = true := decide_eq_true c18
                          clear c18
                          by_cases c19 : x41_2 < (x3_3.length : Int)
                          · rw [if_pos c19] at H
                            have c19b0 : decide (x41_2 < (x3_3.length : Int)) = true := decide_eq_true c19
                            clear c19
                            by_cases c20 : 0 ≤ x48_3
                            · rw [if_pos c20] at H
                              have c20b0 : decide (0 ≤ x48_3) = true := decide_eq_true c20
                              clear c20
                              by_cases c21 : x48_3 < (x3_3.length : Int)
                              · rw [if_pos c21] at H
                                have c21b0 : decide (x48_3 < (x3_3.length : Int)) = true := decide_eq_true c21
                                clear c21
                                replace H := Option.bind_eq_some_iff.mp H
                                obtain ⟨t130, A220, H⟩ := H
                                replace H : (if t130 = true then (some false) else (psephoslaw06_SlashHonest.l2 k3 x3_3 x41_2 (x3_3.length : Int) x41_2 (y124.length : Int) (wrap64 (x48_3 + 1)))) = some r := H
                                have A22 := Aside0.mk A220
                                clear A220
                                by_cases c23 : t130 = true
                                · subst c23
                                  have H1 : (some false) = some r := by rw [if_pos rfl] at H; exact H
                                  clear H
                                  have H := H1
                                  clear H1
                                  obtain rfl := Option.some.inj H
                                  try go_wp2
                                  have n0_ := Aside0.mk (Kd.S_drew HO_3.out)
                                  have n1_ := Aside0.mk (Kd.C_drew HR127.out)
                                  have n2_ := Aside0.mk (below_drew1 HB.out)
                                  clear HO_3
                                  clear HR127
                                  clear HB
                                  have HO_3 := n0_
                                  have HR127 := n1_
                                  have HB := n2_
                                  clear n0_ n1_ n2_
                                  have p128 : 0 ≤ (x41_2 : Int) := of_decide_eq_true (by first | (with_reducible assumption) | assumption)
                                  have q128 : x41_2 < (x3_3.length : Int) := of_decide_eq_true (by first | (with_reducible assumption) | assumption)
                                  obtain ⟨ad128, A128_6, c128_6, e128, hx128_0, hx128_1, hx128_2, hx128_3, hx128_4, hx128_5, hx128_6, hl128_6, hi128_6⟩ := at_T27 (Kd.S_reads' HO_3.out).2.2 x41_2 p128 q128
                                  cases e128
                                  obtain ⟨ce128, hce128, hMe128, hcc128⟩ := Kd.S_get HO_3.out z27 x41_2 p128 (by first | exact q128 | exact of_decide_eq_true (by first | (with_reducible assumption) | assumption) | (have e_ := (Kd.S_reads' HO_3.out).1; omega))
                                  obtain ⟨ve128_6, rfl, ge128_6⟩ := k27_openM hMe128
                                  have hv128_6 := hcc128 6 _ rfl
                                  rw [add_field _ _ 6 (by omega)] at hv128_6
                                  replace hv128_6 := Option.some.inj (hv128_6.symm.trans hx128_6)
                                  rw [hv128_6] at ge128_6
                                  have HL128_6 := Aside0.mk (show Kd.R (Kd.int .i64) 3 _ _ _ _ ((rd_T27 x3_3 x41_2).f4) from ge128_6)
                                  clear hv128_6 ge128_6
                                  clear hcc128 hce128
                                  have HR128_6 := Aside0.mk hi128_6
                                  have HC128_6 := Aside0.mk hl128_6
                                  clear hi128_6 hl128_6
                                  replace p128 := eq_true p128
                                  replace q128 := eq_true q128
                                  have p129 : 0 ≤ (x48_3 : Int) := of_decide_eq_true (by first | (with_reducible assumption) | assumption)
                                  have q129 : x48_3 < (x3_3.length : Int) := of_decide_eq_true (by first | (with_reducible assumption) | assumption)
                                  obtain ⟨ad129, A129_6, c129_6, e129, hx129_0, hx129_1, hx129_2, hx129_3, hx129_4, hx129_5, hx129_6, hl129_6, hi129_6⟩ := at_T27 (Kd.S_reads' HO_3.out).2.2 x48_3 p129 q129
                                  obtain rfl : ad128 = ad129 := (by injection e129)
                                  obtain ⟨ce129, hce129, hMe129, hcc129⟩ := Kd.S_get HO_3.out z27 x48_3 p129 (by first | exact q129 | exact of_decide_eq_true (by first | (with_reducible assumption) | assumption) | (have e_ := (Kd.S_reads' HO_3.out).1; omega))
                                  obtain ⟨ve129_6, rfl, ge129_6⟩ := k27_openM hMe129
                                  have hv129_6 := hcc129 6 _ rfl
                                  rw [add_field _ _ 6 (by omega)] at hv129_6
                                  replace hv129_6 := Option.some.inj (hv129_6.symm.trans hx129_6)
                                  rw [hv129_6] at ge129_6
                                  have HL129_6 := Aside0.mk (show Kd.R (Kd.int .i64) 3 _ _ _ _ ((rd_T27 x3_3 x48_3).f4) from ge129_6)
                                  clear hv129_6 ge129_6
                                  clear hcc129 hce129
                                  have HR129_6 := Aside0.mk hi129_6
                                  have HC129_6 := Aside0.mk hl129_6
                                  clear hi129_6 hl129_6
                                  replace p129 := eq_true p129
                                  replace q129 := eq_true q129
                                  refine start_ (n := 9) (S := fun w' => w'.cell? (ad128.add ((x41_2).toNat * 7)) = some (.int .i64 ((rd_T27 x3_3 x41_2).f0)) ∧ w'.cell? ⟨(ad128.add ((x41_2).toNat * 7)).block, (ad128.add ((x41_2).toNat * 7)).off + 1, none⟩ = some (.int .u64 ((rd_T27 x3_3 x41_2).f1)) ∧ w'.cell? ⟨(ad128.add ((x41_2).toNat * 7)).block, (ad128.add ((x41_2).toNat * 7)).off + 2, none⟩ = some (.int .i64 ((rd_T27 x3_3 x41_2).f2.f0)) ∧ w'.cell? ⟨(ad128.add ((x41_2).toNat * 7)).block, (ad128.add ((x41_2).toNat * 7)).off + 3, none⟩ = some (.int .u64 ((rd_T27 x3_3 x41_2).f2.f1)) ∧ w'.cell? ⟨(ad128.add ((x41_2).toNat * 7)).block, (ad128.add ((x41_2).toNat * 7)).off + 4, none⟩ = some (.int .i64 ((rd_T27 x3_3 x41_2).f3.f0)) ∧ w'.cell? ⟨(ad128.add ((x41_2).toNat * 7)).block, (ad128.add ((x41_2).toNat * 7)).off + 5, none⟩ = some (.int .u64 ((rd_T27 x3_3 x41_2).f3.f1)) ∧ w'.cell? ⟨(ad128.add ((x41_2).toNat * 7)).block, (ad128.add ((x41_2).toNat * 7)).off + 6, none⟩ = some (.slice A128_6 ((rd_T27 x3_3 x41_2).f4).length c128_6) ∧ w'.cell? (ad128.add ((x48_3).toNat * 7)) = some (.int .i64 ((rd_T27 x3_3 x48_3).f0)) ∧ w'.cell? ⟨(ad128.add ((x48_3).toNat * 7)).block, (ad128.add ((x48_3).toNat * 7)).off + 1, none⟩ = some (.int .u64 ((rd_T27 x3_3 x48_3).f1)) ∧ w'.cell? ⟨(ad128.add ((x48_3).toNat * 7)).block, (ad128.add ((x48_3).toNat * 7)).off + 2, none⟩ = some (.int .i64 ((rd_T27 x3_3 x48_3).f2.f0)) ∧ w'.cell? ⟨(ad128.add ((x48_3).toNat * 7)).block, (ad128.add ((x48_3).toNat * 7)).off + 3, none⟩ = some (.int .u64 ((rd_T27 x3_3 x48_3).f2.f1)) ∧ w'.cell? ⟨(ad128.add ((x48_3).toNat * 7)).block, (ad128.add ((x48_3).toNat * 7)).off + 4, none⟩ = some (.int .i64 ((rd_T27 x3_3 x48_3).f3.f0)) ∧ w'.cell? ⟨(ad128.add ((x48_3).toNat * 7)).block, (ad128.add ((x48_3).toNat * 7)).off + 5, none⟩ = some (.int .u64 ((rd_T27 x3_3 x48_3).f3.f1)) ∧ w'.cell? ⟨(ad128.add ((x48_3).toNat * 7)).block, (ad128.add ((x48_3).toNat * 7)).off + 6, none⟩ = some (.slice A129_6 ((rd_T27 x3_3 x48_3).f4).length c129_6)) (ds := []) #[false, false, false, false, false, false, false, false, false] (by kernel_rfl) rfl rfl ⟨hx128_0, hx128_1, hx128_2, hx128_3, hx128_4, hx128_5, hx128_6, hx129_0, hx129_1, hx129_2, hx129_3, hx129_4, hx129_5, hx129_6⟩ (fun hHeld => ?_); refine with_tabW psephoslaw06_SlashHonest.tab19 psephoslaw06_SlashHonest.bits19 (fun HT_ HW_ => ?_)
                                  generalize wr.drew = w24 at HO_3 HR127 HB HL128_6 HL129_6 HR128_6 HR129_6 hx128_0 hx128_1 hx128_2 hx128_3 hx128_4 hx128_5 hx128_6 hx129_0 hx129_1 hx129_2 hx129_3 hx129_4 hx129_5 hx129_6 hHeld ⊢
                                  refine pure_ (i := 0) (N := some 51) (v := ?_) (a' := ?_) #[true, false, false, false, false, false, false, false, false] rfl rfl (any_of HT_.out (by kernel_rfl)) (fun _ _ _ h => h) (Or.inl ⟨by rfl, ?_⟩) ?_ ?_
                                  rotate_left
                                  · intro w'
                                    go_simp
                                    with_reducible rfl
                                  rotate_left
                                  · simp only [Act.put, List.setIfInBounds_toArray, List.set_cons_zero, List.set_cons_succ, i64_w, i32_w]
                                    rfl
                                  refine pure_ (i := 1) (N := some 52) (v := ?_) (a' := ?_) #[true, true, false, false, false, false, false, false, false] rfl rfl (any_of HT_.out (by kernel_rfl)) (fun _ _ _ h => h) (Or.inl ⟨by rfl, ?_⟩) ?_ ?_
                                  rotate_left
                                  · intro w'
                                    go_simp
                                    with_reducible rfl
                                  rotate_left
                                  · simp only [Act.put, List.setIfInBounds_toArray, List.set_cons_zero, List.set_cons_succ, i64_w, i32_w]
                                    rfl
                                  refine pure_ (i := 2) (N := some 53) (v := ?_) (a' := ?_) #[true, true, true, false, false, false, false, false, false] rfl rfl (any_of HT_.out (by kernel_rfl)) (fun _ _ _ h => h) (Or.inl ⟨by rfl, ?_⟩) ?_ ?_
                                  rotate_left
                                  · intro w'
                                    go_simp
                                    with_reducible rfl
                                  rotate_left
                                  · simp only [Act.put, List.setIfInBounds_toArray, List.set_cons_zero, List.set_cons_succ, i64_w, i32_w]
                                    rfl
                                  refine pure_ (i := 4) (N := some 55) (v := ?_) (a' := ?_) #[true, true, true, false, true, false, false, false, false] rfl rfl (any_of HT_.out (by kernel_rfl)) (fun _ _ _ h => h) (Or.inl ⟨by rfl, ?_⟩) ?_ ?_
                                  rotate_left
                                  · intro w'
                                    go_simp
                                    with_reducible rfl
                                  rotate_left
                                  · simp only [Act.put, List.setIfInBounds_toArray, List.set_cons_zero, List.set_cons_succ, i64_w, i32_w]
                                    rfl
                                  refine pure_ (i := 5) (N := some 56) (v := ?_) (a' := ?_) #[true, true, true, false, true, true, false, false, false] rfl rfl (any_of HT_.out (by kernel_rfl)) (fun _ _ _ h => h) (Or.inl ⟨by rfl, ?_⟩) ?_ ?_
                                  rotate_left
                                  · intro w'
                                    go_simp
                                    with_reducible rfl
                                  rotate_left
                                  · simp only [Act.put, List.setIfInBounds_toArray, List.set_cons_zero, List.set_cons_succ, i64_w, i32_w]
                                    rfl
                                  refine pure_ (i := 6) (N := some 57) (v := ?_) (a' := ?_) #[true, true, true, false, true, true, true, false, false] rfl rfl (any_of HT_.out (by kernel_rfl)) (fun _ _ _ h => h) (Or.inl ⟨by rfl, ?_⟩) ?_ ?_
                                  rotate_left
                                  · intro w'
                                    go_simp
                                    with_reducible rfl
                                  rotate_left
                                  · simp only [Act.put, List.setIfInBounds_toArray, List.set_cons_zero, List.set_cons_succ, i64_w, i32_w]
                                    rfl
                                  refine take_ (i := 3) (N := some 54) (v := ?_) (a' := ?_) #[true, true, true, true, true, true, true, false, false] rfl rfl (take_ofW HT_.out HW_.out (by kernel_rfl)) (fun _ _ _ h => h) (Or.inl ⟨by rfl, ?_⟩) hHeld ?_ ?_
                                  rotate_left
                                  · rintro w' ⟨s0, s1, s2, s3, s4, s5, s6, s7, s8, s9, s10, s11, s12, s13⟩
                                    go_simp
                                    with_reducible rfl
                                  rotate_left
                                  · simp only [Act.put, List.setIfInBounds_toArray, List.set_cons_zero, List.set_cons_succ, i64_w, i32_w]
                                    rfl
                                  refine take_ (i := 7) (N := some 58) (v := ?_) (a' := ?_) #[true, true, true, true, true, true, true, true, false] rfl rfl (take_ofW HT_.out HW_.out (by kernel_rfl)) (fun _ _ _ h => h) (Or.inl ⟨by rfl, ?_⟩) hHeld ?_ ?_
                                  rotate_left
                                  · rintro w' ⟨s0, s1, s2, s3, s4, s5, s6, s7, s8, s9, s10, s11, s12, s13⟩
                                    go_simp
                                    with_reducible rfl
                                  rotate_left
                                  · simp only [Act.put, List.setIfInBounds_toArray, List.set_cons_zero, List.set_cons_succ, i64_w, i32_w]
                                    rfl
                                  refine one_ (i := 8) (N := some 59) #[true, true, true, true, true, true, true, true, true] rfl rfl (one_of HT_.out (by kernel_rfl)) (by decide) (fun K hK => ?_)
                                  refine goes_ Try.func9 (by kernel_rfl) rfl #[.agg #[.int .i64 ((rd_T27 x3_3 x41_2).f0), .int .u64 ((rd_T27 x3_3 x41_2).f1), .int .i64 ((rd_T27 x3_3 x41_2).f2.f0), .int .u64 ((rd_T27 x3_3 x41_2).f2.f1), .int .i64 ((rd_T27 x3_3 x41_2).f3.f0), .int .u64 ((rd_T27 x3_3 x41_2).f3.f1), .slice A128_6 ((rd_T27 x3_3 x41_2).f4).length c128_6], .agg #[.int .i64 ((rd_T27 x3_3 x48_3).f0), .int .u64 ((rd_T27 x3_3 x48_3).f1), .int .i64 ((rd_T27 x3_3 x48_3).f2.f0), .int .u64 ((rd_T27 x3_3 x48_3).f2.f1), .int .i64 ((rd_T27 x3_3 x48_3).f3.f0), .int .u64 ((rd_T27 x3_3 x48_3).f3.f1), .slice A129_6 ((rd_T27 x3_3 x48_3).f4).length c129_6]] (by rfl) rfl rfl (by (try simp only [List.map_toArray, List.map_cons, List.map_nil]); first | done | rfl | (simp only [List.length_drop, List.length_take]; rfl)) ?_
                                  with_reducible refine (slash_Bad.calls ((rd_T27 x3_3 x41_2).f0) ((rd_T27 x3_3 x41_2).f1) ((rd_T27 x3_3 x41_2).f2.f0) ((rd_T27 x3_3 x41_2).f2.f1) ((rd_T27 x3_3 x41_2).f3.f0) ((rd_T27 x3_3 x41_2).f3.f1) _ _ ((rd_T27 x3_3 x41_2).f4) ((rd_T27 x3_3 x48_3).f0) ((rd_T27 x3_3 x48_3).f1) ((rd_T27 x3_3 x48_3).f2.f0) ((rd_T27 x3_3 x48_3).f2.f1) ((rd_T27 x3_3 x48_3).f3.f0) ((rd_T27 x3_3 x48_3).f3.f1) _ _ ((rd_T27 x3_3 x48_3).f4) true _ ?side1 ?side2 ?side3 ?side4 A22.out).mono ?_
                                  (case side1 => repeat (first | exact (by repeat (first | (with_reducible exact HR128_6.out) | (with_reducible refine Kd.C_alloc ?_ _) | (with_reducible refine Kd.C_drewN ?_ _) | (with_reducible refine Kd.C_drew ?_) | exact HR128_6.out)) | (with_reducible refine Kd.C_alloc ?_ _) | (with_reducible refine Kd.C_drewN ?_ _) | (with_reducible refine Kd.C_drew ?_)))
                                  (case side2 => exact HC128_6.out)
                                  (case side3 => repeat (first | exact (by repeat (first | (with_reducible exact HR129_6.out) | (with_reducible refine Kd.C_alloc ?_ _) | (with_reducible refine Kd.C_drewN ?_ _) | (with_reducible refine Kd.C_drew ?_) | exact HR129_6.out)) | (with_reducible refine Kd.C_alloc ?_ _) | (with_reducible refine Kd.C_drewN ?_ _) | (with_reducible refine Kd.C_drew ?_)))
                                  (case side4 => exact HC129_6.out)
                                  rintro e w25 ⟨rfl, hb⟩
                                  have HS0_ := (hb.cell (World.block_lt_of_cell? _ _ (hHeld.1))).trans (hHeld.1)
                                  have HS1_ := (hb.cell (World.block_lt_of_cell? _ _ (hHeld.2.1))).trans (hHeld.2.1)
                                  have HS2_ := (hb.cell (World.block_lt_of_cell? _ _ (hHeld.2.2.1))).trans (hHeld.2.2.1)
                                  have HS3_ := (hb.cell (World.block_lt_of_cell? _ _ (hHeld.2.2.2.1))).trans (hHeld.2.2.2.1)
                                  have HS4_ := (hb.cell (World.block_lt_of_cell? _ _ (hHeld.2.2.2.2.1))).trans (hHeld.2.2.2.2.1)
                                  have HS5_ := (hb.cell (World.block_lt_of_cell? _ _ (hHeld.2.2.2.2.2.1))).trans (hHeld.2.2.2.2.2.1)
                                  have HS6_ := (hb.cell (World.block_lt_of_cell? _ _ (hHeld.2.2.2.2.2.2.1))).trans (hHeld.2.2.2.2.2.2.1)
                                  have HS7_ := (hb.cell (World.block_lt_of_cell? _ _ (hHeld.2.2.2.2.2.2.2.1))).trans (hHeld.2.2.2.2.2.2.2.1)
                                  have HS8_ := (hb.cell (World.block_lt_of_cell? _ _ (hHeld.2.2.2.2.2.2.2.2.1))).trans (hHeld.2.2.2.2.2.2.2.2.1)
                                  have HS9_ := (hb.cell (World.block_lt_of_cell? _ _ (hHeld.2.2.2.2.2.2.2.2.2.1))).trans (hHeld.2.2.2.2.2.2.2.2.2.1)
                                  have HS10_ := (hb.cell (World.block_lt_of_cell? _ _ (hHeld.2.2.2.2.2.2.2.2.2.2.1))).trans (hHeld.2.2.2.2.2.2.2.2.2.2.1)
                                  have HS11_ := (hb.cell (World.block_lt_of_cell? _ _ (hHeld.2.2.2.2.2.2.2.2.2.2.2.1))).trans (hHeld.2.2.2.2.2.2.2.2.2.2.2.1)
                                  have HS12_ := (hb.cell (World.block_lt_of_cell? _ _ (hHeld.2.2.2.2.2.2.2.2.2.2.2.2.1))).trans (hHeld.2.2.2.2.2.2.2.2.2.2.2.2.1)
                                  have HS13_ := (hb.cell (World.block_lt_of_cell? _ _ (hHeld.2.2.2.2.2.2.2.2.2.2.2.2.2))).trans (hHeld.2.2.2.2.2.2.2.2.2.2.2.2.2)
                                  refine ⟨_, rfl, ?_⟩
                                  have n0_ := Aside0.mk (Kd.S_below (by (with_reducible repeat (first | apply Kd.S_alloc | apply Kd.S_drewN | apply Kd.S_drew)); exact HO_3.out) hb)
                                  have n1_ := Aside0.mk (Kd.R_below (by (with_reducible repeat (first | apply Kd.R_alloc | apply Kd.R_drewN | apply Kd.R_drew)); exact HL128_6.out) hb)
                                  have n2_ := Aside0.mk (Kd.R_below (by (with_reducible repeat (first | apply Kd.R_alloc | apply Kd.R_drewN | apply Kd.R_drew)); exact HL129_6.out) hb)
                                  have n3_ := Aside0.mk (Kd.C_below (by repeat (first | (with_reducible exact HR127.out) | (with_reducible refine Kd.C_alloc ?_ _) | (with_reducible refine Kd.C_drewN ?_ _) | (with_reducible refine Kd.C_drew ?_) | exact HR127.out)) hb)
                                  have n4_ := Aside0.mk (Kd.C_below (by repeat (first | (with_reducible exact HR128_6.out) | (with_reducible refine Kd.C_alloc ?_ _) | (with_reducible refine Kd.C_drewN ?_ _) | (with_reducible refine Kd.C_drew ?_) | exact HR128_6.out)) hb)
                                  have n5_ := Aside0.mk (Kd.C_below (by repeat (first | (with_reducible exact HR129_6.out) | (with_reducible refine Kd.C_alloc ?_ _) | (with_reducible refine Kd.C_drewN ?_ _) | (with_reducible refine Kd.C_drew ?_) | exact HR129_6.out)) hb)
                                  have n6_ := Aside0.mk (below_step (by repeat (first | (with_reducible first | exact HB.out | apply below_alloc | apply pw_below_drewN | apply below_drew1) | exact HB.out)) hb)
                                  clear HO_3
                                  clear HL128_6
                                  clear HL129_6
                                  clear HR127
                                  clear HR128_6
                                  clear HR129_6
                                  clear HB
                                  have HO_3 := n0_
                                  have HL128_6 := n1_
                                  have HL129_6 := n2_
                                  have HR127 := n3_
                                  have HR128_6 := n4_
                                  have HR129_6 := n5_
                                  have HB := n6_
                                  clear n0_ n1_ n2_ n3_ n4_ n5_ n6_
                                  (try clear hb)
                                  (try clear hb2)
                                  (try clear hk)
                                  (try clear hi)
                                  refine hK.out _ _ ⟨HS0_, HS1_, HS2_, HS3_, HS4_, HS5_, HS6_, HS7_, HS8_, HS9_, HS10_, HS11_, HS12_, HS13_⟩ (fun hHeld => ?_)
                                  clear hK K
                                  refine norm_ (a' := ?_) ?_ ?_
                                  rotate_left
                                  · show Act.put _ (some 59) _ = _
                                    simp only [Act.put, List.setIfInBounds_toArray, List.set_cons_zero, List.set_cons_succ, i64_w, i32_w]
                                    rfl
                                  refine done_ (done_of HT_.out (by kernel_rfl)) ?_
                                  try go_wp2
                                  go_ret
                                  exact ⟨by first | rfl | (simp [errW_none, errW_some] <;> rfl) | (simp [*, errW_none, errW_some] <;> rfl), by repeat (first | (with_reducible first | exact HB.out | apply below_alloc | apply pw_below_drewN | apply below_drew1) | exact HB.out)⟩
                                · replace c23 := Bool.eq_false_iff.mpr c23
                                  subst c23
                                  have H1 : (psephoslaw06_SlashHonest.l2 k3 x3_3 x41_2 (x3_3.length : Int) x41_2 (y124.length : Int) (wrap64 (x48_3 + 1))) = some r := by rw [if_neg (show ¬ (false = true) by decide)] at H; exact H
                                  clear H
                                  have H := H1
                                  clear H1
                                  have H' := Aside0.mk H
                                  clear H
                                  try go_wp2
                                  have n0_ := Aside0.mk (Kd.S_drew HO_3.out)
                                  have n1_ := Aside0.mk (Kd.C_drew HR127.out)
                                  have n2_ := Aside0.mk (below_drew1 HB.out)
                                  clear HO_3
                                  clear HR127
                                  clear HB
                                  have HO_3 := n0_
                                  have HR127 := n1_
                                  have HB := n2_
                                  clear n0_ n1_ n2_
                                  have p128 : 0 ≤ (x41_2 : Int) := of_decide_eq_true (by first | (with_reducible assumption) | assumption)
                                  have q128 : x41_2 < (x3_3.length : Int) := of_decide_eq_true (by first | (with_reducible assumption) | assumption)
                                  obtain ⟨ad128, A128_6, c128_6, e128, hx128_0, hx128_1, hx128_2, hx128_3, hx128_4, hx128_5, hx128_6, hl128_6, hi128_6⟩ := at_T27 (Kd.S_reads' HO_3.out).2.2 x41_2 p128 q128
                                  cases e128
                                  obtain ⟨ce128, hce128, hMe128, hcc128⟩ := Kd.S_get HO_3.out z27 x41_2 p128 (by first | exact q128 | exact of_decide_eq_true (by first | (with_reducible assumption) | assumption) | (have e_ := (Kd.S_reads' HO_3.out).1; omega))
                                  obtain ⟨ve128_6, rfl, ge128_6⟩ := k27_openM hMe128
                                  have hv128_6 := hcc128 6 _ rfl
                                  rw [add_field _ _ 6 (by omega)] at hv128_6
                                  replace hv128_6 := Option.some.inj (hv128_6.symm.trans hx128_6)
                                  rw [hv128_6] at ge128_6
                                  have HL128_6 := Aside0.mk (show Kd.R (Kd.int .i64) 3 _ _ _ _ ((rd_T27 x3_3 x41_2).f4) from ge128_6)
                                  clear hv128_6 ge128_6
                                  clear hcc128 hce128
                                  have HR128_6 := Aside0.mk hi128_6
                                  have HC128_6 := Aside0.mk hl128_6
                                  clear hi128_6 hl128_6
                                  replace p128 := eq_true p128
                                  replace q128 := eq_true q128
                                  have p129 : 0 ≤ (x48_3 : Int) := of_decide_eq_true (by first | (with_reducible assumption) | assumption)
                                  have q129 : x48_3 < (x3_3.length : Int) := of_decide_eq_true (by first | (with_reducible assumption) | assumption)
                                  obtain ⟨ad129, A129_6, c129_6, e129, hx129_0, hx129_1, hx129_2, hx129_3, hx129_4, hx129_5, hx129_6, hl129_6, hi129_6⟩ := at_T27 (Kd.S_reads' HO_3.out).2.2 x48_3 p129 q129
                                  obtain rfl : ad128 = ad129 := (by injection e129)
                                  obtain ⟨ce129, hce129, hMe129, hcc129⟩ := Kd.S_get HO_3.out z27 x48_3 p129 (by first | exact q129 | exact of_decide_eq_true (by first | (with_reducible assumption) | assumption) | (have e_ := (Kd.S_reads' HO_3.out).1; omega))
                                  obtain ⟨ve129_6, rfl, ge129_6⟩ := k27_openM hMe129
                                  have hv129_6 := hcc129 6 _ rfl
                                  rw [add_field _ _ 6 (by omega)] at hv129_6
                                  replace hv129_6 := Option.some.inj (hv129_6.symm.trans hx129_6)
                                  rw [hv129_6] at ge129_6
                                  have HL129_6 := Aside0.mk (show Kd.R (Kd.int .i64) 3 _ _ _ _ ((rd_T27 x3_3 x48_3).f4) from ge129_6)
                                  clear hv129_6 ge129_6
                                  clear hcc129 hce129
                                  have HR129_6 := Aside0.mk hi129_6
                                  have HC129_6 := Aside0.mk hl129_6
                                  clear hi129_6 hl129_6
                                  replace p129 := eq_true p129
                                  replace q129 := eq_true q129
                                  refine start_ (n := 9) (S := fun w' => w'.cell? (ad128.add ((x41_2).toNat * 7)) = some (.int .i64 ((rd_T27 x3_3 x41_2).f0)) ∧ w'.cell? ⟨(ad128.add ((x41_2).toNat * 7)).block, (ad128.add ((x41_2).toNat * 7)).off + 1, none⟩ = some (.int .u64 ((rd_T27 x3_3 x41_2).f1)) ∧ w'.cell? ⟨(ad128.add ((x41_2).toNat * 7)).block, (ad128.add ((x41_2).toNat * 7)).off + 2, none⟩ = some (.int .i64 ((rd_T27 x3_3 x41_2).f2.f0)) ∧ w'.cell? ⟨(ad128.add ((x41_2).toNat * 7)).block, (ad128.add ((x41_2).toNat * 7)).off + 3, none⟩ = some (.int .u64 ((rd_T27 x3_3 x41_2).f2.f1)) ∧ w'.cell? ⟨(ad128.add ((x41_2).toNat * 7)).block, (ad128.add ((x41_2).toNat * 7)).off + 4, none⟩ = some (.int .i64 ((rd_T27 x3_3 x41_2).f3.f0)) ∧ w'.cell? ⟨(ad128.add ((x41_2).toNat * 7)).block, (ad128.add ((x41_2).toNat * 7)).off + 5, none⟩ = some (.int .u64 ((rd_T27 x3_3 x41_2).f3.f1)) ∧ w'.cell? ⟨(ad128.add ((x41_2).toNat * 7)).block, (ad128.add ((x41_2).toNat * 7)).off + 6, none⟩ = some (.slice A128_6 ((rd_T27 x3_3 x41_2).f4).length c128_6) ∧ w'.cell? (ad128.add ((x48_3).toNat * 7)) = some (.int .i64 ((rd_T27 x3_3 x48_3).f0)) ∧ w'.cell? ⟨(ad128.add ((x48_3).toNat * 7)).block, (ad128.add ((x48_3).toNat * 7)).off + 1, none⟩ = some (.int .u64 ((rd_T27 x3_3 x48_3).f1)) ∧ w'.cell? ⟨(ad128.add ((x48_3).toNat * 7)).block, (ad128.add ((x48_3).toNat * 7)).off + 2, none⟩ = some (.int .i64 ((rd_T27 x3_3 x48_3).f2.f0)) ∧ w'.cell? ⟨(ad128.add ((x48_3).toNat * 7)).block, (ad128.add ((x48_3).toNat * 7)).off + 3, none⟩ = some (.int .u64 ((rd_T27 x3_3 x48_3).f2.f1)) ∧ w'.cell? ⟨(ad128.add ((x48_3).toNat * 7)).block, (ad128.add ((x48_3).toNat * 7)).off + 4, none⟩ = some (.int .i64 ((rd_T27 x3_3 x48_3).f3.f0)) ∧ w'.cell? ⟨(ad128.add ((x48_3).toNat * 7)).block, (ad128.add ((x48_3).toNat * 7)).off + 5, none⟩ = some (.int .u64 ((rd_T27 x3_3 x48_3).f3.f1)) ∧ w'.cell? ⟨(ad128.add ((x48_3).toNat * 7)).block, (ad128.add ((x48_3).toNat * 7)).off + 6, none⟩ = some (.slice A129_6 ((rd_T27 x3_3 x48_3).f4).length c129_6)) (ds := []) #[false, false, false, false, false, false, false, false, false] (by kernel_rfl) rfl rfl ⟨hx128_0, hx128_1, hx128_2, hx128_3, hx128_4, hx128_5, hx128_6, hx129_0, hx129_1, hx129_2, hx129_3, hx129_4, hx129_5, hx129_6⟩ (fun hHeld => ?_); refine with_tabW psephoslaw06_SlashHonest.tab19 psephoslaw06_SlashHonest.bits19 (fun HT_ HW_ => ?_)
                                  generalize wr.drew = w26 at HO_3 HR127 HB HL128_6 HL129_6 HR128_6 HR129_6 hx128_0 hx128_1 hx128_2 hx128_3 hx128_4 hx128_5 hx128_6 hx129_0 hx129_1 hx129_2 hx129_3 hx129_4 hx129_5 hx129_6 hHeld ⊢
                                  refine pure_ (i := 0) (N := some 51) (v := ?_) (a' := ?_) #[true, false, false, false, false, false, false, false, false] rfl rfl (any_of HT_.out (by kernel_rfl)) (fun _ _ _ h => h) (Or.inl ⟨by rfl, ?_⟩) ?_ ?_
                                  rotate_left
                                  · intro w'
                                    go_simp
                                    with_reducible rfl
                                  rotate_left
                                  · simp only [Act.put, List.setIfInBounds_toArray, List.set_cons_zero, List.set_cons_succ, i64_w, i32_w]
                                    rfl
                                  refine pure_ (i := 1) (N := some 52) (v := ?_) (a' := ?_) #[true, true, false, false, false, false, false, false, false] rfl rfl (any_of HT_.out (by kernel_rfl)) (fun _ _ _ h => h) (Or.inl ⟨by rfl, ?_⟩) ?_ ?_
                                  rotate_left
                                  · intro w'
                                    go_simp
                                    with_reducible rfl
                                  rotate_left
                                  · simp only [Act.put, List.setIfInBounds_toArray, List.set_cons_zero, List.set_cons_succ, i64_w, i32_w]
                                    rfl
                                  refine pure_ (i := 2) (N := some 53) (v := ?_) (a' := ?_) #[true, true, true, false, false, false, false, false, false] rfl rfl (any_of HT_.out (by kernel_rfl)) (fun _ _ _ h => h) (Or.inl ⟨by rfl, ?_⟩) ?_ ?_
                                  rotate_left
                                  · intro w'
                                    go_simp
                                    with_reducible rfl
                                  rotate_left
                                  · simp only [Act.put, List.setIfInBounds_toArray, List.set_cons_zero, List.set_cons_succ, i64_w, i32_w]
                                    rfl
                                  refine pure_ (i := 4) (N := some 55) (v := ?_) (a' := ?_) #[true, true, true, false, true, false, false, false, false] rfl rfl (any_of HT_.out (by kernel_rfl)) (fun _ _ _ h => h) (Or.inl ⟨by rfl, ?_⟩) ?_ ?_
                                  rotate_left
                                  · intro w'
                                    go_simp
                                    with_reducible rfl
                                  rotate_left
                                  · simp only [Act.put, List.setIfInBounds_toArray, List.set_cons_zero, List.set_cons_succ, i64_w, i32_w]
                                    rfl
                                  refine pure_ (i := 5) (N := some 56) (v := ?_) (a' := ?_) #[true, true, true, false, true, true, false, false, false] rfl rfl (any_of HT_.out (by kernel_rfl)) (fun _ _ _ h => h) (Or.inl ⟨by rfl, ?_⟩) ?_ ?_
                                  rotate_left
                                  · intro w'
                                    go_simp
                                    with_reducible rfl
                                  rotate_left
                                  · simp only [Act.put, List.setIfInBounds_toArray, List.set_cons_zero, List.set_cons_succ, i64_w, i32_w]
                                    rfl
                                  refine pure_ (i := 6) (N := some 57) (v := ?_) (a' := ?_) #[true, true, true, false, true, true, true, false, false] rfl rfl (any_of HT_.out (by kernel_rfl)) (fun _ _ _ h => h) (Or.inl ⟨by rfl, ?_⟩) ?_ ?_
                                  rotate_left
                                  · intro w'
                                    go_simp
                                    with_reducible rfl
                                  rotate_left
                                  · simp only [Act.put, List.setIfInBounds_toArray, List.set_cons_zero, List.set_cons_succ, i64_w, i32_w]
                                    rfl
                                  refine take_ (i := 3) (N := some 54) (v := ?_) (a' := ?_) #[true, true, true, true, true, true, true, false, false] rfl rfl (take_ofW HT_.out HW_.out (by kernel_rfl)) (fun _ _ _ h => h) (Or.inl ⟨by rfl, ?_⟩) hHeld ?_ ?_
                                  rotate_left
                                  · rintro w' ⟨s0, s1, s2, s3, s4, s5, s6, s7, s8, s9, s10, s11, s12, s13⟩
                                    go_simp
                                    with_reducible rfl
                                  rotate_left
                                  · simp only [Act.put, List.setIfInBounds_toArray, List.set_cons_zero, List.set_cons_succ, i64_w, i32_w]
                                    rfl
                                  refine take_ (i := 7) (N := some 58) (v := ?_) (a' := ?_) #[true, true, true, true, true, true, true, true, false] rfl rfl (take_ofW HT_.out HW_.out (by kernel_rfl)) (fun _ _ _ h => h) (Or.inl ⟨by rfl, ?_⟩) hHeld ?_ ?_
                                  rotate_left
                                  · rintro w' ⟨s0, s1, s2, s3, s4, s5, s6, s7, s8, s9, s10, s11, s12, s13⟩
                                    go_simp
                                    with_reducible rfl
                                  rotate_left
                                  · simp only [Act.put, List.setIfInBounds_toArray, List.set_cons_zero, List.set_cons_succ, i64_w, i32_w]
                                    rfl
                                  refine one_ (i := 8) (N := some 59) #[true, true, true, true, true, true, true, true, true] rfl rfl (one_of HT_.out (by kernel_rfl)) (by decide) (fun K hK => ?_)
                                  refine goes_ Try.func9 (by kernel_rfl) rfl #[.agg #[.int .i64 ((rd_T27 x3_3 x41_2).f0), .int .u64 ((rd_T27 x3_3 x41_2).f1), .int .i64 ((rd_T27 x3_3 x41_2).f2.f0), .int .u64 ((rd_T27 x3_3 x41_2).f2.f1), .int .i64 ((rd_T27 x3_3 x41_2).f3.f0), .int .u64 ((rd_T27 x3_3 x41_2).f3.f1), .slice A128_6 ((rd_T27 x3_3 x41_2).f4).length c128_6], .agg #[.int .i64 ((rd_T27 x3_3 x48_3).f0), .int .u64 ((rd_T27 x3_3 x48_3).f1), .int .i64 ((rd_T27 x3_3 x48_3).f2.f0), .int .u64 ((rd_T27 x3_3 x48_3).f2.f1), .int .i64 ((rd_T27 x3_3 x48_3).f3.f0), .int .u64 ((rd_T27 x3_3 x48_3).f3.f1), .slice A129_6 ((rd_T27 x3_3 x48_3).f4).length c129_6]] (by rfl) rfl rfl (by (try simp only [List.map_toArray, List.map_cons, List.map_nil]); first | done | rfl | (simp only [List.length_drop, List.length_take]; rfl)) ?_
                                  with_reducible refine (slash_Bad.calls ((rd_T27 x3_3 x41_2).f0) ((rd_T27 x3_3 x41_2).f1) ((rd_T27 x3_3 x41_2).f2.f0) ((rd_T27 x3_3 x41_2).f2.f1) ((rd_T27 x3_3 x41_2).f3.f0) ((rd_T27 x3_3 x41_2).f3.f1) _ _ ((rd_T27 x3_3 x41_2).f4) ((rd_T27 x3_3 x48_3).f0) ((rd_T27 x3_3 x48_3).f1) ((rd_T27 x3_3 x48_3).f2.f0) ((rd_T27 x3_3 x48_3).f2.f1) ((rd_T27 x3_3 x48_3).f3.f0) ((rd_T27 x3_3 x48_3).f3.f1) _ _ ((rd_T27 x3_3 x48_3).f4) false _ ?side1 ?side2 ?side3 ?side4 A22.out).mono ?_
                                  (case side1 => repeat (first | exact (by repeat (first | (with_reducible exact HR128_6.out) | (with_reducible refine Kd.C_alloc ?_ _) | (with_reducible refine Kd.C_drewN ?_ _) | (with_reducible refine Kd.C_drew ?_) | exact HR128_6.out)) | (with_reducible refine Kd.C_alloc ?_ _) | (with_reducible refine Kd.C_drewN ?_ _) | (with_reducible refine Kd.C_drew ?_)))
                                  (case side2 => exact HC128_6.out)
                                  (case side3 => repeat (first | exact (by repeat (first | (with_reducible exact HR129_6.out) | (with_reducible refine Kd.C_alloc ?_ _) | (with_reducible refine Kd.C_drewN ?_ _) | (with_reducible refine Kd.C_drew ?_) | exact HR129_6.out)) | (with_reducible refine Kd.C_alloc ?_ _) | (with_reducible refine Kd.C_drewN ?_ _) | (with_reducible refine Kd.C_drew ?_)))
                                  (case side4 => exact HC129_6.out)
                                  rintro e w27 ⟨rfl, hb⟩
                                  have HS0_ := (hb.cell (World.block_lt_of_cell? _ _ (hHeld.1))).trans (hHeld.1)
                                  have HS1_ := (hb.cell (World.block_lt_of_cell? _ _ (hHeld.2.1))).trans (hHeld.2.1)
                                  have HS2_ := (hb.cell (World.block_lt_of_cell? _ _ (hHeld.2.2.1))).trans (hHeld.2.2.1)
                                  have HS3_ := (hb.cell (World.block_lt_of_cell? _ _ (hHeld.2.2.2.1))).trans (hHeld.2.2.2.1)
                                  have HS4_ := (hb.cell (World.block_lt_of_cell? _ _ (hHeld.2.2.2.2.1))).trans (hHeld.2.2.2.2.1)
                                  have HS5_ := (hb.cell (World.block_lt_of_cell? _ _ (hHeld.2.2.2.2.2.1))).trans (hHeld.2.2.2.2.2.1)
                                  have HS6_ := (hb.cell (World.block_lt_of_cell? _ _ (hHeld.2.2.2.2.2.2.1))).trans (hHeld.2.2.2.2.2.2.1)
                                  have HS7_ := (hb.cell (World.block_lt_of_cell? _ _ (hHeld.2.2.2.2.2.2.2.1))).trans (hHeld.2.2.2.2.2.2.2.1)
                                  have HS8_ := (hb.cell (World.block_lt_of_cell? _ _ (hHeld.2.2.2.2.2.2.2.2.1))).trans (hHeld.2.2.2.2.2.2.2.2.1)
                                  have HS9_ := (hb.cell (World.block_lt_of_cell? _ _ (hHeld.2.2.2.2.2.2.2.2.2.1))).trans (hHeld.2.2.2.2.2.2.2.2.2.1)
                                  have HS10_ := (hb.cell (World.block_lt_of_cell? _ _ (hHeld.2.2.2.2.2.2.2.2.2.2.1))).trans (hHeld.2.2.2.2.2.2.2.2.2.2.1)
                                  have HS11_ := (hb.cell (World.block_lt_of_cell? _ _ (hHeld.2.2.2.2.2.2.2.2.2.2.2.1))).trans (hHeld.2.2.2.2.2.2.2.2.2.2.2.1)
                                  have HS12_ := (hb.cell (World.block_lt_of_cell? _ _ (hHeld.2.2.2.2.2.2.2.2.2.2.2.2.1))).trans (hHeld.2.2.2.2.2.2.2.2.2.2.2.2.1)
                                  have HS13_ := (hb.cell (World.block_lt_of_cell? _ _ (hHeld.2.2.2.2.2.2.2.2.2.2.2.2.2))).trans (hHeld.2.2.2.2.2.2.2.2.2.2.2.2.2)
                                  refine ⟨_, rfl, ?_⟩
                                  have n0_ := Aside0.mk (Kd.S_below (by (with_reducible repeat (first | apply Kd.S_alloc | apply Kd.S_drewN | apply Kd.S_drew)); exact HO_3.out) hb)
                                  have n1_ := Aside0.mk (Kd.R_below (by (with_reducible repeat (first | apply Kd.R_alloc | apply Kd.R_drewN | apply Kd.R_drew)); exact HL128_6.out) hb)
                                  have n2_ := Aside0.mk (Kd.R_below (by (with_reducible repeat (first | apply Kd.R_alloc | apply Kd.R_drewN | apply Kd.R_drew)); exact HL129_6.out) hb)
                                  have n3_ := Aside0.mk (Kd.C_below (by repeat (first | (with_reducible exact HR127.out) | (with_reducible refine Kd.C_alloc ?_ _) | (with_reducible refine Kd.C_drewN ?_ _) | (with_reducible refine Kd.C_drew ?_) | exact HR127.out)) hb)
                                  have n4_ := Aside0.mk (Kd.C_below (by repeat (first | (with_reducible exact HR128_6.out) | (with_reducible refine Kd.C_alloc ?_ _) | (with_reducible refine Kd.C_drewN ?_ _) | (with_reducible refine Kd.C_drew ?_) | exact HR128_6.out)) hb)
                                  have n5_ := Aside0.mk (Kd.C_below (by repeat (first | (with_reducible exact HR129_6.out) | (with_reducible refine Kd.C_alloc ?_ _) | (with_reducible refine Kd.C_drewN ?_ _) | (with_reducible refine Kd.C_drew ?_) | exact HR129_6.out)) hb)
                                  have n6_ := Aside0.mk (below_step (by repeat (first | (with_reducible first | exact HB.out | apply below_alloc | apply pw_below_drewN | apply below_drew1) | exact HB.out)) hb)
                                  clear HO_3
                                  clear HL128_6
                                  clear HL129_6
                                  clear HR127
                                  clear HR128_6
                                  clear HR129_6
                                  clear HB
                                  have HO_3 := n0_
                                  have HL128_6 := n1_
                                  have HL129_6 := n2_
                                  have HR127 := n3_
                                  have HR128_6 := n4_
                                  have HR129_6 := n5_
                                  have HB := n6_
                                  clear n0_ n1_ n2_ n3_ n4_ n5_ n6_
                                  (try clear hb)
                                  (try clear hb2)
                                  (try clear hk)
                                  (try clear hi)
                                  refine hK.out _ _ ⟨HS0_, HS1_, HS2_, HS3_, HS4_, HS5_, HS6_, HS7_, HS8_, HS9_, HS10_, HS11_, HS12_, HS13_⟩ (fun hHeld => ?_)
                                  clear hK K
                                  refine norm_ (a' := ?_) ?_ ?_
                                  rotate_left
                                  · show Act.put _ (some 59) _ = _
                                    simp only [Act.put, List.setIfInBounds_toArray, List.set_cons_zero, List.set_cons_succ, i64_w, i32_w]
                                    rfl
                                  refine done_ (done_of HT_.out (by kernel_rfl)) ?_
                                  try go_wp2
                                  go_roundg k3
                                  case measure => have := HJ3.out; have := HK2.out; have := HK3.out; omega
                                  case rel => exact ⟨(wrap64 (x48_3 + 1)), (by first | rfl | (simp; done) | (simp [*]; done)), H', ⟨by have := HJ3.out; have := HK2.out; have := HK3.out; omega⟩, ⟨by (with_reducible repeat (first | apply Kd.S_alloc | apply Kd.S_drewN | apply Kd.S_drew)); exact HO_3.out⟩, ⟨by repeat (first | (with_reducible exact HR127.out) | (with_reducible refine Kd.C_alloc ?_ _) | (with_reducible refine Kd.C_drewN ?_ _) | (with_reducible refine Kd.C_drew ?_) | exact HR127.out)⟩, ⟨by repeat (first | (with_reducible first | exact HB.out | apply below_alloc | apply pw_below_drewN | apply below_drew1) | exact HB.out)⟩⟩
                              · rw [if_neg c21] at H
                                exact absurd H (by simp)
                            · rw [if_neg c20] at H
                              exact absurd H (by simp)
                          · rw [if_neg c19] at H
                            exact absurd H (by simp)
                        · rw [if_neg c18] at H
                          exact absurd H (by simp)
                      · rw [if_neg c17] at H
                        have c17b0 : decide (x48_3 < (y124.length : Int)) = false := decide_eq_false c17
                        clear c17
                        have H' := Aside0.mk H
                        clear H
                        go_wp2
                        go_roundg k3
                        case measure => have := HJ3.out; have := HK2.out; have := HK3.out; omega
                        case rel => exact ⟨(wrap64 (x41_2 + 1)), (by first | rfl | (simp; done) | (simp [*]; done)), H', ⟨by have := HJ3.out; have := HK2.out; have := HK3.out; omega⟩, ⟨by (with_reducible repeat (first | apply Kd.S_alloc | apply Kd.S_drewN | apply Kd.S_drew)); exact HO_3.out⟩, ⟨by repeat (first | (with_reducible first | exact HB.out | apply below_alloc | apply pw_below_drewN | apply below_drew1) | exact HB.out)⟩⟩
                · rw [if_neg c15] at H
                  exact absurd H (by simp)
              · rw [if_neg c14] at H
                exact absurd H (by simp)
            · rw [if_neg c13] at H
              have c13b0 : decide (x41_2 < (x3_3.length : Int)) = false := decide_eq_false c13
              clear c13
              obtain rfl := Option.some.inj H
              go_wp2
              go_ret
              exact ⟨by first | rfl | (simp [errW_none, errW_some] <;> rfl) | (simp [*, errW_none, errW_some] <;> rfl), by repeat (first | (with_reducible first | exact HB.out | apply below_alloc | apply pw_below_drewN | apply below_drew1) | exact HB.out)⟩
  · replace c3 := Bool.eq_false_iff.mpr c3
    subst c3
    have H1 : (some false) = some r := by rw [if_neg (show ¬ (false = true) by decide)] at H; exact H
    clear H
    have H := H1
    clear H1
    obtain rfl := Option.some.inj H
    go_enter Try.func4, Try.ntmps4
    go_wp2_with (first | ((with_reducible refine gate_callee (f := 6) rfl ?_); refine goesL_ (some 10) rfl rfl Try.func6 (by kernel_rfl) rfl #[] rfl (by (try simp only [List.map_toArray, List.map_cons, List.map_nil]); first | done | rfl | (simp only [List.length_drop, List.length_take]; rfl)) ?_; (with_reducible refine (psephoslaw06_awake.calls  false _ A2.out).mono ?_); rintro e w28 ⟨rfl, hb⟩; refine ⟨_, rfl, ?_⟩; have n0_ := Aside0.mk (below_step (by repeat (first | (with_reducible first | exact HB.out | apply below_alloc | apply pw_below_drewN | apply below_drew1) | exact HB.out)) hb); clear HB; have HB := n0_; clear n0_; (try clear hb); (try clear hb2); (try clear hk); (try clear hi)))
    go_ret
    exact ⟨by first | rfl | (simp [errW_none, errW_some] <;> rfl) | (simp [*, errW_none, errW_some] <;> rfl), by repeat (first | (with_reducible first | exact HB.out | apply below_alloc | apply pw_below_drewN | apply below_drew1) | exact HB.out)⟩

/-- THE ONE PURE STATEMENT of psephoslaw06_SlashHonest: yours. -/
def psephoslaw06_SlashHonest.Pure : Prop := ∀ (l0 : List Int), l0.length ≤ maxLen → l0.length * 1 ≤ 140737488351232 → (∀ x ∈ l0, (Lit.int .u8 x).wf = true) → ∃ k, psephoslaw06_SlashHonest.f k l0 = some true
theorem psephoslaw06_SlashHonest.walk (P : psephoslaw06_SlashHonest.Pure) (a0 : Option Addr) (len0 cap0 : Nat) (z0 : List Int) (w : World) (w0 : (a0 = none ∧ len0 = 0 ∧ cap0 = 0 ∧ z0 = []) ∨ ∃ x, a0 = some x ∧ len0 ≤ cap0 ∧ cap0 ≤ maxLen ∧ z0.length = cap0 ∧ (∀ i, i < z0.length → w.cell? (x.add i) = some (.int .u8 (z0.getD i 0))) ∧ ∀ n ∈ z0, (Lit.int .u8 n).wf = true) (y0 : len0 * 1 ≤ 140737488351232) :
    Calls Try.prog 4 #[.slice a0 len0 cap0] w fun e w' => e = .returned (.bool true) ∧ Below w.heap.size w w' := by
  obtain ⟨l0, rfl, hr0, hm0, hw0, hc0⟩ := ReadsInt.ofRowC w0
  obtain ⟨k, h⟩ := P l0 hm0 y0 hw0
  refine (psephoslaw06_SlashHonest.calls k _ _ l0 true w (Kd.C_of_reads (d := (0 : Int)) (h1 := fun _ => rfl) hr0) hc0 h).mono ?_
  rintro e w' ⟨rfl, hd⟩
  exact ⟨rfl, hd⟩

end Go.Proofs.Ytolkagkfedpjmaa.PSlashHonest
