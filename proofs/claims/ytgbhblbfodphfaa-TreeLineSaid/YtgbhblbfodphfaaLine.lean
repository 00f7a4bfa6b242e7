/-
  Law TreeLine of package psephoslaw09: a line of blocks.
-/
import Derived.Test.YtgbhblbfodphfaaAwake9
namespace Go.Proofs.Ytgbhblbfodphfaa.Tree
open Go.RowKit Go.Maps Go.Proofs.YtgbhblbfodphfaaW.PrintWords
set_option linter.unusedVariables false

/-! ### the plain side -/
def ndL (i : Nat) : Nd := ⟨(i : Int) + 1, if i = 0 then 1 else (i : Int), 2 * (i : Int), i⟩
def lineN (k : Nat) : T := ⟨1, (List.range k).map ndL⟩
theorem line_succ (k : Nat) : (lineN (k + 1)).ns = (lineN k).ns ++ [ndL k] := by
  unfold lineN
  rw [List.range_succ, List.map_append]
  rfl
theorem line_len (k : Nat) : (lineN k).ns.length = k := by simp [lineN]
theorem line_has (k : Nat) : ∀ r, has (lineN k).ns r = decide (1 ≤ r ∧ r ≤ (k : Int)) := by
  induction k with
  | zero =>
    intro r
    rw [decide_eq_false (by omega)]
    rfl
  | succ k ih =>
    intro r
    have hno : has (lineN k).ns (ndL k).r = false := by
      rw [ih]
      exact decide_eq_false (by show ¬ (1 ≤ (k : Int) + 1 ∧ (k : Int) + 1 ≤ _); omega)
    rw [line_succ, has_new hno, ih, ← Bool.decide_or]
    refine decide_eq_decide.2 ?_
    show r = (k : Int) + 1 ∨ _ ↔ _
    omega
theorem line_get (k : Nat) : ∀ i : Nat, i < k → getD (lineN k).ns ((i : Int) + 1) = ndL i := by
  induction k with
  | zero =>
    intro i h
    omega
  | succ k ih =>
    intro i h
    have hno : has (lineN k).ns (ndL k).r = false := by
      rw [line_has]
      exact decide_eq_false (by show ¬ (1 ≤ (k : Int) + 1 ∧ (k : Int) + 1 ≤ _); omega)
    rw [line_succ, getD_new hno]
    by_cases e : i = k
    · subst e
      rw [if_pos (show (i : Int) + 1 = (ndL i).r from rfl)]
    · rw [if_neg (by show ¬ ((i : Int) + 1 = (k : Int) + 1); omega)]
      exact ih i (by omega)
theorem line_err (k : Nat) (h1 : 1 ≤ k) (h2 : k < 1024) : addErr (lineN k) ((k : Int) + 1) k (2 * (k : Int)) = none := by
  unfold addErr
  rw [line_has, if_neg (by simp <;> omega), line_has, if_neg (by simp <;> omega), line_len, if_neg ?_, if_neg (by omega)]
  have := line_get k (k - 1) (by omega)
  rw [show (((k - 1 : Nat) : Int) + 1) = (k : Int) by omega] at this
  rw [this]
  show ¬ 2 * (k : Int) ≤ 2 * ((k - 1 : Nat) : Int)
  omega
theorem line_add (k : Nat) (h1 : 1 ≤ k) (h2 : k < 1024) : addOf (lineN k) ((k : Int) + 1) k (2 * (k : Int)) = lineN (k + 1) := by
  unfold addOf
  rw [if_pos (line_err k h1 h2)]
  have := line_get k (k - 1) (by omega)
  rw [show (((k - 1 : Nat) : Int) + 1) = (k : Int) by omega] at this
  rw [this]
  have e : (⟨(k : Int) + 1, k, 2 * (k : Int), (ndL (k - 1)).h + 1⟩ : Nd) = ndL k := by
    have e1 : (ndL (k - 1)).h + 1 = (k : Int) := by
      show ((k - 1 : Nat) : Int) + 1 = _
      omega
    rw [e1]
    unfold ndL
    rw [if_neg (show ¬ k = 0 by omega)]
  rw [e]
  show (⟨1, _⟩ : T) = ⟨1, _⟩
  rw [← line_succ]
  rfl
theorem line_fit (k : Nat) (h1 : 1 ≤ k) (h2 : k ≤ 1024) : Fit (lineN k) := by
  induction k with
  | zero => omega
  | succ k ih =>
    by_cases e : k = 0
    · subst e
      exact Fit.one 1 0 (by omega) (by omega)
    · rw [← line_add k (by omega) (by omega)]
      exact (ih (by omega) (by omega)).add _ _ _ (by omega)
theorem line_high (k : Nat) (h2 : k ≤ 1024) : ∀ x, has (lineN k).ns x = true → 0 ≤ (getD (lineN k).ns x).h ∧ (getD (lineN k).ns x).h < 1024 := by
  intro x hx
  rw [line_has] at hx
  have hx := of_decide_eq_true hx
  have := line_get k (x.toNat - 1) (by omega)
  rw [show (((x.toNat - 1 : Nat) : Int) + 1) = x by omega] at this
  rw [this]
  show 0 ≤ ((x.toNat - 1 : Nat) : Int) ∧ ((x.toNat - 1 : Nat) : Int) < 1024
  omega
theorem line_up (k : Nat) (h1 : 1 ≤ k) (h2 : k ≤ 1024) (s : Int) (hs : 0 ≤ s) : ∀ i : Nat, i < k → upTo (lineN k) s ((i : Int) + 1) = min (s / 2) (i : Int) + 1 := by
  intro i
  induction i with
  | zero =>
    intro h
    rw [upTo_stop (t := lineN k) (s := s) (r := ((0 : Nat) : Int) + 1) (fun e => e.1 rfl)]
    show ((0 : Nat) : Int) + 1 = min (s / 2) 0 + 1
    omega
  | succ i ih =>
    intro h
    have hg := line_get k (i + 1) h
    by_cases c : 2 * ((i + 1 : Nat) : Int) > s
    · have h3 := upTo_step (s := s) (r := ((i + 1 : Nat) : Int) + 1) (line_fit k h1 h2).well (by rw [line_has]; exact decide_eq_true (by omega)) (by show ¬ (((i + 1 : Nat) : Int) + 1 = 1); omega) (by rw [hg]; exact c)
      rw [← h3, hg]
      have e : (ndL (i + 1)).p = (i : Int) + 1 := by
        unfold ndL
        rw [if_neg (by omega)]
        show ((i + 1 : Nat) : Int) = _
        omega
      rw [e, ih (by omega)]
      omega
    · rw [upTo_stop (fun e => c (by have := e.2; rw [hg] at this; exact this))]
      omega
theorem line_at (k : Nat) (h1 : 1 ≤ k) (h2 : k ≤ 1024) (s : Int) (hs : 0 ≤ s) : atOf (lineN k) k s = min (s / 2) ((k : Int) - 1) + 1 := by
  unfold atOf
  rw [line_has, if_pos (by simp <;> omega)]
  have := line_up k h1 h2 s hs (k - 1) (by omega)
  rw [show (((k - 1 : Nat) : Int) + 1) = (k : Int) by omega] at this
  rw [this]
  omega
theorem line_below (k : Nat) (h1 : 1 ≤ k) (h2 : k ≤ 1024) (i : Nat) (hi : 1 ≤ i) (hik : i ≤ k) (j : Nat) (hj : 1 ≤ j) (hjk : j ≤ k) : below (lineN k) i j = decide (j ≤ i) := by
  unfold below atOf
  have e1 : has (lineN k).ns (i : Int) = true := by rw [line_has]; exact decide_eq_true (by omega)
  have e2 : has (lineN k).ns (j : Int) = true := by rw [line_has]; exact decide_eq_true (by omega)
  rw [e1, e2, if_pos rfl]
  have hg := line_get k (j - 1) (by omega)
  rw [show (((j - 1 : Nat) : Int) + 1) = (j : Int) by omega] at hg
  rw [hg]
  have := line_up k h1 h2 (ndL (j - 1)).s (by show 0 ≤ 2 * ((j - 1 : Nat) : Int); omega) (i - 1) (by omega)
  rw [show (((i - 1 : Nat) : Int) + 1) = (i : Int) by omega] at this
  rw [this]
  have e3 : (ndL (j - 1)).s / 2 = (j : Int) - 1 := by
    show 2 * ((j - 1 : Nat) : Int) / 2 = _
    omega
  rw [e3]
  by_cases c : j ≤ i
  · rw [decide_eq_true c]
    simp
    omega
  · rw [decide_eq_false c]
    simp
    omega

/-! ### the walk -/
theorem u64_in (n : Int) (h0 : 0 ≤ n) (h1 : n ≤ 18446744073709551615) : IntKind.u64.wrap n = n := by
  simp only [IntKind.wrap, IntKind.bits, IntKind.signed]
  simp
  omega
set_option maxHeartbeats 16000000 in
set_option maxRecDepth 100000 in
theorem treeLine_law (a0 a1 : Int) (w : World) (h0 : 0 ≤ a0 ∧ a0 ≤ 255) (h1 : 0 ≤ a1 ∧ a1 ≤ 255) : Calls Try.prog 4 #[.int .u8 a0, .int .u8 a1] w fun e w' => e = .returned (.bool true) ∧ Below w.heap.size w w' := by
  obtain ⟨k, hk⟩ : ∃ k : Nat, (k : Int) = 1 + Int.tmod a0 100 := ⟨(1 + Int.tmod a0 100).toNat, by rw [Int.tmod_eq_emod_of_nonneg h0.1]; omega⟩
  have hk1 : 1 ≤ k ∧ k ≤ 100 := by rw [Int.tmod_eq_emod_of_nonneg h0.1] at hk; omega
  have HK := Aside0.mk hk
  have HK1 := Aside0.mk hk1
  have H0 := Aside0.mk h0
  have H1 := Aside0.mk h1
  clear hk hk1 h0 h1
  go_enter Try.func4, Try.ntmps4
  go_wp2_with fail
  go_at_call 6
  refine (awake_calls w).mono ?_
  rintro e w0 ⟨rfl, hb⟩
  have HB0 := Aside0.mk hb
  clear hb
  go_wp2_with fail
  go_at_call 7
  refine (of_calls 1 0 w0 (by omega)).mono ?_
  rintro e w1 ⟨p, B, rfl, hm, hb, hp, hB⟩
  have HM := Aside0.mk (show Mem w1 p B (lineN 1) from hm)
  have HB1 := Aside0.mk (HB0.out.trans (hb.mono HB0.out.size))
  have HP : Aside0 (w.heap.size ≤ p ∧ w.heap.size ≤ B) := ⟨by have := HB0.out.size; omega⟩
  clear hm hb hp hB HB0
  go_wp2_with fail
  have hwr : wrap64 (1 + wrap64 (a0.tmod 100)) = (k : Int) := by
    have h1 := HK.out
    have h2 := HK1.out
    have h3 : wrap64 (a0.tmod 100) = a0.tmod 100 := by unfold wrap64; omega
    rw [h3, ← h1]
    unfold wrap64
    omega
  rw [hwr]
  clear hwr
  have HL : Aside0 (Mem w1 p B (lineN 1) ∧ Below w.heap.size w w1) := ⟨HM.out, HB1.out⟩
  clear HM HB1
  go_loopw [7] (fun v7 wr => ∃ i : Nat, 1 ≤ i ∧ i ≤ k ∧ v7 = .int .i64 i ∧ Aside0 (Mem wr p B (lineN i) ∧ Below w.heap.size w wr)) (fun v7 _ => k - (RowKit.intOf v7).toNat)
  case atStart => exact ⟨1, by omega, HK1.out.1, rfl, HL⟩
  case round =>
    obtain ⟨i, hi1, hik, rfl, HL⟩ := hrel
    by_cases hlt : i < k
    · have t0 : decide ((i : Int) < (k : Int)) = true := decide_eq_true (by omega)
      have hwk : wrap64 ((i : Int) + 1) = ((i + 1 : Nat) : Int) := by have := HK1.out; unfold wrap64; omega
      have HWK := Aside0.mk hwk
      have HU1 : Aside0 (IntKind.u64.wrap (wrap64 ((i : Int) + 1)) = (i : Int) + 1) := ⟨by rw [hwk, u64_in _ (by omega) (by have := HK1.out; omega)]; rfl⟩
      have HU2 : Aside0 (IntKind.u64.wrap (i : Int) = i) := ⟨u64_in _ (by omega) (by have := HK1.out; omega)⟩
      have HW2 : Aside0 (wrap64 (2 * (i : Int)) = 2 * (i : Int)) := ⟨by have := HK1.out; unfold wrap64; omega⟩
      have HI := Aside0.mk (And.intro hi1 hlt)
      clear hwk
      go_wp2_with (go_at_call 8; rw [HU1.out, HU2.out, HW2.out]; refine (add_calls p B (lineN i) ((i : Int) + 1) i (2 * (i : Int)) wr HL.out.1 (by have := HK1.out; omega) (by have := HK1.out; omega) (line_high i (by have := HK1.out; omega))).mono ?_; rw [line_err i HI.out.1 (by have := HI.out; have := HK1.out; omega), line_add i HI.out.1 (by have := HI.out; have := HK1.out; omega)]; rintro e w2 ⟨rfl, hm, hb, _⟩; have HL2 : Aside0 (Mem w2 p B (lineN (i + 1)) ∧ Below w.heap.size w w2) := ⟨hm, HL.out.2.trans (hb w.heap.size HP.out.2 HL.out.2.size)⟩; clear hm hb; unfold errV)
      go_roundw
      case rel => exact ⟨i + 1, by omega, by omega, by rw [HWK.out], HL2⟩
      case measure => rw [HWK.out]; simp [RowKit.intOf]; omega
    · have t0 : decide ((i : Int) < (k : Int)) = false := decide_eq_false (by omega)
      obtain rfl : i = k := by omega
      have hw8 : wrap64 a1 = a1 := by have := H1.out; unfold wrap64; omega
      have hw9 : IntKind.u64.wrap (wrap64 (min (wrap64 (a1.tdiv 2)) (wrap64 ((i : Int) - 1)) + 1)) = min (a1 / 2) ((i : Int) - 1) + 1 := by
        have h1 := H1.out
        have h2 := HK1.out
        rw [Int.tdiv_eq_ediv_of_nonneg h1.1]
        have e1 : wrap64 (a1 / 2) = a1 / 2 := by unfold wrap64; omega
        have e2 : wrap64 ((i : Int) - 1) = (i : Int) - 1 := by unfold wrap64; omega
        have e3 : wrap64 (min (a1 / 2) ((i : Int) - 1) + 1) = min (a1 / 2) ((i : Int) - 1) + 1 := by unfold wrap64; omega
        rw [e1, e2, e3]
        exact u64_in _ (by omega) (by omega)
      have HU : Aside0 (IntKind.u64.wrap (i : Int) = i) := ⟨u64_in _ (by omega) (by have := HK1.out; omega)⟩
      go_wp2_with fail
      have HW8 := Aside0.mk hw8
      clear hw8 hw9
      go_loopw [10] (fun v10 wr => ∃ j : Nat, 1 ≤ j ∧ j ≤ i + 1 ∧ v10 = .int .i64 j ∧ Aside0 (Mem wr p B (lineN i) ∧ Below w.heap.size w wr)) (fun v10 _ => i + 1 - (RowKit.intOf v10).toNat)
      case atStart => exact ⟨1, by omega, by omega, rfl, HL⟩
      case round =>
        obtain ⟨j, hj1, hji, rfl, HL⟩ := hrel
        by_cases hle : j ≤ i
        · have t1 : decide ((j : Int) ≤ (i : Int)) = true := decide_eq_true (by omega)
          have hwk : wrap64 ((j : Int) + 1) = ((j + 1 : Nat) : Int) := by have := HK1.out; unfold wrap64; omega
          have HWK := Aside0.mk hwk
          have HUJ : Aside0 (IntKind.u64.wrap (j : Int) = j) := ⟨u64_in _ (by omega) (by have := HK1.out; omega)⟩
          have HB : Aside0 (below (lineN i) i j = true) := ⟨by rw [line_below i HK1.out.1 (by have := HK1.out; omega) i HK1.out.1 (Nat.le_refl _) j hj1 hle]; exact decide_eq_true hle⟩
          clear hwk
          by_cases hlj : j < i
          · have t2 : decide ((j : Int) < (i : Int)) = true := decide_eq_true (by omega)
            have HB2 : Aside0 (below (lineN i) j i = false) := ⟨by rw [line_below i HK1.out.1 (by have := HK1.out; omega) j hj1 hle i HK1.out.1 (Nat.le_refl _)]; exact decide_eq_false (by omega)⟩
            go_wp2_with (first
              | (go_at_call 9; rw [HU.out, HUJ.out]; with_reducible refine (below_calls p B (lineN i) i j wr HL.out.1 (line_fit i HK1.out.1 (by have := HK1.out; omega)).well (by have := HK1.out; omega) (by have := HK1.out; omega)).mono ?_; rw [HB.out]; rintro e w2 ⟨rfl, hb⟩; have HL2 : Aside0 (Mem w2 p B (lineN i) ∧ Below w.heap.size w w2) := ⟨HL.out.1.below hb, HL.out.2.trans (hb.mono HL.out.2.size)⟩; clear hb)
              | (go_at_call 9; rw [HU.out, HUJ.out]; with_reducible refine (below_calls p B (lineN i) j i w2 HL2.out.1 (line_fit i HK1.out.1 (by have := HK1.out; omega)).well (by have := HK1.out; omega) (by have := HK1.out; omega)).mono ?_; rw [HB2.out]; rintro e w3 ⟨rfl, hb⟩; have HL3 : Aside0 (Mem w3 p B (lineN i) ∧ Below w.heap.size w w3) := ⟨HL2.out.1.below hb, HL2.out.2.trans (hb.mono HL2.out.2.size)⟩; clear hb))
            go_roundw
            case rel => exact ⟨j + 1, by omega, by omega, by rw [HWK.out], HL3⟩
            case measure => rw [HWK.out]; simp [RowKit.intOf]; omega
          · have t2 : decide ((j : Int) < (i : Int)) = false := decide_eq_false (by omega)
            go_wp2_with (go_at_call 9; rw [HU.out, HUJ.out]; with_reducible refine (below_calls p B (lineN i) i j wr HL.out.1 (line_fit i HK1.out.1 (by have := HK1.out; omega)).well (by have := HK1.out; omega) (by have := HK1.out; omega)).mono ?_; rw [HB.out]; rintro e w2 ⟨rfl, hb⟩; have HL2 : Aside0 (Mem w2 p B (lineN i) ∧ Below w.heap.size w w2) := ⟨HL.out.1.below hb, HL.out.2.trans (hb.mono HL.out.2.size)⟩; clear hb)
            go_roundw
            case rel => exact ⟨j + 1, by omega, by omega, by rw [HWK.out], HL2⟩
            case measure => rw [HWK.out]; simp [RowKit.intOf]; omega
        · have t1 : decide ((j : Int) ≤ (i : Int)) = false := decide_eq_false (by omega)
          have HA := Aside0.mk (line_at i HK1.out.1 (by have := HK1.out; omega) a1 H1.out.1)
          go_wp2_with (first
            | (go_at_call 11; rw [HU.out]; (try rw [HW8.out]); with_reducible refine (at_calls p B (lineN i) i a1 wr HL.out.1 (line_fit i HK1.out.1 (by have := HK1.out; omega)).well (by have := HK1.out; omega)).mono ?_; rw [HA.out]; rintro e w2 ⟨rfl, hb⟩; have HL2 : Aside0 (Mem w2 p B (lineN i) ∧ Below w.heap.size w w2) := ⟨HL.out.1.below hb, HL.out.2.trans (hb.mono HL.out.2.size)⟩; clear hb)
            | (go_at_call 12; with_reducible refine (len_calls p B (lineN i) w2 HL2.out.1).mono ?_; rw [line_len]; rintro e w3 ⟨rfl, hb⟩; have HL3 : Aside0 (Mem w3 p B (lineN i) ∧ Below w.heap.size w w3) := ⟨HL2.out.1.below hb, HL2.out.2.trans (hb.mono HL2.out.2.size)⟩; clear hb))
          go_ret
          exact ⟨rfl, HL3.out.2⟩
end Go.Proofs.Ytgbhblbfodphfaa.Tree
