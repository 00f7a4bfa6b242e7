/-
  Law TreeFull of package psephoslaw09: there is room for 1024 blocks; where the library's variable is laid.
-/
import Derived.Test.YtgbhblbfodphfaaDoorAwake9
import Derived.Test.YtgbhblbfodphfaaDoorDeeds
import Derived.Test.YtgbhblbfodphfaaDoorKids
import Derived.Test.YtgbhblbfodphfaaDoorNumber
namespace Go.Proofs.YtgbhblbfodphfaaDoor.Tree
open Go.RowKit Go.Maps Go.Proofs.YtgbhblbfodphfaaDoorW.PrintWords
set_option linter.unusedVariables false

/-! ### the plain side -/
def leaf (i : Nat) : Nd := ⟨(i : Int) + 2, 1, (i : Int) + 3, 1⟩
def star (j : Nat) : T := ⟨1, ⟨1, 1, 0, 0⟩ :: (List.range j).map leaf⟩
theorem star_succ (j : Nat) : (star (j + 1)).ns = (star j).ns ++ [leaf j] := by
  unfold star
  rw [List.range_succ, List.map_append]
  rfl
theorem star_len (j : Nat) : (star j).ns.length = j + 1 := by simp [star]
theorem star_has (j : Nat) : ∀ x, has (star j).ns x = decide (1 ≤ x ∧ x ≤ (j : Int) + 1) := by
  induction j with
  | zero =>
    intro x
    have h := has_mem (star 0).ns x
    have e : (x ∈ (star 0).ns.map (·.r)) ↔ (1 ≤ x ∧ x ≤ ((0 : Nat) : Int) + 1) := by
      show x ∈ [(1 : Int)] ↔ _
      rw [List.mem_singleton]
      omega
    rw [e] at h
    cases hb : has (star 0).ns x with
    | true => exact (decide_eq_true (h.1 hb)).symm
    | false => exact (decide_eq_false (fun hx => by rw [h.2 hx] at hb; cases hb)).symm
  | succ j ih =>
    intro x
    have hno : has (star j).ns (leaf j).r = false := by
      rw [ih]
      exact decide_eq_false (by show ¬ (1 ≤ (j : Int) + 2 ∧ (j : Int) + 2 ≤ _); omega)
    rw [star_succ, has_new hno, ih, ← Bool.decide_or]
    refine decide_eq_decide.2 ?_
    show x = (j : Int) + 2 ∨ _ ↔ _
    omega
theorem star_get (j : Nat) : getD (star j).ns 1 = ⟨1, 1, 0, 0⟩ := by simp [getD, find, star]
theorem star_leaf (j : Nat) : ∀ i : Nat, i < j → getD (star j).ns ((i : Int) + 2) = leaf i := by
  induction j with
  | zero =>
    intro i h
    omega
  | succ j ih =>
    intro i h
    have hno : has (star j).ns (leaf j).r = false := by
      rw [star_has]
      exact decide_eq_false (by show ¬ (1 ≤ (j : Int) + 2 ∧ (j : Int) + 2 ≤ _); omega)
    rw [star_succ, getD_new hno]
    by_cases e : i = j
    · subst e
      rw [if_pos (show (i : Int) + 2 = (leaf i).r from rfl)]
    · rw [if_neg (by show ¬ ((i : Int) + 2 = (j : Int) + 2); omega)]
      exact ih i (by omega)
theorem star_high (j : Nat) : ∀ x, has (star j).ns x = true → 0 ≤ (getD (star j).ns x).h ∧ (getD (star j).ns x).h < 1024 := by
  intro x hx
  rw [star_has] at hx
  have hx := of_decide_eq_true hx
  by_cases e : x = 1
  · rw [e, star_get]
    decide
  · have := star_leaf j (x.toNat - 2) (by omega)
    rw [show (((x.toNat - 2 : Nat) : Int) + 2) = x by omega] at this
    rw [this]
    show (0 : Int) ≤ 1 ∧ (1 : Int) < 1024
    omega
theorem star_err (j : Nat) (hj : j < 1023) : addErr (star j) ((j : Int) + 2) 1 ((j : Int) + 3) = none := by
  unfold addErr
  rw [star_has, if_neg (by simp <;> omega), star_has, if_neg (by simp <;> omega), star_get, if_neg (show ¬ (j : Int) + 3 ≤ 0 by omega), star_len, if_neg (by omega)]
theorem star_add (j : Nat) (hj : j < 1023) : addOf (star j) ((j : Int) + 2) 1 ((j : Int) + 3) = star (j + 1) := by
  unfold addOf
  rw [if_pos (star_err j hj), star_get]
  show (⟨1, (star j).ns ++ [leaf j]⟩ : T) = ⟨1, _⟩
  rw [← star_succ]
  rfl
theorem star_full (x : Int) (hx : 1024 < x) (s : Int) (hs : 0 < s) : addErr (star 1023) x 1 s = some 12 := by
  unfold addErr
  rw [star_has, if_neg (by simp <;> omega), star_has, if_neg (by simp <;> omega), star_get, if_neg (show ¬ s ≤ 0 by omega), star_len, if_pos (by omega)]
theorem star_stay (x : Int) (hx : 1024 < x) (s : Int) (hs : 0 < s) : addOf (star 1023) x 1 s = star 1023 := by
  unfold addOf
  rw [star_full x hx s hs, if_neg (by simp)]
theorem star_roots (j : Nat) : (star j).ns.map (·.r) = 1 :: (List.range j).map (fun i : Nat => (i : Int) + 2) := by
  show (1 : Int) :: ((List.range j).map leaf).map (·.r) = _
  rw [List.map_map]
  rfl
theorem star_uniq (j : Nat) : Uniq (star j).ns := by
  unfold Uniq
  rw [star_roots, List.nodup_cons]
  refine ⟨fun h => ?_, ?_⟩
  · obtain ⟨i, _, e⟩ := List.mem_map.1 h
    omega
  · refine List.Pairwise.map _ (fun a b h => ?_) List.nodup_range
    intro e
    exact h (by omega)
theorem star_kids (j : Nat) : (kidsOf (star j) 1).length = j := by
  unfold kidsOf rootsOf
  rw [((List.mergeSort_perm _ _).filter _).length_eq, star_roots, List.filter_cons_of_neg (by show ¬ ((decide ((1 : Int) ≠ 1) && _) = true); simp), List.filter_eq_self.2 ?_]
  · simp
  · intro x hx
    obtain ⟨i, hi, rfl⟩ := List.mem_map.1 hx
    have hi := List.mem_range.1 hi
    rw [star_leaf j i hi]
    show (decide (((i : Int) + 2) ≠ 1) && decide ((1 : Int) = 1)) = true
    simp
    omega

/-! ### the walk -/
set_option maxHeartbeats 16000000 in
set_option maxRecDepth 100000 in
theorem treeFull_law (a0 : Int) (w : World) (hL : Number.Laid w) (h0 : 0 ≤ a0 ∧ a0 ≤ 255) : Calls Tryd.prog 3 #[.int .u8 a0] w fun e w' => e = .returned (.bool true) ∧ Below w.heap.size w w' := by
  have HLD := Aside0.mk hL
  obtain ⟨m, hm⟩ : ∃ m : Nat, (m : Int) = a0 := ⟨a0.toNat, by omega⟩
  subst hm
  have hmb : m ≤ 255 := by omega
  have HMB := Aside0.mk hmb
  have hwm : wrap64 (m : Int) = m := by unfold wrap64; omega
  have hwn : wrap64 (1024 + (m : Int)) = 1024 + m := by unfold wrap64; omega
  clear hL h0 hmb
  go_enter Tryd.func3, Tryd.ntmps3
  go_wp2_with fail
  go_at_call 5
  refine (awake_calls w).mono ?_
  rintro e w0 ⟨rfl, hb⟩
  have HB0 := Aside0.mk hb
  clear hb
  go_wp2_with fail
  go_at_call 6
  refine (of_calls 1 0 w0 (by omega)).mono ?_
  rintro e w1 ⟨p, B, rfl, hm, hb, hp, hB⟩
  have HL : Aside0 (Mem w1 p B (star (min 0 1023)) ∧ Below w.heap.size w w1) := ⟨hm, HB0.out.trans (hb.mono HB0.out.size)⟩
  have HP : Aside0 (w.heap.size ≤ p ∧ w.heap.size ≤ B) := ⟨by have := HB0.out.size; omega⟩
  clear hm hb hp hB HB0
  go_wp2_with fail
  go_loopw [4] (fun v4 wr => ∃ k : Nat, k ≤ m + 1023 ∧ v4 = .int .i64 ((k : Int) + 2) ∧ Aside0 (Mem wr p B (star (min k 1023)) ∧ Below w.heap.size w wr)) (fun v4 _ => m + 1026 - (RowKit.intOf v4).toNat)
  case atStart => exact ⟨0, by omega, rfl, HL⟩
  case round =>
    obtain ⟨k, hk, rfl, HL⟩ := hrel
    have hwk : wrap64 ((k : Int) + 2 + 1) = ((k + 1 : Nat) : Int) + 2 := by have := HMB.out; unfold wrap64; omega
    have hw1 : wrap64 (1 + ((k : Int) + 2)) = (k : Int) + 3 := by have := HMB.out; unfold wrap64; omega
    have hu : IntKind.u64.wrap ((k : Int) + 2) = (k : Int) + 2 := by have := HMB.out; exact u64_in _ (by omega) (by omega)
    have HWK := Aside0.mk hwk
    have HS1 : Aside0 (1 + ((k : Int) + 2) = (k : Int) + 3) := ⟨by omega⟩
    clear hwk
    have HUK : Aside0 (0 ≤ (k : Int) + 2 ∧ (k : Int) + 2 ≤ 18446744073709551615) := ⟨by have := HMB.out; omega⟩
    have HLL := Aside0.mk (Number.laid_below HLD.out HL.out.2)
    by_cases hlt : k < m + 1023
    · have t0 : decide ((k : Int) + 2 ≤ 1024 + (m : Int)) = true := decide_eq_true (by omega)
      have HLT := Aside0.mk hlt
      by_cases hfr : k < 1023
      · have t1 : decide ((k : Int) + 2 ≤ 1024) = true := decide_eq_true (by omega)
        have HFR := Aside0.mk hfr
        have hmin : min k 1023 = k := by omega
        rw [hmin] at HL
        have HMN : Aside0 (min (k + 1) 1023 = k + 1) := ⟨by omega⟩
        clear hmin
        go_wp2_with (go_at_call 7; (try rw [HS1.out]); go_loud (with_reducible refine (add_calls p B (star k) ((k : Int) + 2) 1 ((k : Int) + 3) _ HL.out.1 HUK.out (by omega) (star_high k)).mono ?_; rw [star_err k HFR.out, star_add k HFR.out]); go_loud (rintro e w2 ⟨rfl, hm, hb, _⟩; have HL2 : Aside0 (Mem w2 p B (star (min (k + 1) 1023)) ∧ Below w.heap.size w w2) := ⟨by rw [HMN.out]; exact hm, HL.out.2.trans (hb w.heap.size HP.out.2 HL.out.2.size)⟩); clear hm hb; unfold errV)
        go_roundw
        case rel => exact ⟨k + 1, by omega, by first | rw [HWK.out] | rfl, HL2⟩
        case measure => (try rw [HWK.out]); simp [RowKit.intOf]; omega
      · have t1 : decide ((k : Int) + 2 ≤ 1024) = false := decide_eq_false (by omega)
        have HFR : Aside0 (1024 < (k : Int) + 2 ∧ 0 < (k : Int) + 3) := ⟨by omega⟩
        have hmin : min k 1023 = 1023 := by omega
        rw [hmin] at HL
        have HMN : Aside0 (min (k + 1) 1023 = 1023) := ⟨by omega⟩
        clear hmin
        go_wp2_with (first
          | (go_at_call 7; (try rw [HS1.out]); go_loud (with_reducible refine (add_calls p B (star 1023) ((k : Int) + 2) 1 ((k : Int) + 3) _ HL.out.1 HUK.out (by omega) (star_high 1023)).mono ?_; rw [star_full _ HFR.out.1 _ HFR.out.2, star_stay _ HFR.out.1 _ HFR.out.2]); go_loud (rintro e w2 ⟨rfl, hm, hb, _⟩; have HL2 : Aside0 (Mem w2 p B (star 1023) ∧ Below w.heap.size w w2) := ⟨hm, HL.out.2.trans (hb w.heap.size HP.out.2 HL.out.2.size)⟩); clear hm hb; unfold errV)
          | (go_at_call 8; go_loud (with_reducible refine (Number.number_some 12 _ (Number.laid_below HLD.out HL2.out.2)).mono ?_); go_loud (rintro e w3 ⟨rfl, hb⟩; have HL3 : Aside0 (Mem w3 p B (star (min (k + 1) 1023)) ∧ Below w.heap.size w w3) := ⟨by rw [HMN.out]; exact HL2.out.1.below hb, HL2.out.2.trans (hb.mono HL2.out.2.size)⟩); clear hb))
        go_roundw
        case rel => exact ⟨k + 1, by omega, by first | rw [HWK.out] | rfl, HL3⟩
        case measure => (try rw [HWK.out]); simp [RowKit.intOf]; omega
    · have t0 : decide ((k : Int) + 2 ≤ 1024 + (m : Int)) = false := decide_eq_false (by omega)
      have hmin : min k 1023 = 1023 := by omega
      rw [hmin] at HL
      clear hmin
      go_wp2_with (first
        | (go_at_call 9; with_reducible refine (len_calls p B (star 1023) _ HL.out.1).mono ?_; rw [star_len]; rintro e w2 ⟨rfl, hb⟩; replace HL : Aside0 (Mem w2 p B (star 1023) ∧ Below w.heap.size w w2) := ⟨HL.out.1.below hb, HL.out.2.trans (hb.mono HL.out.2.size)⟩; clear hb)
        | (go_at_call 10; go_loud (with_reducible refine (kids_calls p B (star 1023) 1 _ HL.out.1 (star_uniq 1023) (by simp [star]) (by rw [star_len]; omega) (fun r hr => by rw [star_has] at hr; have := of_decide_eq_true hr; omega)).mono ?_); go_loud (rintro e w2 ⟨v, rfl, hR, hb⟩; obtain ⟨AK, cK, rfl⟩ := Kd.R_slice hR; rw [star_kids 1023]; have HL2 : Aside0 (Below w.heap.size w w2) := ⟨HL.out.2.trans (hb.mono HL.out.2.size)⟩); clear hb hR))
      go_ret
      exact ⟨rfl, HL2.out⟩
end Go.Proofs.YtgbhblbfodphfaaDoor.Tree
