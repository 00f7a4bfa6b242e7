/-
  The walk of the law WeightBest of package psephoslaw12: the call answers true, and writes nothing that was there; no condition but that the arguments read.
-/
import Derived.Test.YtmdkkojchiiaeaaBest
namespace Go.Proofs.Ytmdkkojchiiaeaa.Law12
open Go.RowKit Go.Proofs.YtmdkkojchiiaeaaW.PrintWords Go.Proofs.Ytmdkkojchiiaeaa.Own Go.Proofs.Ytmdkkojchiiaeaa.Best
set_option linter.unusedVariables false

theorem one_calls (r : Int) (w : World) : Calls Try.prog 23 #[.int .u64 r] w fun e w' => e = .returned (.int .u64 7) ∧ ∃ q', w' = w.drewN q' := by
  go_enter Try.func23, Try.ntmps23
  go_wp2_with fail
  go_ret
  exact ⟨rfl, 0, rfl⟩
theorem two_calls (r : Int) (w : World) : Calls Try.prog 24 #[.int .u64 r] w fun e w' => e = .returned (.int .u64 7) ∧ ∃ q', w' = w.drewN q' := by
  go_enter Try.func24, Try.ntmps24
  go_wp2_with fail
  go_ret
  exact ⟨rfl, 0, rfl⟩
theorem again {w w' : World} {q : Nat} (h : ∃ q', w' = (w.drewN q).drewN q') : ∃ q', w' = w.drewN q' := by
  obtain ⟨q', rfl⟩ := h
  exact ⟨_, World.drewN_drewN ..⟩
theorem below_drewN (w : World) (q : Nat) : Below w.heap.size w (w.drewN q) := ⟨rfl, rfl, rfl, Nat.le_refl _, fun i _ => rfl⟩
theorem three : bestOf (fun _ => 7) [3, 5, 4] = (5, 7, true) := by decide
theorem three_in : ∀ i : Int, 0 ≤ i → i < (3 : Nat) → 0 ≤ rd [3, 5, 4] i ∧ rd [3, 5, 4] i ≤ 18446744073709551615 := by
  intro i h0 h1
  rcases (by omega : i = 0 ∨ i = 1 ∨ i = 2) with rfl | rfl | rfl <;> decide
theorem three_reads (w : World) (t : Nat) : ReadsInt (w.alloc (.cells #[.int .u64 3, .int .u64 5, .int .u64 4] t)) .u64 (some ⟨w.heap.size, 0, none⟩) 3 [3, 5, 4] := by
  have hb : (w.alloc (.cells #[.int .u64 3, .int .u64 5, .int .u64 4] t)).heap[w.heap.size]? = some (.cells #[.int .u64 3, .int .u64 5, .int .u64 4] t (0, 0)) := by
    show (w.heap.push _)[w.heap.size]? = _
    rw [Array.getElem?_push_size]
  refine ⟨rfl, by omega, fun _ => ⟨_, rfl, fun j hj => ?_⟩⟩
  rcases (by omega : j = 0 ∨ j = 1 ∨ j = 2) with rfl | rfl | rfl <;> (rw [add_plain]; simp only [World.cell?, hb]; rfl)
theorem one_cell (w : World) (v : Value) (t : Nat) : (w.alloc (.cells #[v] t)).cell? ⟨w.heap.size, 0, none⟩ = some v := by
  have hb : (w.alloc (.cells #[v] t)).heap[w.heap.size]? = some (.cells #[v] t (0, 0)) := by
    show (w.heap.push _)[w.heap.size]? = _
    rw [Array.getElem?_push_size]
  simp only [World.cell?, hb]
  rfl
theorem none_reads (w : World) : ReadsInt w .u64 none 0 [] := ⟨rfl, by omega, fun h => absurd h (by omega)⟩

theorem best_three (w : World) : Calls Try.prog 11 #[.func (.func 23) #[] #[], .slice (some ⟨w.heap.size, 0, none⟩) 3 3] (w.alloc (.cells #[.int .u64 3, .int .u64 5, .int .u64 4] 25)) fun e w' => e = .returned (.tuple #[.int .u64 5, .bool true]) ∧ Below w.heap.size w w' := by
  have h := best_one (fun _ => 7) (some ⟨w.heap.size, 0, none⟩) 3 3 [3, 5, 4] _ (three_reads w 25) three_in (fun q r _ => (one_calls r _).mono (fun e w' h => ⟨h.1, again h.2⟩))
  refine h.mono fun e w' h => ⟨by rw [h.1, three], ?_⟩
  obtain ⟨q, hq⟩ := h.2
  rw [hq]
  exact ((Below.refl _ _).alloc (Nat.le_refl _) _).trans ⟨rfl, rfl, rfl, Nat.le_refl _, fun i _ => rfl⟩
theorem best_empty (w : World) : Calls Try.prog 11 #[.func (.func 24) #[] #[], .slice none 0 0] w fun e w' => e = .returned (.tuple #[.int .u64 0, .bool false]) ∧ Below w.heap.size w w' := by
  have h := best_two (fun _ => 7) none 0 0 [] w (none_reads _) (fun i h0 h1 => absurd h1 (by omega)) (fun q r _ => (two_calls r _).mono (fun e w' h => ⟨h.1, again h.2⟩))
  refine h.mono fun e w' h => ⟨by rw [h.1]; rfl, ?_⟩
  obtain ⟨q, hq⟩ := h.2
  rw [hq]
  exact ⟨rfl, rfl, rfl, Nat.le_refl _, fun i _ => rfl⟩
set_option maxHeartbeats 1000000 in
theorem awake_calls (w : World) : Calls Try.prog 9 #[] w fun e w' => e = .returned (.bool true) ∧ Below w.heap.size w w' := by
  go_enter Try.func9, Try.ntmps9
  go_wp2_with fail
  go_at_call 11
  refine (best_three w).mono ?_
  rintro e w1 ⟨rfl, hb⟩
  have HB1 := Aside0.mk hb
  clear hb
  go_wp2_with fail
  go_at_call 11
  refine (best_empty w1).mono ?_
  rintro e w2 ⟨rfl, hb⟩
  have HB2 := Aside0.mk (HB1.out.trans (hb.mono HB1.out.size))
  clear hb
  go_wp2_with fail
  go_ret
  exact ⟨rfl, HB2.out⟩

/-! ### what the best one is -/
structure TopOf (F : Int → Int) (rs : List Int) (s : Int × Int × Bool) : Prop where
  none : s.2.2 = false → rs = [] ∧ s.1 = 0
  some : s.2.2 = true → s.1 ∈ rs ∧ s.2.1 = F s.1 ∧ ∀ r ∈ rs, F r < F s.1 ∨ (F r = F s.1 ∧ r ≤ s.1)
theorem topOf_step {F : Int → Int} {rs : List Int} {s : Int × Int × Bool} (h : TopOf F rs s) (r : Int) : TopOf F (rs ++ [r]) (Best.step F s r) := by
  obtain ⟨b, m, k⟩ := s
  unfold Best.step
  by_cases hc : k = false ∨ F r > m ∨ (F r = m ∧ r > b)
  · rw [if_pos hc]
    refine ⟨fun h => (by cases h), fun _ => ⟨by simp, rfl, fun x hx => ?_⟩⟩
    rcases List.mem_append.1 hx with hx | hx
    · cases hk : k with
      | false => rw [(h.none hk).1] at hx; cases hx
      | true =>
        obtain ⟨_, h1, h2⟩ := h.some hk
        simp only at h1 h2
        have h3 := h2 x hx
        rcases hc with hc | hc | hc
        · rw [hk] at hc; cases hc
        · exact .inl (by simp only; omega)
        · simp only; omega
    · obtain rfl : x = r := by simpa using hx
      exact .inr ⟨rfl, Int.le_refl _⟩
  · rw [if_neg hc]
    refine ⟨fun h1 => absurd (.inl h1) hc, fun hk => ?_⟩
    obtain ⟨h0, h1, h2⟩ := h.some hk
    simp only at h0 h1 h2 ⊢
    refine ⟨List.mem_append.2 (.inl h0), h1, fun x hx => ?_⟩
    rcases List.mem_append.1 hx with hx | hx
    · exact h2 x hx
    · obtain rfl : x = r := by simpa using hx
      have ha : ¬ F x > m := fun h => hc (.inr (.inl h))
      have hb : ¬ (F x = m ∧ x > b) := fun h => hc (.inr (.inr h))
      omega
theorem topOf_fold {F : Int → Int} (l : List Int) : ∀ {rs : List Int} {s : Int × Int × Bool}, TopOf F rs s → TopOf F (rs ++ l) (l.foldl (Best.step F) s) := by
  induction l with
  | nil =>
    intro rs s h
    rw [List.append_nil]
    exact h
  | cons r l ih =>
    intro rs s h
    have h1 := ih (topOf_step h r)
    rw [List.append_assoc] at h1
    exact h1
theorem topOf (F : Int → Int) (rs : List Int) : TopOf F rs (bestOf F rs) := by
  have h := topOf_fold (F := F) rs (rs := []) (s := (0, 0, false)) ⟨fun _ => ⟨rfl, rfl⟩, fun h => (by cases h)⟩
  rw [List.nil_append] at h
  exact h
theorem rd_in {l : List Int} {i : Int} (h0 : 0 ≤ i) (h1 : i < (l.length : Int)) : rd l i ∈ l := by
  unfold rd
  rw [List.getD_eq_getElem?_getD, List.getElem?_eq_getElem (by omega)]
  exact List.getElem_mem _
theorem any_succ (rs : List Int) (b : Int) (k : Nat) (hk : k < rs.length) : (rs.take (k + 1)).any (· == b) = ((rs.take k).any (· == b) || (rd rs k == b)) := by
  rw [List.take_succ_eq_append_getElem hk, List.any_append]
  simp only [rd, Int.toNat_natCast, List.getD_eq_getElem?_getD, List.getElem?_eq_getElem hk, Option.getD_some, List.any_cons, List.any_nil, Bool.or_false]
theorem any_all {rs : List Int} {b : Int} (h : b ∈ rs) : rs.any (· == b) = true := List.any_eq_true.2 ⟨b, h, by simp⟩

set_option maxHeartbeats 8000000 in
theorem weightBest_law (A : Option Addr) (n c : Nat) (rs : List Int) (A' : Option Addr) (n' c' : Nat) (ws : List Int) (w : World) (hr : ReadsInt w .u64 A n rs) (hz : ∀ z ∈ rs, 0 ≤ z ∧ z ≤ 18446744073709551615) (hw : ReadsInt w .u8 A' n' ws) (hy : ∀ z ∈ ws, 0 ≤ z ∧ z ≤ 255) :
    Calls Try.prog 3 #[.slice A n c, .slice A' n' c'] w fun e w' => e = .returned (.bool true) ∧ Below w.heap.size w w' := by
  have hmf : ∀ (fn : Fn) (first cap : Array Value) (w : World), (Instr.makeFunc fn first cap).run Try.prog w = .ok (.func fn first cap) w := fun _ _ _ _ => rfl
  have hn := hr.2.1
  have HR := Aside0.mk hr
  have HZ := Aside0.mk hz
  have HW := Aside0.mk hw
  have HY := Aside0.mk hy
  clear hr hz hw hy
  have hF : Aside0 (∀ (wb : World) (p : Nat), Below w.heap.size w wb → wb.cell? ⟨p, 0, none⟩ = some (.slice A' n' c') → ∀ q r, 0 ≤ r ∧ r ≤ 18446744073709551615 → Calls Try.prog 10 #[.int .u64 r, .pointer (some ⟨p, 0, none⟩)] (wb.drewN q) fun e w' => e = .returned (.int .u64 (wOf ws r)) ∧ ∃ q', w' = wb.drewN q') := ⟨by
    intro wb p hb hp q r hr
    have h1 := HW.out.below (hb.trans (below_drewN wb q |> fun h => ⟨h.1, h.2, h.3, h.4, fun i hi => rfl⟩))
    by_cases h0 : n' = 0
    · subst h0
      exact (w10_none p A' c' ws r (wb.drewN q) hp h1 hr).mono (fun e w' h => ⟨h.1, again h.2⟩)
    · exact (w10_some p A' n' c' ws r (wb.drewN q) hp h1 (by omega) (fun i h0 h1 => HY.out _ (rd_in h0 (by rw [HW.out.1]; exact h1))) hr).mono (fun e w' h => ⟨h.1, again h.2⟩)⟩
  have HT := Aside0.mk (topOf (wOf ws) rs)
  obtain ⟨b, hB⟩ : ∃ b, b = bestOf (wOf ws) rs := ⟨_, rfl⟩
  have HB := Aside0.mk hB
  clear hB
  obtain ⟨b, m, ok⟩ := b
  rw [← HB.out] at HT
  go_enter Try.func3, Try.ntmps3
  go_wp2_with fail
  go_at_call 9
  refine (awake_calls _).mono ?_
  rintro e w1 ⟨rfl, hb⟩
  have HB1 := Aside0.mk (((Below.refl w.heap.size w).alloc (Nat.le_refl _) _).trans (hb.mono (by simp)))
  have HP := Aside0.mk ((hb.cell (p := ⟨w.heap.size, 0, none⟩) (by simp)).trans (one_cell w (.slice A' n' c') 23))
  clear hb
  go_wp2_with fail
  go_at_call 11
  refine (best_law w.heap.size (wOf ws) A n c rs w1 (HR.out.below HB1.out) (fun i h0 h1 => HZ.out _ (rd_in h0 (by rw [HR.out.1]; exact h1))) (hF.out _ _ HB1.out HP.out)).mono ?_
  rw [← HB.out]
  rintro e w2 ⟨rfl, q2, rfl⟩
  go_wp2_with fail
  obtain ⟨F, hFF⟩ : ∃ F, F = wOf ws := ⟨_, rfl⟩
  rw [← hFF] at hF HT
  have HC := Aside0.mk (hF.out w1 w.heap.size HB1.out HP.out)
  have HBb : Aside0 (0 ≤ b ∧ b ≤ 18446744073709551615) := ⟨by
    cases hk : ok with
    | false => have := (HT.out.none hk).2; simp only at this; omega
    | true => exact HZ.out _ (HT.out.some hk).1⟩
  have HR1 := Aside0.mk (HR.out.below HB1.out)
  have HE : Aside0 (∀ q, Below w.heap.size w (w1.drewN q)) := ⟨fun q => HB1.out.trans ⟨rfl, rfl, rfl, Nat.le_refl _, fun i hi => rfl⟩⟩
  clear hFF HB hF HR hmf
  go_loopw [8, 22] (fun v8 v22 wr => ∃ (k q : Nat) (is : Bool), k ≤ n ∧ v22 = .int .i64 (k : Int) ∧ v8 = .bool is ∧ Aside0 (is = (rs.take k).any (· == b)) ∧ Aside0 (wr = w1.drewN q)) (fun v8 v22 _ => n - (intOf v22).toNat)
  case atStart => exact ⟨0, q2, false, Nat.zero_le _, rfl, rfl, ⟨rfl⟩, ⟨rfl⟩⟩
  case round =>
    obtain ⟨k, q, is, hk, rfl, rfl, HS, HWR⟩ := hrel
    obtain rfl := HWR.out
    by_cases hlt : k < n
    · obtain ⟨ad, hA, hc⟩ := HR1.out.at_ (k : Int) (by omega) (by omega)
      rw [Int.toNat_natCast] at hc
      subst hA
      have hm := rd_in (l := rs) (i := (k : Int)) (by omega) (by rw [HR1.out.1]; omega)
      have hx := HZ.out _ hm
      have hks : ok = true := by
        cases hk : ok with
        | false => rw [(HT.out.none hk).1] at hm; cases hm
        | true => rfl
      have hv := (HT.out.some hks).2.2 _ hm
      have HN := Aside0.mk (any_succ rs b k (by rw [HR1.out.1]; exact hlt))
      rw [← HS.out] at HN
      obtain ⟨x, hxx⟩ : ∃ x, x = rd rs k := ⟨_, rfl⟩
      rw [← hxx] at hc HN hx hv
      have HX := Aside0.mk hx
      simp only at hv
      clear hxx hx hm hks
      have hlt' : (k : Int) < n := by omega
      rcases hv with hv | ⟨hv, hv2⟩
      · have e1 : decide (F x > F b) = false := decide_eq_false (by omega)
        have e2 : (F x == F b) = false := by simp; omega
        clear hv
        cases is with
        | true =>
          go_wp2_with (first
                  | (go_at_call 10; with_reducible refine (HC.out _ x HX.out).mono ?_; rintro e w3 ⟨rfl, q3, rfl⟩)
                  | (go_at_call 10; with_reducible refine (HC.out _ b HBb.out).mono ?_; rintro e w3 ⟨rfl, q3, rfl⟩))
          go_roundw
          case rel => exact ⟨k + 1, _, true, by omega, by go_num, rfl, ⟨by rw [HN.out, Bool.true_or]⟩, ⟨rfl⟩⟩
          case measure => simp [intOf]; omega
        | false =>
          by_cases h3 : x = b
          · have h3' : (x == b) = true := by simp [h3]
            have HN' : Aside0 (true = (rs.take (k + 1)).any (· == b)) := ⟨by rw [HN.out, h3', Bool.false_or]⟩
            clear h3
            go_wp2_with (first
                  | (go_at_call 10; with_reducible refine (HC.out _ x HX.out).mono ?_; rintro e w3 ⟨rfl, q3, rfl⟩)
                  | (go_at_call 10; with_reducible refine (HC.out _ b HBb.out).mono ?_; rintro e w3 ⟨rfl, q3, rfl⟩))
            go_roundw
            case rel => exact ⟨k + 1, _, true, by omega, by go_num, rfl, HN', ⟨rfl⟩⟩
            case measure => simp [intOf]; omega
          · have h3' : (x == b) = false := by simp [h3]
            have HN' : Aside0 (false = (rs.take (k + 1)).any (· == b)) := ⟨by rw [HN.out, h3', Bool.false_or]⟩
            clear h3
            go_wp2_with (first
                  | (go_at_call 10; with_reducible refine (HC.out _ x HX.out).mono ?_; rintro e w3 ⟨rfl, q3, rfl⟩)
                  | (go_at_call 10; with_reducible refine (HC.out _ b HBb.out).mono ?_; rintro e w3 ⟨rfl, q3, rfl⟩))
            go_roundw
            case rel => exact ⟨k + 1, _, false, by omega, by go_num, rfl, HN', ⟨rfl⟩⟩
            case measure => simp [intOf]; omega
      · have e1 : decide (F x > F b) = false := decide_eq_false (by omega)
        have e2 : (F x == F b) = true := by simp [hv]
        have e3 : decide (x > b) = false := decide_eq_false (by omega)
        clear hv hv2
        cases is with
        | true =>
          go_wp2_with (first
                  | (go_at_call 10; with_reducible refine (HC.out _ x HX.out).mono ?_; rintro e w3 ⟨rfl, q3, rfl⟩)
                  | (go_at_call 10; with_reducible refine (HC.out _ b HBb.out).mono ?_; rintro e w3 ⟨rfl, q3, rfl⟩))
          go_roundw
          case rel => exact ⟨k + 1, _, true, by omega, by go_num, rfl, ⟨by rw [HN.out, Bool.true_or]⟩, ⟨rfl⟩⟩
          case measure => simp [intOf]; omega
        | false =>
          by_cases h3 : x = b
          · have h3' : (x == b) = true := by simp [h3]
            have HN' : Aside0 (true = (rs.take (k + 1)).any (· == b)) := ⟨by rw [HN.out, h3', Bool.false_or]⟩
            clear h3
            go_wp2_with (first
                  | (go_at_call 10; with_reducible refine (HC.out _ x HX.out).mono ?_; rintro e w3 ⟨rfl, q3, rfl⟩)
                  | (go_at_call 10; with_reducible refine (HC.out _ b HBb.out).mono ?_; rintro e w3 ⟨rfl, q3, rfl⟩))
            go_roundw
            case rel => exact ⟨k + 1, _, true, by omega, by go_num, rfl, HN', ⟨rfl⟩⟩
            case measure => simp [intOf]; omega
          · have h3' : (x == b) = false := by simp [h3]
            have HN' : Aside0 (false = (rs.take (k + 1)).any (· == b)) := ⟨by rw [HN.out, h3', Bool.false_or]⟩
            clear h3
            go_wp2_with (first
                  | (go_at_call 10; with_reducible refine (HC.out _ x HX.out).mono ?_; rintro e w3 ⟨rfl, q3, rfl⟩)
                  | (go_at_call 10; with_reducible refine (HC.out _ b HBb.out).mono ?_; rintro e w3 ⟨rfl, q3, rfl⟩))
            go_roundw
            case rel => exact ⟨k + 1, _, false, by omega, by go_num, rfl, HN', ⟨rfl⟩⟩
            case measure => simp [intOf]; omega
    · have hE : is = rs.any (· == b) := by rw [HS.out, List.take_of_length_le (by have := HR1.out.1; omega)]
      have hge : ¬ (k : Int) < n := by omega
      cases hok : ok with
      | true =>
        subst hok
        have h1 := (HT.out.some rfl).1
        rw [any_all h1] at hE
        have h2 : 0 < n := by
          have h3 := HR1.out.1
          rcases Nat.eq_zero_or_pos n with h4 | h4
          · rw [h4] at h3; rw [List.eq_nil_of_length_eq_zero h3] at h1; cases h1
          · exact h4
        have h4 : decide ((n : Int) > 0) = true := decide_eq_true (by omega)
        have h5 : decide (0 < n) = true := decide_eq_true h2
        subst hE
        clear h1
        go_wp2_with fail
        go_ret
        exact ⟨by first | rfl | simp, HE.out _⟩
      | false =>
        subst hok
        obtain ⟨h1, h2⟩ := HT.out.none rfl
        simp only at h2
        rw [h1] at hE
        have h3 := HR1.out.1
        rw [h1] at h3
        have h4 : n = 0 := h3.symm
        subst h4
        subst h2
        subst hE
        clear h1
        go_wp2_with fail
        go_ret
        exact ⟨by first | rfl | simp, HE.out _⟩
end Go.Proofs.Ytmdkkojchiiaeaa.Law12
