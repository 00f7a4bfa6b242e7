/-
  weight.Best over a closure told by its contract; the closures of package psephoslaw12's first law; no condition.
-/
import Derived.Test.YtmdkkojchiiaeaaOwn
import Derived.Test.YtmdkkojchiiaeaaProg
import Derived.LoopTactic
import Derived.Deep.LoopGhost
import Derived.Laws.Bits64
namespace Go.Proofs.Ytmdkkojchiiaeaa.Best
open Go.RowKit Go.Proofs.YtmdkkojchiiaeaaW.PrintWords Go.Proofs.Ytmdkkojchiiaeaa.Own
set_option linter.unusedVariables false

/-- What a block weighs in the law. -/
def wOf (ws : List Int) (r : Int) : Int := if ws.length = 0 then 0 else rd ws (r % (ws.length : Int)) % 4

set_option maxHeartbeats 2000000 in
theorem w10_none (p : Nat) (A : Option Addr) (c : Nat) (ws : List Int) (r : Int) (w : World) (hp : w.cell? ⟨p, 0, none⟩ = some (.slice A 0 c)) (hw : ReadsInt w .u8 A 0 ws) (hr : 0 ≤ r ∧ r ≤ 18446744073709551615) :
    Calls Try.prog 10 #[.int .u64 r, .pointer (some ⟨p, 0, none⟩)] w fun e w' => e = .returned (.int .u64 (wOf ws r)) ∧ ∃ q, w' = w.drewN q := by
  have HW := Aside0.mk hw
  clear hw
  go_enter Try.func10, Try.ntmps10
  go_wp2_with fail
  go_ret
  exact ⟨by unfold wOf; rw [if_pos HW.out.1]; rfl, 0, rfl⟩

set_option maxHeartbeats 2000000 in
theorem w10_some (p : Nat) (A : Option Addr) (n c : Nat) (ws : List Int) (r : Int) (w : World) (hp : w.cell? ⟨p, 0, none⟩ = some (.slice A n c)) (hw : ReadsInt w .u8 A n ws) (hn : 0 < n) (hb : ∀ i : Int, 0 ≤ i → i < n → 0 ≤ rd ws i ∧ rd ws i ≤ 255) (hr : 0 ≤ r ∧ r ≤ 18446744073709551615) :
    Calls Try.prog 10 #[.int .u64 r, .pointer (some ⟨p, 0, none⟩)] w fun e w' => e = .returned (.int .u64 (wOf ws r)) ∧ ∃ q, w' = w.drewN q := by
  have HW := Aside0.mk hw
  have hm := hw.2.1
  have hn0 : ((n : Int) == 0) = false := by simp; omega
  obtain ⟨ad, hA, hc⟩ := hw.at_ (r % (n : Int)) (Int.emod_nonneg _ (by omega)) (Int.emod_lt_of_pos _ (by omega))
  subst hA
  have k0 : 0 ≤ r % (n : Int) := Int.emod_nonneg _ (by omega)
  have k1 : r % (n : Int) < n := Int.emod_lt_of_pos _ (by omega)
  have hwn : IntKind.u64.wrap (n : Int) = n := by rw [IntKind.wrap_u64]; omega
  have htm : Int.tmod r (n : Int) = r % n := Int.tmod_eq_emod_of_nonneg hr.1
  obtain ⟨x, hx⟩ : ∃ x, x = rd ws (r % (n : Int)) := ⟨_, rfl⟩
  have hxb : 0 ≤ x ∧ x ≤ 255 := by rw [hx]; exact hb _ k0 k1
  rw [← hx] at hc
  have htx : Int.tmod x 4 = x % 4 := Int.tmod_eq_emod_of_nonneg hxb.1
  have hwx : IntKind.u64.wrap (x % 4) = x % 4 := by rw [IntKind.wrap_u64]; omega
  have HX := Aside0.mk hx
  have HN := Aside0.mk hn
  clear hx
  obtain ⟨i, hi⟩ : ∃ i, i = r % (n : Int) := ⟨_, rfl⟩
  rw [← hi] at hc k0 k1 htm HX
  have HI := Aside0.mk hi
  clear hi hw hr hb
  go_enter Try.func10, Try.ntmps10
  go_wp2_with fail
  go_quiet (fail)
  go_wp2_with fail
  go_ret
  refine ⟨?_, _, rfl⟩
  apply ret_int
  unfold wOf
  rw [if_neg (by have := HN.out; have := HW.out.1; omega), HW.out.1, ← HI.out, ← HX.out]
/-! ### weight.Best -/
def step (F : Int → Int) (s : Int × Int × Bool) (r : Int) : Int × Int × Bool :=
  if s.2.2 = false ∨ F r > s.2.1 ∨ (F r = s.2.1 ∧ r > s.1) then (r, F r, true) else s
def bestOf (F : Int → Int) (rs : List Int) : Int × Int × Bool := rs.foldl (step F) (0, 0, false)
theorem bestOf_succ (F : Int → Int) (rs : List Int) (k : Nat) (hk : k < rs.length) : bestOf F (rs.take (k + 1)) = step F (bestOf F (rs.take k)) (rd rs k) := by
  unfold bestOf
  rw [List.take_succ_eq_append_getElem hk, List.foldl_append]
  simp only [List.foldl_cons, List.foldl_nil, rd, Int.toNat_natCast, List.getD_eq_getElem?_getD, List.getElem?_eq_getElem hk, Option.getD_some]
theorem step_new (F : Int → Int) (b m r : Int) : step F (b, m, false) r = (r, F r, true) := if_pos (.inl rfl)
theorem step_more (F : Int → Int) (b m r : Int) (h : F r > m) : step F (b, m, true) r = (r, F r, true) := if_pos (.inr (.inl h))
theorem step_same (F : Int → Int) (b m r : Int) (h : F r = m) (h1 : r > b) : step F (b, m, true) r = (r, F r, true) := if_pos (.inr (.inr ⟨h, h1⟩))
theorem step_less (F : Int → Int) (b m r : Int) (h : ¬ F r > m) (h1 : ¬ (F r = m ∧ r > b)) : step F (b, m, true) r = (b, m, true) := if_neg (by rintro (h2 | h2 | h2); cases h2; exact h h2; exact h1 h2)

set_option maxHeartbeats 4000000 in
theorem best_law (p : Nat) (F : Int → Int) (A : Option Addr) (n c : Nat) (rs : List Int) (w : World) (hr : ReadsInt w .u64 A n rs) (hin : ∀ i : Int, 0 ≤ i → i < n → 0 ≤ rd rs i ∧ rd rs i ≤ 18446744073709551615)
    (hf : ∀ q r, 0 ≤ r ∧ r ≤ 18446744073709551615 → Calls Try.prog 10 #[.int .u64 r, .pointer (some ⟨p, 0, none⟩)] (w.drewN q) fun e w' => e = .returned (.int .u64 (F r)) ∧ ∃ q', w' = w.drewN q') :
    Calls Try.prog 11 #[.func (.func 10) #[] #[.pointer (some ⟨p, 0, none⟩)], .slice A n c] w fun e w' => e = .returned (.tuple #[.int .u64 (bestOf F rs).1, .bool (bestOf F rs).2.2]) ∧ ∃ q, w' = w.drewN q := by
  have HR := Aside0.mk hr
  have HI := Aside0.mk hin
  have HF := Aside0.mk hf
  have hn := hr.2.1
  clear hr hin hf
  go_enter Try.func11, Try.ntmps11
  go_wp2_with fail
  go_loopw [6, 7, 8, 14] (fun v6 v7 v8 v14 wr => ∃ (k q : Nat) (b m : Int) (h : Bool), k ≤ n ∧ v14 = .int .i64 (k : Int) ∧ v6 = .int .u64 b ∧ v7 = .int .u64 m ∧ v8 = .bool h ∧ Aside0 (bestOf F (rs.take k) = (b, m, h)) ∧ Aside0 (wr = w.drewN q)) (fun v6 v7 v8 v14 _ => n - (intOf v14).toNat)
  case atStart => exact ⟨0, 0, 0, 0, false, Nat.zero_le _, rfl, rfl, rfl, rfl, ⟨rfl⟩, ⟨rfl⟩⟩
  case round =>
    obtain ⟨k, q, b, m, h, hk, rfl, rfl, rfl, rfl, HB, HW⟩ := hrel
    obtain rfl := HW.out
    by_cases hlt : k < n
    · obtain ⟨ad, hA, hc⟩ := HR.out.at_ (k : Int) (by omega) (by omega)
      rw [Int.toNat_natCast] at hc
      subst hA
      have hx := HI.out (k : Int) (by omega) (by omega)
      have HS := Aside0.mk (bestOf_succ F rs k (by rw [HR.out.1]; exact hlt))
      rw [HB.out] at HS
      obtain ⟨x, hxx⟩ : ∃ x, x = rd rs k := ⟨_, rfl⟩
      rw [← hxx] at hc HS hx
      have HX := Aside0.mk hx
      clear hxx hx
      have hlt' : (k : Int) < n := by omega
      cases h with
      | false =>
        rw [step_new] at HS
        go_wp2_with (go_at_call 10; refine (HF.out _ _ HX.out).mono ?_; rintro e w1 ⟨rfl, q1, rfl⟩)
        go_roundw
        case rel => exact ⟨k + 1, _, _, _, _, by omega, by go_num, rfl, rfl, rfl, HS, ⟨rfl⟩⟩
        case measure => simp [intOf]; omega
      | true =>
        by_cases e1 : F x > m
        · rw [step_more _ _ _ _ e1] at HS
          have e1' : decide (F x > m) = true := decide_eq_true e1
          go_wp2_with (go_at_call 10; refine (HF.out _ _ HX.out).mono ?_; rintro e w1 ⟨rfl, q1, rfl⟩)
          go_roundw
          case rel => exact ⟨k + 1, _, _, _, _, by omega, by go_num, rfl, rfl, rfl, HS, ⟨rfl⟩⟩
          case measure => simp [intOf]; omega
        · have e1' : decide (F x > m) = false := decide_eq_false e1
          by_cases e2 : F x = m
          · have e2' : (F x == m) = true := by simp [e2]
            by_cases e3 : x > b
            · rw [step_same _ _ _ _ e2 e3] at HS
              have e3' : decide (x > b) = true := decide_eq_true e3
              clear e2 e1
              go_wp2_with (go_at_call 10; refine (HF.out _ _ HX.out).mono ?_; rintro e w1 ⟨rfl, q1, rfl⟩)
              go_roundw
              case rel => exact ⟨k + 1, _, _, _, _, by omega, by go_num, rfl, rfl, rfl, HS, ⟨rfl⟩⟩
              case measure => simp [intOf]; omega
            · rw [step_less _ _ _ _ e1 (fun h => e3 h.2)] at HS
              have e3' : decide (x > b) = false := decide_eq_false e3
              clear e2 e1
              go_wp2_with (go_at_call 10; refine (HF.out _ _ HX.out).mono ?_; rintro e w1 ⟨rfl, q1, rfl⟩)
              go_roundw
              case rel => exact ⟨k + 1, _, _, _, _, by omega, by go_num, rfl, rfl, rfl, HS, ⟨rfl⟩⟩
              case measure => simp [intOf]; omega
          · rw [step_less _ _ _ _ e1 (fun h => e2 h.1)] at HS
            have e2' : (F x == m) = false := by simp [e2]
            clear e2 e1
            go_wp2_with (go_at_call 10; refine (HF.out _ _ HX.out).mono ?_; rintro e w1 ⟨rfl, q1, rfl⟩)
            go_roundw
            case rel => exact ⟨k + 1, _, _, _, _, by omega, by go_num, rfl, rfl, rfl, HS, ⟨rfl⟩⟩
            case measure => simp [intOf]; omega
    · have hE : Aside0 (bestOf F rs = (b, m, h)) := ⟨by rw [← HB.out, List.take_of_length_le (by have := HR.out.1; omega)]⟩
      have hge : ¬ (k : Int) < n := by omega
      go_wp2_with fail
      go_ret2
      exact ⟨by first | (rw [hE.out]; rfl; done) | simp [hE.out], _, rfl⟩

set_option maxHeartbeats 4000000 in
theorem best_one (F : Int → Int) (A : Option Addr) (n c : Nat) (rs : List Int) (w : World) (hr : ReadsInt w .u64 A n rs) (hin : ∀ i : Int, 0 ≤ i → i < n → 0 ≤ rd rs i ∧ rd rs i ≤ 18446744073709551615)
    (hf : ∀ q r, 0 ≤ r ∧ r ≤ 18446744073709551615 → Calls Try.prog 23 #[.int .u64 r] (w.drewN q) fun e w' => e = .returned (.int .u64 (F r)) ∧ ∃ q', w' = w.drewN q') :
    Calls Try.prog 11 #[.func (.func 23) #[] #[], .slice A n c] w fun e w' => e = .returned (.tuple #[.int .u64 (bestOf F rs).1, .bool (bestOf F rs).2.2]) ∧ ∃ q, w' = w.drewN q := by
  have HR := Aside0.mk hr
  have HI := Aside0.mk hin
  have HF := Aside0.mk hf
  have hn := hr.2.1
  clear hr hin hf
  go_enter Try.func11, Try.ntmps11
  go_wp2_with fail
  go_loopw [6, 7, 8, 14] (fun v6 v7 v8 v14 wr => ∃ (k q : Nat) (b m : Int) (h : Bool), k ≤ n ∧ v14 = .int .i64 (k : Int) ∧ v6 = .int .u64 b ∧ v7 = .int .u64 m ∧ v8 = .bool h ∧ Aside0 (bestOf F (rs.take k) = (b, m, h)) ∧ Aside0 (wr = w.drewN q)) (fun v6 v7 v8 v14 _ => n - (intOf v14).toNat)
  case atStart => exact ⟨0, 0, 0, 0, false, Nat.zero_le _, rfl, rfl, rfl, rfl, ⟨rfl⟩, ⟨rfl⟩⟩
  case round =>
    obtain ⟨k, q, b, m, h, hk, rfl, rfl, rfl, rfl, HB, HW⟩ := hrel
    obtain rfl := HW.out
    by_cases hlt : k < n
    · obtain ⟨ad, hA, hc⟩ := HR.out.at_ (k : Int) (by omega) (by omega)
      rw [Int.toNat_natCast] at hc
      subst hA
      have hx := HI.out (k : Int) (by omega) (by omega)
      have HS := Aside0.mk (bestOf_succ F rs k (by rw [HR.out.1]; exact hlt))
      rw [HB.out] at HS
      obtain ⟨x, hxx⟩ : ∃ x, x = rd rs k := ⟨_, rfl⟩
      rw [← hxx] at hc HS hx
      have HX := Aside0.mk hx
      clear hxx hx
      have hlt' : (k : Int) < n := by omega
      cases h with
      | false =>
        rw [step_new] at HS
        go_wp2_with (go_at_call 23; refine (HF.out _ _ HX.out).mono ?_; rintro e w1 ⟨rfl, q1, rfl⟩)
        go_roundw
        case rel => exact ⟨k + 1, _, _, _, _, by omega, by go_num, rfl, rfl, rfl, HS, ⟨rfl⟩⟩
        case measure => simp [intOf]; omega
      | true =>
        by_cases e1 : F x > m
        · rw [step_more _ _ _ _ e1] at HS
          have e1' : decide (F x > m) = true := decide_eq_true e1
          go_wp2_with (go_at_call 23; refine (HF.out _ _ HX.out).mono ?_; rintro e w1 ⟨rfl, q1, rfl⟩)
          go_roundw
          case rel => exact ⟨k + 1, _, _, _, _, by omega, by go_num, rfl, rfl, rfl, HS, ⟨rfl⟩⟩
          case measure => simp [intOf]; omega
        · have e1' : decide (F x > m) = false := decide_eq_false e1
          by_cases e2 : F x = m
          · have e2' : (F x == m) = true := by simp [e2]
            by_cases e3 : x > b
            · rw [step_same _ _ _ _ e2 e3] at HS
              have e3' : decide (x > b) = true := decide_eq_true e3
              clear e2 e1
              go_wp2_with (go_at_call 23; refine (HF.out _ _ HX.out).mono ?_; rintro e w1 ⟨rfl, q1, rfl⟩)
              go_roundw
              case rel => exact ⟨k + 1, _, _, _, _, by omega, by go_num, rfl, rfl, rfl, HS, ⟨rfl⟩⟩
              case measure => simp [intOf]; omega
            · rw [step_less _ _ _ _ e1 (fun h => e3 h.2)] at HS
              have e3' : decide (x > b) = false := decide_eq_false e3
              clear e2 e1
              go_wp2_with (go_at_call 23; refine (HF.out _ _ HX.out).mono ?_; rintro e w1 ⟨rfl, q1, rfl⟩)
              go_roundw
              case rel => exact ⟨k + 1, _, _, _, _, by omega, by go_num, rfl, rfl, rfl, HS, ⟨rfl⟩⟩
              case measure => simp [intOf]; omega
          · rw [step_less _ _ _ _ e1 (fun h => e2 h.1)] at HS
            have e2' : (F x == m) = false := by simp [e2]
            clear e2 e1
            go_wp2_with (go_at_call 23; refine (HF.out _ _ HX.out).mono ?_; rintro e w1 ⟨rfl, q1, rfl⟩)
            go_roundw
            case rel => exact ⟨k + 1, _, _, _, _, by omega, by go_num, rfl, rfl, rfl, HS, ⟨rfl⟩⟩
            case measure => simp [intOf]; omega
    · have hE : Aside0 (bestOf F rs = (b, m, h)) := ⟨by rw [← HB.out, List.take_of_length_le (by have := HR.out.1; omega)]⟩
      have hge : ¬ (k : Int) < n := by omega
      go_wp2_with fail
      go_ret2
      exact ⟨by first | (rw [hE.out]; rfl; done) | simp [hE.out], _, rfl⟩

set_option maxHeartbeats 4000000 in
theorem best_two (F : Int → Int) (A : Option Addr) (n c : Nat) (rs : List Int) (w : World) (hr : ReadsInt w .u64 A n rs) (hin : ∀ i : Int, 0 ≤ i → i < n → 0 ≤ rd rs i ∧ rd rs i ≤ 18446744073709551615)
    (hf : ∀ q r, 0 ≤ r ∧ r ≤ 18446744073709551615 → Calls Try.prog 24 #[.int .u64 r] (w.drewN q) fun e w' => e = .returned (.int .u64 (F r)) ∧ ∃ q', w' = w.drewN q') :
    Calls Try.prog 11 #[.func (.func 24) #[] #[], .slice A n c] w fun e w' => e = .returned (.tuple #[.int .u64 (bestOf F rs).1, .bool (bestOf F rs).2.2]) ∧ ∃ q, w' = w.drewN q := by
  have HR := Aside0.mk hr
  have HI := Aside0.mk hin
  have HF := Aside0.mk hf
  have hn := hr.2.1
  clear hr hin hf
  go_enter Try.func11, Try.ntmps11
  go_wp2_with fail
  go_loopw [6, 7, 8, 14] (fun v6 v7 v8 v14 wr => ∃ (k q : Nat) (b m : Int) (h : Bool), k ≤ n ∧ v14 = .int .i64 (k : Int) ∧ v6 = .int .u64 b ∧ v7 = .int .u64 m ∧ v8 = .bool h ∧ Aside0 (bestOf F (rs.take k) = (b, m, h)) ∧ Aside0 (wr = w.drewN q)) (fun v6 v7 v8 v14 _ => n - (intOf v14).toNat)
  case atStart => exact ⟨0, 0, 0, 0, false, Nat.zero_le _, rfl, rfl, rfl, rfl, ⟨rfl⟩, ⟨rfl⟩⟩
  case round =>
    obtain ⟨k, q, b, m, h, hk, rfl, rfl, rfl, rfl, HB, HW⟩ := hrel
    obtain rfl := HW.out
    by_cases hlt : k < n
    · obtain ⟨ad, hA, hc⟩ := HR.out.at_ (k : Int) (by omega) (by omega)
      rw [Int.toNat_natCast] at hc
      subst hA
      have hx := HI.out (k : Int) (by omega) (by omega)
      have HS := Aside0.mk (bestOf_succ F rs k (by rw [HR.out.1]; exact hlt))
      rw [HB.out] at HS
      obtain ⟨x, hxx⟩ : ∃ x, x = rd rs k := ⟨_, rfl⟩
      rw [← hxx] at hc HS hx
      have HX := Aside0.mk hx
      clear hxx hx
      have hlt' : (k : Int) < n := by omega
      cases h with
      | false =>
        rw [step_new] at HS
        go_wp2_with (go_at_call 24; refine (HF.out _ _ HX.out).mono ?_; rintro e w1 ⟨rfl, q1, rfl⟩)
        go_roundw
        case rel => exact ⟨k + 1, _, _, _, _, by omega, by go_num, rfl, rfl, rfl, HS, ⟨rfl⟩⟩
        case measure => simp [intOf]; omega
      | true =>
        by_cases e1 : F x > m
        · rw [step_more _ _ _ _ e1] at HS
          have e1' : decide (F x > m) = true := decide_eq_true e1
          go_wp2_with (go_at_call 24; refine (HF.out _ _ HX.out).mono ?_; rintro e w1 ⟨rfl, q1, rfl⟩)
          go_roundw
          case rel => exact ⟨k + 1, _, _, _, _, by omega, by go_num, rfl, rfl, rfl, HS, ⟨rfl⟩⟩
          case measure => simp [intOf]; omega
        · have e1' : decide (F x > m) = false := decide_eq_false e1
          by_cases e2 : F x = m
          · have e2' : (F x == m) = true := by simp [e2]
            by_cases e3 : x > b
            · rw [step_same _ _ _ _ e2 e3] at HS
              have e3' : decide (x > b) = true := decide_eq_true e3
              clear e2 e1
              go_wp2_with (go_at_call 24; refine (HF.out _ _ HX.out).mono ?_; rintro e w1 ⟨rfl, q1, rfl⟩)
              go_roundw
              case rel => exact ⟨k + 1, _, _, _, _, by omega, by go_num, rfl, rfl, rfl, HS, ⟨rfl⟩⟩
              case measure => simp [intOf]; omega
            · rw [step_less _ _ _ _ e1 (fun h => e3 h.2)] at HS
              have e3' : decide (x > b) = false := decide_eq_false e3
              clear e2 e1
              go_wp2_with (go_at_call 24; refine (HF.out _ _ HX.out).mono ?_; rintro e w1 ⟨rfl, q1, rfl⟩)
              go_roundw
              case rel => exact ⟨k + 1, _, _, _, _, by omega, by go_num, rfl, rfl, rfl, HS, ⟨rfl⟩⟩
              case measure => simp [intOf]; omega
          · rw [step_less _ _ _ _ e1 (fun h => e2 h.1)] at HS
            have e2' : (F x == m) = false := by simp [e2]
            clear e2 e1
            go_wp2_with (go_at_call 24; refine (HF.out _ _ HX.out).mono ?_; rintro e w1 ⟨rfl, q1, rfl⟩)
            go_roundw
            case rel => exact ⟨k + 1, _, _, _, _, by omega, by go_num, rfl, rfl, rfl, HS, ⟨rfl⟩⟩
            case measure => simp [intOf]; omega
    · have hE : Aside0 (bestOf F rs = (b, m, h)) := ⟨by rw [← HB.out, List.take_of_length_le (by have := HR.out.1; omega)]⟩
      have hge : ¬ (k : Int) < n := by omega
      go_wp2_with fail
      go_ret2
      exact ⟨by first | (rw [hE.out]; rfl; done) | simp [hE.out], _, rfl⟩

end Go.Proofs.Ytmdkkojchiiaeaa.Best
