/-
  Law TreeBelow of package psephoslaw09: to stand on a block is an order.
-/
import Derived.Test.YtgbhblbfodphfaaAwake9
import Derived.Test.YtgbhblbfodphfaaActs
namespace Go.Proofs.Ytgbhblbfodphfaa.Tree
open Go.RowKit Go.Maps Go.Proofs.YtgbhblbfodphfaaW.PrintWords Go.Proofs.Ytgbhblbfodphfaa.Open
set_option linter.unusedVariables false

theorem u64_in (n : Int) (h0 : 0 ≤ n) (h1 : n ≤ 18446744073709551615) : IntKind.u64.wrap n = n := by
  simp only [IntKind.wrap, IntKind.bits, IntKind.signed]
  simp
  omega
/-- A tree laid by deeds. -/
def deed (t : T) (a : Int × Int × Int × Int) : T := addOf t (a.2.1 % 24) (a.2.2.1 % 24) (a.2.2.2 % 40)
def laid (f : Nat → Int × Int × Int × Int) : Nat → T
  | 0 => ⟨1, [⟨1, 1, 2, 0⟩]⟩
  | k + 1 => deed (laid f k) (f k)
theorem laid_succ (f : Nat → Int × Int × Int × Int) (k : Nat) : laid f (k + 1) = addOf (laid f k) ((f k).2.1 % 24) ((f k).2.2.1 % 24) ((f k).2.2.2 % 40) := rfl
/-- A tree of deeds: fit, its slots below 40, its roots below 24. -/
structure Deeds (t : T) : Prop where
  fit : Fit t
  slot : ∀ r, has t.ns r = true → (getD t.ns r).s ≤ 39
  len : t.ns.length ≤ 1024
  root : ∀ r, has t.ns r = true → r < 24
theorem Deeds.high {t : T} (h : Deeds t) : ∀ x, has t.ns x = true → 0 ≤ (getD t.ns x).h ∧ (getD t.ns x).h < 1024 :=
  h.fit.limit (fun r hr => by have := h.slot r hr; omega)
theorem add_roots {t : T} (r p s : Int) (b : Int) (hs : ∀ q, has t.ns q = true → q < b) (hb : r < b) : ∀ q, has (addOf t r p s).ns q = true → q < b := by
  unfold addOf
  by_cases h : addErr t r p s = none
  · rw [if_pos h]
    obtain ⟨h1, h2, h3, h4⟩ := addErr_none h
    have hno : has t.ns (Nd.r ⟨r, p, s, (getD t.ns p).h + 1⟩) = false := h1
    intro q hq
    replace hq : has (t.ns ++ [⟨r, p, s, (getD t.ns p).h + 1⟩]) q = true := hq
    rw [has_new hno] at hq
    by_cases e : q = r
    · omega
    · exact hs q (by simpa [e] using hq)
  · rw [if_neg h]
    exact hs
theorem Deeds.add {t : T} (h : Deeds t) (r p s : Int) (hr : 0 ≤ r ∧ r < 24) (hs : s ≤ 39) : Deeds (addOf t r p s) :=
  ⟨h.fit.add r p s (by omega), add_slots r p s 39 h.slot hs, by have h1 := add_length t r p s; have h2 := h.len; omega, add_roots r p s 24 h.root hr.2⟩
theorem Deeds.one : Deeds ⟨1, [⟨1, 1, 2, 0⟩]⟩ := by
  refine ⟨Fit.one 1 2 (by omega) (by omega), fun r hr => ?_, by simp, fun r hr => ?_⟩
  · rw [has_mem] at hr
    simp at hr
    subst hr
    decide
  · rw [has_mem] at hr
    simp at hr
    omega
theorem Deeds.deed {t : T} (h : Deeds t) (a : Int × Int × Int × Int) : Deeds (deed t a) := h.add _ _ _ (by omega) (by omega)
theorem laid_deeds (f : Nat → Int × Int × Int × Int) : ∀ k, Deeds (laid f k)
  | 0 => Deeds.one
  | k + 1 => (laid_deeds f k).deed (f k)
/-- An octet's rest, as the walk meets it. -/
theorem rest8 {a m : Int} (h : 0 ≤ a ∧ a ≤ 255) (hm : 0 < m) (hm2 : m ≤ 255) : IntKind.u64.wrap (a.tmod m) = a % m ∧ wrap64 (a.tmod m) = a % m ∧ 0 ≤ a % m ∧ a % m < m := by
  have h1 := Int.emod_nonneg a (show m ≠ 0 by omega)
  have h2 := Int.emod_lt_of_pos a hm
  rw [Int.tmod_eq_emod_of_nonneg h.1, u64_in _ h1 (by omega)]
  refine ⟨rfl, ?_, h1, h2⟩
  unfold wrap64
  omega

set_option maxHeartbeats 16000000 in
set_option maxRecDepth 100000 in
theorem treeBelow_law (A : Option Addr) (n c : Nat) (f : Nat → Int × Int × Int × Int) (a1 a2 a3 : Int) (w : World) (ga : ActsArg w A n c f) (h1 : 0 ≤ a1 ∧ a1 ≤ 255) (h2 : 0 ≤ a2 ∧ a2 ≤ 255) (h3 : 0 ≤ a3 ∧ a3 ≤ 255) :
    Calls Try.prog 3 #[.slice A n c, .int .u8 a1, .int .u8 a2, .int .u8 a3] w fun e w' => e = .returned (.bool true) ∧ Below w.heap.size w w' := by
  have GA := Aside0.mk ga
  obtain ⟨x, hx⟩ : ∃ x, a1 % 24 = x := ⟨_, rfl⟩
  obtain ⟨y, hy⟩ : ∃ x, a2 % 24 = x := ⟨_, rfl⟩
  obtain ⟨z, hz⟩ : ∃ x, a3 % 24 = x := ⟨_, rfl⟩
  have RX := rest8 (m := 24) h1 (by omega) (by omega)
  have RY := rest8 (m := 24) h2 (by omega) (by omega)
  have RZ := rest8 (m := 24) h3 (by omega) (by omega)
  rw [hx] at RX
  rw [hy] at RY
  rw [hz] at RZ
  have hwx := RX.1
  have hwy := RY.1
  have hwz := RZ.1
  have BX : Aside0 (0 ≤ x ∧ x ≤ 18446744073709551615) := ⟨by omega⟩
  have BY : Aside0 (0 ≤ y ∧ y ≤ 18446744073709551615) := ⟨by omega⟩
  have BZ : Aside0 (0 ≤ z ∧ z ≤ 18446744073709551615) := ⟨by omega⟩
  have hnb : n ≤ 9223372036854775807 := by have := ga.le; have := ga.cap; omega
  have HNB := Aside0.mk hnb
  clear ga h1 h2 h3 RX RY RZ hx hy hz hnb
  go_enter Try.func3, Try.ntmps3
  go_wp2_with fail
  go_at_call 6
  refine (awake_calls w).mono ?_
  rintro e w0 ⟨rfl, hb⟩
  have HB0 := Aside0.mk hb
  clear hb
  go_wp2_with fail
  go_at_call 7
  refine (of_calls 1 2 w0 (by omega)).mono ?_
  rintro e w1 ⟨p, B, rfl, hm, hb, hp, hB⟩
  have HL : Aside0 (Mem w1 p B (laid f 0) ∧ Below w.heap.size w w1) := ⟨hm, HB0.out.trans (hb.mono HB0.out.size)⟩
  have HP : Aside0 (w.heap.size ≤ p ∧ w.heap.size ≤ B) := ⟨by have := HB0.out.size; omega⟩
  clear hm hb hp hB HB0
  go_wp2_with fail
  go_loopw [20] (fun v20 wr => ∃ k : Nat, k ≤ n ∧ v20 = .int .i64 k ∧ Aside0 (Mem wr p B (laid f k) ∧ Below w.heap.size w wr)) (fun v20 _ => n - (RowKit.intOf v20).toNat)
  case atStart => exact ⟨0, by omega, rfl, HL⟩
  case round =>
    obtain ⟨k, hk, rfl, HL⟩ := hrel
    by_cases hlt : k < n
    · have t0 : decide ((k : Int) < (n : Int)) = true := decide_eq_true (by omega)
      have hwk : wrap64 ((k : Int) + 1) = ((k + 1 : Nat) : Int) := by have := HNB.out; unfold wrap64; omega
      have HWK := Aside0.mk hwk
      obtain ⟨ad, hA, hd⟩ := (GA.out.below HL.out.2).at_ k hlt
      subst hA
      have c0 := hd.c0
      have c1 := hd.c1
      have c2 := hd.c2
      have c3 := hd.c3
      have HD := Aside0.mk hd
      have hq1 := (rest8 (m := 24) hd.b1 (by omega) (by omega)).1
      have hq2 := (rest8 (m := 24) hd.b2 (by omega) (by omega)).1
      have hq3 := (rest8 (m := 40) hd.b3 (by omega) (by omega)).2.1
      have HQ1 : Aside0 (0 ≤ (f k).2.1 % 24 ∧ (f k).2.1 % 24 ≤ 18446744073709551615) := ⟨by omega⟩
      have HQ2 : Aside0 (0 ≤ (f k).2.2.1 % 24 ∧ (f k).2.2.1 % 24 ≤ 18446744073709551615) := ⟨by omega⟩
      clear hwk hd
      have HH := Aside0.mk (laid_deeds f k).high
      go_wp2_with (go_at_call 8; with_reducible refine (add_calls p B (laid f k) ((f k).2.1 % 24) ((f k).2.2.1 % 24) ((f k).2.2.2 % 40) _ (HL.out.1.below (below_alloc (Below.refl _ _) _)) HQ1.out HQ2.out HH.out).mono ?_; rintro e w2 ⟨rfl, hm, hb, _⟩; have HL2 : Aside0 (Mem w2 p B (laid f (k + 1)) ∧ Below w.heap.size w w2) := ⟨by rw [laid_succ]; exact hm, (below_alloc HL.out.2 _).trans (hb w.heap.size HP.out.2 (below_alloc HL.out.2 _).size)⟩; clear hm hb)
      go_roundw
      case rel => exact ⟨k + 1, by omega, by rw [HWK.out], HL2⟩
      case measure => rw [HWK.out]; simp [RowKit.intOf]; omega
    · have t0 : decide ((k : Int) < (n : Int)) = false := decide_eq_false (by omega)
      obtain rfl : k = n := by omega
      have F := Aside0.mk (laid_deeds f k).fit
      obtain ⟨t, ht⟩ : ∃ t, laid f k = t := ⟨_, rfl⟩
      rw [ht] at HL F
      clear ht
      obtain ⟨o1, o2, o3⟩ := F.out.order x y z
      obtain ⟨hx, hhx⟩ : ∃ b, has t.ns x = b := ⟨_, rfl⟩
      rw [hhx] at o1
      have HXX := Aside0.mk o1
      have HXH := Aside0.mk hhx
      have hne : (hx != hx) = false := by simp
      clear o1 hhx
      by_cases bxy : below t x y = true
      · have HXY := Aside0.mk bxy
        have HDO : Aside0 (below t y z = true → below t x z = true) := ⟨o3 bxy⟩
        by_cases byx : below t y x = true
        · have e : x = y := Decidable.byContradiction fun h => o2 ⟨bxy, byx, h⟩
          have HYX := Aside0.mk byx
          have hxy : (x != y) = false := by simp [e]
          clear o2 o3 bxy byx e
          by_cases byz : below t y z = true
          · have HYZ := Aside0.mk byz
            have HXZ := Aside0.mk (HDO.out byz)
            clear byz
            go_wp2_with (first
              | (go_at_call 9; with_reducible refine (below_calls p B t x x _ HL.out.1 F.out.well BX.out BX.out).mono ?_; rw [HXX.out]; rintro e w2 ⟨rfl, hb⟩; replace HL : Aside0 (Mem w2 p B t ∧ Below w.heap.size w w2) := ⟨HL.out.1.below hb, HL.out.2.trans (hb.mono HL.out.2.size)⟩; clear hb)
              | (go_at_call 10; with_reducible refine (has_calls p B t x _ HL.out.1 BX.out).mono ?_; rw [HXH.out]; rintro e w2 ⟨rfl, hb⟩; replace HL : Aside0 (Mem w2 p B t ∧ Below w.heap.size w w2) := ⟨HL.out.1.below hb, HL.out.2.trans (hb.mono HL.out.2.size)⟩; clear hb)
              | (go_at_call 9; with_reducible refine (below_calls p B t x y _ HL.out.1 F.out.well BX.out BY.out).mono ?_; rw [HXY.out]; rintro e w2 ⟨rfl, hb⟩; replace HL : Aside0 (Mem w2 p B t ∧ Below w.heap.size w w2) := ⟨HL.out.1.below hb, HL.out.2.trans (hb.mono HL.out.2.size)⟩; clear hb)
              | (go_at_call 9; with_reducible refine (below_calls p B t y x _ HL.out.1 F.out.well BY.out BX.out).mono ?_; rw [HYX.out]; rintro e w2 ⟨rfl, hb⟩; replace HL : Aside0 (Mem w2 p B t ∧ Below w.heap.size w w2) := ⟨HL.out.1.below hb, HL.out.2.trans (hb.mono HL.out.2.size)⟩; clear hb)
              | (go_at_call 9; with_reducible refine (below_calls p B t y z _ HL.out.1 F.out.well BY.out BZ.out).mono ?_; rw [HYZ.out]; rintro e w2 ⟨rfl, hb⟩; replace HL : Aside0 (Mem w2 p B t ∧ Below w.heap.size w w2) := ⟨HL.out.1.below hb, HL.out.2.trans (hb.mono HL.out.2.size)⟩; clear hb)
              | (go_at_call 9; with_reducible refine (below_calls p B t x z _ HL.out.1 F.out.well BX.out BZ.out).mono ?_; rw [HXZ.out]; rintro e w2 ⟨rfl, hb⟩; replace HL : Aside0 (Mem w2 p B t ∧ Below w.heap.size w w2) := ⟨HL.out.1.below hb, HL.out.2.trans (hb.mono HL.out.2.size)⟩; clear hb))
            go_ret
            exact ⟨rfl, HL.out.2⟩
          · have HYZ : Aside0 (below t y z = false) := ⟨by simpa using byz⟩
            clear byz
            go_wp2_with (first
              | (go_at_call 9; with_reducible refine (below_calls p B t x x _ HL.out.1 F.out.well BX.out BX.out).mono ?_; rw [HXX.out]; rintro e w2 ⟨rfl, hb⟩; replace HL : Aside0 (Mem w2 p B t ∧ Below w.heap.size w w2) := ⟨HL.out.1.below hb, HL.out.2.trans (hb.mono HL.out.2.size)⟩; clear hb)
              | (go_at_call 10; with_reducible refine (has_calls p B t x _ HL.out.1 BX.out).mono ?_; rw [HXH.out]; rintro e w2 ⟨rfl, hb⟩; replace HL : Aside0 (Mem w2 p B t ∧ Below w.heap.size w w2) := ⟨HL.out.1.below hb, HL.out.2.trans (hb.mono HL.out.2.size)⟩; clear hb)
              | (go_at_call 9; with_reducible refine (below_calls p B t x y _ HL.out.1 F.out.well BX.out BY.out).mono ?_; rw [HXY.out]; rintro e w2 ⟨rfl, hb⟩; replace HL : Aside0 (Mem w2 p B t ∧ Below w.heap.size w w2) := ⟨HL.out.1.below hb, HL.out.2.trans (hb.mono HL.out.2.size)⟩; clear hb)
              | (go_at_call 9; with_reducible refine (below_calls p B t y x _ HL.out.1 F.out.well BY.out BX.out).mono ?_; rw [HYX.out]; rintro e w2 ⟨rfl, hb⟩; replace HL : Aside0 (Mem w2 p B t ∧ Below w.heap.size w w2) := ⟨HL.out.1.below hb, HL.out.2.trans (hb.mono HL.out.2.size)⟩; clear hb)
              | (go_at_call 9; with_reducible refine (below_calls p B t y z _ HL.out.1 F.out.well BY.out BZ.out).mono ?_; rw [HYZ.out]; rintro e w2 ⟨rfl, hb⟩; replace HL : Aside0 (Mem w2 p B t ∧ Below w.heap.size w w2) := ⟨HL.out.1.below hb, HL.out.2.trans (hb.mono HL.out.2.size)⟩; clear hb))
            go_ret
            exact ⟨rfl, HL.out.2⟩
        · have HYX : Aside0 (below t y x = false) := ⟨by simpa using byx⟩
          clear o2 o3 bxy byx
          by_cases byz : below t y z = true
          · have HYZ := Aside0.mk byz
            have HXZ := Aside0.mk (HDO.out byz)
            clear byz
            go_wp2_with (first
              | (go_at_call 9; with_reducible refine (below_calls p B t x x _ HL.out.1 F.out.well BX.out BX.out).mono ?_; rw [HXX.out]; rintro e w2 ⟨rfl, hb⟩; replace HL : Aside0 (Mem w2 p B t ∧ Below w.heap.size w w2) := ⟨HL.out.1.below hb, HL.out.2.trans (hb.mono HL.out.2.size)⟩; clear hb)
              | (go_at_call 10; with_reducible refine (has_calls p B t x _ HL.out.1 BX.out).mono ?_; rw [HXH.out]; rintro e w2 ⟨rfl, hb⟩; replace HL : Aside0 (Mem w2 p B t ∧ Below w.heap.size w w2) := ⟨HL.out.1.below hb, HL.out.2.trans (hb.mono HL.out.2.size)⟩; clear hb)
              | (go_at_call 9; with_reducible refine (below_calls p B t x y _ HL.out.1 F.out.well BX.out BY.out).mono ?_; rw [HXY.out]; rintro e w2 ⟨rfl, hb⟩; replace HL : Aside0 (Mem w2 p B t ∧ Below w.heap.size w w2) := ⟨HL.out.1.below hb, HL.out.2.trans (hb.mono HL.out.2.size)⟩; clear hb)
              | (go_at_call 9; with_reducible refine (below_calls p B t y x _ HL.out.1 F.out.well BY.out BX.out).mono ?_; rw [HYX.out]; rintro e w2 ⟨rfl, hb⟩; replace HL : Aside0 (Mem w2 p B t ∧ Below w.heap.size w w2) := ⟨HL.out.1.below hb, HL.out.2.trans (hb.mono HL.out.2.size)⟩; clear hb)
              | (go_at_call 9; with_reducible refine (below_calls p B t y z _ HL.out.1 F.out.well BY.out BZ.out).mono ?_; rw [HYZ.out]; rintro e w2 ⟨rfl, hb⟩; replace HL : Aside0 (Mem w2 p B t ∧ Below w.heap.size w w2) := ⟨HL.out.1.below hb, HL.out.2.trans (hb.mono HL.out.2.size)⟩; clear hb)
              | (go_at_call 9; with_reducible refine (below_calls p B t x z _ HL.out.1 F.out.well BX.out BZ.out).mono ?_; rw [HXZ.out]; rintro e w2 ⟨rfl, hb⟩; replace HL : Aside0 (Mem w2 p B t ∧ Below w.heap.size w w2) := ⟨HL.out.1.below hb, HL.out.2.trans (hb.mono HL.out.2.size)⟩; clear hb))
            go_ret
            exact ⟨rfl, HL.out.2⟩
          · have HYZ : Aside0 (below t y z = false) := ⟨by simpa using byz⟩
            clear byz
            go_wp2_with (first
              | (go_at_call 9; with_reducible refine (below_calls p B t x x _ HL.out.1 F.out.well BX.out BX.out).mono ?_; rw [HXX.out]; rintro e w2 ⟨rfl, hb⟩; replace HL : Aside0 (Mem w2 p B t ∧ Below w.heap.size w w2) := ⟨HL.out.1.below hb, HL.out.2.trans (hb.mono HL.out.2.size)⟩; clear hb)
              | (go_at_call 10; with_reducible refine (has_calls p B t x _ HL.out.1 BX.out).mono ?_; rw [HXH.out]; rintro e w2 ⟨rfl, hb⟩; replace HL : Aside0 (Mem w2 p B t ∧ Below w.heap.size w w2) := ⟨HL.out.1.below hb, HL.out.2.trans (hb.mono HL.out.2.size)⟩; clear hb)
              | (go_at_call 9; with_reducible refine (below_calls p B t x y _ HL.out.1 F.out.well BX.out BY.out).mono ?_; rw [HXY.out]; rintro e w2 ⟨rfl, hb⟩; replace HL : Aside0 (Mem w2 p B t ∧ Below w.heap.size w w2) := ⟨HL.out.1.below hb, HL.out.2.trans (hb.mono HL.out.2.size)⟩; clear hb)
              | (go_at_call 9; with_reducible refine (below_calls p B t y x _ HL.out.1 F.out.well BY.out BX.out).mono ?_; rw [HYX.out]; rintro e w2 ⟨rfl, hb⟩; replace HL : Aside0 (Mem w2 p B t ∧ Below w.heap.size w w2) := ⟨HL.out.1.below hb, HL.out.2.trans (hb.mono HL.out.2.size)⟩; clear hb)
              | (go_at_call 9; with_reducible refine (below_calls p B t y z _ HL.out.1 F.out.well BY.out BZ.out).mono ?_; rw [HYZ.out]; rintro e w2 ⟨rfl, hb⟩; replace HL : Aside0 (Mem w2 p B t ∧ Below w.heap.size w w2) := ⟨HL.out.1.below hb, HL.out.2.trans (hb.mono HL.out.2.size)⟩; clear hb))
            go_ret
            exact ⟨rfl, HL.out.2⟩
      · have HXY : Aside0 (below t x y = false) := ⟨by simpa using bxy⟩
        clear o2 o3 bxy
        go_wp2_with (first
          | (go_at_call 9; with_reducible refine (below_calls p B t x x _ HL.out.1 F.out.well BX.out BX.out).mono ?_; rw [HXX.out]; rintro e w2 ⟨rfl, hb⟩; replace HL : Aside0 (Mem w2 p B t ∧ Below w.heap.size w w2) := ⟨HL.out.1.below hb, HL.out.2.trans (hb.mono HL.out.2.size)⟩; clear hb)
          | (go_at_call 10; with_reducible refine (has_calls p B t x _ HL.out.1 BX.out).mono ?_; rw [HXH.out]; rintro e w2 ⟨rfl, hb⟩; replace HL : Aside0 (Mem w2 p B t ∧ Below w.heap.size w w2) := ⟨HL.out.1.below hb, HL.out.2.trans (hb.mono HL.out.2.size)⟩; clear hb)
          | (go_at_call 9; with_reducible refine (below_calls p B t x y _ HL.out.1 F.out.well BX.out BY.out).mono ?_; rw [HXY.out]; rintro e w2 ⟨rfl, hb⟩; replace HL : Aside0 (Mem w2 p B t ∧ Below w.heap.size w w2) := ⟨HL.out.1.below hb, HL.out.2.trans (hb.mono HL.out.2.size)⟩; clear hb))
        go_ret
        exact ⟨rfl, HL.out.2⟩
end Go.Proofs.Ytgbhblbfodphfaa.Tree
