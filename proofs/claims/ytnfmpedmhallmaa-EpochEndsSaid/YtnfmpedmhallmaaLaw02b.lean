/-
  The walks of the laws EpochEnds and EpochParts of package psephoslaw02: each law's call answers true, and writes nothing that was there; of arguments that are whole numbers of their kinds.
-/
import Derived.Test.YtnfmpedmhallmaaLaw02
import Derived.Deep.QuietTactic
import Derived.BigQuiet
namespace Go.Proofs.Ytnfmpedmhallmaa.Law02
open Go.RowKit Go.Proofs.YtnfmpedmhallmaaW.PrintWords Go.Proofs.Ytnfmpedmhallmaa.Own Go.Proofs.Ytnfmpedmhallmaa.Epoch
attribute [local go_sem] max2_is min2_is max_pair min_pair

theorem epochEnds_law (f m n : Int) (w : World) (hf : 0 ≤ f ∧ f ≤ 4294967295) (hm : 0 ≤ m ∧ m ≤ 4294967295) (hn : -128 ≤ n ∧ n ≤ 127) :
    Calls Try.prog 3 #[.int .u32 f, .int .u32 m, .int .i8 n] w fun e w' => e = .returned (.bool true) ∧ Below w.heap.size w w' := by
  have m1 : 0 ≤ m % 20000 ∧ m % 20000 < 20000 := by omega
  have h1 := fun w => ends_calls f (f + m % 20000) n w (by omega) (by omega)
  have h2 := fun w => ends_calls (f + m % 20000) f n w (by omega) (by omega)
  have ef : of f n = f / max 1 n := by unfold of; rw [show max 0 f = f by omega]
  have et : of (f + m % 20000) n = (f + m % 20000) / max 1 n := by unfold of; rw [show max 0 (f + m % 20000) = f + m % 20000 by omega]
  have q0 : 0 ≤ f / max 1 n := Int.ediv_nonneg hf.1 (by omega)
  have q1 : f / max 1 n ≤ f := Int.ediv_le_self _ hf.1
  have r0 : f / max 1 n ≤ (f + m % 20000) / max 1 n := Int.ediv_le_ediv (by omega) (by omega)
  have r1 : (f + m % 20000) / max 1 n ≤ f + m % 20000 := Int.ediv_le_self _ (by omega)
  have l1 := ends_length f (f + m % 20000) n
  have l2 := ends_length (f + m % 20000) f n
  rw [ef, et] at l1 l2
  obtain ⟨q, hq⟩ : ∃ q, f / max 1 n = q := ⟨_, rfl⟩
  obtain ⟨r, hr⟩ : ∃ r, (f + m % 20000) / max 1 n = r := ⟨_, rfl⟩
  rw [hq, hr] at l1 l2 r0
  rw [hq] at q0 q1
  rw [hr] at r1
  have e2 : ends (f + m % 20000) f n = [] := List.eq_nil_of_length_eq_zero (by rw [l2]; unfold many; omega)
  rw [e2] at h2
  obtain ⟨L, hL⟩ : ∃ L, ends f (f + m % 20000) n = L := ⟨_, rfl⟩
  have hLv : L = rng q (many q r) := by rw [← hL]; unfold ends; rw [ef, et, hq, hr]
  rw [hL] at h1 l1
  have hll : (L.length : Int) = min (r - q) 4096 := by rw [l1]; unfold many; omega
  have hat : ∀ k : Nat, k < L.length → rd L (k : Int) = q + (k : Int) := by
    intro k hk
    rw [hLv] at hk ⊢
    rw [rng_length] at hk
    exact rng_getD q _ k hk
  have HAT := Aside0.mk hat
  have HLL := Aside0.mk hll
  have H1 := Aside0.mk h1
  have H2 := Aside0.mk h2
  clear h1 h2 hat ef et l1 l2 e2 hLv hL hll
  go_enter Try.func3, Try.ntmps3
  go_wp2_with (first
    | (go_at_call 9; refine (awake_calls _).mono ?_; rintro e w1 ⟨rfl, hb⟩; have HB := Aside0.mk hb; clear hb)
    | (go_at_call 10; with_reducible refine (H1.out _).mono ?_; rintro e w2 ⟨v, rfl, ho, hb⟩; obtain ⟨A, c, hv, hR⟩ := own_reads ho; subst hv; have HR := Aside0.mk hR; have HB2 := Aside0.mk (below_then HB.out HB.out.size hb); clear hb ho hR))
  go_quiet (fail)
  have hne : ((L.length : Int) != min (r - q) 4096) = false := by rw [HLL.out]; simp
  have hlm : L.length ≤ 4096 := by have := HLL.out; omega
  have HLM := Aside0.mk hlm
  have hll : (L.length : Int) ≤ 4096 := by omega
  have HR' : Aside0 (ReadsInt (w2.drewN nq) .i64 A L.length L) := ⟨HR.out⟩
  have HB3 : Aside0 (Below w.heap.size w (w2.drewN nq)) := ⟨pw_below_drewN HB2.out nq⟩
  clear hlm HR HB2
  go_wp2_with fail
  go_loop [46] (fun x => ∃ k : Nat, k ≤ L.length ∧ x = .int .i64 (k : Int)) (fun x => L.length - (intOf x).toNat)
  case atStart => exact ⟨0, Nat.zero_le _, rfl⟩
  case round =>
    obtain ⟨k, hk, rfl⟩ := hrel
    by_cases hlt : k < L.length
    · obtain ⟨ad, hA, hc⟩ := HR'.out.at_ (k : Int) (by omega) (by omega)
      rw [HAT.out k hlt, Int.toNat_natCast] at hc
      subst hA
      go_wp2_with fail
      go_round
      case rel => exact ⟨k + 1, by omega, by go_num⟩
      case measure => simp [intOf]; omega
    · go_wp2_with (go_at_call 10; with_reducible refine (H2.out _).mono ?_; rintro e w3 ⟨v, rfl, ho, hb⟩; obtain ⟨A2, c2, hv, hR⟩ := own_reads ho; subst hv; have HB4 := Aside0.mk (below_then HB3.out HB3.out.size hb); clear hb ho hR)
      go_ret
      exact ⟨by simp, HB4.out⟩

theorem rng_append (a : Int) (c d : Nat) : rng a c ++ rng (a + (c : Int)) d = rng a (c + d) := by
  induction d with
  | zero => simp [rng]
  | succ d ih => rw [rng_succ, ← List.append_assoc, ih, ← Nat.add_assoc, rng_succ]; congr 2; omega

theorem parts_is (x y z n : Int) (h0 : 0 ≤ x) (hxy : x ≤ y) (hyz : y ≤ z) (hz : z - x ≤ 4096) (hn : 1 ≤ n) : ends x y n ++ ends y z n = ends x z n := by
  have e : ∀ s, 0 ≤ s → of s n = s / n := fun s hs => by unfold of; rw [show max 0 s = s by omega, show max 1 n = n by omega]
  have h1 : x / n ≤ y / n := Int.ediv_le_ediv (by omega) hxy
  have h2 : y / n ≤ z / n := Int.ediv_le_ediv (by omega) hyz
  have h3 : z / n - x / n ≤ 4096 := by
    have q : z / n ≤ (x + (z - x) * n) / n := Int.ediv_le_ediv (by omega) (by
      have : z - x ≤ (z - x) * n := by
        have := Int.mul_le_mul_of_nonneg_left hn (show 0 ≤ z - x by omega)
        omega
      omega)
    rw [Int.add_mul_ediv_right _ _ (by omega)] at q
    omega
  unfold ends
  rw [e x h0, e y (by omega), e z (by omega)]
  have m1 : many (x / n) (y / n) = (y / n - x / n).toNat := by unfold many; omega
  have m2 : many (y / n) (z / n) = (z / n - y / n).toNat := by unfold many; omega
  have m3 : many (x / n) (z / n) = (y / n - x / n).toNat + (z / n - y / n).toNat := by unfold many; omega
  rw [m1, m2, m3, ← rng_append, show x / n + ((y / n - x / n).toNat : Int) = y / n by omega]

theorem epochParts_law (a b c d : Int) (w : World) (ha : 0 ≤ a ∧ a ≤ 65535) (hb : 0 ≤ b ∧ b ≤ 65535) (hc : 0 ≤ c ∧ c ≤ 65535) (hd : 0 ≤ d ∧ d ≤ 255) :
    Calls Try.prog 4 #[.int .u16 a, .int .u16 b, .int .u16 c, .int .u8 d] w fun e w' => e = .returned (.bool true) ∧ Below w.heap.size w w' := by
  have a1 : 0 ≤ a % 2000 ∧ a % 2000 < 2000 := by omega
  have b1 : 0 ≤ b % 2000 ∧ b % 2000 < 2000 := by omega
  have c1 : 0 ≤ c % 2000 ∧ c % 2000 < 2000 := by omega
  have h1 := fun w => ends_calls (a % 2000) (a % 2000 + b % 2000) (1 + d % 64) w (by omega) (by omega)
  have h2 := fun w => ends_calls (a % 2000 + b % 2000) (a % 2000 + b % 2000 + c % 2000) (1 + d % 64) w (by omega) (by omega)
  have h3 := fun w => ends_calls (a % 2000) (a % 2000 + b % 2000 + c % 2000) (1 + d % 64) w (by omega) (by omega)
  have key := parts_is (a % 2000) (a % 2000 + b % 2000) (a % 2000 + b % 2000 + c % 2000) (1 + d % 64) (by omega) (by omega) (by omega) (by omega) (by omega)
  have l1 : (ends (a % 2000) (a % 2000 + b % 2000) (1 + d % 64)).length ≤ 4096 := by rw [ends_length]; exact many_le _ _
  have l2 : (ends (a % 2000 + b % 2000) (a % 2000 + b % 2000 + c % 2000) (1 + d % 64)).length ≤ 4096 := by rw [ends_length]; exact many_le _ _
  rw [← key] at h3
  obtain ⟨L, hL⟩ : ∃ L, L = ends (a % 2000) (a % 2000 + b % 2000) (1 + d % 64) := ⟨_, rfl⟩
  obtain ⟨M, hM⟩ : ∃ M, M = ends (a % 2000 + b % 2000) (a % 2000 + b % 2000 + c % 2000) (1 + d % 64) := ⟨_, rfl⟩
  rw [← hL] at h1 h3 l1
  rw [← hM] at h2 h3 l2
  have H1 := Aside0.mk h1
  have H2 := Aside0.mk h2
  have H3 := Aside0.mk h3
  have HL := Aside0.mk l1
  have HM := Aside0.mk l2
  obtain ⟨N, hN⟩ : ∃ N, N = L ++ M := ⟨_, rfl⟩
  have hNl : N.length ≤ 8192 := by rw [hN, List.length_append]; omega
  have HN := Aside0.mk hN.symm
  have HNl := Aside0.mk hNl
  clear h1 h2 h3 key hL hM l1 l2 hN hNl
  go_enter Try.func4, Try.ntmps4
  go_wp2_with (go_at_call 9; refine (awake_calls _).mono ?_; rintro e w1 ⟨rfl, hb⟩; have HB := Aside0.mk hb; clear hb)
  refine (H1.out _).mono ?_
  rintro e w2 ⟨v1, rfl, ho1, hb1⟩
  have HB1 := Aside0.mk hb1
  have HO1 := Aside0.mk ho1
  obtain ⟨A1, n1, hv1⟩ := own_slice ho1
  subst hv1
  clear ho1 hb1
  go_wp2_with fail
  refine (H2.out _).mono ?_
  rintro e w3 ⟨v2, rfl, ho2, hb2⟩
  have HO1' := Aside0.mk (pw_own_below HO1.out hb2)
  have HB2 := Aside0.mk (below_then HB1.out HB1.out.size hb2)
  obtain ⟨A2, n2, hv2, hR2⟩ := own_reads ho2
  subst hv2
  have HR2 := Aside0.mk hR2
  clear ho2 hb2 hR2 HO1 HB1
  go_wp2_with (at_builtin; refine print_append_row (w0 := w1) w1.heap.size rfl (.tmp 46) (.tmp 50) 25 3 .i64 8 rfl Try.underlying25 info_int (by omega) _ L M _ _ _ rfl rfl HO1'.out HR2.out HB2.out HB2.out.size (by have := HL.out; have := HM.out; omega) ?_; intro v3 w4 hown HB3 hg hat; rw [HN.out] at hown; have HB3' := Aside0.mk (below_then HB.out HB.out.size HB3); obtain ⟨A3, n3, hv3, hR3⟩ := own_reads hown; subst hv3; have HR3 := Aside0.mk hR3; clear hown HB3 hg hat hR3)
  refine (H3.out _).mono ?_
  rintro e w5 ⟨v4, rfl, ho4, hb4⟩
  rw [HN.out] at ho4
  have HR3' := Aside0.mk (HR3.out.below hb4)
  have HB4 := Aside0.mk (below_then HB3'.out HB3'.out.size hb4)
  obtain ⟨A4, n4, hv4, hR4⟩ := own_reads ho4
  subst hv4
  have HR4 := Aside0.mk hR4
  have hNl := HNl.out
  clear ho4 hb4 hR4 HR3 HB3' HO1' HR2 HB2 HB
  go_wp2_with fail
  go_loopw [70] (fun x wr => ∃ (k q : Nat), k ≤ N.length ∧ x = .int .i64 (k : Int) ∧ Aside0 (wr = w5.drewN q)) (fun x _ => N.length - (intOf x).toNat)
  case atStart => exact ⟨0, 0, Nat.zero_le _, rfl, ⟨rfl⟩⟩
  case round =>
    obtain ⟨k, q, hk, rfl, HW⟩ := hrel
    obtain rfl := HW.out
    by_cases hlt : k < N.length
    · have hr3 := HR3'.out
      have hr4 := HR4.out
      obtain ⟨ad, hA, hc⟩ := hr3.at_ (k : Int) (by omega) (by omega)
      obtain ⟨ad', hA', hc'⟩ := hr4.at_ (k : Int) (by omega) (by omega)
      rw [Int.toNat_natCast] at hc hc'
      subst hA
      subst hA'
      clear hr3 hr4
      go_wp2_with fail
      go_quiet (fail)
      go_wp2_with fail
      go_roundw
      case rel => exact ⟨k + 1, q + nq, by omega, by go_num, ⟨rfl⟩⟩
      case measure => simp [intOf]; omega
    · go_wp2_with fail
      go_ret
      exact ⟨rfl, pw_below_drewN HB4.out _⟩
end Go.Proofs.Ytnfmpedmhallmaa.Law02
