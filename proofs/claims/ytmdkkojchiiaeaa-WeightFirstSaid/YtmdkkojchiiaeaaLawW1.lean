/-
  The walk of the law WeightFirst of package psephoslaw12: its call answers true, and writes nothing that was there; of arguments of their kinds.
-/
import Derived.Test.YtmdkkojchiiaeaaLawW
import Derived.Test.YtmdkkojchiiaeaaOpenStruct
import Derived.Test.YtmdkkojchiiaeaaQWx2
import Derived.Test.YtmdkkojchiiaeaaQWx9
import Derived.Test.YtmdkkojchiiaeaaQWx10
import Derived.Test.YtmdkkojchiiaeaaQWx11
namespace Go.Proofs.Ytmdkkojchiiaeaa.QW
open Go.RowKit Go.Maps Go.ChangeMaps Go.Proofs.YtmdkkojchiiaeaaW.PrintWords Go.Proofs.Ytmdkkojchiiaeaa.Tree Go.Proofs.Ytmdkkojchiiaeaa.Own
set_option linter.unusedVariables false

set_option maxHeartbeats 8000000 in
set_option maxRecDepth 100000 in
theorem weightFirst_law (A0 : Option Addr) (n0 c0 : Nat) (z0 : List Int) (sl bo : Int) (A1 : Option Addr) (n1 c1 : Nat) (z1 : List Int) (A2 : Option Addr) (n2 c2 : Nat) (z2 : List Int) (w : World)
    (h0 : Kd.C (Kd.int .u64) w A0 n0 z0) (hc0 : n0 ≤ c0) (hn0 : n0 ≤ 17592186043904) (hs : -9223372036854775808 ≤ sl ∧ sl ≤ 9223372036854775807) (hb : -9223372036854775808 ≤ bo ∧ bo ≤ 9223372036854775807) (hp : ∀ z ∈ z0, 0 ≤ z)
    (h1 : ReadsInt w .u8 A1 n1 z1) (hz1 : ∀ z ∈ z1, 0 ≤ z ∧ z ≤ 255) (h2 : ReadsInt w .u8 A2 n2 z2) (hz2 : ∀ z ∈ z2, 0 ≤ z ∧ z ≤ 255) :
    Calls Try.prog 6 #[.agg #[.slice A0 n0 c0, .int .i64 sl, .int .i64 bo], .slice A1 n1 c1, .slice A2 n2 c2] w fun x w' => x = .returned (.bool true) ∧ Below w.heap.size w w' := by
  have hl0 : z0.length = n0 := h0.1
  subst hl0
  have hn2 := h2.2.1
  obtain ⟨kr, hkr⟩ := (make3_f z0 sl bo hn0 hb.1 hb.2).rounds
  have HKR := Aside0.mk hkr
  have H0 := Aside0.mk h0
  have H1 := Aside0.mk h1
  have H2 := Aside0.mk h2
  have HZ1 := Aside0.mk hz1
  have HZ2 := Aside0.mk hz2
  have HP := Aside0.mk (mkBal_mem z0 hp)
  have HLN := Aside0.mk (mkBal_len z0)
  have HSL := Aside0.mk (mkSlots_in sl)
  clear hkr h0 h1 h2 hz1 hz2 hp hs hb
  go_enter Try.func6, Try.ntmps6
  go_wp2_with (first
    | (go_at_call 9; refine (Law12.awake_calls _).mono ?_; rintro x w1 ⟨rfl, hb⟩; have HB1 := Aside0.mk (below_then (below_alloc (Below.refl w.heap.size w) _) (by simp) hb); have HBK := Aside0.mk (blk_below (heap_alloc_new w _) hb); have hcg := blk_cell HBK.out; clear hb)
    | (go_at_call 12; refine (psephoslaw03_Make.calls kr A0 c0 z0 sl bo _ _ _ _ (Kd.C_below H0.out HB1.out) hc0 HKR.out).mono ?_; rintro x w2 ⟨v0, rfl, hR, hb⟩; have HB2 := Aside0.mk (below_then HB1.out HB1.out.size hb); obtain ⟨AX, cX, rfl, hcx, hC⟩ := Kd.R_reads hR; have HX := Aside0.mk hC; have HCX := Aside0.mk hcx; clear hb hR hC hcx)
    | (go_at_call 13; refine (made_calls A1 n1 c1 z1 _ (H1.out.below (below_alloc HB2.out _)) HZ1.out).mono ?_; rintro x w3 ⟨p, B, v, t, m, rfl, hM, R, hR, hb, _, _⟩; obtain ⟨AM, cM, rfl, hcM, hC⟩ := Kd.R_reads hR; have HB3 := Aside0.mk (below_then (below_alloc HB2.out _) (by simp; have := HB2.out.size; omega) hb); have LD := Aside0.mk (show Laid w3 w2.heap.size AX cX (mkBal z0) (mkSlots sl) (mkBoost bo) p B t AM cM m from ⟨blk_below (heap_alloc_new w2 _) hb, Kd.C_below HX.out (below_then (below_alloc (Below.refl _ _) _) (by simp) hb), HCX.out, HLN.out, by have := HSL.out; omega, HP.out, hM, R, hC, hcM⟩); have hcg3 := blk_cell LD.out.box; clear hb hM R hR hC hcM hcg)
    | (go_at_call 15; refine (latest_Of.calls _ _ _ (of_f (mkBal z0).length HLN.out.2)).mono ?_; rintro x w4 ⟨v4, rfl, hR, hb⟩; have HB4 := Aside0.mk hb; have HV4 := Aside0.mk hR; clear hb hR))
  have hlen : (votesAt (fun _ => 0) 0 (mkBal z0).length).length = (mkBal z0).length := votesAt_len _ _ _
  obtain ⟨AV, cV, hv⟩ := Kd.R_slice HV4.out
  rw [hlen] at hv
  subst hv
  obtain ⟨vt, hvt⟩ : ∃ vt : Nat → Int, vt = fun j => z2.getD j 0 % 40 := ⟨_, rfl⟩
  have HV : Aside0 (Kd.R k63 63 w4 w3.heap.size (fun _ => True) (.slice AV (mkBal z0).length cV) (votesAt vt 0 (mkBal z0).length)) := ⟨by rw [votesAt_any vt (fun _ => 0)]; exact HV4.out⟩
  have HVT := Aside0.mk hvt
  clear hvt hlen HV4
  have hM1 := HLN.out.1
  have hM2 := HLN.out.2
  go_loopw [11, 29] (fun x c wr => ∃ k : Nat, k ≤ n2 ∧ x = .int .u64 (firstSum (mkBal z0) t.ns.length vt (mkBal z0).length k) ∧ c = .int .i64 k ∧
      Aside0 (Kd.R k63 63 wr w3.heap.size (fun _ => True) (.slice AV (mkBal z0).length cV) (votesAt vt k (mkBal z0).length)) ∧ Aside0 (Below w3.heap.size w3 wr)) (fun _ c _ => n2 - (intOf c).toNat)
  case atStart => exact ⟨0, by omega, rfl, rfl, HV, HB4⟩
  case round =>
    obtain ⟨k, hk, rfl, rfl, HV, HB⟩ := hrel
    have LR := Aside0.mk (LD.out.below HB.out)
    have hcr := blk_cell LR.out.box
    have HBW := Aside0.mk (below_then HB3.out HB3.out.size HB.out)
    clear hcg3
    by_cases hlt : k < n2
    · have t0 : decide ((k : Int) < (n2 : Int)) = true := decide_eq_true (by omega)
      obtain ⟨ad, rfl, hc⟩ := H2.out.2.2 (by omega)
      have d0 := pw_cell_below HBW.out (hc k hlt)
      obtain ⟨z, hz⟩ : ∃ z, z2.getD k 0 = z := ⟨_, rfl⟩
      have hzr : 0 ≤ z ∧ z ≤ 255 := by rw [← hz]; exact HZ2.out _ (by rw [List.getD_eq_getElem?_getD, List.getElem?_eq_getElem (by rw [H2.out.1]; exact hlt)]; simp)
      have HVK : Aside0 (vt k = z % 40) := ⟨by rw [HVT.out]; simp only; rw [hz]⟩
      have hzm : 0 ≤ z % 40 ∧ z % 40 < 40 := by omega
      rw [hz] at d0
      clear hz hc
      by_cases hkl : k < (mkBal z0).length
      · have t1 : decide ((k : Int) < ((mkBal z0).length : Int)) = true := decide_eq_true (by omega)
        obtain ⟨kf, hkf⟩ := (mfind_f LR.out.R (z % 40)).rounds
        have HKF := Aside0.mk hkf
        have HTK : Aside0 (latest_Votes_Take.f (votesAt vt k (mkBal z0).length) k 1 (z % 40) = some (true, votesAt vt (k + 1) (mkBal z0).length)) := ⟨by rw [← HVK.out]; exact take_f vt k _ hkl⟩
        clear hkf
        by_cases hpl : placeOf t.ns.length (z % 40) ≥ 0
        · have t2 : decide (placeOf t.ns.length (z % 40) ≥ 0) = true := decide_eq_true hpl
          have HN : Aside0 (firstSum (mkBal z0) t.ns.length vt (mkBal z0).length (k + 1) = IntKind.u64.wrap (firstSum (mkBal z0) t.ns.length vt (mkBal z0).length k + rd (mkBal z0) k)) := ⟨by rw [firstSum.eq_2, if_pos ⟨hkl, by rw [HVK.out]; exact hpl⟩]⟩
          obtain ⟨ax, rfl, _⟩ := Kd.at_int LR.out.hx (k : Int) (by omega) (by omega)
          clear hpl
          go_wp2_with (first
            | (go_at_call 17; refine (latest_Votes_Take.calls (fun _ => True) _ _ _ _ _ _ _ w3 wr HB.out HV.out HTK.out).mono ?_; rintro x w5 ⟨rfl, hR, hb, _⟩; have HV5 := Aside0.mk (Kd.R_mono hR (fun _ _ => trivial)); have HB5 := Aside0.mk hb; have L5 := Aside0.mk (LD.out.below hb); clear hR hb)
            | (go_at_call 19; refine (psephoslaw09_Model_Find.calls kf AM cM m _ _ _ L5.out.hm L5.out.hcm HKF.out).mono ?_; rintro x w6 ⟨rfl, hb⟩; have HV6 := Aside0.mk (Kd.R_below HV5.out hb); have HB6 := Aside0.mk (below_then HB5.out HB5.out.size hb); have L6 := Aside0.mk (L5.out.below hb); have hc6 := blk_cell L6.out.box; obtain ⟨ax', hax, d6⟩ := Kd.at_int L6.out.hx (k : Int) (by omega) (by omega); injection hax with hax; subst hax; rw [Int.toNat_natCast] at d6; clear hb))
          go_roundw
          case rel => exact ⟨k + 1, by omega, by rw [HN.out], by go_num, HV6, HB6⟩
          case measure => simp [intOf]; omega
        · have t2 : decide (placeOf t.ns.length (z % 40) ≥ 0) = false := decide_eq_false hpl
          have HN : Aside0 (firstSum (mkBal z0) t.ns.length vt (mkBal z0).length (k + 1) = firstSum (mkBal z0) t.ns.length vt (mkBal z0).length k) := ⟨by rw [firstSum.eq_2, if_neg (fun h => hpl (by rw [← HVK.out]; exact h.2))]⟩
          clear hpl
          go_wp2_with (first
            | (go_at_call 17; refine (latest_Votes_Take.calls (fun _ => True) _ _ _ _ _ _ _ w3 wr HB.out HV.out HTK.out).mono ?_; rintro x w5 ⟨rfl, hR, hb, _⟩; have HV5 := Aside0.mk (Kd.R_mono hR (fun _ _ => trivial)); have HB5 := Aside0.mk hb; have L5 := Aside0.mk (LD.out.below hb); clear hR hb)
            | (go_at_call 19; refine (psephoslaw09_Model_Find.calls kf AM cM m _ _ _ L5.out.hm L5.out.hcm HKF.out).mono ?_; rintro x w6 ⟨rfl, hb⟩; have HV6 := Aside0.mk (Kd.R_below HV5.out hb); have HB6 := Aside0.mk (below_then HB5.out HB5.out.size hb); clear hb))
          go_roundw
          case rel => exact ⟨k + 1, by omega, by rw [HN.out], by go_num, HV6, HB6⟩
          case measure => simp [intOf]; omega
      · have t1 : decide ((k : Int) < ((mkBal z0).length : Int)) = false := decide_eq_false (by omega)
        have HN : Aside0 (firstSum (mkBal z0) t.ns.length vt (mkBal z0).length (k + 1) = firstSum (mkBal z0) t.ns.length vt (mkBal z0).length k) := ⟨by rw [firstSum.eq_2, if_neg (fun h => hkl h.1)]⟩
        have HV6 : Aside0 (Kd.R k63 63 wr w3.heap.size (fun _ => True) (.slice AV (mkBal z0).length cV) (votesAt vt (k + 1) (mkBal z0).length)) := ⟨by rw [votesAt_full vt k _ (by omega)]; exact HV.out⟩
        go_wp2_with fail
        go_roundw
        case rel => exact ⟨k + 1, by omega, by rw [HN.out], by go_num, HV6, HB⟩
        case measure => simp [intOf]; omega
    · have t0 : decide ((k : Int) < (n2 : Int)) = false := decide_eq_false (by omega)
      have HF := Aside0.mk (first_law LR.out.R (mkBal z0) (mkSlots sl) (mkBoost bo) HP.out vt k)
      have HW := Aside0.mk (votesAt_wide vt k (mkBal z0).length (fun j => by rw [HVT.out]; simp only; omega))
      have HLV : Aside0 ((votesAt vt k (mkBal z0).length).length ≤ 4096) := ⟨by rw [votesAt_len]; omega⟩
      have K0 : Aside0 ((0 : Int) ≤ 0 ∧ (0 : Int) ≤ 18446744073709551615) := ⟨by omega⟩
      have K1 : Aside0 ((0 : Int) ≤ 1 ∧ (1 : Int) ≤ 18446744073709551615) := ⟨by omega⟩
      have K9 : Aside0 ((0 : Int) ≤ 999 ∧ (999 : Int) ≤ 18446744073709551615) := ⟨by omega⟩
      go_wp2_with (first
        | (go_at_call 14; with_reducible refine (weight_at LR.out HV.out HLV.out HW.out 0 1 K0.out K1.out).mono ?_; rw [HF.out.1]; rintro x w5 ⟨rfl, hb⟩; have HB5 := Aside0.mk (below_then HBW.out HBW.out.size hb); have L5 := Aside0.mk (LR.out.below hb); have hc5 := blk_cell L5.out.box; have HV5 := Aside0.mk (Kd.R_below HV.out hb); clear hb)
        | (go_at_call 14; with_reducible refine (weight_at L5.out HV5.out HLV.out HW.out 999 999 K9.out K9.out).mono ?_; rw [HF.out.2]; rintro x w6 ⟨rfl, hb⟩; have HB6 := Aside0.mk (below_then HB5.out HB5.out.size hb); clear hb))
      go_ret
      exact ⟨by first | rfl | simp, HB6.out⟩

/-- The same, of arguments as they are opened. -/
theorem weightFirst_args {A0 A1 A2 : Option Addr} {n0 c0 n1 c1 n2 c2 : Nat} {z0 z1 z2 : List Int} {sl bo : Int} {w : World} (g0 : Open.ConfigArg w A0 n0 c0 z0 sl bo) (g1 : Open.IntsArg w .u8 1 A1 n1 c1 z1) (g2 : Open.IntsArg w .u8 1 A2 n2 c2 z2) :
    Calls Try.prog 6 #[.agg #[.slice A0 n0 c0, .int .i64 sl, .int .i64 bo], .slice A1 n1 c1, .slice A2 n2 c2] w fun x w' => x = .returned (.bool true) ∧ Below w.heap.size w w' :=
  weightFirst_law A0 n0 c0 z0 sl bo A1 n1 c1 z1 A2 n2 c2 z2 w (Kd.C_of_reads (d := (0 : Int)) (h1 := fun _ => rfl) g0.row.reads) g0.row.le (by have := g0.row.size; omega) (bd_i64 g0.ws) (bd_i64 g0.wb) (fun z hz => (bd_u64 (g0.row.wf z hz)).1) g1.reads (fun z hz => bd_u8 (g1.wf z hz)) g2.reads (fun z hz => bd_u8 (g2.wf z hz))
end Go.Proofs.Ytmdkkojchiiaeaa.QW
