/-
  The walk of the law WeightBoost of package psephoslaw12: its call answers true, and writes nothing that was there; of arguments of their kinds.
-/
import Derived.Test.YtmdkkojchiiaeaaLawW
import Derived.Test.YtmdkkojchiiaeaaOpenStruct
import Derived.Deep.RegionHeld3
import Derived.Test.YtmdkkojchiiaeaaQWx2
import Derived.Test.YtmdkkojchiiaeaaQWx7
import Derived.Test.YtmdkkojchiiaeaaQWx9
import Derived.Test.YtmdkkojchiiaeaaQWx10
import Derived.Test.YtmdkkojchiiaeaaQWx12
namespace Go.Proofs.Ytmdkkojchiiaeaa.QW
open Go.RowKit Go.Maps Go.ChangeMaps Go.Proofs.YtmdkkojchiiaeaaW.PrintWords Go.Proofs.Ytmdkkojchiiaeaa.Tree Go.Proofs.Ytmdkkojchiiaeaa.Own
set_option linter.unusedVariables false

theorem Laid.cells {w : World} {g : Nat} {AX : Option Addr} {cX : Nat} {lx : List Int} {sl bo : Int} {p B : Nat} {t : T} {AM : Option Addr} {cM : Nat} {m : List S53} (h : Laid w g AX cX lx sl bo p B t AM cM m) :
    w.cell? ⟨g, 0, none⟩ = some (.slice AX lx.length cX) ∧ w.cell? ⟨g, 1, none⟩ = some (.int .i64 sl) ∧ w.cell? ⟨g, 2, none⟩ = some (.int .i64 bo) :=
  ⟨blk_cell h.box 0, blk_cell h.box 1, blk_cell h.box 2⟩

set_option maxHeartbeats 8000000 in
set_option maxRecDepth 100000 in
theorem weightBoost_law (A0 : Option Addr) (n0 c0 : Nat) (z0 : List Int) (sl bo : Int) (A1 : Option Addr) (n1 c1 : Nat) (z1 : List Int) (A2 : Option Addr) (n2 c2 : Nat) (z2 : List Int) (w : World)
    (h0 : Kd.C (Kd.int .u64) w A0 n0 z0) (hc0 : n0 ≤ c0) (hn0 : n0 ≤ 17592186043904) (hs : -9223372036854775808 ≤ sl ∧ sl ≤ 9223372036854775807) (hb : -9223372036854775808 ≤ bo ∧ bo ≤ 9223372036854775807) (hp : ∀ z ∈ z0, 0 ≤ z)
    (h1 : ReadsInt w .u8 A1 n1 z1) (hz1 : ∀ z ∈ z1, 0 ≤ z ∧ z ≤ 255) (h2 : ReadsInt w .u8 A2 n2 z2) (hz2 : ∀ z ∈ z2, 0 ≤ z ∧ z ≤ 255) (bs rt : Int) (hbs : 0 ≤ bs ∧ bs ≤ 255) (hrt : 0 ≤ rt ∧ rt ≤ 255) :
    Calls Try.prog 5 #[.agg #[.slice A0 n0 c0, .int .i64 sl, .int .i64 bo], .slice A1 n1 c1, .slice A2 n2 c2, .int .u8 bs, .int .u8 rt] w fun x w' => x = .returned (.bool true) ∧ Below w.heap.size w w' := by
  have hl0 : z0.length = n0 := h0.1
  subst hl0
  have hn2 := h2.2.1
  obtain ⟨kr, hkr⟩ := (make3_f z0 sl bo hn0 hb.1 hb.2).rounds
  have HKR := Aside0.mk hkr
  have H0 := Aside0.mk h0
  have H1 := Aside0.mk h1
  have H2 := Aside0.mk h2
  have HZ1 := Aside0.mk hz1
  have HZ2 := Aside0.mk hz2
  have HP := Aside0.mk (mkBal_mem z0 hp)
  have HLN := Aside0.mk (mkBal_len z0)
  have HSL := Aside0.mk (mkSlots_in sl)
  clear hkr h0 h1 h2 hz1 hz2 hp hs hb
  go_enter Try.func5, Try.ntmps5
  go_wp2_with (first
    | (go_at_call 9; refine (Law12.awake_calls _).mono ?_; rintro x w1 ⟨rfl, hb⟩; have HB1 := Aside0.mk (below_then (below_alloc (Below.refl w.heap.size w) _) (by simp) hb); have HBK := Aside0.mk (blk_below (heap_alloc_new w _) hb); have hcg := blk_cell HBK.out; clear hb)
    | (go_at_call 12; refine (psephoslaw03_Make.calls kr A0 c0 z0 sl bo _ _ _ _ (Kd.C_below H0.out HB1.out) hc0 HKR.out).mono ?_; rintro x w2 ⟨v0, rfl, hR, hb⟩; have HB2 := Aside0.mk (below_then HB1.out HB1.out.size hb); obtain ⟨AX, cX, rfl, hcx, hC⟩ := Kd.R_reads hR; have HX := Aside0.mk hC; have HCX := Aside0.mk hcx; clear hb hR hC hcx)
    | (go_at_call 13; refine (made_calls A1 n1 c1 z1 _ (H1.out.below (below_alloc HB2.out _)) HZ1.out).mono ?_; rintro x w3 ⟨p, B, v, t, m, rfl, hM, R, hR, hb, _, _⟩; obtain ⟨AM, cM, rfl, hcM, hC⟩ := Kd.R_reads hR; have HB3 := Aside0.mk (below_then (below_alloc HB2.out _) (by simp; have := HB2.out.size; omega) hb); have LD := Aside0.mk (show Laid w3 w2.heap.size AX cX (mkBal z0) (mkSlots sl) (mkBoost bo) p B t AM cM m from ⟨blk_below (heap_alloc_new w2 _) hb, Kd.C_below HX.out (below_then (below_alloc (Below.refl _ _) _) (by simp) hb), HCX.out, HLN.out, by have := HSL.out; omega, HP.out, hM, R, hC, hcM⟩); have hcg3 := blk_cell LD.out.box; clear hb hM R hR hC hcM hcg)
    | (go_at_call 15; refine (latest_Of.calls _ _ _ (of_f (mkBal z0).length HLN.out.2)).mono ?_; rintro x w4 ⟨v4, rfl, hR, hb⟩; have HB4 := Aside0.mk hb; have HV4 := Aside0.mk hR; clear hb hR))
  have hlen : (votesAt (fun _ => 0) 0 (mkBal z0).length).length = (mkBal z0).length := votesAt_len _ _ _
  obtain ⟨AV, cV, hv⟩ := Kd.R_slice HV4.out
  rw [hlen] at hv
  subst hv
  obtain ⟨vt, hvt⟩ : ∃ vt : Nat → Int, vt = fun j => z2.getD j 0 % 33 := ⟨_, rfl⟩
  have HV : Aside0 (Kd.R k63 63 w4 w3.heap.size (fun _ => True) (.slice AV (mkBal z0).length cV) (votesAt vt 0 (mkBal z0).length)) := ⟨by rw [votesAt_any vt (fun _ => 0)]; exact HV4.out⟩
  have HVT := Aside0.mk hvt
  clear hvt hlen HV4
  have hM1 := HLN.out.1
  have hM2 := HLN.out.2
  have hrr : 0 ≤ rt % 33 ∧ rt % 33 < 33 := by omega
  have hbb : 0 ≤ bs % 33 ∧ bs % 33 < 33 := by omega
  go_loopw [36] (fun c wr => ∃ k : Nat, k ≤ n2 ∧ c = .int .i64 k ∧
      Aside0 (Kd.R k63 63 wr w3.heap.size (fun _ => True) (.slice AV (mkBal z0).length cV) (votesAt vt k (mkBal z0).length)) ∧ Aside0 (Below w3.heap.size w3 wr)) (fun c _ => n2 - (intOf c).toNat)
  case atStart => exact ⟨0, by omega, rfl, HV, HB4⟩
  case round =>
    obtain ⟨k, hk, rfl, HV, HB⟩ := hrel
    have LR := Aside0.mk (LD.out.below HB.out)
    have hcr := blk_cell LR.out.box
    have HBW := Aside0.mk (below_then HB3.out HB3.out.size HB.out)
    clear hcg3
    by_cases hlt : k < n2
    · have t0 : decide ((k : Int) < (n2 : Int)) = true := decide_eq_true (by omega)
      obtain ⟨ad, rfl, hc⟩ := H2.out.2.2 (by omega)
      have d0 := pw_cell_below HBW.out (hc k hlt)
      obtain ⟨z, hz⟩ : ∃ z, z2.getD k 0 = z := ⟨_, rfl⟩
      have hzr : 0 ≤ z ∧ z ≤ 255 := by rw [← hz]; exact HZ2.out _ (by rw [List.getD_eq_getElem?_getD, List.getElem?_eq_getElem (by rw [H2.out.1]; exact hlt)]; simp)
      have HVK : Aside0 (vt k = z % 33) := ⟨by rw [HVT.out]; simp only; rw [hz]⟩
      have hzm : 0 ≤ z % 33 ∧ z % 33 < 33 := by omega
      rw [hz] at d0
      clear hz hc
      by_cases hkl : k < (mkBal z0).length
      · have t1 : decide ((k : Int) < ((mkBal z0).length : Int)) = true := decide_eq_true (by omega)
        have HTK : Aside0 (latest_Votes_Take.f (votesAt vt k (mkBal z0).length) k 1 (z % 33) = some (true, votesAt vt (k + 1) (mkBal z0).length)) := ⟨by rw [← HVK.out]; exact take_f vt k _ hkl⟩
        go_wp2_with (go_at_call 17; refine (latest_Votes_Take.calls (fun _ => True) _ _ _ _ _ _ _ w3 wr HB.out HV.out HTK.out).mono ?_; rintro x w5 ⟨rfl, hR, hb, _⟩; have HV5 := Aside0.mk (Kd.R_mono hR (fun _ _ => trivial)); have HB5 := Aside0.mk hb; clear hR hb)
        go_roundw
        case rel => exact ⟨k + 1, by omega, by go_num, HV5, HB5⟩
        case measure => simp [intOf]; omega
      · have t1 : decide ((k : Int) < ((mkBal z0).length : Int)) = false := decide_eq_false (by omega)
        have HV6 : Aside0 (Kd.R k63 63 wr w3.heap.size (fun _ => True) (.slice AV (mkBal z0).length cV) (votesAt vt (k + 1) (mkBal z0).length)) := ⟨by rw [votesAt_full vt k _ (by omega)]; exact HV.out⟩
        go_wp2_with fail
        go_roundw
        case rel => exact ⟨k + 1, by omega, by go_num, HV6, HB⟩
        case measure => simp [intOf]; omega
    · have t0 : decide ((k : Int) < (n2 : Int)) = false := decide_eq_false (by omega)
      have HW := Aside0.mk (votesAt_wide vt k (mkBal z0).length (fun j => by rw [HVT.out]; simp only; omega))
      have HLV : Aside0 ((votesAt vt k (mkBal z0).length).length ≤ 4096) := ⟨by rw [votesAt_len]; omega⟩
      have K0 : Aside0 ((0 : Int) ≤ 0 ∧ (0 : Int) ≤ 18446744073709551615) := ⟨by omega⟩
      have KB : Aside0 (0 ≤ bs % 33 ∧ bs % 33 ≤ 18446744073709551615) := ⟨by omega⟩
      have KR : Aside0 (0 ≤ rt % 33 ∧ rt % 33 ≤ 18446744073709551615) := ⟨by omega⟩
      obtain ⟨S, hS⟩ : ∃ S, haveOf (mkBal z0) t (votesAt vt k (mkBal z0).length) (rt % 33) (votesAt vt k (mkBal z0).length).length = S := ⟨_, rfl⟩
      have HF0 : Aside0 (weightOf (mkBal z0) (mkSlots sl) (mkBoost bo) t (votesAt vt k (mkBal z0).length) 0 (rt % 33) = S) := ⟨by rw [weightOf, if_neg (by rw [below_out LR.out.R 0 _ (by omega)]; simp), hS]⟩
      obtain ⟨kf, hkf⟩ := (mbelow_f LR.out.R (bs % 33) (rt % 33)).rounds
      have HKF := Aside0.mk hkf
      obtain ⟨kb, hkb⟩ := (boost_f (mkBal z0) (mkSlots sl) (mkBoost bo) (by omega) LR.out.hsl).rounds
      have HKB := Aside0.mk hkb
      clear hkf hkb
      have LRd := Aside0.mk (LR.out.below (below_drew (Below.refl _ _)))
      have HVd := Aside0.mk (Kd.R_below HV.out (below_drew (Below.refl _ _)))
      have HBd := Aside0.mk (below_drew HBW.out)
      by_cases hbel : below t (bs % 33) (rt % 33) = true
      · have HF1 : Aside0 (weightOf (mkBal z0) (mkSlots sl) (mkBoost bo) t (votesAt vt k (mkBal z0).length) (bs % 33) (rt % 33) = IntKind.u64.wrap (S + boostOf (mkBal z0) (mkSlots sl) (mkBoost bo))) := ⟨by rw [weightOf, if_pos hbel, hS]⟩
        rw [hbel] at HKF
        clear hbel hS
        go_upto_region 13 with fail
        go_region_held3 (fun w' => w'.cell? ⟨w2.heap.size, 0, none⟩ = some (.slice AX (mkBal z0).length cX) ∧ w'.cell? ⟨w2.heap.size, 1, none⟩ = some (.int .i64 (mkSlots sl)) ∧ w'.cell? ⟨w2.heap.size, 2, none⟩ = some (.int .i64 (mkBoost bo)))
          (first | exact L6.out.cells | exact L5.out.cells | exact LR.out.cells)
          (first
            | (go_at_call 14; with_reducible refine (weight_at L5.out HV5.out HLV.out HW.out (bs % 33) (rt % 33) KB.out KR.out).mono ?_; rw [HF1.out]; rintro x w6 ⟨rfl, hb⟩; have HB6 := Aside0.mk (below_then HB5.out HB5.out.size hb); have L6 := Aside0.mk (L5.out.below hb); have HV6 := Aside0.mk (Kd.R_below HV5.out hb); clear hb)
            | (go_at_call 14; with_reducible refine (weight_at L5.out HV5.out HLV.out HW.out 0 (rt % 33) K0.out KR.out).mono ?_; rw [HF0.out]; rintro x w6 ⟨rfl, hb⟩; have HB6 := Aside0.mk (below_then HB5.out HB5.out.size hb); have L6 := Aside0.mk (L5.out.below hb); have HV6 := Aside0.mk (Kd.R_below HV5.out hb); clear hb)
            | (go_at_call 14; with_reducible refine (weight_at LRd.out HVd.out HLV.out HW.out (bs % 33) (rt % 33) KB.out KR.out).mono ?_; rw [HF1.out]; rintro x w5 ⟨rfl, hb⟩; have HB5 := Aside0.mk (below_then HBd.out HBd.out.size hb); have L5 := Aside0.mk (LRd.out.below hb); have HV5 := Aside0.mk (Kd.R_below HVd.out hb); clear hb)
            | (go_at_call 14; with_reducible refine (weight_at LRd.out HVd.out HLV.out HW.out 0 (rt % 33) K0.out KR.out).mono ?_; rw [HF0.out]; rintro x w5 ⟨rfl, hb⟩; have HB5 := Aside0.mk (below_then HBd.out HBd.out.size hb); have L5 := Aside0.mk (LRd.out.below hb); have HV5 := Aside0.mk (Kd.R_below HVd.out hb); clear hb))
        all_goals
          go_wp2_with (first
            | (go_at_call 18; refine (psephoslaw09_Model_Below.calls kf AM cM m _ _ _ _ L6.out.hm L6.out.hcm HKF.out).mono ?_; rintro x w7 ⟨rfl, hb⟩; have HB7 := Aside0.mk (below_then HB6.out HB6.out.size hb); have L7 := Aside0.mk (L6.out.below hb); have hc7 := blk_cell L7.out.box; clear hb)
            | (go_at_call 16; refine (config_Boost.calls kb AX cX _ _ _ _ _ L7.out.hx L7.out.hcx HKB.out).mono ?_; rintro x w8 ⟨rfl, hb⟩; have HB8 := Aside0.mk (below_then HB7.out HB7.out.size hb); clear hb))
          go_ret
          exact ⟨by first | rfl | simp, HB8.out⟩
      · have hbel' : below t (bs % 33) (rt % 33) = false := by simpa using hbel
        have HF1 : Aside0 (weightOf (mkBal z0) (mkSlots sl) (mkBoost bo) t (votesAt vt k (mkBal z0).length) (bs % 33) (rt % 33) = S) := ⟨by rw [weightOf, if_neg hbel, hS]⟩
        rw [hbel'] at HKF
        clear hbel hbel' hS
        go_upto_region 13 with fail
        go_region_held3 (fun w' => w'.cell? ⟨w2.heap.size, 0, none⟩ = some (.slice AX (mkBal z0).length cX) ∧ w'.cell? ⟨w2.heap.size, 1, none⟩ = some (.int .i64 (mkSlots sl)) ∧ w'.cell? ⟨w2.heap.size, 2, none⟩ = some (.int .i64 (mkBoost bo)))
          (first | exact L6.out.cells | exact L5.out.cells | exact LR.out.cells)
          (first
            | (go_at_call 14; with_reducible refine (weight_at L5.out HV5.out HLV.out HW.out (bs % 33) (rt % 33) KB.out KR.out).mono ?_; rw [HF1.out]; rintro x w6 ⟨rfl, hb⟩; have HB6 := Aside0.mk (below_then HB5.out HB5.out.size hb); have L6 := Aside0.mk (L5.out.below hb); have HV6 := Aside0.mk (Kd.R_below HV5.out hb); clear hb)
            | (go_at_call 14; with_reducible refine (weight_at L5.out HV5.out HLV.out HW.out 0 (rt % 33) K0.out KR.out).mono ?_; rw [HF0.out]; rintro x w6 ⟨rfl, hb⟩; have HB6 := Aside0.mk (below_then HB5.out HB5.out.size hb); have L6 := Aside0.mk (L5.out.below hb); have HV6 := Aside0.mk (Kd.R_below HV5.out hb); clear hb)
            | (go_at_call 14; with_reducible refine (weight_at LRd.out HVd.out HLV.out HW.out (bs % 33) (rt % 33) KB.out KR.out).mono ?_; rw [HF1.out]; rintro x w5 ⟨rfl, hb⟩; have HB5 := Aside0.mk (below_then HBd.out HBd.out.size hb); have L5 := Aside0.mk (LRd.out.below hb); have HV5 := Aside0.mk (Kd.R_below HVd.out hb); clear hb)
            | (go_at_call 14; with_reducible refine (weight_at LRd.out HVd.out HLV.out HW.out 0 (rt % 33) K0.out KR.out).mono ?_; rw [HF0.out]; rintro x w5 ⟨rfl, hb⟩; have HB5 := Aside0.mk (below_then HBd.out HBd.out.size hb); have L5 := Aside0.mk (LRd.out.below hb); have HV5 := Aside0.mk (Kd.R_below HVd.out hb); clear hb))
        all_goals
          go_wp2_with (go_at_call 18; refine (psephoslaw09_Model_Below.calls kf AM cM m _ _ _ _ L6.out.hm L6.out.hcm HKF.out).mono ?_; rintro x w7 ⟨rfl, hb⟩; have HB7 := Aside0.mk (below_then HB6.out HB6.out.size hb); have L7 := Aside0.mk (L6.out.below hb); have hc7 := blk_cell L7.out.box; clear hb)
          go_ret
          exact ⟨by first | rfl | simp, HB7.out⟩

/-- The same, of arguments as they are opened. -/
theorem weightBoost_args {A0 A1 A2 : Option Addr} {n0 c0 n1 c1 n2 c2 : Nat} {z0 z1 z2 : List Int} {sl bo bs rt : Int} {w : World} (g0 : Open.ConfigArg w A0 n0 c0 z0 sl bo) (g1 : Open.IntsArg w .u8 1 A1 n1 c1 z1) (g2 : Open.IntsArg w .u8 1 A2 n2 c2 z2) (w3 : (Lit.int .u8 bs).wf = true) (w4 : (Lit.int .u8 rt).wf = true) :
    Calls Try.prog 5 #[.agg #[.slice A0 n0 c0, .int .i64 sl, .int .i64 bo], .slice A1 n1 c1, .slice A2 n2 c2, .int .u8 bs, .int .u8 rt] w fun x w' => x = .returned (.bool true) ∧ Below w.heap.size w w' :=
  weightBoost_law A0 n0 c0 z0 sl bo A1 n1 c1 z1 A2 n2 c2 z2 w (Kd.C_of_reads (d := (0 : Int)) (h1 := fun _ => rfl) g0.row.reads) g0.row.le (by have := g0.row.size; omega) (bd_i64 g0.ws) (bd_i64 g0.wb) (fun z hz => (bd_u64 (g0.row.wf z hz)).1) g1.reads (fun z hz => bd_u8 (g1.wf z hz)) g2.reads (fun z hz => bd_u8 (g2.wf z hz)) bs rt (bd_u8 w3) (bd_u8 w4)
end Go.Proofs.Ytmdkkojchiiaeaa.QW
