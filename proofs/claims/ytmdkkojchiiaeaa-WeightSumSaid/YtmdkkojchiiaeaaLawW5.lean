/-
  The walk of the law WeightSum of package psephoslaw12: its call answers true, and writes nothing that was there; of arguments of their kinds.
-/
import Derived.Test.YtmdkkojchiiaeaaPureWS
import Derived.Test.YtmdkkojchiiaeaaOpenStruct
import Derived.Test.YtmdkkojchiiaeaaQWx2
import Derived.Test.YtmdkkojchiiaeaaQWx8
import Derived.Test.YtmdkkojchiiaeaaQWx9
import Derived.Test.YtmdkkojchiiaeaaQWx10
namespace Go.Proofs.Ytmdkkojchiiaeaa.QW
open Go.RowKit Go.Maps Go.Proofs.YtmdkkojchiiaeaaW.PrintWords Go.Proofs.Ytmdkkojchiiaeaa.Tree Go.Proofs.Ytmdkkojchiiaeaa.Own
set_option linter.unusedVariables false

/-- What lies in memory behind the votes. -/
structure SumAt (w : World) (b0 g : Nat) (AX : Option Addr) (cX : Nat) (lx : List Int) (sl bo : Int) (p B : Nat) (t : T) (AM : Option Addr) (cM : Nat) (m : List S53) (AV : Option Addr) (cV : Nat) (lv : List S63) (wr : World) : Prop where
  L : Laid wr g AX cX lx sl bo p B t AM cM m
  V : Kd.R k63 63 wr b0 (fun _ => True) (.slice AV lx.length cV) lv
  bel : Below w.heap.size w wr
theorem SumAt.below {w : World} {b0 g : Nat} {AX : Option Addr} {cX : Nat} {lx : List Int} {sl bo : Int} {p B : Nat} {t : T} {AM : Option Addr} {cM : Nat} {m : List S53} {AV : Option Addr} {cV : Nat} {lv : List S63} {wr w' : World} (h : SumAt w b0 g AX cX lx sl bo p B t AM cM m AV cV lv wr) (hb : Below wr.heap.size wr w') : SumAt w b0 g AX cX lx sl bo p B t AM cM m AV cV lv w' :=
  ⟨h.L.below hb, Kd.R_below h.V hb, below_then h.bel h.bel.size hb⟩

set_option maxHeartbeats 16000000 in
set_option maxRecDepth 100000 in
theorem weightSum_law (A0 : Option Addr) (n0 c0 : Nat) (z0 : List Int) (sl bo : Int) (A1 : Option Addr) (n1 c1 : Nat) (z1 : List Int) (A2 : Option Addr) (n2 c2 : Nat) (z2 : List Int) (w : World)
    (h0 : Kd.C (Kd.int .u64) w A0 n0 z0) (hc0 : n0 ≤ c0) (hn0 : n0 ≤ 17592186043904) (hs : -9223372036854775808 ≤ sl ∧ sl ≤ 9223372036854775807) (hb : -9223372036854775808 ≤ bo ∧ bo ≤ 9223372036854775807) (hp : ∀ z ∈ z0, 0 ≤ z)
    (h1 : ReadsInt w .u8 A1 n1 z1) (hz1 : ∀ z ∈ z1, 0 ≤ z ∧ z ≤ 255) (h2 : ReadsInt w .u8 A2 n2 z2) (hz2 : ∀ z ∈ z2, 0 ≤ z ∧ z ≤ 255) :
    Calls Try.prog 8 #[.agg #[.slice A0 n0 c0, .int .i64 sl, .int .i64 bo], .slice A1 n1 c1, .slice A2 n2 c2] w fun x w' => x = .returned (.bool true) ∧ Below w.heap.size w w' := by
  have hl0 : z0.length = n0 := h0.1
  subst hl0
  have hn2 := h2.2.1
  obtain ⟨kr, hkr⟩ := (make3_f z0 sl bo hn0 hb.1 hb.2).rounds
  have HKR := Aside0.mk hkr
  have H0 := Aside0.mk h0
  have H1 := Aside0.mk h1
  have H2 := Aside0.mk h2
  have HZ1 := Aside0.mk hz1
  have HZ2 := Aside0.mk hz2
  have HP := Aside0.mk (mkBal_mem z0 hp)
  have HLN := Aside0.mk (mkBal_len z0)
  have HSL := Aside0.mk (mkSlots_in sl)
  clear hkr h0 h1 h2 hz1 hz2 hp hs hb
  go_enter Try.func8, Try.ntmps8
  go_wp2_with (first
    | (go_at_call 9; refine (Law12.awake_calls _).mono ?_; rintro x w1 ⟨rfl, hb⟩; have HB1 := Aside0.mk (below_then (below_alloc (Below.refl w.heap.size w) _) (by simp) hb); have HBK := Aside0.mk (blk_below (heap_alloc_new w _) hb); have hcg := blk_cell HBK.out; clear hb)
    | (go_at_call 12; refine (psephoslaw03_Make.calls kr A0 c0 z0 sl bo _ _ _ _ (Kd.C_below H0.out HB1.out) hc0 HKR.out).mono ?_; rintro x w2 ⟨v0, rfl, hR, hb⟩; have HB2 := Aside0.mk (below_then HB1.out HB1.out.size hb); obtain ⟨AX, cX, rfl, hcx, hC⟩ := Kd.R_reads hR; have HX := Aside0.mk hC; have HCX := Aside0.mk hcx; clear hb hR hC hcx)
    | (go_at_call 13; refine (made_calls A1 n1 c1 z1 _ (H1.out.below (below_alloc HB2.out _)) HZ1.out).mono ?_; rintro x w3 ⟨p, B, v, t, m, rfl, hM, R, hR, hb, _, _⟩; obtain ⟨AM, cM, rfl, hcM, hC⟩ := Kd.R_reads hR; have HB3 := Aside0.mk (below_then (below_alloc HB2.out _) (by simp; have := HB2.out.size; omega) hb); have LD := Aside0.mk (show Laid w3 w2.heap.size AX cX (mkBal z0) (mkSlots sl) (mkBoost bo) p B t AM cM m from ⟨blk_below (heap_alloc_new w2 _) hb, Kd.C_below HX.out (below_then (below_alloc (Below.refl _ _) _) (by simp) hb), HCX.out, HLN.out, by have := HSL.out; omega, HP.out, hM, R, hC, hcM⟩); have hcg3 := blk_cell LD.out.box; clear hb hM R hR hC hcM hcg)
    | (go_at_call 15; refine (latest_Of.calls _ _ _ (of_f (mkBal z0).length HLN.out.2)).mono ?_; rintro x w4 ⟨v4, rfl, hR, hb⟩; have HB4 := Aside0.mk hb; have HV4 := Aside0.mk hR; clear hb hR))
  obtain ⟨lx, hlx⟩ : ∃ lx, mkBal z0 = lx := ⟨_, rfl⟩
  obtain ⟨s3, hs3⟩ : ∃ s3, mkSlots sl = s3 := ⟨_, rfl⟩
  obtain ⟨b3, hb3⟩ : ∃ b3, mkBoost bo = b3 := ⟨_, rfl⟩
  rw [hlx] at HP HLN HX HCX
  rw [hlx, hs3, hb3] at LD
  simp only [hlx, hs3, hb3] at hcg3 HV4 HB4 ⊢
  clear hlx hs3 hb3 HKR HX HCX
  have hlen : (votesAt (fun _ => 0) 0 lx.length).length = lx.length := votesAt_len _ _ _
  obtain ⟨AV, cV, hv⟩ := Kd.R_slice HV4.out
  rw [hlen] at hv
  subst hv
  have hml : m.length = t.ns.length := LD.out.R.len
  have hmp : 0 < m.length ∧ m.length ≤ 31 := by rw [hml]; exact ⟨LD.out.R.chain.pos, LD.out.R.chain.small⟩
  obtain ⟨vt, hvt⟩ : ∃ vt : Nat → Int, vt = fun j => z2.getD j 0 % (m.length : Int) + 1 := ⟨_, rfl⟩
  have HV : Aside0 (Kd.R k63 63 w4 w3.heap.size (fun _ => True) (.slice AV lx.length cV) (votesAt vt 0 lx.length)) := ⟨by rw [votesAt_any vt (fun _ => 0)]; exact HV4.out⟩
  have HVT := Aside0.mk hvt
  have HML := Aside0.mk hml
  clear hvt hlen HV4 hml
  have hM1 := HLN.out.1
  have hM2 := HLN.out.2
  go_loopw [36] (fun c wr => ∃ k : Nat, k ≤ n2 ∧ c = .int .i64 k ∧
      Aside0 (Kd.R k63 63 wr w3.heap.size (fun _ => True) (.slice AV lx.length cV) (votesAt vt k lx.length)) ∧ Aside0 (Below w3.heap.size w3 wr)) (fun c _ => n2 - (RowKit.intOf c).toNat)
  case atStart => exact ⟨0, by omega, rfl, HV, HB4⟩
  case round =>
    obtain ⟨k, hk, rfl, HV, HB⟩ := hrel
    clear hcg3
    have LR := Aside0.mk (LD.out.below HB.out)
    have HBW := Aside0.mk (below_then HB3.out HB3.out.size HB.out)
    by_cases hlt : k < n2
    · have t0 : decide ((k : Int) < (n2 : Int)) = true := decide_eq_true (by omega)
      obtain ⟨ad, rfl, hc⟩ := H2.out.2.2 (by omega)
      have d0 := pw_cell_below HBW.out (hc k hlt)
      obtain ⟨z, hz⟩ : ∃ z, z2.getD k 0 = z := ⟨_, rfl⟩
      have hzr : 0 ≤ z ∧ z ≤ 255 := by rw [← hz]; exact HZ2.out _ (by rw [List.getD_eq_getElem?_getD, List.getElem?_eq_getElem (by rw [H2.out.1]; exact hlt)]; simp)
      have HVK : Aside0 (vt k = z % (m.length : Int) + 1) := ⟨by rw [HVT.out]; simp only; rw [hz]⟩
      have hzm : 0 ≤ z % (m.length : Int) ∧ z % (m.length : Int) < m.length := ⟨Int.emod_nonneg _ (by omega), Int.emod_lt_of_pos _ (by omega)⟩
      rw [hz] at d0
      clear hz hc
      by_cases hkl : k < lx.length
      · have t1 : decide ((k : Int) < (lx.length : Int)) = true := decide_eq_true (by omega)
        have HTK : Aside0 (latest_Votes_Take.f (votesAt vt k lx.length) k 1 (z % (m.length : Int) + 1) = some (true, votesAt vt (k + 1) lx.length)) := ⟨by rw [← HVK.out]; exact take_f vt k _ hkl⟩
        obtain ⟨q, hq⟩ : ∃ q, z % (m.length : Int) = q := ⟨_, rfl⟩
        rw [hq] at hzm HTK HVK
        have hmne : ((m.length : Int) == 0) = false := by rw [beq_eq_false_iff_ne]; omega
        go_wp2_with (go_at_call 17; refine (latest_Votes_Take.calls (fun _ => True) _ _ _ _ _ _ _ w3 wr HB.out HV.out HTK.out).mono ?_; rintro x w5 ⟨rfl, hR, hb, _⟩; have HV5 := Aside0.mk (Kd.R_mono hR (fun _ _ => trivial)); have HB5 := Aside0.mk hb; clear hR hb)
        go_roundw
        case rel => exact ⟨k + 1, by omega, by go_num, HV5, HB5⟩
        case measure => simp [RowKit.intOf]; omega
      · have t1 : decide ((k : Int) < (lx.length : Int)) = false := decide_eq_false (by omega)
        have HV6 : Aside0 (Kd.R k63 63 wr w3.heap.size (fun _ => True) (.slice AV lx.length cV) (votesAt vt (k + 1) lx.length)) := ⟨by rw [votesAt_full vt k _ (by omega)]; exact HV.out⟩
        go_wp2_with fail
        go_roundw
        case rel => exact ⟨k + 1, by omega, by go_num, HV6, HB⟩
        case measure => simp [RowKit.intOf]; omega
    · have t0 : decide ((k : Int) < (n2 : Int)) = false := decide_eq_false (by omega)
      obtain ⟨lv, hlv⟩ : ∃ lv, votesAt vt k lx.length = lv := ⟨_, rfl⟩
      have hll : lv.length = lx.length := by rw [← hlv]; exact votesAt_len _ _ _
      have hwd := votesAt_wide vt k lx.length (fun j => by rw [HVT.out]; simp only; have h1 := Int.emod_nonneg (z2.getD j 0) (show (m.length : Int) ≠ 0 by omega); have h2 := Int.emod_lt_of_pos (z2.getD j 0) (show (0 : Int) < m.length by omega); omega)
      rw [hlv] at HV hwd
      have HW := Aside0.mk hwd
      have HLL := Aside0.mk hll
      have HLV : Aside0 (lv.length ≤ 4096) := ⟨by rw [hll]; exact hM2⟩
      have K0 : Aside0 ((0 : Int) ≤ 0 ∧ (0 : Int) ≤ 18446744073709551615) := ⟨by omega⟩
      have SA : Aside0 (SumAt w w3.heap.size w2.heap.size AX cX lx s3 b3 p B t AM cM m AV cV lv wr) := ⟨⟨LR.out, HV.out, HBW.out⟩⟩
      have HU := Aside0.mk (uniq_of LR.out.R)
      have HNE := Aside0.mk (ns_ne LR.out.R)
      have HLW := Aside0.mk (low_len LR.out.R)
      have HWI := Aside0.mk LR.out.R.well.wide
      clear hwd hll hlv HV HB LR HBW
      go_wp2_with fail
      go_loopw [58] (fun c wr => ∃ k : Nat, k ≤ m.length ∧ c = .int .i64 k ∧ Aside0 (SumAt w w3.heap.size w2.heap.size AX cX lx s3 b3 p B t AM cM m AV cV lv wr)) (fun c _ => m.length - (RowKit.intOf c).toNat)
      case atStart => exact ⟨0, by omega, rfl, SA⟩
      case round =>
        obtain ⟨k, hk, rfl, SA⟩ := hrel
        by_cases hlt : k < m.length
        · have t0 : decide ((k : Int) < (m.length : Int)) = true := decide_eq_true (by omega)
          have hkn : k < t.ns.length := by rw [← HML.out]; exact hlt
          have HKN := Aside0.mk hkn
          obtain ⟨am, hAM, e0, e1, e2⟩ := at_T53 SA.out.L.hm (k : Int) (by omega) (by omega)
          subst hAM
          rw [Int.toNat_natCast] at e0 e1 e2
          rw [rd_model SA.out.L.R k hkn] at e0 e1 e2
          have hnd : toS t.ns[k] = ⟨(k : Int) + 1, t.ns[k].p, t.ns[k].s⟩ := by unfold toS; rw [SA.out.L.R.chain.root k hkn]
          rw [hnd] at e0 e1 e2
          simp only at e0 e1 e2
          obtain ⟨np, hnp⟩ : ∃ np, t.ns[k].p = np := ⟨_, rfl⟩
          obtain ⟨sj, hsj⟩ : ∃ sj, t.ns[k].s = sj := ⟨_, rfl⟩
          rw [hnp] at e1
          rw [hsj] at e2
          have KR : Aside0 ((0 : Int) ≤ (k : Int) + 1 ∧ (k : Int) + 1 ≤ 18446744073709551615) := ⟨by omega⟩
          have HAL := Aside0.mk (ownAcc_all SA.out.L.R lx s3 b3 lv k hkn)
          clear hnd hnp hsj hkn
          have SA1 := Aside0.mk (SA.out.below (below_alloc (Below.refl _ _) (.cells #[.int .u64 ((k : Int) + 1), .int .u64 np, .int .i64 sj] 53)))
          have HBX := Aside0.mk (heap_alloc_new wr (.cells #[.int .u64 ((k : Int) + 1), .int .u64 np, .int .i64 sj] 53))
          obtain ⟨gb, hgb⟩ : ∃ gb, wr.heap.size = gb := ⟨_, rfl⟩
          rw [hgb] at HBX
          go_wp2_with fail
          generalize hwa : wr.alloc (Obj.cells #[.int .u64 ((k : Int) + 1), .int .u64 np, .int .i64 sj] 53) = wa at SA1 HBX ⊢
          clear hwa hgb e0 e1 e2 SA
          refine (kids_calls p B t ((k : Int) + 1) wa SA1.out.L.hM HU.out HNE.out HLW.out HWI.out).mono ?_
          rintro x w5 ⟨v, rfl, hR, hb⟩
          obtain ⟨ks, hks⟩ : ∃ ks, kidsOf t ((k : Int) + 1) = ks := ⟨_, rfl⟩
          rw [hks] at hR
          obtain ⟨AK, cK, rfl⟩ := Kd.R_slice hR
          have hkb : ks.length ≤ 4096 := by
            rw [← hks]
            have h1 := List.length_filter_le (fun r => decide (r ≠ t.first) && decide ((getD t.ns r).p = (k : Int) + 1)) (rootsOf t.ns)
            rw [roots_length] at h1
            have := HLW.out
            unfold kidsOf
            omega
          have HKW : Aside0 (∀ j, j < ks.length → 0 ≤ rd ks (j : Int) ∧ rd ks (j : Int) ≤ 18446744073709551615) := ⟨fun j hj => by
            have h1 : rd ks (j : Int) ∈ ks := rd_mem ks j hj
            rw [← hks] at h1
            obtain ⟨i, hi, e, _, _⟩ := (kid_mem SA1.out.L.R k _).1 h1
            rw [hks] at e
            rw [e]
            have := SA1.out.L.R.chain.small
            omega⟩
          have HKS := Aside0.mk hks
          have HK := Aside0.mk hR
          have SA5 := Aside0.mk (SA1.out.below hb)
          have HB5 := Aside0.mk (blk_below HBX.out hb)
          have hZ : kidAcc lx s3 b3 t lv ks 0 = 0 := by unfold kidAcc; simp [sumL, IntKind.wrap_u64]
          have HZ := Aside0.mk hZ
          obtain ⟨bk, hbk⟩ : ∃ bk, wa.heap.size = bk := ⟨_, rfl⟩
          rw [hbk] at HK
          clear hR hb hks SA1 HBX hZ hbk
          go_wp2_with fail
          go_loopw [15, 67] (fun x c wr => ∃ j : Nat, j ≤ ks.length ∧ x = .int .u64 (kidAcc lx s3 b3 t lv ks j) ∧ c = .int .i64 j ∧ Aside0 (SumAt w w3.heap.size w2.heap.size AX cX lx s3 b3 p B t (some am) cM m AV cV lv wr) ∧ Aside0 (wr.heap[gb]? = some (.cells #[.int .u64 ((k : Int) + 1), .int .u64 np, .int .i64 sj] 53 (0, 0))) ∧ Aside0 (Kd.R (Kd.int .u64) 25 wr bk (fun _ => True) (.slice AK ks.length cK) ks)) (fun _ c _ => ks.length - (RowKit.intOf c).toNat)
          case atStart => exact ⟨0, by omega, by rw [HZ.out], rfl, SA5, HB5, HK⟩
          case round =>
            obtain ⟨j, hj, rfl, rfl, SA, HBX, HK⟩ := hrel
            by_cases hjl : j < ks.length
            · have t1 : decide ((j : Int) < (ks.length : Int)) = true := decide_eq_true (by omega)
              obtain ⟨ad, rfl, hc⟩ := Kd.at_int (Kd.R_reads' HK.out).2.2 (j : Int) (by omega) (by omega)
              rw [Int.toNat_natCast] at hc
              have HN := Aside0.mk (kidAcc_next SA.out.L.R lx s3 b3 lv ks j hjl)
              have HCR := Aside0.mk (HKW.out j hjl)
              obtain ⟨c, hcc⟩ : ∃ c, rd ks (j : Int) = c := ⟨_, rfl⟩
              rw [hcc] at hc HN HCR
              have hcg := blk_cell SA.out.L.box
              clear hcc
              go_wp2_with (go_at_call 14; with_reducible refine (weight_at SA.out.L SA.out.V HLV.out HW.out 0 c K0.out HCR.out).mono ?_; rintro x w6 ⟨rfl, hb⟩; have SA6 := Aside0.mk (SA.out.below hb); have HB6 := Aside0.mk (blk_below HBX.out hb); have HK6 := Aside0.mk (Kd.R_below HK.out hb); clear hb)
              go_roundw
              case rel => exact ⟨j + 1, by omega, by rw [← HN.out], by go_num, SA6, HB6, HK6⟩
              case measure => simp [RowKit.intOf]; omega
            · have t1 : decide ((j : Int) < (ks.length : Int)) = false := decide_eq_false (by omega)
              obtain rfl : j = ks.length := by omega
              have HO : Aside0 (kidAcc lx s3 b3 t lv ks ks.length = ownAcc lx s3 b3 t lv ((k : Int) + 1) 0) := ⟨by rw [← HKS.out]; exact ownAcc_zero lx s3 b3 t lv _⟩
              clear HK HKW HKS HZ
              go_wp2_with fail
              go_loopw [15, 81] (fun x c wr => ∃ i : Nat, i ≤ lx.length ∧ x = .int .u64 (ownAcc lx s3 b3 t lv ((k : Int) + 1) i) ∧ c = .int .i64 i ∧ Aside0 (SumAt w w3.heap.size w2.heap.size AX cX lx s3 b3 p B t (some am) cM m AV cV lv wr) ∧ Aside0 (wr.heap[gb]? = some (.cells #[.int .u64 ((k : Int) + 1), .int .u64 np, .int .i64 sj] 53 (0, 0)))) (fun _ c _ => lx.length - (RowKit.intOf c).toNat)
              case atStart => exact ⟨0, by omega, by rw [HO.out], rfl, SA, HBX⟩
              case round =>
                obtain ⟨i, hi, rfl, rfl, SA, HBX⟩ := hrel
                have hcb := blk_cell HBX.out
                have hcg := blk_cell SA.out.L.box
                by_cases hil : i < lx.length
                · have t2 : decide ((i : Int) < (lx.length : Int)) = true := decide_eq_true (by omega)
                  have hget := latest_Votes_Get.calls AV cV lv (i : Int) _ _ wr (Kd.R_reads' SA.out.V).2.2 (by have h := (Kd.R_reads' SA.out.V).2.1; have := HLL.out; omega) (get_f lv i (by rw [HLL.out]; exact hil))
                  rw [HLL.out] at hget
                  obtain ⟨ax, hax, d6⟩ := Kd.at_int SA.out.L.hx (i : Int) (by omega) (by omega)
                  rw [Int.toNat_natCast] at d6
                  subst hax
                  have HBL := Aside0.mk (bal_is lx HP.out i hil)
                  cases hv : voteOf lv i with
                  | none =>
                    rw [hv] at hget
                    simp only at hget
                    have HN := Aside0.mk (ownAcc_no lx s3 b3 t lv ((k : Int) + 1) i (by rw [hv]; simp))
                    have HGT := Aside0.mk hget
                    clear hget hv
                    go_wp2_with (go_at_call 22; refine HGT.out.mono ?_; rintro e w7 ⟨rfl, hd⟩; have SA7 := Aside0.mk (SA.out.below (drawn_below hd)); have HB7 := Aside0.mk (blk_below HBX.out (drawn_below hd)); clear hd)
                    go_roundw
                    case rel => exact ⟨i + 1, by omega, by rw [HN.out], by go_num, SA7, HB7⟩
                    case measure => simp [RowKit.intOf]; omega
                  | some r =>
                    rw [hv] at hget
                    simp only at hget
                    have HGT := Aside0.mk hget
                    by_cases hr : r = (k : Int) + 1
                    · have t3 : (r == (k : Int) + 1) = true := by simp [hr]
                      have HN : Aside0 (IntKind.u64.wrap (ownAcc lx s3 b3 t lv ((k : Int) + 1) i + rd lx (i : Int)) = ownAcc lx s3 b3 t lv ((k : Int) + 1) (i + 1)) := ⟨by rw [← HBL.out]; exact ownAcc_yes lx s3 b3 t lv _ i (by rw [hv, hr])⟩
                      clear hget hv hr
                      go_wp2_with (go_at_call 22; refine HGT.out.mono ?_; rintro e w7 ⟨rfl, hd⟩; have SA7 := Aside0.mk (SA.out.below (drawn_below hd)); have HB7 := Aside0.mk (blk_below HBX.out (drawn_below hd)); have hcb7 := blk_cell HB7.out; have hcg7 := blk_cell SA7.out.L.box; obtain ⟨ax', hax', d7⟩ := Kd.at_int SA7.out.L.hx (i : Int) (by omega) (by omega); injection hax' with hax'; subst hax'; rw [Int.toNat_natCast] at d7; clear hd)
                      go_roundw
                      case rel => exact ⟨i + 1, by omega, by rw [← HN.out], by go_num, SA7, HB7⟩
                      case measure => simp [RowKit.intOf]; omega
                    · have t3 : (r == (k : Int) + 1) = false := by simp [hr]
                      have HN := Aside0.mk (ownAcc_no lx s3 b3 t lv ((k : Int) + 1) i (by rw [hv]; intro e; injection e with e; exact hr e))
                      clear hget hv hr
                      go_wp2_with (go_at_call 22; refine HGT.out.mono ?_; rintro e w7 ⟨rfl, hd⟩; have SA7 := Aside0.mk (SA.out.below (drawn_below hd)); have HB7 := Aside0.mk (blk_below HBX.out (drawn_below hd)); have hcb7 := blk_cell HB7.out; clear hd)
                      go_roundw
                      case rel => exact ⟨i + 1, by omega, by rw [HN.out], by go_num, SA7, HB7⟩
                      case measure => simp [RowKit.intOf]; omega
                · have t2 : decide ((i : Int) < (lx.length : Int)) = false := decide_eq_false (by omega)
                  obtain rfl : i = lx.length := by omega
                  have hfin := HAL.out
                  rw [HLL.out] at hfin
                  have HFI := Aside0.mk hfin
                  clear hfin
                  go_wp2_with (go_at_call 14; with_reducible refine (weight_at SA.out.L SA.out.V HLV.out HW.out 0 ((k : Int) + 1) K0.out KR.out).mono ?_; rw [HFI.out]; rintro x w6 ⟨rfl, hb⟩; have SA6 := Aside0.mk (SA.out.below hb); clear hb)
                  go_roundw
                  case rel => exact ⟨k + 1, by omega, by go_num, SA6⟩
                  case measure => simp [RowKit.intOf]; omega
        · have t0 : decide ((k : Int) < (m.length : Int)) = false := decide_eq_false (by omega)
          go_wp2_with fail
          go_ret
          exact ⟨rfl, SA.out.bel⟩

/-- The same, of arguments as they are opened. -/
theorem weightSum_args {A0 A1 A2 : Option Addr} {n0 c0 n1 c1 n2 c2 : Nat} {z0 z1 z2 : List Int} {sl bo : Int} {w : World} (g0 : Open.ConfigArg w A0 n0 c0 z0 sl bo) (g1 : Open.IntsArg w .u8 1 A1 n1 c1 z1) (g2 : Open.IntsArg w .u8 1 A2 n2 c2 z2) :
    Calls Try.prog 8 #[.agg #[.slice A0 n0 c0, .int .i64 sl, .int .i64 bo], .slice A1 n1 c1, .slice A2 n2 c2] w fun x w' => x = .returned (.bool true) ∧ Below w.heap.size w w' :=
  weightSum_law A0 n0 c0 z0 sl bo A1 n1 c1 z1 A2 n2 c2 z2 w (Kd.C_of_reads (d := (0 : Int)) (h1 := fun _ => rfl) g0.row.reads) g0.row.le (by have := g0.row.size; omega) (bd_i64 g0.ws) (bd_i64 g0.wb) (fun z hz => (bd_u64 (g0.row.wf z hz)).1) g1.reads (fun z hz => bd_u8 (g1.wf z hz)) g2.reads (fun z hz => bd_u8 (g2.wf z hz))
end Go.Proofs.Ytmdkkojchiiaeaa.QW
