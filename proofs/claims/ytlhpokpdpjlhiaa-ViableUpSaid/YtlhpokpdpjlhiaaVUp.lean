/-
  The law ViableUp of package psephoslaw13: whatever may, all on which it stands may; whatever may has one on it that may, or none at all.
-/
import Derived.Test.YtlhpokpdpjlhiaaVUpP
namespace Go.Proofs.Ytlhpokpdpjlhiaa.QI
open Go.RowKit Go.Maps Go.Proofs.YtlhpokpdpjlhiaaW.PrintWords Go.Proofs.Ytlhpokpdpjlhiaa.Tree Go.Proofs.Ytlhpokpdpjlhiaa.Own
set_option linter.unusedVariables false
set_option maxRecDepth 100000

/-- What a kid's turn has told. -/
def isL (ks l : List Int) (j : Nat) : Bool := ks.isEmpty || (ks.take j).any (fun x => decide (x ∈ l))
theorem isL_next (ks l : List Int) (j : Nat) (h : j < ks.length) : isL ks l (j + 1) = (isL ks l j || decide (rd ks (j : Int) ∈ l)) := by
  unfold isL
  rw [List.take_succ_eq_append_getElem h, List.any_append]
  have : rd ks (j : Int) = ks[j] := by simp [rd, List.getD_eq_getElem?_getD, h]
  rw [this]
  simp only [List.any_cons, List.any_nil, Bool.or_false]
  rw [Bool.or_assoc]
/-- Between two rounds. -/
structure UpAt (w : World) (p B kb : Nat) (t : T) (Am : Option Addr) (m : List S39) (l : List Int) (wr : World) : Prop where
  mem : Mem wr p B t
  row : Kd.C k39 wr Am m.length m
  out : OutAt wr kb l
  bel : Below w.heap.size w wr
set_option maxHeartbeats 16000000 in
theorem viableUp_law (A : Option Addr) (n c0 : Nat) (zs : List Int) (a1 a2 a3 : Int) (A4 : Option Addr) (n4 c4 : Nat) (z4 : List Int) (w : World) (h : ReadsInt w .u8 A n zs) (hz : ∀ z ∈ zs, 0 ≤ z ∧ z ≤ 255) (h1 : 0 ≤ a1 ∧ a1 ≤ 255) (h2 : 0 ≤ a2 ∧ a2 ≤ 255) (h3 : 0 ≤ a3 ∧ a3 ≤ 255) (h4 : ReadsInt w .u8 A4 n4 z4) (hz4 : ∀ z ∈ z4, 0 ≤ z ∧ z ≤ 255) :
    Calls Try.prog 4 #[.slice A n c0, .int .u8 a1, .int .u8 a2, .int .u8 a3, .slice A4 n4 c4] w fun e w' => e = .returned (.bool true) ∧ Below w.heap.size w w' := by
  have H := Aside0.mk h
  have HZ := Aside0.mk hz
  have HA := Aside0.mk (And.intro h1 (And.intro h2 h3))
  have H4 := Aside0.mk h4
  have HZ4 := Aside0.mk hz4
  clear h hz h1 h2 h3 h4 hz4
  go_enter Try.func4, Try.ntmps4
  go_wp2_with fail
  go_at_call 9
  refine (vawake_calls w).mono ?_
  rintro e w0 ⟨rfl, hb⟩
  have HB0 := Aside0.mk hb
  have H1 := Aside0.mk (H.out.below hb)
  clear hb H
  go_wp2_with fail
  go_at_call 10
  refine (made_calls A n c0 zs w0 H1.out HZ.out).mono ?_
  rintro e w1 ⟨p, B, v, t, m, rfl, hM, hR, hrow, hb, hp, hB⟩
  obtain ⟨Am, cm, rfl⟩ := Kd.R_slice hrow
  have HLW := Aside0.mk (rel_low hR)
  have HR := Aside0.mk hR
  have HM1 := Aside0.mk hM
  have HB1 := Aside0.mk (HB0.out.trans (hb.mono HB0.out.size))
  have HC := Aside0.mk (Kd.R_reads' hrow).2.2
  have HML := Aside0.mk hR.len
  clear hM hR hrow hb hp hB
  go_wp2_with fail
  go_at_call 11
  refine (view_calls Am cm m t A4 n4 c4 z4 a1 a2 a3 w1 HR.out HC.out (H4.out.below HB1.out) HZ4.out HA.out.1 HA.out.2.1 HA.out.2.2).mono ?_
  rintro e w2 ⟨S, rfl, hS, ⟨k, hsrc⟩, hb⟩
  obtain ⟨je, hje⟩ : ∃ x, a1 % 6 = x := ⟨_, rfl⟩
  obtain ⟨fr, hfr⟩ : ∃ x, a2 % (m.length : Int) + 1 = x := ⟨_, rfl⟩
  obtain ⟨ep, hep⟩ : ∃ x, a3 % 9 = x := ⟨_, rfl⟩
  have HFR : Aside0 (0 ≤ fr ∧ fr ≤ 18446744073709551615) := ⟨by
    have hl := HML.out
    have hp := HR.out.chain.pos
    have hs := HR.out.chain.small
    have := Int.emod_nonneg a2 (show (m.length : Int) ≠ 0 by omega)
    have := Int.emod_lt_of_pos a2 (show (0 : Int) < (m.length : Int) by omega)
    omega⟩
  rw [hje, hfr, hep]
  have HM2 := Aside0.mk (HM1.out.below hb)
  have HC2 := Aside0.mk (Kd.C_below HC.out hb)
  have HB2 := Aside0.mk (HB1.out.trans (hb.mono HB1.out.size))
  have HS := Aside0.mk hsrc
  clear hS hsrc hb hje hfr hep
  go_wp2_with fail
  go_at_call 12
  refine (vof_calls p B t je 1 0 fr ep (.map (some S)) (srcV z4 m.length n4) w2 HLW.out HFR.out HM2.out (HS.out.at_ (by have := HS.out.lt; omega))).mono ?_
  rintro e w5 ⟨kb, rfl, hmo⟩
  obtain ⟨l, hob, hmb⟩ := hmo.out
  obtain ⟨lf, hlf⟩ : ∃ lf, lfOf t je fr ep (srcV z4 m.length n4) = lf := ⟨_, rfl⟩
  rw [hlf] at hmb
  have HMB := Aside0.mk hmb
  have HU : Aside0 (UpAt w p B kb t Am m l w5) := ⟨⟨HM2.out.below (by have := hmo.bel; exact this), Kd.C_below HC2.out hmo.bel, hob, HB2.out.trans (hmo.bel.mono HB2.out.size)⟩⟩
  clear hmo hob hmb hlf
  go_wp2_with fail
  have hml : (m.length : Int) ≤ 31 := by have h1 := HML.out; have h2 := HR.out.chain.small; omega
  have HMZ := Aside0.mk hml
  clear hml
  go_loopw [37] (fun v37 wr => ∃ k : Nat, k ≤ m.length ∧ v37 = .int .i64 k ∧ Aside0 (UpAt w p B kb t Am m l wr)) (fun v37 _ => m.length - (RowKit.intOf v37).toNat)
  case atStart => exact ⟨0, by omega, rfl, HU⟩
  case round =>
    obtain ⟨k, hk, rfl, HU⟩ := hrel
    by_cases hlt : k < m.length
    · have t0 : decide ((k : Int) < (m.length : Int)) = true := decide_eq_true (by omega)
      have hwk : wrap64 ((k : Int) + 1) = ((k + 1 : Nat) : Int) := by have := HMZ.out; unfold wrap64; omega
      have HWK := Aside0.mk hwk
      obtain ⟨am, hAM, e0, e1, e2⟩ := at_T39 HU.out.row (k : Int) (Int.natCast_nonneg k) (Int.ofNat_lt.2 hlt)
      subst hAM
      have hkn : k < t.ns.length := by rw [← HML.out]; exact hlt
      rw [Int.toNat_natCast] at e0 e1 e2
      rw [rd_model HR.out k hkn] at e0 e1 e2
      have hnd : toS t.ns[k] = ⟨(k : Int) + 1, t.ns[k].p, t.ns[k].s⟩ := by unfold toS; rw [HR.out.chain.root k hkn]
      rw [hnd] at e0 e1 e2
      simp only at e0 e1 e2
      obtain ⟨np, hnp⟩ : ∃ np, t.ns[k].p = np := ⟨_, rfl⟩
      obtain ⟨sj, hsj⟩ : ∃ sj, t.ns[k].s = sj := ⟨_, rfl⟩
      rw [hnp] at e1
      rw [hsj] at e2
      have HKR : Aside0 ((0 : Int) ≤ (k : Int) + 1 ∧ (k : Int) + 1 ≤ 18446744073709551615) := ⟨by have := HMZ.out; omega⟩
      have hbn : Below wr.heap.size wr (wr.alloc (.cells #[.int .u64 ((k : Int) + 1), .int .u64 np, .int .i64 sj] 39)) := below_alloc (Below.refl _ _) _
      have HU1 : Aside0 (UpAt w p B kb t (some am) m l (wr.alloc (.cells #[.int .u64 ((k : Int) + 1), .int .u64 np, .int .i64 sj] 39))) := ⟨⟨HU.out.mem.below hbn, Kd.C_below HU.out.row hbn, HU.out.out.below hbn, HU.out.bel.trans (hbn.mono HU.out.bel.size)⟩⟩
      clear hwk hnd hsj hbn
      by_cases hin : ((k : Int) + 1) ∈ l
      · have hg : getD t.ns ((k : Int) + 1) = t.ns[k] := getD_in HR.out.chain k hkn
        have hmy := (HMB.out _).1 hin
        have hpar : np ∈ l := by
          by_cases e : (k : Int) + 1 = t.first
          · rw [HR.out.first] at e
            obtain rfl : k = 0 := by omega
            rw [HR.out.chain.zero.1] at hnp
            rw [← hnp]
            exact hin
          · have h := may_parent HLW.out hmy.1 e hmy.2
            rw [hg, hnp] at h
            exact (HMB.out np).2 h
        have HNP : Aside0 (0 ≤ np ∧ np ≤ 18446744073709551615) := ⟨HLW.out.fit.well.wide np ((HMB.out np).1 hpar).1⟩
        have HI : Aside0 (decide (((k : Int) + 1) ∈ l) = true) := ⟨decide_eq_true hin⟩
        have HIP : Aside0 (decide (np ∈ l) = true) := ⟨decide_eq_true hpar⟩
        have HKM := Aside0.mk (may_kid HLW.out hmy.1 hmy.2)
        clear hin hg hmy hpar
        go_wp2_with (first
          | (at_lookup; refine out_look HU1.out.out rfl _ _ rfl rfl ((k : Int) + 1) rfl HKR.out ?_; rw [HI.out])
          | (at_lookup; refine out_look HU1.out.out rfl _ _ rfl rfl np rfl HNP.out ?_; rw [HIP.out]))
        refine (kids_calls p B t ((k : Int) + 1) _ HU1.out.mem HLW.out.fit.uniq HLW.out.fit.ne HLW.out.len HLW.out.fit.well.wide).mono ?_
        obtain ⟨ks, hks⟩ : ∃ ks, kidsOf t ((k : Int) + 1) = ks := ⟨_, rfl⟩
        rw [hks]
        rw [hks] at HKM
        rintro e w6 ⟨v, rfl, hRk, hb⟩
        obtain ⟨Ak, ck, rfl⟩ := Kd.R_slice hRk
        have HU2 : Aside0 (UpAt w p B kb t (some am) m l w6) := ⟨⟨HU1.out.mem.below hb, Kd.C_below HU1.out.row hb, HU1.out.out.below hb, HU1.out.bel.trans (hb.mono HU1.out.bel.size)⟩⟩
        have HCK := Aside0.mk (Kd.R_reads' hRk).2.2
        have hkl : ks.length ≤ 4096 := by
          rw [← hks]
          unfold kidsOf
          have h1 := List.length_filter_le (fun x => decide (x ≠ t.first) && decide ((getD t.ns x).p = (k : Int) + 1)) (rootsOf t.ns)
          rw [roots_length] at h1
          have := HLW.out.len
          omega
        have HKL := Aside0.mk hkl
        have HKH : Aside0 (∀ x ∈ ks, Tree.has t.ns x = true) := ⟨fun x hx => (HLW.out.kid (by rw [hks]; exact hx)).1⟩
        have HE : Aside0 (((ks.length : Int) == 0) = (isL ks l 0)) := ⟨by unfold isL; cases ks <;> simp; omega⟩
        clear hb hRk hkl hks
        go_wp2_with fail
        rw [HE.out]
        go_loopw [17, 60] (fun v17 v60 wr => ∃ j : Nat, j ≤ ks.length ∧ v60 = .int .i64 j ∧ v17 = .bool (isL ks l j) ∧ Aside0 (UpAt w p B kb t (some am) m l wr) ∧ Aside0 (Kd.C (Kd.int .u64) wr Ak ks.length ks)) (fun _ v60 _ => ks.length - (RowKit.intOf v60).toNat)
        case atStart => exact ⟨0, by omega, rfl, rfl, HU2, HCK⟩
        case round =>
          obtain ⟨j, hj, rfl, rfl, HU2, HCK⟩ := hrel
          by_cases hjl : j < ks.length
          · have t1 : decide ((j : Int) < (ks.length : Int)) = true := decide_eq_true (by omega)
            have hwj : wrap64 ((j : Int) + 1) = ((j + 1 : Nat) : Int) := by have := HKL.out; unfold wrap64; omega
            have HWJ := Aside0.mk hwj
            obtain ⟨ad, rfl, hc⟩ := Kd.at_int HCK.out (j : Int) (Int.natCast_nonneg j) (Int.ofNat_lt.2 hjl)
            rw [Int.toNat_natCast] at hc
            have hnx := isL_next ks l j hjl
            have hqm : rd ks (j : Int) ∈ ks := by
              have : rd ks (j : Int) = ks[j] := by simp [rd, List.getD_eq_getElem?_getD, hjl]
              rw [this]
              exact List.getElem_mem hjl
            have HQ := Aside0.mk (HLW.out.fit.well.wide _ (HKH.out _ hqm))
            obtain ⟨b0, hb0⟩ : ∃ b, isL ks l j = b := ⟨_, rfl⟩
            rw [hb0] at hnx
            rw [hb0]
            have HNX := Aside0.mk hnx
            clear hwj hnx hqm hb0
            cases b0
            · go_wp2_with (at_lookup; refine out_look HU2.out.out rfl _ _ rfl rfl (rd ks (j : Int)) rfl HQ.out ?_)
              go_roundw
              case rel => exact ⟨j + 1, by omega, by rw [HWJ.out], by rw [HNX.out]; simp, HU2, HCK⟩
              case measure => rw [HWJ.out]; simp [RowKit.intOf]; omega
            · go_wp2_with fail
              go_roundw
              case rel => exact ⟨j + 1, by omega, by rw [HWJ.out], by rw [HNX.out]; simp, HU2, HCK⟩
              case measure => rw [HWJ.out]; simp [RowKit.intOf]; omega
          · have t1 : decide ((j : Int) < (ks.length : Int)) = false := decide_eq_false (by omega)
            obtain rfl : j = ks.length := by omega
            have HLA : Aside0 (isL ks l ks.length = true) := ⟨by
              unfold isL
              rw [List.take_length, ← HKM.out]
              congr 1
              exact any_same fun x hx => by
                have h1 := HKH.out x hx
                cases hm : may t lf x with
                | true => exact decide_eq_true ((HMB.out x).2 ⟨h1, hm⟩)
                | false => exact decide_eq_false (fun e => by have := ((HMB.out x).1 e).2; rw [hm] at this; cases this)⟩
            rw [HLA.out]
            go_wp2_with fail
            go_roundw
            case rel => exact ⟨k + 1, by omega, by rw [HWK.out], HU2⟩
            case measure => rw [HWK.out]; simp [RowKit.intOf]; omega
      · have HI : Aside0 (decide (((k : Int) + 1) ∈ l) = false) := ⟨decide_eq_false hin⟩
        clear hin
        go_wp2_with (at_lookup; refine out_look HU1.out.out rfl _ _ rfl rfl ((k : Int) + 1) rfl HKR.out ?_; rw [HI.out])
        go_roundw
        case rel => exact ⟨k + 1, by omega, by rw [HWK.out], HU1⟩
        case measure => rw [HWK.out]; simp [RowKit.intOf]; omega
    · have t0 : decide ((k : Int) < (m.length : Int)) = false := decide_eq_false (by omega)
      go_wp2_with fail
      go_ret
      exact ⟨rfl, HU.out.bel⟩
end Go.Proofs.Ytlhpokpdpjlhiaa.QI
