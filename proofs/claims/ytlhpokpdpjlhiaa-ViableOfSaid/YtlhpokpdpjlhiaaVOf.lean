/-
  The law ViableOf of package psephoslaw13: which blocks may lead to the head is what the document says, block by block.
-/
import Derived.Test.YtlhpokpdpjlhiaaMay
namespace Go.Proofs.Ytlhpokpdpjlhiaa.QI
open Go.RowKit Go.Maps Go.Proofs.YtlhpokpdpjlhiaaW.PrintWords Go.Proofs.Ytlhpokpdpjlhiaa.Tree Go.Proofs.Ytlhpokpdpjlhiaa.Own
set_option linter.unusedVariables false
set_option maxRecDepth 100000

/-- Between two rounds. -/
structure OfAt (w : World) (kb gv S q : Nat) (Am : Option Addr) (m : List S39) (l : List Int) (src : Int → Int) (je fr ep : Int) (wr : World) : Prop where
  row : Kd.C k39 wr Am m.length m
  out : OutAt wr kb l
  src : SrcBlk wr S q src
  box : wr.heap[gv]? = some (.cells #[.int .i64 je, .int .u64 1, .int .i64 0, .int .u64 fr, .int .i64 ep, .map (some S)] 34 (0, 0))
  bel : Below w.heap.size w wr
theorem OfAt.below {w : World} {kb gv S q : Nat} {Am : Option Addr} {m : List S39} {l : List Int} {src : Int → Int} {je fr ep : Int} {wr w' : World} (h : OfAt w kb gv S q Am m l src je fr ep wr) (hb : Below wr.heap.size wr w') : OfAt w kb gv S q Am m l src je fr ep w' :=
  ⟨Kd.C_below h.row hb, h.out.below hb, h.src.below hb, (hb.block _ (Array.getElem?_eq_some_iff.1 h.box).1).trans h.box, h.bel.trans (hb.mono h.bel.size)⟩
set_option maxHeartbeats 16000000 in
theorem viableOf_law (A : Option Addr) (n c0 : Nat) (zs : List Int) (a1 a2 a3 : Int) (A4 : Option Addr) (n4 c4 : Nat) (z4 : List Int) (w : World) (h : ReadsInt w .u8 A n zs) (hz : ∀ z ∈ zs, 0 ≤ z ∧ z ≤ 255) (h1 : 0 ≤ a1 ∧ a1 ≤ 255) (h2 : 0 ≤ a2 ∧ a2 ≤ 255) (h3 : 0 ≤ a3 ∧ a3 ≤ 255) (h4 : ReadsInt w .u8 A4 n4 z4) (hz4 : ∀ z ∈ z4, 0 ≤ z ∧ z ≤ 255) :
    Calls Try.prog 3 #[.slice A n c0, .int .u8 a1, .int .u8 a2, .int .u8 a3, .slice A4 n4 c4] w fun e w' => e = .returned (.bool true) ∧ Below w.heap.size w w' := by
  have H := Aside0.mk h
  have HZ := Aside0.mk hz
  have HA := Aside0.mk (And.intro h1 (And.intro h2 h3))
  have H4 := Aside0.mk h4
  have HZ4 := Aside0.mk hz4
  clear h hz h1 h2 h3 h4 hz4
  go_enter Try.func3, Try.ntmps3
  go_wp2_with fail
  go_at_call 9
  refine (vawake_calls w).mono ?_
  rintro e w0 ⟨rfl, hb⟩
  have HB0 := Aside0.mk hb
  have H1 := Aside0.mk (H.out.below hb)
  clear hb H
  go_wp2_with fail
  go_at_call 10
  refine (made_calls A n c0 zs w0 H1.out HZ.out).mono ?_
  rintro e w1 ⟨p, B, v, t, m, rfl, hM, hR, hrow, hb, hp, hB⟩
  obtain ⟨Am, cm, rfl⟩ := Kd.R_slice hrow
  have HLW := Aside0.mk (rel_low hR)
  have HR := Aside0.mk hR
  have HM1 := Aside0.mk hM
  have HB1 := Aside0.mk (HB0.out.trans (hb.mono HB0.out.size))
  have HC := Aside0.mk (Kd.R_reads' hrow).2.2
  have HCM := Aside0.mk (Kd.R_reads' hrow).2.1
  have HML := Aside0.mk hR.len
  clear hM hR hrow hb hp hB
  go_wp2_with fail
  go_at_call 11
  refine (view_calls Am cm m t A4 n4 c4 z4 a1 a2 a3 w1 HR.out HC.out (H4.out.below HB1.out) HZ4.out HA.out.1 HA.out.2.1 HA.out.2.2).mono ?_
  rintro e w2 ⟨S, rfl, hS, ⟨q, hsrc⟩, hb⟩
  obtain ⟨je, hje⟩ : ∃ x, a1 % 6 = x := ⟨_, rfl⟩
  obtain ⟨fr, hfr⟩ : ∃ x, a2 % (m.length : Int) + 1 = x := ⟨_, rfl⟩
  obtain ⟨ep, hep⟩ : ∃ x, a3 % 9 = x := ⟨_, rfl⟩
  have HFR : Aside0 (0 ≤ fr ∧ fr ≤ 18446744073709551615) := ⟨by
    have hl := HML.out
    have hp := HR.out.chain.pos
    have hs := HR.out.chain.small
    have := Int.emod_nonneg a2 (show (m.length : Int) ≠ 0 by omega)
    have := Int.emod_lt_of_pos a2 (show (0 : Int) < (m.length : Int) by omega)
    omega⟩
  rw [hje, hfr, hep]
  obtain ⟨src, hsr⟩ : ∃ s, srcV z4 m.length n4 = s := ⟨_, rfl⟩
  rw [hsr] at hsrc
  have HM2 := Aside0.mk (HM1.out.below hb)
  have HC2 := Aside0.mk (Kd.C_below HC.out hb)
  have HB2 := Aside0.mk (HB1.out.trans (hb.mono HB1.out.size))
  have HS := Aside0.mk hsrc
  clear hS hsrc hb hje hfr hep hsr
  go_wp2_with fail
  obtain ⟨w3, hw3⟩ : ∃ w3, w2.alloc (.cells #[.int .i64 je, .int .u64 1, .int .i64 0, .int .u64 fr, .int .i64 ep, .map (some S)] 34) = w3 := ⟨_, rfl⟩
  obtain ⟨gv, hgv⟩ : ∃ g, w2.heap.size = g := ⟨_, rfl⟩
  have HV : Aside0 (w3.heap[gv]? = some (.cells #[.int .i64 je, .int .u64 1, .int .i64 0, .int .u64 fr, .int .i64 ep, .map (some S)] 34 (0, 0))) := ⟨by rw [← hw3, ← hgv]; exact new_block _ _⟩
  have hb : Below w2.heap.size w2 w3 := by rw [← hw3]; exact below_alloc (Below.refl _ _) _
  have HM3 := Aside0.mk (HM2.out.below hb)
  have HC3 := Aside0.mk (Kd.C_below HC2.out hb)
  have HB3 := Aside0.mk (HB2.out.trans (hb.mono HB2.out.size))
  have HS3 := Aside0.mk (HS.out.below hb)
  rw [hw3]
  try rw [hgv]
  clear hw3 hgv hb HM2 HC2 HB2 HS
  obtain ⟨bx0, bx1, bx2, bx3, bx4, bx5⟩ := cells6 HV.out
  go_wp2_with fail
  go_at_call 12
  refine (vof_calls p B t je 1 0 fr ep (.map (some S)) src w3 HLW.out HFR.out HM3.out (HS3.out.at_ (by have := HS3.out.lt; omega))).mono ?_
  rintro e w5 ⟨kb, rfl, hmo⟩
  obtain ⟨l, hob, hmb⟩ := hmo.out
  obtain ⟨lf, hlf⟩ : ∃ lf, lfOf t je fr ep src = lf := ⟨_, rfl⟩
  rw [hlf] at hmb
  have HLF := Aside0.mk hlf
  have HMB := Aside0.mk hmb
  have HCN : Aside0 ((l.length : Int) = ((cnt (may t lf) m.length : Nat) : Int)) := ⟨by rw [cnt_is HR.out hob.1 hmb, HML.out]⟩
  have HU : Aside0 (OfAt w kb gv S q Am m l src je fr ep w5) := ⟨⟨Kd.C_below HC3.out hmo.bel, hob, HS3.out.below hmo.bel, (hmo.bel.block _ (Array.getElem?_eq_some_iff.1 HV.out).1).trans HV.out, HB3.out.trans (hmo.bel.mono HB3.out.size)⟩⟩
  clear hmo hob hmb hlf bx0 bx1 bx2 bx3 bx4 bx5
  go_wp2_with fail
  have hml : (m.length : Int) ≤ 31 := by have h1 := HML.out; have h2 := HR.out.chain.small; omega
  have HMZ := Aside0.mk hml
  clear hml
  go_loopw [15, 37] (fun v15 v37 wr => ∃ k : Nat, k ≤ m.length ∧ v37 = .int .i64 k ∧ v15 = .int .i64 ((cnt (may t lf) k : Nat) : Int) ∧ Aside0 (OfAt w kb gv S q Am m l src je fr ep wr)) (fun _ v37 _ => m.length - (RowKit.intOf v37).toNat)
  case atStart => exact ⟨0, by omega, rfl, rfl, HU⟩
  case round =>
    obtain ⟨k, hk, rfl, rfl, HU⟩ := hrel
    by_cases hlt : k < m.length
    · have t0 : decide ((k : Int) < (m.length : Int)) = true := decide_eq_true (by omega)
      have hwk : wrap64 ((k : Int) + 1) = ((k + 1 : Nat) : Int) := by have := HMZ.out; unfold wrap64; omega
      have HWK := Aside0.mk hwk
      obtain ⟨am, hAM, e0, e1, e2⟩ := at_T39 HU.out.row (k : Int) (Int.natCast_nonneg k) (Int.ofNat_lt.2 hlt)
      subst hAM
      have hkn : k < t.ns.length := by rw [← HML.out]; exact hlt
      rw [Int.toNat_natCast] at e0 e1 e2
      rw [rd_model HR.out k hkn] at e0 e1 e2
      have hnd : toS t.ns[k] = ⟨(k : Int) + 1, pOf t k, t.ns[k].s⟩ := by unfold toS; rw [HR.out.chain.root k hkn, pOf_is HR.out k hkn]
      rw [hnd] at e0 e1 e2
      simp only at e0 e1 e2
      obtain ⟨np, hnp⟩ : ∃ np, pOf t k = np := ⟨_, rfl⟩
      obtain ⟨sj, hsj⟩ : ∃ sj, t.ns[k].s = sj := ⟨_, rfl⟩
      rw [hnp] at e1
      rw [hsj] at e2
      have HKR : Aside0 ((0 : Int) ≤ (k : Int) + 1 ∧ (k : Int) + 1 ≤ 18446744073709551615) := ⟨by have := HMZ.out; omega⟩
      have hbn : Below wr.heap.size wr (wr.alloc (.cells #[.int .u64 ((k : Int) + 1), .int .u64 np, .int .i64 sj] 39)) := below_alloc (Below.refl _ _) _
      have HU1 := Aside0.mk (HU.out.below hbn)
      obtain ⟨W, hW⟩ : ∃ W, wr.alloc (.cells #[.int .u64 ((k : Int) + 1), .int .u64 np, .int .i64 sj] 39) = W := ⟨_, rfl⟩
      have HX : Aside0 (W.heap[wr.heap.size]? = some (.cells #[.int .u64 ((k : Int) + 1), .int .u64 np, .int .i64 sj] 39 (0, 0))) := ⟨by rw [← hW]; exact new_block _ _⟩
      rw [hW] at HU1
      obtain ⟨bx0, bx1, bx2, bx3, bx4, bx5⟩ := cells6 HU1.out.box
      have x9 : W.cell? ⟨wr.heap.size, 0, none⟩ = some (.int .u64 ((k : Int) + 1)) := by simp [World.cell?, HX.out]
      obtain ⟨b1, hb1⟩ : ∃ b, may t lf ((k : Int) + 1) = b := ⟨_, rfl⟩
      have HI : Aside0 (decide (((k : Int) + 1) ∈ l) = b1) := ⟨by
        rw [← hb1]
        have hh := (rel_has HR.out ((k : Int) + 1)).2 (by omega)
        cases hm : may t lf ((k : Int) + 1) with
        | true => exact decide_eq_true ((HMB.out _).2 ⟨hh, hm⟩)
        | false => exact decide_eq_false (fun e => by have := ((HMB.out _).1 e).2; rw [hm] at this; cases this)⟩
      have HN1 : Aside0 (cnt (may t lf) (k + 1) = cnt (may t lf) k + (if b1 = true then 1 else 0)) := ⟨by rw [← hb1]; rfl⟩
      have HB1 := Aside0.mk hb1
      have hcw : wrap64 (((cnt (may t lf) k : Nat) : Int) + 1) = ((cnt (may t lf) k + 1 : Nat) : Int) := by have h1 := HMZ.out; have h2 := cnt_le (may t lf) k; unfold wrap64; omega
      have HCW := Aside0.mk hcw
      clear hwk hnd hsj hnp hcw hkn hbn
      go_wp2_with fail
      go_at_call 13
      refine (mayg_calls (some am) cm S q m t je fr ep src HR.out HCM.out HFR.out m.length k W hlt (by omega) HU1.out.row HU1.out.src).mono ?_
      rw [HLF.out, hb1]
      rintro e w6 ⟨rfl, hb⟩
      have HU2 := Aside0.mk (HU1.out.below hb)
      have hx := (hb.block _ (Array.getElem?_eq_some_iff.1 HX.out).1).trans HX.out
      have x0 : w6.cell? ⟨wr.heap.size, 0, none⟩ = some (.int .u64 ((k : Int) + 1)) := by simp [World.cell?, hx]
      clear hb hb1 hW x9 bx0 bx1 bx2 bx3 bx4 bx5 hx e0 e1 e2
      cases b1
      · go_wp2_with (at_lookup; refine out_look HU2.out.out rfl _ _ rfl rfl ((k : Int) + 1) rfl HKR.out ?_; rw [HI.out])
        go_roundw
        case rel => exact ⟨k + 1, by omega, by rw [HWK.out], by rw [HN1.out]; rfl, HU2⟩
        case measure => rw [HWK.out]; simp [RowKit.intOf]; omega
      · go_wp2_with (at_lookup; refine out_look HU2.out.out rfl _ _ rfl rfl ((k : Int) + 1) rfl HKR.out ?_; rw [HI.out])
        go_roundw
        case rel => exact ⟨k + 1, by omega, by rw [HWK.out], by rw [HN1.out, HCW.out]; rfl, HU2⟩
        case measure => rw [HWK.out]; simp [RowKit.intOf]; omega
    · have t0 : decide ((k : Int) < (m.length : Int)) = false := decide_eq_false (by omega)
      obtain rfl : k = m.length := by omega
      go_wp2_with (at_len; refine out_size HU.out.out rfl _ rfl rfl ?_; rw [HCN.out])
      go_ret
      exact ⟨by simp, HU.out.bel⟩
end Go.Proofs.Ytlhpokpdpjlhiaa.QI
