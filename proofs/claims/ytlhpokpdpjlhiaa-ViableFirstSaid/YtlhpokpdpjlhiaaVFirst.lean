/-
  The law ViableFirst of package psephoslaw13: while nothing but the first block is justified all blocks may.
-/
import Derived.Test.YtlhpokpdpjlhiaaView
namespace Go.Proofs.Ytlhpokpdpjlhiaa.QI
open Go.RowKit Go.Maps Go.Proofs.YtlhpokpdpjlhiaaW.PrintWords Go.Proofs.Ytlhpokpdpjlhiaa.Tree Go.Proofs.Ytlhpokpdpjlhiaa.Own
set_option linter.unusedVariables false
set_option maxRecDepth 100000

theorem first_lf {t : T} {m : List S39} (R : Rel t m) (ep : Int) (src : Int → Int) (r : Int) (hr : Tree.has t.ns r = true) : lfOf t (0 % 6) (0 % (m.length : Int) + 1) ep src r = true := by
  have h2 : below t r 1 = true := by
    have := (below_all (rel_low R) r).2 hr
    rw [R.first] at this
    exact this
  unfold lfOf
  rw [Int.zero_emod, Int.zero_emod, show (0 : Int) + 1 = 1 from rfl, h2]
  simp
set_option maxHeartbeats 16000000 in
theorem viableFirst_law (A : Option Addr) (n c0 : Nat) (zs : List Int) (a1 : Int) (A2 : Option Addr) (n2 c2 : Nat) (z2 : List Int) (w : World) (h : ReadsInt w .u8 A n zs) (hz : ∀ z ∈ zs, 0 ≤ z ∧ z ≤ 255) (h1 : 0 ≤ a1 ∧ a1 ≤ 255) (h2 : ReadsInt w .u8 A2 n2 z2) (hz2 : ∀ z ∈ z2, 0 ≤ z ∧ z ≤ 255) :
    Calls Try.prog 5 #[.slice A n c0, .int .u8 a1, .slice A2 n2 c2] w fun e w' => e = .returned (.bool true) ∧ Below w.heap.size w w' := by
  have H := Aside0.mk h
  have HZ := Aside0.mk hz
  have HA := Aside0.mk h1
  have H2 := Aside0.mk h2
  have HZ2 := Aside0.mk hz2
  clear h hz h1 h2 hz2
  go_enter Try.func5, Try.ntmps5
  go_wp2_with fail
  go_at_call 9
  refine (vawake_calls w).mono ?_
  rintro e w0 ⟨rfl, hb⟩
  have HB0 := Aside0.mk hb
  have H1 := Aside0.mk (H.out.below hb)
  clear hb H
  go_wp2_with fail
  go_at_call 10
  refine (made_calls A n c0 zs w0 H1.out HZ.out).mono ?_
  rintro e w1 ⟨p, B, v, t, m, rfl, hM, hR, hrow, hb, hp, hB⟩
  obtain ⟨Am, cm, rfl⟩ := Kd.R_slice hrow
  have HLW := Aside0.mk (rel_low hR)
  have HR := Aside0.mk hR
  have HM1 := Aside0.mk hM
  have HB1 := Aside0.mk (HB0.out.trans (hb.mono HB0.out.size))
  have HC := Aside0.mk (Kd.R_reads' hrow).2.2
  have HML := Aside0.mk hR.len
  clear hM hR hrow hb hp hB
  go_wp2_with fail
  go_at_call 11
  refine (view_calls Am cm m t A2 n2 c2 z2 0 0 a1 w1 HR.out HC.out (H2.out.below HB1.out) HZ2.out (by omega) (by omega) HA.out).mono ?_
  rintro e w2 ⟨S, rfl, hS, ⟨k, hsrc⟩, hb⟩
  have HM2 := Aside0.mk (HM1.out.below hb)
  have HB2 := Aside0.mk (HB1.out.trans (hb.mono HB1.out.size))
  have HS := Aside0.mk hsrc
  have HLF := Aside0.mk (first_lf HR.out (a1 % 9) (srcV z2 m.length n2))
  have HFR : Aside0 (0 ≤ 0 % (m.length : Int) + 1 ∧ 0 % (m.length : Int) + 1 ≤ 18446744073709551615) := ⟨by rw [Int.zero_emod]; omega⟩
  clear hS hsrc hb
  go_wp2_with fail
  go_at_call 12
  refine (vof_calls p B t (0 % 6) 1 0 (0 % (m.length : Int) + 1) (a1 % 9) (.map (some S)) (srcV z2 m.length n2) w2 HLW.out HFR.out HM2.out (HS.out.at_ (by have := HS.out.lt; omega))).mono ?_
  rintro e w5 ⟨kb, rfl, hmo⟩
  obtain ⟨lb, hob, hmb⟩ := hmo.out
  have HO := Aside0.mk hob
  have HB5 := Aside0.mk (HB2.out.trans (hmo.bel.mono HB2.out.size))
  have HLE : Aside0 ((lb.length : Int) = (m.length : Int)) := ⟨by rw [all_len HLW.out hob.1 hmb true HLF.out, if_pos rfl, HML.out]⟩
  clear hmo hob hmb
  go_wp2_with (at_len; refine out_size HO.out rfl _ rfl rfl ?_; rw [HLE.out])
  go_ret
  exact ⟨by simp, HB5.out⟩
end Go.Proofs.Ytlhpokpdpjlhiaa.QI
