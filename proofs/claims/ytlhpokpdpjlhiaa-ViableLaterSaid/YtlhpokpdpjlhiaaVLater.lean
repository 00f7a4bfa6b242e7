/-
  The law ViableLater of package psephoslaw13: when time goes by no block may lead on that might not ahead.
-/
import Derived.Test.YtlhpokpdpjlhiaaMayP
import Derived.Maps.RangeWalk
import Derived.Deep.RegionHeld3
namespace Go.Proofs.Ytlhpokpdpjlhiaa.QI
open Go.RowKit Go.Maps Go.Proofs.YtlhpokpdpjlhiaaW.PrintWords Go.Proofs.Ytlhpokpdpjlhiaa.Tree Go.Proofs.Ytlhpokpdpjlhiaa.Own
set_option linter.unusedVariables false
set_option maxRecDepth 100000

/-- The two views and what they stand on. -/
structure LatAt (w : World) (p B gv gw S q : Nat) (t : T) (src : Int → Int) (je fr ep ep' : Int) (wr : World) : Prop where
  mem : Mem wr p B t
  src : SrcBlk wr S q src
  bv : wr.heap[gv]? = some (.cells #[.int .i64 je, .int .u64 1, .int .i64 0, .int .u64 fr, .int .i64 ep, .map (some S)] 34 (0, 0))
  bw : wr.heap[gw]? = some (.cells #[.int .i64 je, .int .u64 1, .int .i64 0, .int .u64 fr, .int .i64 ep', .map (some S)] 34 (0, 0))
  bel : Below w.heap.size w wr
theorem LatAt.below {w : World} {p B gv gw S q : Nat} {t : T} {src : Int → Int} {je fr ep ep' : Int} {wr w' : World} (h : LatAt w p B gv gw S q t src je fr ep ep' wr) (hb : Below wr.heap.size wr w') : LatAt w p B gv gw S q t src je fr ep ep' w' :=
  ⟨h.mem.below hb, h.src.below hb, (hb.block _ (Array.getElem?_eq_some_iff.1 h.bv).1).trans h.bv, (hb.block _ (Array.getElem?_eq_some_iff.1 h.bw).1).trans h.bw, h.bel.trans (hb.mono h.bel.size)⟩
theorem LatAt.held {w : World} {p B gv gw S q : Nat} {t : T} {src : Int → Int} {je fr ep ep' : Int} {wr : World} (h : LatAt w p B gv gw S q t src je fr ep ep' wr) :
    wr.cell? ⟨gv, 0, none⟩ = some (.int .i64 je) ∧ wr.cell? ⟨gv, 1, none⟩ = some (.int .u64 1) ∧ wr.cell? ⟨gv, 2, none⟩ = some (.int .i64 0) ∧ wr.cell? ⟨gv, 3, none⟩ = some (.int .u64 fr) ∧ wr.cell? ⟨gv, 4, none⟩ = some (.int .i64 ep) ∧ wr.cell? ⟨gv, 5, none⟩ = some (.map (some S)) ∧
    wr.cell? ⟨gw, 0, none⟩ = some (.int .i64 je) ∧ wr.cell? ⟨gw, 1, none⟩ = some (.int .u64 1) ∧ wr.cell? ⟨gw, 2, none⟩ = some (.int .i64 0) ∧ wr.cell? ⟨gw, 3, none⟩ = some (.int .u64 fr) ∧ wr.cell? ⟨gw, 4, none⟩ = some (.int .i64 ep') ∧ wr.cell? ⟨gw, 5, none⟩ = some (.map (some S)) := by
  obtain ⟨v0, v1, v2, v3, v4, v5⟩ := cells6 h.bv
  obtain ⟨x0, x1, x2, x3, x4, x5⟩ := cells6 h.bw
  exact ⟨v0, v1, v2, v3, v4, v5, x0, x1, x2, x3, x4, x5⟩
theorem outAt_grown {w w' : World} {k : Nat} {row : Option Nat} {l : List Int} (h : OutAt w k l) (hg : w.grownBy w' row) (hne : some k ≠ row) : OutAt w' k l := by
  obtain ⟨hn, n, D, ⟨es, clock, h1, h2⟩, h3⟩ := h
  exact ⟨hn, n, D, ⟨es, clock, (hg.block k (Array.getElem?_eq_some_iff.1 h1).1 hne).trans h1, h2⟩, h3⟩
theorem keyOf_u64 {key : Value} {kl : Lit} (h : keyOf Try.prog 29 key = some kl) : ∃ x : Int, key = .int .u64 x ∧ kl = .int .u64 x ∧ (Lit.int .u64 x).wf = true := by
  cases key <;> simp [keyOf, Try.underlying29, mapKey] at h
  rename_i q a
  obtain ⟨⟨rfl, hw⟩, rfl⟩ := h
  exact ⟨a, rfl, rfl, hw⟩
theorem u64_bd {x : Int} (h : (Lit.int .u64 x).wf = true) : 0 ≤ x ∧ x ≤ 18446744073709551615 := by
  have h1 : IntKind.u64.min = 0 := by decide
  have h2 : IntKind.u64.max = 18446744073709551615 := by decide
  simpa [Lit.wf, h1, h2] using h
set_option maxHeartbeats 16000000 in
theorem viableLater_law (A : Option Addr) (n c0 : Nat) (zs : List Int) (a1 a2 : Int) (A4 : Option Addr) (n4 c4 : Nat) (z4 : List Int) (w : World) (h : ReadsInt w .u8 A n zs) (hz : ∀ z ∈ zs, 0 ≤ z ∧ z ≤ 255) (h1 : 0 ≤ a1 ∧ a1 ≤ 255) (h2 : 0 ≤ a2 ∧ a2 ≤ 255) (h4 : ReadsInt w .u8 A4 n4 z4) (hz4 : ∀ z ∈ z4, 0 ≤ z ∧ z ≤ 255) :
    Calls Try.prog 7 #[.slice A n c0, .int .u8 a1, .int .u8 a2, .slice A4 n4 c4] w fun e w' => e = .returned (.bool true) ∧ Below w.heap.size w w' := by
  have H := Aside0.mk h
  have HZ := Aside0.mk hz
  have HA := Aside0.mk (And.intro h1 h2)
  have H4 := Aside0.mk h4
  have HZ4 := Aside0.mk hz4
  clear h hz h1 h2 h4 hz4
  go_enter Try.func7, Try.ntmps7
  go_wp2_with fail
  go_at_call 9
  refine (vawake_calls w).mono ?_
  rintro e w0 ⟨rfl, hb⟩
  have HB0 := Aside0.mk hb
  have H1 := Aside0.mk (H.out.below hb)
  clear hb H
  go_wp2_with fail
  go_at_call 10
  refine (made_calls A n c0 zs w0 H1.out HZ.out).mono ?_
  rintro e w1 ⟨p, B, v, t, m, rfl, hM, hR, hrow, hb, hp, hB⟩
  obtain ⟨Am, cm, rfl⟩ := Kd.R_slice hrow
  have HLW := Aside0.mk (rel_low hR)
  have HR := Aside0.mk hR
  have HM1 := Aside0.mk hM
  have HB1 := Aside0.mk (HB0.out.trans (hb.mono HB0.out.size))
  have HC := Aside0.mk (Kd.R_reads' hrow).2.2
  have HML := Aside0.mk hR.len
  clear hM hR hrow hb hp hB
  go_wp2_with fail
  go_at_call 11
  refine (view_calls Am cm m t A4 n4 c4 z4 a1 0 a2 w1 HR.out HC.out (H4.out.below HB1.out) HZ4.out HA.out.1 (by omega) HA.out.2).mono ?_
  rintro e w2 ⟨S, rfl, hS, ⟨q, hsrc⟩, hb⟩
  have hwe : wrap64 (a2 % 9 + 1) = a2 % 9 + 1 := by have := HA.out.2; unfold wrap64; omega
  have hfe : 0 % (m.length : Int) + 1 = 1 := by rw [Int.zero_emod]; rfl
  rw [hfe]
  obtain ⟨je, hje⟩ : ∃ x, a1 % 6 = x := ⟨_, rfl⟩
  obtain ⟨ep, hep⟩ : ∃ x, a2 % 9 = x := ⟨_, rfl⟩
  rw [hje, hep]
  rw [hep] at hwe
  obtain ⟨ep', hep'⟩ : ∃ x, ep + 1 = x := ⟨_, rfl⟩
  rw [hep'] at hwe
  have HEP := Aside0.mk hep'
  obtain ⟨src, hsr⟩ : ∃ s, srcV z4 m.length n4 = s := ⟨_, rfl⟩
  rw [hsr] at hsrc
  have HM2 := Aside0.mk (HM1.out.below hb)
  have HB2 := Aside0.mk (HB1.out.trans (hb.mono HB1.out.size))
  have HS := Aside0.mk hsrc
  have HWE := Aside0.mk hwe
  clear hS hsrc hb hje hfe hep hep' hsr hwe
  go_upto_region 7 with fail
  rw [HEP.out, HWE.out]
  obtain ⟨W, hW⟩ : ∃ W, (w2.alloc (.cells #[.int .i64 je, .int .u64 1, .int .i64 0, .int .u64 1, .int .i64 ep, .map (some S)] 34)).alloc (.cells #[.int .i64 je, .int .u64 1, .int .i64 0, .int .u64 1, .int .i64 ep', .map (some S)] 34) = W := ⟨_, rfl⟩
  have L1 : Aside0 (LatAt w p B w2.heap.size (w2.heap.size + 1) S q t src je 1 ep ep' W) := ⟨by
    have hb : Below w2.heap.size w2 W := by rw [← hW]; exact below_alloc (below_alloc (Below.refl _ _) _) _
    refine ⟨HM2.out.below hb, HS.out.below hb, ?_, ?_, HB2.out.trans (hb.mono HB2.out.size)⟩
    · rw [← hW]
      exact (Below.heap_alloc _ _ _ (by simp)).trans (new_block _ _)
    · rw [← hW]
      have := new_block (w2.alloc (.cells #[.int .i64 je, .int .u64 1, .int .i64 0, .int .u64 1, .int .i64 ep, .map (some S)] 34)) (.cells #[.int .i64 je, .int .u64 1, .int .i64 0, .int .u64 1, .int .i64 ep', .map (some S)] 34)
      simpa using this⟩
  rw [hW]
  obtain ⟨gw, hgw⟩ : ∃ g, w2.heap.size + 1 = g := ⟨_, rfl⟩
  rw [hgw] at L1
  rw [hgw]
  obtain ⟨gv, hgv⟩ : ∃ g, w2.heap.size = g := ⟨_, rfl⟩
  rw [hgv] at L1
  rw [hgv]
  clear hW hgv hgw HM2 HB2 HS HWE
  have L1d := Aside0.mk (L1.out.below (below_drew (Below.refl W.heap.size W)))
  go_region_held3 (fun w' => w'.cell? ⟨gv, 0, none⟩ = some (.int .i64 je) ∧ w'.cell? ⟨gv, 1, none⟩ = some (.int .u64 1) ∧ w'.cell? ⟨gv, 2, none⟩ = some (.int .i64 0) ∧ w'.cell? ⟨gv, 3, none⟩ = some (.int .u64 1) ∧ w'.cell? ⟨gv, 4, none⟩ = some (.int .i64 ep) ∧ w'.cell? ⟨gv, 5, none⟩ = some (.map (some S)) ∧ w'.cell? ⟨gw, 0, none⟩ = some (.int .i64 je) ∧ w'.cell? ⟨gw, 1, none⟩ = some (.int .u64 1) ∧ w'.cell? ⟨gw, 2, none⟩ = some (.int .i64 0) ∧ w'.cell? ⟨gw, 3, none⟩ = some (.int .u64 1) ∧ w'.cell? ⟨gw, 4, none⟩ = some (.int .i64 ep') ∧ w'.cell? ⟨gw, 5, none⟩ = some (.map (some S)))
    (first | exact L3.out.held | exact L2.out.held | exact L1d.out.held | exact L1.out.held)
    (first
      | (go_at_call 12; with_reducible refine (vof_calls p B t je 1 0 1 ep (.map (some S)) src _ HLW.out (by omega) L1d.out.mem (L1d.out.src.at_ (by have := L1d.out.src.lt; omega))).mono ?_; rintro e w5 ⟨ka, rfl, hmo⟩; obtain ⟨la, hoa, hma⟩ := hmo.out; have HOA := Aside0.mk hoa; have HMA := Aside0.mk hma; have L2 := Aside0.mk (L1d.out.below hmo.bel); clear hmo hoa hma)
      | (go_at_call 12; with_reducible refine (vof_calls p B t je 1 0 1 ep' (.map (some S)) src _ HLW.out (by omega) L2.out.mem (L2.out.src.at_ (by have := L2.out.src.lt; omega))).mono ?_; rintro e w6 ⟨kb, rfl, hmo⟩; obtain ⟨lb, hob, hmb⟩ := hmo.out; have HOB := Aside0.mk hob; have HMB := Aside0.mk hmb; have L3 := Aside0.mk (L2.out.below hmo.bel); have HOA3 := Aside0.mk (HOA.out.below hmo.bel); clear hmo hob hmb))
  all_goals
    have HSUB : Aside0 (∀ x ∈ lb, x ∈ la) := ⟨fun x hx => by
      have h := (HMB.out x).1 hx
      rw [← HEP.out] at h
      exact (HMA.out x).2 ⟨h.1, may_later t je 1 ep src x h.2⟩⟩
    have HLE : Aside0 (decide (lb.length ≤ la.length) = true) := ⟨decide_eq_true (len_sub lb la HOB.out.1 HSUB.out)⟩
    have HBW := Aside0.mk L3.out.bel
    obtain ⟨nb, Db, hown, hsb⟩ := HOB.out.2
    have HSB := Aside0.mk hsb
    have HND := Aside0.mk HOB.out.1
    have HKA := Aside0.mk HOA3.out.lt
    have HOW := Aside0.mk hown
    clear hsb hown L1 L1d L2 L3 HOA HOB
    go_wp2_with (at_range; refine wpList_range_own _ rfl _ 36 rfl 29 4 law Try.underlying36 (plainElem Try.prog 4) kb nb Db rfl HOW.out ?_; intro w7 hrg0 hg0 hs0)
    go_frame
    go_loopw [15] (fun _ wr => ∃ (left : Lit → Bool) (cnt : Nat), wr.ranges Try.prog 29 (plainElem Try.prog 4) kb w6.heap.size nb Db left cnt ∧ Aside0 (OutAt wr ka la) ∧ Aside0 (Below w.heap.size w wr)) (fun _ wr => wr.rangeLeft kb w6.heap.size)
    case atStart => exact ⟨_, _, hrg0, ⟨outAt_grown HOA3.out hg0 (by simp)⟩, ⟨HBW.out.grown hg0 HBW.out.size (fun k e => by cases e)⟩⟩
    case round =>
      obtain ⟨left, cnt, hrg, HOA, HBR⟩ := hrel
      go_wp2_with (at_next; refine wpList_next_ranges _ rfl _ rfl 29 law (plainElem Try.prog 4) (fun x : Int => Value.int .u64 x) id (fun key kl hk => by obtain ⟨x, hx, _⟩ := keyOf_u64 hk; exact ⟨x, hx⟩) (fun v _ _ => ⟨v, rfl⟩) kb w6.heap.size nb _ _ _ rfl hrg ?_ ?_)
      · intro hc0 hl0
        have HOB2 : Aside0 (OutAt wr kb lb) := ⟨⟨HND.out, nb, Db, hrg.owns, HSB.out⟩⟩
        clear hrg hc0 hl0
        go_wp2_with (first
          | (at_len; refine out_size HOB2.out rfl _ rfl rfl ?_)
          | (at_len; refine out_size HOA.out rfl _ rfl rfl ?_))
        go_ret
        exact ⟨by rw [HLE.out]; rfl, HBR.out⟩
      · intro x c kl yd yp w8 cnt2 hkey hlk hv hat hrg2 hlt hg2 hs2 hen
        obtain ⟨x', ex, rfl, hwx⟩ := keyOf_u64 hkey
        obtain rfl : x = x' := by simpa using ex
        have hin : x ∈ lb := by
          have h1 : Maps.has Db (.int .u64 x) = true := has_true_of_atKey hat
          have h2 := HSB.out.has x
          rw [show Maps.has Db (Tree.key x) = true from h1] at h2
          exact of_decide_eq_true h2.symm
        have HIA : Aside0 (decide (x ∈ la) = true) := ⟨decide_eq_true (HSUB.out x hin)⟩
        have HWX := Aside0.mk (u64_bd hwx)
        have HOA2 : Aside0 (OutAt w8 ka la) := ⟨outAt_grown HOA.out hg2 (fun e => by have := HKA.out; injection e with e; omega)⟩
        have HBR2 : Aside0 (Below w.heap.size w w8) := ⟨HBR.out.grown hg2 HBR.out.size (fun k e => by cases e; exact HBW.out.size)⟩
        have HRG2 := Aside0.mk hrg2
        have HLT : Aside0 (w8.rangeLeft kb w6.heap.size < wr.rangeLeft kb w6.heap.size) := ⟨by rw [hrg2.left_eq, hrg.left_eq]; exact hlt⟩
        clear hrg hrg2 hlt hg2 hs2 hat hv hlk hkey hin hwx ex
        go_wp2_with (at_lookup; refine out_look HOA2.out rfl _ _ rfl rfl x rfl HWX.out ?_; rw [HIA.out])
        go_roundw
        case rel => exact ⟨_, cnt2, HRG2.out, HOA2, HBR2⟩
        case measure => exact HLT.out
end Go.Proofs.Ytlhpokpdpjlhiaa.QI
