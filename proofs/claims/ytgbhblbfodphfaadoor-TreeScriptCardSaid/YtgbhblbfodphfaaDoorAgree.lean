/-
  Package psephoslaw09: Model.agrees answers true where the model and the tree say the same.
-/
import Derived.Test.YtgbhblbfodphfaaDoorModel
import Derived.Test.YtgbhblbfodphfaaDoorKids
import Derived.Test.YtgbhblbfodphfaaDoorAwake9
import Derived.BigQuiet
import Derived.Deep.QuietTactic
namespace Go.Proofs.YtgbhblbfodphfaaDoor.QZ
open Go.RowKit Go.Maps Go.Proofs.YtgbhblbfodphfaaDoorW.PrintWords Go.Proofs.YtgbhblbfodphfaaDoor.Tree
set_option linter.unusedVariables false

set_option maxHeartbeats 1000000 in
theorem len_same (p B : Nat) (t : T) (w : World) (h : Mem w p B t) :
    Calls Tryd.prog 9 #[.pointer (some ⟨p, 0, none⟩)] w fun e w' => e = .returned (.int .i64 (t.ns.length : Int)) ∧ w' = w := by
  have d1 := h.cell1
  obtain ⟨D, hD, hS, hZ⟩ := h.len
  have HD := Aside0.mk hD
  have HZ := Aside0.mk hZ
  clear h hD hS hZ
  go_enter Tryd.func9, Tryd.ntmps9
  go_wp2_with (at_len; refine wpList_len_own _ rfl _ 51 rfl _ _ Tryd.underlying51 _ B t.ns.length D rfl HD.out ?_; rw [HZ.out])
  go_ret
  exact ⟨rfl, rfl⟩
set_option maxHeartbeats 1000000 in
set_option maxRecDepth 100000 in
theorem first_same (p B : Nat) (t : T) (w : World) (h : Mem w p B t) :
    Calls Tryd.prog 19 #[.pointer (some ⟨p, 0, none⟩)] w fun e w' => e = .returned (.int .u64 t.first) ∧ w' = w := by
  have c0 := h.cell0
  clear h
  go_enter Tryd.func19, Tryd.ntmps19
  go_wp2_with fail
  go_ret
  exact ⟨rfl, rfl⟩
theorem kids_next (q : Int → Bool) (rs : List Int) (l : Nat) (hl : l < rs.length) (hq : q (rd rs (l : Int)) = true) : ((rs.take l).filter q).length < (rs.filter q).length ∧ rd (rs.filter q) ((((rs.take l).filter q).length : Nat) : Int) = rd rs (l : Int) := by
  have e : rd rs (l : Int) = rs[l] := by simp [rd, List.getD_eq_getElem?_getD, hl]
  have h1 : rs.filter q = (rs.take l).filter q ++ rs[l] :: (rs.drop (l + 1)).filter q := by
    conv => lhs; rw [← List.take_append_drop l rs, List.drop_eq_getElem_cons hl, List.filter_append, List.filter_cons, if_pos (by rw [← e]; exact hq)]
  rw [h1, e]
  refine ⟨by simp, ?_⟩
  simp [rd, List.getD_eq_getElem?_getD]
/-- What stands in memory while the roots are looked at. -/
structure AG (w : World) (p B : Nat) (t : T) (A : Option Addr) (m : Md) (Ar : Option Addr) (cr : Nat) (rs : List Int) (wr : World) : Prop where
  tree : Mem wr p B t
  model : Kd.C k37 wr A m.length m
  row : Kd.R (Kd.int .u64) 25 wr w.heap.size (fun _ => True) (.slice Ar rs.length cr) rs
  bel : Below w.heap.size w wr
theorem AG.below {w : World} {p B : Nat} {t : T} {A : Option Addr} {m : Md} {Ar : Option Addr} {cr : Nat} {rs : List Int} {wr w' : World} (h : AG w p B t A m Ar cr rs wr) (hb : Below wr.heap.size wr w') : AG w p B t A m Ar cr rs w' :=
  ⟨h.tree.below hb, Kd.C_below h.model hb, Kd.R_below h.row hb, h.bel.trans (hb.mono h.bel.size)⟩

set_option maxHeartbeats 32000000 in
set_option maxRecDepth 100000 in
theorem agrees_calls (p B : Nat) (t : T) (A : Option Addr) (c0 : Nat) (m : Md) (w : World) (hm : Mem w p B t) (hr0 : Kd.C k37 w A m.length m) (hc0 : m.length ≤ c0) (hR : MRel t m) :
    Calls Tryd.prog 15 #[.slice A m.length c0, .pointer (some ⟨p, 0, none⟩)] w fun e w' => e = .returned (.bool true) ∧ Below w.heap.size w w' := by
  have HMM := Aside0.mk hm
  have HC0 := Aside0.mk hr0
  have HCC := Aside0.mk hc0
  have R := Aside0.mk hR
  have HFW := Aside0.mk hR.few
  have hpos := hR.pos
  have HPOS := Aside0.mk hpos
  have hlen : (t.ns.length : Int) = (m.length : Int) := by rw [hR.len]
  obtain ⟨fst, hfst⟩ : ∃ x, t.first = x := ⟨_, rfl⟩
  have HFI := Aside0.mk hfst
  have HLE := Aside0.mk hlen
  have hh0 : (rd_T37 m ((0 : Nat) : Int)).f0 = fst := by
    obtain ⟨n, l, e, e1⟩ := hR.head
    rw [rd_md m 0 hpos, ← hfst, ← e1]
    subst e
    rfl
  have HH0 := Aside0.mk hh0
  clear hm hr0 hc0 hR hfst hlen hh0 hpos
  go_enter Tryd.func15, Tryd.ntmps15
  go_wp2_with fail
  go_at_call 22
  refine (roots_calls p B t w HMM.out R.out.deeds.fit.uniq R.out.deeds.fit.ne (by have := R.out.deeds.len; omega)).mono ?_
  obtain ⟨rs, hrs⟩ : ∃ rs, rootsOf t.ns = rs := ⟨_, rfl⟩
  rw [hrs]
  rintro e w1 ⟨v, rfl, hR, hb⟩
  obtain ⟨Ar, cr, rfl⟩ := Kd.R_slice hR
  have HG : Aside0 (AG w p B t A m Ar cr rs w1) := ⟨HMM.out.below hb, Kd.C_below HC0.out hb, hR, hb⟩
  have HRM : Aside0 (∀ j, j < rs.length → Tree.has t.ns (rd rs (j : Int)) = true) := ⟨fun j hj => by
    rw [rd_at rs j hj, ← roots_mem, hrs]
    exact List.getElem_mem hj⟩
  have hrl : rs.length = m.length := by rw [← hrs, roots_length, R.out.len]
  have HRL := Aside0.mk hrl
  have HRS : Aside0 (∀ j, j + 1 < rs.length → rd rs (j : Int) < rd rs ((j + 1 : Nat) : Int)) := ⟨fun j hj => by
    rw [rd_at rs j (by omega), rd_at rs (j + 1) hj]
    have h := roots_rising R.out.deeds.fit.uniq
    rw [hrs] at h
    exact List.pairwise_iff_getElem.1 h j (j + 1) (by omega) hj (by omega)⟩
  have HKD : Aside0 (∀ q, kidsOf t q = rs.filter (fun r => decide (r ≠ t.first) && decide ((Tree.getD t.ns r).p = q))) := ⟨fun q => by unfold kidsOf; rw [hrs]⟩
  have hlr : ((rs.length : Int) != (m.length : Int)) = false := by rw [hrl]; simp
  have hlm : ((m.length : Int) != (m.length : Int)) = false := by simp
  have hff : (fst != fst) = false := by simp
  clear hR hb hrs hrl
  obtain ⟨ad, e, x0, -, -⟩ := at_T37 HG.out.model ((0 : Nat) : Int) (by omega) (by have := HPOS.out; omega)
  cases e
  rw [HH0.out] at x0
  replace x0 : w1.cell? ad = some (.int .u64 fst) := by
    have e : ad.add (((0 : Nat) : Int).toNat * 3) = ad := rfl
    rw [e] at x0
    exact x0
  have hp0 : (0 : Int) < (m.length : Int) := by have := HPOS.out; omega
  have hp1 : 0 < m.length := HPOS.out
  have HLS : Aside0 (∀ n, Calls Tryd.prog 9 #[.pointer (some ⟨p, 0, none⟩)] (w1.drewN n) fun e w' => e = .returned (.int .i64 (m.length : Int)) ∧ w' = w1.drewN n) := ⟨fun n => by
    have h := len_same p B t _ (HG.out.tree.below (pw_below_drewN (Below.refl _ _) n))
    rw [HLE.out] at h
    exact h⟩
  have HFS : Aside0 (∀ n, Calls Tryd.prog 19 #[.pointer (some ⟨p, 0, none⟩)] (w1.drewN n) fun e w' => e = .returned (.int .u64 fst) ∧ w' = w1.drewN n) := ⟨fun n => by
    have h := first_same p B t _ (HG.out.tree.below (pw_below_drewN (Below.refl _ _) n))
    rw [HFI.out] at h
    exact h⟩
  go_wp2_with fail
  go_quiet ((first | (go_at_call 9; exact Calls.quiet_of_same (HLS.out _)) | (go_at_call 19; exact Calls.quiet_of_same (HFS.out _))))
  replace HG := Aside0.mk (HG.out.below (pw_below_drewN (Below.refl _ _) nq))
  go_wp2_with fail
  clear x0
  go_loopw [45] (fun v45 wr => ∃ k : Nat, k ≤ rs.length ∧ v45 = .int .i64 k ∧ Aside0 (AG w p B t (some ad) m Ar cr rs wr)) (fun v45 _ => rs.length - (RowKit.intOf v45).toNat)
  case atStart => exact ⟨0, by omega, rfl, HG⟩
  case round =>
    clear HG
    obtain ⟨k, hk, rfl, HG⟩ := hrel
    by_cases hlt : k < rs.length
    · have t0 : decide ((k : Int) < (rs.length : Int)) = true := decide_eq_true (by omega)
      have hwk : wrap64 ((k : Int) + 1) = ((k + 1 : Nat) : Int) := by have := HRL.out; have := HFW.out; unfold wrap64; omega
      have HWK := Aside0.mk hwk
      obtain ⟨ar, e, hc⟩ := Kd.at_int (Kd.R_reads' HG.out.row).2.2 (k : Int) (by omega) (by omega)
      cases e
      rw [Int.toNat_natCast] at hc
      have hq := HRM.out k hlt
      have hrise : 0 < k → wr.cell? (ar.add (k - 1)) = some (.int .u64 (rd rs ((k - 1 : Nat) : Int))) ∧ rd rs ((k - 1 : Nat) : Int) < rd rs (k : Int) := fun h0 => by
        obtain ⟨ar', e, hc'⟩ := Kd.at_int (Kd.R_reads' HG.out.row).2.2 ((k - 1 : Nat) : Int) (by omega) (by omega)
        cases e
        rw [Int.toNat_natCast] at hc'
        refine ⟨hc', ?_⟩
        have h := HRS.out (k - 1) (by omega)
        rw [show k - 1 + 1 = k by omega] at h
        exact h
      obtain ⟨q, hqe⟩ : ∃ q, rd rs (k : Int) = q := ⟨_, rfl⟩
      rw [hqe] at hc hq hrise
      have HRI := Aside0.mk hrise
      have HQ := Aside0.mk hq
      have HQB := Aside0.mk (R.out.deeds.fit.well.wide q hq)
      obtain ⟨i, hi, hpl, f0, f2, f1, hz⟩ := R.out.place hq
      obtain ⟨KQ, hKQ⟩ := (R.out.find q).rounds
      rw [hpl] at hKQ
      have HKQ := Aside0.mk hKQ
      have HI := Aside0.mk hi
      have HF := Aside0.mk (And.intro f2 (And.intro f1 hz))
      have HPL := Aside0.mk hpl
      clear hwk hq hrise hqe hi hpl f0 f2 f1 hz hKQ
      have ti : decide ((i : Int) < 0) = false := decide_eq_false (by omega)
      go_wp2_with fail
      go_at_call 12
      refine (psephoslaw09_Model_Find.calls KQ (some ad) c0 m q i wr HG.out.model HCC.out HKQ.out).mono ?_
      rintro e w3 ⟨rfl, hb⟩
      replace HG := Aside0.mk (HG.out.below hb)
      have HB3 := Aside0.mk hb
      obtain ⟨pq, hpq⟩ : ∃ x, (Tree.getD t.ns q).p = x := ⟨_, rfl⟩
      obtain ⟨sq, hsq⟩ : ∃ x, (Tree.getD t.ns q).s = x := ⟨_, rfl⟩
      obtain ⟨hq, hhq⟩ : ∃ x, (Tree.getD t.ns q).h = x := ⟨_, rfl⟩
      obtain ⟨f1, hf1⟩ : ∃ x, (rd_T37 m (i : Int)).f1 = x := ⟨_, rfl⟩
      obtain ⟨q0, hq0⟩ : ∃ x, (rd_T37 m (i : Int)).f0 = x := ⟨_, rfl⟩
      have HGD := Aside0.mk (And.intro hpq (And.intro hsq (And.intro hhq HQ.out)))
      have hf := HF.out
      rw [hsq, hpq, hf1] at hf
      obtain ⟨hf2, hfp, hz⟩ := hf
      have HCE := Aside0.mk (And.intro hq0 (And.intro hf1 hf2))
      have hown : q = t.first → pq = q := fun e => by rw [← hpq, e]; exact R.out.own
      have hbnd : 0 ≤ hq ∧ hq < 1024 := by rw [← hhq]; exact R.out.deeds.high q HQ.out
      have HBD := Aside0.mk hbnd
      have hsz : (sq != sq) = false := by simp
      have hhz : (hq != hq) = false := by simp
      have hpz : (pq != pq) = false := by simp
      have hcases : (k = 0 ∨ 0 < k) ∧ (i = 0 ∨ 0 < i) := by omega
      obtain ⟨hk0, hi0⟩ := hcases
      clear hb hc hpq hsq hhq hf1 hq0 hf2 hbnd HF
      rcases hk0 with hk0 | hk0
      · have tk : decide (0 < k) = false := decide_eq_false (by omega)
        have tk2 : ¬ 0 < k := by omega
        clear hk0
        rcases hi0 with hi0 | hi0
        · obtain rfl : q = pq := (hown (hz.1 hi0)).symm
          have tz : ((i : Int) == 0) = true := by simp [hi0]
          clear hi0 hown hz hfp
          go_wp2_with fail
          go_at_call 23
          refine (get_calls p B t q _ HG.out.tree HQB.out).mono ?_
          rw [HGD.out.1, HGD.out.2.1, HGD.out.2.2.1, HGD.out.2.2.2]
          rintro e w4 ⟨rfl, hb⟩
          replace HG := Aside0.mk (HG.out.below hb)
          clear hb HB3
          (try clear hc8)
          obtain ⟨ad', e, y0, y1, y2⟩ := at_T37 HG.out.model (i : Int) (Int.natCast_nonneg i) (Int.ofNat_lt.2 HI.out)
          cases e
          rw [Int.toNat_natCast] at y0 y1 y2
          rw [HCE.out.1] at y0
          rw [HCE.out.2.1] at y1
          rw [HCE.out.2.2] at y2
          have tim : i < m.length := HI.out
          have HST : Aside0 (∃ (r : Int) (j : Nat), Tree.has t.ns r = true ∧ placeM m r = j ∧ i = j ∧ (0 : Int) = hq - (Tree.getD t.ns r).h) := ⟨_, i, HQ.out, HPL.out, rfl, by rw [HGD.out.2.2.1]; omega⟩
          go_wp2_with fail
          go_loopw [14, 15] (fun v14 v15 wr => ∃ (r : Int) (j : Nat) (h : Int), v15 = .int .i64 j ∧ v14 = .int .i64 h ∧ Aside0 (Tree.has t.ns r = true ∧ placeM m r = j ∧ h = hq - (Tree.getD t.ns r).h) ∧ Aside0 (AG w p B t (some ad) m (some ar) cr rs wr)) (fun v14 v15 _ => (hq - RowKit.intOf v14).toNat)
          case atStart =>
            obtain ⟨r, j, a1, a2, a3, a4⟩ := HST.out
            exact ⟨r, i, 0, rfl, rfl, ⟨a1, by rw [a2, a3], a4⟩, HG⟩
          case round =>
            clear HG HST
            obtain ⟨r, j, h, rfl, rfl, HR1, HG⟩ := hrel
            obtain ⟨j', hj', hpj, g0, g2, g1, gz⟩ := R.out.place HR1.out.1
            obtain rfl : j = j' := by have := HR1.out.2.1; omega
            have hfst : j = 0 → h = hq := fun e => by
              have := HR1.out.2.2
              rw [gz.1 e, R.out.deeds.fit.zero] at this
              omega
            have HJZ : Aside0 (0 < j → r ≠ t.first) := ⟨fun e e1 => by have := gz.2 e1; omega⟩
            clear g0 g2 hpj gz
            rcases (show j = 0 ∨ 0 < j by omega) with hj0 | hj0
            · have tj : decide (0 < j) = false := decide_eq_false (by omega)
              have tj2 : ¬ 0 < j := by omega
              obtain rfl : hq = h := (hfst hj0).symm
              clear hj0 HJZ g1 hj' hfst
              obtain ⟨ad', e, y0, y1, y2⟩ := at_T37 HG.out.model (i : Int) (Int.natCast_nonneg i) (Int.ofNat_lt.2 HI.out)
              cases e
              rw [Int.toNat_natCast] at y0 y1 y2
              rw [HCE.out.1] at y0
              rw [HCE.out.2.1] at y1
              rw [HCE.out.2.2] at y2
              go_wp2_with fail
              go_at_call 10
              refine (kids_calls p B t q _ HG.out.tree R.out.deeds.fit.uniq R.out.deeds.fit.ne (by have := R.out.deeds.len; omega) R.out.deeds.fit.well.wide).mono ?_
              rw [HKD.out q]
              obtain ⟨qf, hqf⟩ : ∃ qf : Int → Bool, (fun r => decide (r ≠ t.first) && decide ((Tree.getD t.ns r).p = q)) = qf := ⟨_, rfl⟩
              rw [hqf]
              obtain ⟨ks, hks⟩ : ∃ ks, rs.filter qf = ks := ⟨_, rfl⟩
              rw [hks]
              rintro e w6 ⟨v, rfl, hR, hb⟩
              obtain ⟨Ak, ck, rfl⟩ := Kd.R_slice hR
              have HKR : Aside0 (Kd.R (Kd.int .u64) 25 w6 w.heap.size (fun _ => True) (.slice Ak ks.length ck) ks) := ⟨Kd.R_lower hR HG.out.bel.size⟩
              replace HG := Aside0.mk (HG.out.below hb)
              have HQF : Aside0 (∀ x, qf x = (decide (x ≠ t.first) && decide ((Tree.getD t.ns x).p = q))) := ⟨fun x => by rw [← hqf]⟩
              have HKS := Aside0.mk hks
              clear hR hb hqf hks y0 y1 y2
              go_wp2_with fail
              go_loopw [17, 122] (fun v17 v122 wr => ∃ l n : Nat, l ≤ rs.length ∧ v17 = .int .i64 n ∧ v122 = .int .i64 l ∧ Aside0 (n = ((rs.take l).filter qf).length) ∧ Aside0 (AG w p B t (some ad) m (some ar) cr rs wr) ∧ Aside0 (Kd.R (Kd.int .u64) 25 wr w.heap.size (fun _ => True) (.slice Ak ks.length ck) ks)) (fun _ v122 _ => rs.length - (RowKit.intOf v122).toNat)
              case atStart => exact ⟨0, 0, by omega, rfl, rfl, ⟨by simp⟩, HG, HKR⟩
              case round =>
                clear HG HKR
                obtain ⟨l, n, hl, rfl, rfl, HN, HG, HKR⟩ := hrel
                by_cases hll : l < rs.length
                · have t1 : decide ((l : Int) < (rs.length : Int)) = true := decide_eq_true (by omega)
                  have hwl : wrap64 ((l : Int) + 1) = ((l + 1 : Nat) : Int) := by have := HRL.out; have := HFW.out; unfold wrap64; omega
                  have HWL := Aside0.mk hwl
                  obtain ⟨ar', e, hc⟩ := Kd.at_int (Kd.R_reads' HG.out.row).2.2 (l : Int) (by omega) (by omega)
                  cases e
                  rw [Int.toNat_natCast] at hc
                  have hxh := HRM.out l hll
                  have hfs := filter_snoc qf rs l hll
                  have hkn := kids_next qf rs l hll
                  rw [← HN.out, HKS.out] at hkn
                  obtain ⟨x, hxe⟩ : ∃ x, rd rs (l : Int) = x := ⟨_, rfl⟩
                  rw [hxe] at hc hxh hfs hkn
                  obtain ⟨jx, hjx, hpx, -, -, gp, gz⟩ := R.out.place hxh
                  obtain ⟨KX, hKX⟩ := (R.out.find x).rounds
                  rw [hpx] at hKX
                  have HKX := Aside0.mk hKX
                  obtain ⟨am, e, z0, z1, z2⟩ := at_T37 HG.out.model (jx : Int) (Int.natCast_nonneg jx) (Int.ofNat_lt.2 hjx)
                  cases e
                  rw [Int.toNat_natCast] at z0 z1 z2
                  obtain ⟨px, hpx'⟩ : ∃ px, (rd_T37 m (jx : Int)).f1 = px := ⟨_, rfl⟩
                  rw [hpx'] at z1 gp
                  have hq1 := HQF.out x
                  have hwn : wrap64 ((n : Int) + 1) = ((n + 1 : Nat) : Int) := by
                    have h1 := HN.out
                    have h2 := List.length_filter_le qf (rs.take l)
                    rw [List.length_take] at h2
                    have := HRL.out; have := HFW.out; unfold wrap64; omega
                  have HWN := Aside0.mk hwn
                  have HFS := Aside0.mk hfs
                  have hcs : (jx = 0 ∧ qf x = false) ∨ (0 < jx ∧ px ≠ q ∧ qf x = false) ∨ (0 < jx ∧ px = q ∧ qf x = true) := by
                    rcases (show jx = 0 ∨ 0 < jx by omega) with h | h
                    · refine .inl ⟨h, ?_⟩
                      rw [hq1, gz.1 h]
                      simp
                    · have h1 : x ≠ t.first := fun e => by have := gz.2 e; omega
                      rw [← gp h1] at hq1
                      by_cases h2 : px = q
                      · exact .inr (.inr ⟨h, h2, by rw [hq1]; simp [h1, h2]⟩)
                      · exact .inr (.inl ⟨h, h2, by rw [hq1]; simp [h2]⟩)
                  clear hwl hwn hxh hxe hpx hKX gp gz hpx' z0 z2 hq1 hfs
                  rcases hcs with ⟨h1, h2⟩ | ⟨h1, h2, h3⟩ | ⟨h1, h2, h3⟩
                  · have tx : decide (0 < jx) = false := decide_eq_false (by omega)
                    have tx2 : ¬ 0 < jx := by omega
                    have HNN : Aside0 (n = ((rs.take (l + 1)).filter qf).length) := ⟨by rw [HFS.out, h2, HN.out]; simp⟩
                    clear h1 h2 hkn z1
                    go_wp2_with (first
                      | (go_at_call 12; with_reducible refine (psephoslaw09_Model_Find.calls KX (some ad) c0 m x jx _ HG.out.model HCC.out HKX.out).mono ?_; rintro e w7 ⟨rfl, hb⟩; replace HG := Aside0.mk (HG.out.below hb); replace HKR := Aside0.mk (Kd.R_below HKR.out hb); clear hb))
                    go_roundw
                    case rel => exact ⟨l + 1, n, by omega, rfl, by rw [HWL.out], HNN, HG, HKR⟩
                    case measure => rw [HWL.out]; simp [RowKit.intOf]; omega
                  · have tx : decide (0 < jx) = true := decide_eq_true h1
                    have tp : (px == q) = false := by simp [h2]
                    have HNN : Aside0 (n = ((rs.take (l + 1)).filter qf).length) := ⟨by rw [HFS.out, h3, HN.out]; simp⟩
                    clear h2 h3 hkn
                    go_wp2_with (first
                      | (go_at_call 12; with_reducible refine (psephoslaw09_Model_Find.calls KX (some ad) c0 m x jx _ HG.out.model HCC.out HKX.out).mono ?_; rintro e w7 ⟨rfl, hb⟩; replace HG := Aside0.mk (HG.out.below hb); replace HKR := Aside0.mk (Kd.R_below HKR.out hb); replace z1 := (hb.cell (World.block_lt_of_cell? _ _ z1)).trans z1; clear hb))
                    go_roundw
                    case rel => exact ⟨l + 1, n, by omega, rfl, by rw [HWL.out], HNN, HG, HKR⟩
                    case measure => rw [HWL.out]; simp [RowKit.intOf]; omega
                  · have tx : decide (0 < jx) = true := decide_eq_true h1
                    have tp : (px == q) = true := by simp [h2]
                    have HNN : Aside0 (n + 1 = ((rs.take (l + 1)).filter qf).length) := ⟨by rw [HFS.out, h3, HN.out]; simp⟩
                    obtain ⟨hn1, hn2⟩ := hkn h3
                    obtain ⟨ak, e, kc⟩ := Kd.at_int (Kd.R_reads' HKR.out).2.2 (n : Int) (by omega) (by omega)
                    cases e
                    rw [Int.toNat_natCast, hn2] at kc
                    have tn : decide (ks.length ≤ n) = false := decide_eq_false (by omega)
                    have txx : (x != x) = false := by simp
                    clear h2 h3 hn2
                    go_wp2_with (first
                      | (go_at_call 12; with_reducible refine (psephoslaw09_Model_Find.calls KX (some ad) c0 m x jx _ HG.out.model HCC.out HKX.out).mono ?_; rintro e w7 ⟨rfl, hb⟩; replace HG := Aside0.mk (HG.out.below hb); replace HKR := Aside0.mk (Kd.R_below HKR.out hb); replace z1 := (hb.cell (World.block_lt_of_cell? _ _ z1)).trans z1; replace kc := (hb.cell (World.block_lt_of_cell? _ _ kc)).trans kc; clear hb))
                    go_roundw
                    case rel => exact ⟨l + 1, n + 1, by omega, by rw [HWN.out], by rw [HWL.out], HNN, HG, HKR⟩
                    case measure => rw [HWL.out]; simp [RowKit.intOf]; omega
                · have t1 : decide ((l : Int) < (rs.length : Int)) = false := decide_eq_false (by omega)
                  have hnk : n = ks.length := by rw [HN.out, ← HKS.out, List.take_of_length_le (by omega)]
                  have tnk : ((n : Int) != (ks.length : Int)) = false := by rw [hnk]; simp
                  clear hnk
                  go_wp2_with fail
                  go_roundw
                  case rel => exact ⟨k + 1, by omega, by first | rw [HWK.out] | rfl | simp, HG⟩
                  case measure => (try rw [HWK.out]); simp [RowKit.intOf]; omega
            · have tj : decide (0 < j) = true := decide_eq_true hj0
              have tj2 : 0 < j := hj0
              have hne := HJZ.out hj0
              have hup := R.out.deeds.fit.well.up r HR1.out.1 hne
              obtain ⟨j2, hj2, hpj2, -, -, -, -⟩ := R.out.place hup.1
              obtain ⟨KP, hKP⟩ := (R.out.find (Tree.getD t.ns r).p).rounds
              rw [hpj2] at hKP
              obtain ⟨am, e, z0, z1, z2⟩ := at_T37 HG.out.model (j : Int) (Int.natCast_nonneg j) (Int.ofNat_lt.2 hj')
              cases e
              rw [Int.toNat_natCast] at z0 z1 z2
              rw [g1 hne] at z1
              have HKP := Aside0.mk hKP
              have hh0 := R.out.deeds.high r HR1.out.1
              have hh1 := R.out.deeds.high _ hup.1
              have hw : wrap64 (h + 1) = h + 1 := by have := HR1.out.2.2; have := HBD.out; unfold wrap64; omega
              have HW := Aside0.mk hw
              have HRN : Aside0 (Tree.has t.ns (Tree.getD t.ns r).p = true ∧ placeM m (Tree.getD t.ns r).p = j2 ∧ h + 1 = hq - (Tree.getD t.ns (Tree.getD t.ns r).p).h) := ⟨hup.1, hpj2, by have := HR1.out.2.2; omega⟩
              have HML : Aside0 (h < hq) := ⟨by have := HR1.out.2.2; omega⟩
              obtain ⟨pr, hpr⟩ : ∃ x, (Tree.getD t.ns r).p = x := ⟨_, rfl⟩
              rw [hpr] at z1 HKP HRN
              clear hj0 hfst HJZ g1 hne hup hj2 hpj2 hKP hh0 hh1 hw hpr z0 z2
              go_wp2_with (first
                | (go_at_call 12; with_reducible refine (psephoslaw09_Model_Find.calls KP (some ad) c0 m pr j2 _ HG.out.model HCC.out HKP.out).mono ?_; rintro e w5 ⟨rfl, hb⟩; replace HG := Aside0.mk (HG.out.below hb); clear hb))
              go_roundw
              case rel => exact ⟨pr, j2, h + 1, rfl, by rw [HW.out], HRN, HG⟩
              case measure => rw [HW.out]; simp [RowKit.intOf]; have := HML.out; omega
        · obtain rfl : pq = f1 := (hfp (fun e => by have := hz.2 e; omega)).symm
          have tz : ((i : Int) == 0) = false := by simp; omega
          clear hi0 hown hz hfp
          go_wp2_with fail
          go_at_call 23
          refine (get_calls p B t q _ HG.out.tree HQB.out).mono ?_
          rw [HGD.out.1, HGD.out.2.1, HGD.out.2.2.1, HGD.out.2.2.2]
          rintro e w4 ⟨rfl, hb⟩
          replace HG := Aside0.mk (HG.out.below hb)
          clear hb HB3
          (try clear hc8)
          obtain ⟨ad', e, y0, y1, y2⟩ := at_T37 HG.out.model (i : Int) (Int.natCast_nonneg i) (Int.ofNat_lt.2 HI.out)
          cases e
          rw [Int.toNat_natCast] at y0 y1 y2
          rw [HCE.out.1] at y0
          rw [HCE.out.2.1] at y1
          rw [HCE.out.2.2] at y2
          have tim : i < m.length := HI.out
          have HST : Aside0 (∃ (r : Int) (j : Nat), Tree.has t.ns r = true ∧ placeM m r = j ∧ i = j ∧ (0 : Int) = hq - (Tree.getD t.ns r).h) := ⟨_, i, HQ.out, HPL.out, rfl, by rw [HGD.out.2.2.1]; omega⟩
          go_wp2_with fail
          go_loopw [14, 15] (fun v14 v15 wr => ∃ (r : Int) (j : Nat) (h : Int), v15 = .int .i64 j ∧ v14 = .int .i64 h ∧ Aside0 (Tree.has t.ns r = true ∧ placeM m r = j ∧ h = hq - (Tree.getD t.ns r).h) ∧ Aside0 (AG w p B t (some ad) m (some ar) cr rs wr)) (fun v14 v15 _ => (hq - RowKit.intOf v14).toNat)
          case atStart =>
            obtain ⟨r, j, a1, a2, a3, a4⟩ := HST.out
            exact ⟨r, i, 0, rfl, rfl, ⟨a1, by rw [a2, a3], a4⟩, HG⟩
          case round =>
            clear HG HST
            obtain ⟨r, j, h, rfl, rfl, HR1, HG⟩ := hrel
            obtain ⟨j', hj', hpj, g0, g2, g1, gz⟩ := R.out.place HR1.out.1
            obtain rfl : j = j' := by have := HR1.out.2.1; omega
            have hfst : j = 0 → h = hq := fun e => by
              have := HR1.out.2.2
              rw [gz.1 e, R.out.deeds.fit.zero] at this
              omega
            have HJZ : Aside0 (0 < j → r ≠ t.first) := ⟨fun e e1 => by have := gz.2 e1; omega⟩
            clear g0 g2 hpj gz
            rcases (show j = 0 ∨ 0 < j by omega) with hj0 | hj0
            · have tj : decide (0 < j) = false := decide_eq_false (by omega)
              have tj2 : ¬ 0 < j := by omega
              obtain rfl : hq = h := (hfst hj0).symm
              clear hj0 HJZ g1 hj' hfst
              obtain ⟨ad', e, y0, y1, y2⟩ := at_T37 HG.out.model (i : Int) (Int.natCast_nonneg i) (Int.ofNat_lt.2 HI.out)
              cases e
              rw [Int.toNat_natCast] at y0 y1 y2
              rw [HCE.out.1] at y0
              rw [HCE.out.2.1] at y1
              rw [HCE.out.2.2] at y2
              go_wp2_with fail
              go_at_call 10
              refine (kids_calls p B t q _ HG.out.tree R.out.deeds.fit.uniq R.out.deeds.fit.ne (by have := R.out.deeds.len; omega) R.out.deeds.fit.well.wide).mono ?_
              rw [HKD.out q]
              obtain ⟨qf, hqf⟩ : ∃ qf : Int → Bool, (fun r => decide (r ≠ t.first) && decide ((Tree.getD t.ns r).p = q)) = qf := ⟨_, rfl⟩
              rw [hqf]
              obtain ⟨ks, hks⟩ : ∃ ks, rs.filter qf = ks := ⟨_, rfl⟩
              rw [hks]
              rintro e w6 ⟨v, rfl, hR, hb⟩
              obtain ⟨Ak, ck, rfl⟩ := Kd.R_slice hR
              have HKR : Aside0 (Kd.R (Kd.int .u64) 25 w6 w.heap.size (fun _ => True) (.slice Ak ks.length ck) ks) := ⟨Kd.R_lower hR HG.out.bel.size⟩
              replace HG := Aside0.mk (HG.out.below hb)
              have HQF : Aside0 (∀ x, qf x = (decide (x ≠ t.first) && decide ((Tree.getD t.ns x).p = q))) := ⟨fun x => by rw [← hqf]⟩
              have HKS := Aside0.mk hks
              clear hR hb hqf hks y0 y1 y2
              go_wp2_with fail
              go_loopw [17, 122] (fun v17 v122 wr => ∃ l n : Nat, l ≤ rs.length ∧ v17 = .int .i64 n ∧ v122 = .int .i64 l ∧ Aside0 (n = ((rs.take l).filter qf).length) ∧ Aside0 (AG w p B t (some ad) m (some ar) cr rs wr) ∧ Aside0 (Kd.R (Kd.int .u64) 25 wr w.heap.size (fun _ => True) (.slice Ak ks.length ck) ks)) (fun _ v122 _ => rs.length - (RowKit.intOf v122).toNat)
              case atStart => exact ⟨0, 0, by omega, rfl, rfl, ⟨by simp⟩, HG, HKR⟩
              case round =>
                clear HG HKR
                obtain ⟨l, n, hl, rfl, rfl, HN, HG, HKR⟩ := hrel
                by_cases hll : l < rs.length
                · have t1 : decide ((l : Int) < (rs.length : Int)) = true := decide_eq_true (by omega)
                  have hwl : wrap64 ((l : Int) + 1) = ((l + 1 : Nat) : Int) := by have := HRL.out; have := HFW.out; unfold wrap64; omega
                  have HWL := Aside0.mk hwl
                  obtain ⟨ar', e, hc⟩ := Kd.at_int (Kd.R_reads' HG.out.row).2.2 (l : Int) (by omega) (by omega)
                  cases e
                  rw [Int.toNat_natCast] at hc
                  have hxh := HRM.out l hll
                  have hfs := filter_snoc qf rs l hll
                  have hkn := kids_next qf rs l hll
                  rw [← HN.out, HKS.out] at hkn
                  obtain ⟨x, hxe⟩ : ∃ x, rd rs (l : Int) = x := ⟨_, rfl⟩
                  rw [hxe] at hc hxh hfs hkn
                  obtain ⟨jx, hjx, hpx, -, -, gp, gz⟩ := R.out.place hxh
                  obtain ⟨KX, hKX⟩ := (R.out.find x).rounds
                  rw [hpx] at hKX
                  have HKX := Aside0.mk hKX
                  obtain ⟨am, e, z0, z1, z2⟩ := at_T37 HG.out.model (jx : Int) (Int.natCast_nonneg jx) (Int.ofNat_lt.2 hjx)
                  cases e
                  rw [Int.toNat_natCast] at z0 z1 z2
                  obtain ⟨px, hpx'⟩ : ∃ px, (rd_T37 m (jx : Int)).f1 = px := ⟨_, rfl⟩
                  rw [hpx'] at z1 gp
                  have hq1 := HQF.out x
                  have hwn : wrap64 ((n : Int) + 1) = ((n + 1 : Nat) : Int) := by
                    have h1 := HN.out
                    have h2 := List.length_filter_le qf (rs.take l)
                    rw [List.length_take] at h2
                    have := HRL.out; have := HFW.out; unfold wrap64; omega
                  have HWN := Aside0.mk hwn
                  have HFS := Aside0.mk hfs
                  have hcs : (jx = 0 ∧ qf x = false) ∨ (0 < jx ∧ px ≠ q ∧ qf x = false) ∨ (0 < jx ∧ px = q ∧ qf x = true) := by
                    rcases (show jx = 0 ∨ 0 < jx by omega) with h | h
                    · refine .inl ⟨h, ?_⟩
                      rw [hq1, gz.1 h]
                      simp
                    · have h1 : x ≠ t.first := fun e => by have := gz.2 e; omega
                      rw [← gp h1] at hq1
                      by_cases h2 : px = q
                      · exact .inr (.inr ⟨h, h2, by rw [hq1]; simp [h1, h2]⟩)
                      · exact .inr (.inl ⟨h, h2, by rw [hq1]; simp [h2]⟩)
                  clear hwl hwn hxh hxe hpx hKX gp gz hpx' z0 z2 hq1 hfs
                  rcases hcs with ⟨h1, h2⟩ | ⟨h1, h2, h3⟩ | ⟨h1, h2, h3⟩
                  · have tx : decide (0 < jx) = false := decide_eq_false (by omega)
                    have tx2 : ¬ 0 < jx := by omega
                    have HNN : Aside0 (n = ((rs.take (l + 1)).filter qf).length) := ⟨by rw [HFS.out, h2, HN.out]; simp⟩
                    clear h1 h2 hkn z1
                    go_wp2_with (first
                      | (go_at_call 12; with_reducible refine (psephoslaw09_Model_Find.calls KX (some ad) c0 m x jx _ HG.out.model HCC.out HKX.out).mono ?_; rintro e w7 ⟨rfl, hb⟩; replace HG := Aside0.mk (HG.out.below hb); replace HKR := Aside0.mk (Kd.R_below HKR.out hb); clear hb))
                    go_roundw
                    case rel => exact ⟨l + 1, n, by omega, rfl, by rw [HWL.out], HNN, HG, HKR⟩
                    case measure => rw [HWL.out]; simp [RowKit.intOf]; omega
                  · have tx : decide (0 < jx) = true := decide_eq_true h1
                    have tp : (px == q) = false := by simp [h2]
                    have HNN : Aside0 (n = ((rs.take (l + 1)).filter qf).length) := ⟨by rw [HFS.out, h3, HN.out]; simp⟩
                    clear h2 h3 hkn
                    go_wp2_with (first
                      | (go_at_call 12; with_reducible refine (psephoslaw09_Model_Find.calls KX (some ad) c0 m x jx _ HG.out.model HCC.out HKX.out).mono ?_; rintro e w7 ⟨rfl, hb⟩; replace HG := Aside0.mk (HG.out.below hb); replace HKR := Aside0.mk (Kd.R_below HKR.out hb); replace z1 := (hb.cell (World.block_lt_of_cell? _ _ z1)).trans z1; clear hb))
                    go_roundw
                    case rel => exact ⟨l + 1, n, by omega, rfl, by rw [HWL.out], HNN, HG, HKR⟩
                    case measure => rw [HWL.out]; simp [RowKit.intOf]; omega
                  · have tx : decide (0 < jx) = true := decide_eq_true h1
                    have tp : (px == q) = true := by simp [h2]
                    have HNN : Aside0 (n + 1 = ((rs.take (l + 1)).filter qf).length) := ⟨by rw [HFS.out, h3, HN.out]; simp⟩
                    obtain ⟨hn1, hn2⟩ := hkn h3
                    obtain ⟨ak, e, kc⟩ := Kd.at_int (Kd.R_reads' HKR.out).2.2 (n : Int) (by omega) (by omega)
                    cases e
                    rw [Int.toNat_natCast, hn2] at kc
                    have tn : decide (ks.length ≤ n) = false := decide_eq_false (by omega)
                    have txx : (x != x) = false := by simp
                    clear h2 h3 hn2
                    go_wp2_with (first
                      | (go_at_call 12; with_reducible refine (psephoslaw09_Model_Find.calls KX (some ad) c0 m x jx _ HG.out.model HCC.out HKX.out).mono ?_; rintro e w7 ⟨rfl, hb⟩; replace HG := Aside0.mk (HG.out.below hb); replace HKR := Aside0.mk (Kd.R_below HKR.out hb); replace z1 := (hb.cell (World.block_lt_of_cell? _ _ z1)).trans z1; replace kc := (hb.cell (World.block_lt_of_cell? _ _ kc)).trans kc; clear hb))
                    go_roundw
                    case rel => exact ⟨l + 1, n + 1, by omega, by rw [HWN.out], by rw [HWL.out], HNN, HG, HKR⟩
                    case measure => rw [HWL.out]; simp [RowKit.intOf]; omega
                · have t1 : decide ((l : Int) < (rs.length : Int)) = false := decide_eq_false (by omega)
                  have hnk : n = ks.length := by rw [HN.out, ← HKS.out, List.take_of_length_le (by omega)]
                  have tnk : ((n : Int) != (ks.length : Int)) = false := by rw [hnk]; simp
                  clear hnk
                  go_wp2_with fail
                  go_roundw
                  case rel => exact ⟨k + 1, by omega, by first | rw [HWK.out] | rfl | simp, HG⟩
                  case measure => (try rw [HWK.out]); simp [RowKit.intOf]; omega
            · have tj : decide (0 < j) = true := decide_eq_true hj0
              have tj2 : 0 < j := hj0
              have hne := HJZ.out hj0
              have hup := R.out.deeds.fit.well.up r HR1.out.1 hne
              obtain ⟨j2, hj2, hpj2, -, -, -, -⟩ := R.out.place hup.1
              obtain ⟨KP, hKP⟩ := (R.out.find (Tree.getD t.ns r).p).rounds
              rw [hpj2] at hKP
              obtain ⟨am, e, z0, z1, z2⟩ := at_T37 HG.out.model (j : Int) (Int.natCast_nonneg j) (Int.ofNat_lt.2 hj')
              cases e
              rw [Int.toNat_natCast] at z0 z1 z2
              rw [g1 hne] at z1
              have HKP := Aside0.mk hKP
              have hh0 := R.out.deeds.high r HR1.out.1
              have hh1 := R.out.deeds.high _ hup.1
              have hw : wrap64 (h + 1) = h + 1 := by have := HR1.out.2.2; have := HBD.out; unfold wrap64; omega
              have HW := Aside0.mk hw
              have HRN : Aside0 (Tree.has t.ns (Tree.getD t.ns r).p = true ∧ placeM m (Tree.getD t.ns r).p = j2 ∧ h + 1 = hq - (Tree.getD t.ns (Tree.getD t.ns r).p).h) := ⟨hup.1, hpj2, by have := HR1.out.2.2; omega⟩
              have HML : Aside0 (h < hq) := ⟨by have := HR1.out.2.2; omega⟩
              obtain ⟨pr, hpr⟩ : ∃ x, (Tree.getD t.ns r).p = x := ⟨_, rfl⟩
              rw [hpr] at z1 HKP HRN
              clear hj0 hfst HJZ g1 hne hup hj2 hpj2 hKP hh0 hh1 hw hpr z0 z2
              go_wp2_with (first
                | (go_at_call 12; with_reducible refine (psephoslaw09_Model_Find.calls KP (some ad) c0 m pr j2 _ HG.out.model HCC.out HKP.out).mono ?_; rintro e w5 ⟨rfl, hb⟩; replace HG := Aside0.mk (HG.out.below hb); clear hb))
              go_roundw
              case rel => exact ⟨pr, j2, h + 1, rfl, by rw [HW.out], HRN, HG⟩
              case measure => rw [HW.out]; simp [RowKit.intOf]; have := HML.out; omega
      · have tk : decide (0 < k) = true := decide_eq_true hk0
        have tk2 : 0 < k := hk0
        obtain ⟨hc8, hl8⟩ := HRI.out hk0
        replace hc8 := (HB3.out.cell (World.block_lt_of_cell? _ _ hc8)).trans hc8
        have tw : wrap64 ((k : Int) - 1) = ((k - 1 : Nat) : Int) := by have := HRL.out; have := HFW.out; unfold wrap64; omega
        have tl : k - 1 < rs.length := by omega
        obtain ⟨k1, hk1⟩ : ∃ k1 : Nat, k - 1 = k1 := ⟨_, rfl⟩
        rw [hk1] at hc8 hl8 tw tl
        obtain ⟨y, hy⟩ : ∃ y, rd rs (k1 : Int) = y := ⟨_, rfl⟩
        rw [hy] at hc8 hl8
        have ty : decide (q ≤ y) = false := decide_eq_false (by omega)
        clear hk0 hk1 hy hl8
        rcases hi0 with hi0 | hi0
        · obtain rfl : q = pq := (hown (hz.1 hi0)).symm
          have tz : ((i : Int) == 0) = true := by simp [hi0]
          clear hi0 hown hz hfp
          go_wp2_with fail
          go_at_call 23
          refine (get_calls p B t q _ HG.out.tree HQB.out).mono ?_
          rw [HGD.out.1, HGD.out.2.1, HGD.out.2.2.1, HGD.out.2.2.2]
          rintro e w4 ⟨rfl, hb⟩
          replace HG := Aside0.mk (HG.out.below hb)
          clear hb HB3
          (try clear hc8)
          obtain ⟨ad', e, y0, y1, y2⟩ := at_T37 HG.out.model (i : Int) (Int.natCast_nonneg i) (Int.ofNat_lt.2 HI.out)
          cases e
          rw [Int.toNat_natCast] at y0 y1 y2
          rw [HCE.out.1] at y0
          rw [HCE.out.2.1] at y1
          rw [HCE.out.2.2] at y2
          have tim : i < m.length := HI.out
          have HST : Aside0 (∃ (r : Int) (j : Nat), Tree.has t.ns r = true ∧ placeM m r = j ∧ i = j ∧ (0 : Int) = hq - (Tree.getD t.ns r).h) := ⟨_, i, HQ.out, HPL.out, rfl, by rw [HGD.out.2.2.1]; omega⟩
          go_wp2_with fail
          go_loopw [14, 15] (fun v14 v15 wr => ∃ (r : Int) (j : Nat) (h : Int), v15 = .int .i64 j ∧ v14 = .int .i64 h ∧ Aside0 (Tree.has t.ns r = true ∧ placeM m r = j ∧ h = hq - (Tree.getD t.ns r).h) ∧ Aside0 (AG w p B t (some ad) m (some ar) cr rs wr)) (fun v14 v15 _ => (hq - RowKit.intOf v14).toNat)
          case atStart =>
            obtain ⟨r, j, a1, a2, a3, a4⟩ := HST.out
            exact ⟨r, i, 0, rfl, rfl, ⟨a1, by rw [a2, a3], a4⟩, HG⟩
          case round =>
            clear HG HST
            obtain ⟨r, j, h, rfl, rfl, HR1, HG⟩ := hrel
            obtain ⟨j', hj', hpj, g0, g2, g1, gz⟩ := R.out.place HR1.out.1
            obtain rfl : j = j' := by have := HR1.out.2.1; omega
            have hfst : j = 0 → h = hq := fun e => by
              have := HR1.out.2.2
              rw [gz.1 e, R.out.deeds.fit.zero] at this
              omega
            have HJZ : Aside0 (0 < j → r ≠ t.first) := ⟨fun e e1 => by have := gz.2 e1; omega⟩
            clear g0 g2 hpj gz
            rcases (show j = 0 ∨ 0 < j by omega) with hj0 | hj0
            · have tj : decide (0 < j) = false := decide_eq_false (by omega)
              have tj2 : ¬ 0 < j := by omega
              obtain rfl : hq = h := (hfst hj0).symm
              clear hj0 HJZ g1 hj' hfst
              obtain ⟨ad', e, y0, y1, y2⟩ := at_T37 HG.out.model (i : Int) (Int.natCast_nonneg i) (Int.ofNat_lt.2 HI.out)
              cases e
              rw [Int.toNat_natCast] at y0 y1 y2
              rw [HCE.out.1] at y0
              rw [HCE.out.2.1] at y1
              rw [HCE.out.2.2] at y2
              go_wp2_with fail
              go_at_call 10
              refine (kids_calls p B t q _ HG.out.tree R.out.deeds.fit.uniq R.out.deeds.fit.ne (by have := R.out.deeds.len; omega) R.out.deeds.fit.well.wide).mono ?_
              rw [HKD.out q]
              obtain ⟨qf, hqf⟩ : ∃ qf : Int → Bool, (fun r => decide (r ≠ t.first) && decide ((Tree.getD t.ns r).p = q)) = qf := ⟨_, rfl⟩
              rw [hqf]
              obtain ⟨ks, hks⟩ : ∃ ks, rs.filter qf = ks := ⟨_, rfl⟩
              rw [hks]
              rintro e w6 ⟨v, rfl, hR, hb⟩
              obtain ⟨Ak, ck, rfl⟩ := Kd.R_slice hR
              have HKR : Aside0 (Kd.R (Kd.int .u64) 25 w6 w.heap.size (fun _ => True) (.slice Ak ks.length ck) ks) := ⟨Kd.R_lower hR HG.out.bel.size⟩
              replace HG := Aside0.mk (HG.out.below hb)
              have HQF : Aside0 (∀ x, qf x = (decide (x ≠ t.first) && decide ((Tree.getD t.ns x).p = q))) := ⟨fun x => by rw [← hqf]⟩
              have HKS := Aside0.mk hks
              clear hR hb hqf hks y0 y1 y2
              go_wp2_with fail
              go_loopw [17, 122] (fun v17 v122 wr => ∃ l n : Nat, l ≤ rs.length ∧ v17 = .int .i64 n ∧ v122 = .int .i64 l ∧ Aside0 (n = ((rs.take l).filter qf).length) ∧ Aside0 (AG w p B t (some ad) m (some ar) cr rs wr) ∧ Aside0 (Kd.R (Kd.int .u64) 25 wr w.heap.size (fun _ => True) (.slice Ak ks.length ck) ks)) (fun _ v122 _ => rs.length - (RowKit.intOf v122).toNat)
              case atStart => exact ⟨0, 0, by omega, rfl, rfl, ⟨by simp⟩, HG, HKR⟩
              case round =>
                clear HG HKR
                obtain ⟨l, n, hl, rfl, rfl, HN, HG, HKR⟩ := hrel
                by_cases hll : l < rs.length
                · have t1 : decide ((l : Int) < (rs.length : Int)) = true := decide_eq_true (by omega)
                  have hwl : wrap64 ((l : Int) + 1) = ((l + 1 : Nat) : Int) := by have := HRL.out; have := HFW.out; unfold wrap64; omega
                  have HWL := Aside0.mk hwl
                  obtain ⟨ar', e, hc⟩ := Kd.at_int (Kd.R_reads' HG.out.row).2.2 (l : Int) (by omega) (by omega)
                  cases e
                  rw [Int.toNat_natCast] at hc
                  have hxh := HRM.out l hll
                  have hfs := filter_snoc qf rs l hll
                  have hkn := kids_next qf rs l hll
                  rw [← HN.out, HKS.out] at hkn
                  obtain ⟨x, hxe⟩ : ∃ x, rd rs (l : Int) = x := ⟨_, rfl⟩
                  rw [hxe] at hc hxh hfs hkn
                  obtain ⟨jx, hjx, hpx, -, -, gp, gz⟩ := R.out.place hxh
                  obtain ⟨KX, hKX⟩ := (R.out.find x).rounds
                  rw [hpx] at hKX
                  have HKX := Aside0.mk hKX
                  obtain ⟨am, e, z0, z1, z2⟩ := at_T37 HG.out.model (jx : Int) (Int.natCast_nonneg jx) (Int.ofNat_lt.2 hjx)
                  cases e
                  rw [Int.toNat_natCast] at z0 z1 z2
                  obtain ⟨px, hpx'⟩ : ∃ px, (rd_T37 m (jx : Int)).f1 = px := ⟨_, rfl⟩
                  rw [hpx'] at z1 gp
                  have hq1 := HQF.out x
                  have hwn : wrap64 ((n : Int) + 1) = ((n + 1 : Nat) : Int) := by
                    have h1 := HN.out
                    have h2 := List.length_filter_le qf (rs.take l)
                    rw [List.length_take] at h2
                    have := HRL.out; have := HFW.out; unfold wrap64; omega
                  have HWN := Aside0.mk hwn
                  have HFS := Aside0.mk hfs
                  have hcs : (jx = 0 ∧ qf x = false) ∨ (0 < jx ∧ px ≠ q ∧ qf x = false) ∨ (0 < jx ∧ px = q ∧ qf x = true) := by
                    rcases (show jx = 0 ∨ 0 < jx by omega) with h | h
                    · refine .inl ⟨h, ?_⟩
                      rw [hq1, gz.1 h]
                      simp
                    · have h1 : x ≠ t.first := fun e => by have := gz.2 e; omega
                      rw [← gp h1] at hq1
                      by_cases h2 : px = q
                      · exact .inr (.inr ⟨h, h2, by rw [hq1]; simp [h1, h2]⟩)
                      · exact .inr (.inl ⟨h, h2, by rw [hq1]; simp [h2]⟩)
                  clear hwl hwn hxh hxe hpx hKX gp gz hpx' z0 z2 hq1 hfs
                  rcases hcs with ⟨h1, h2⟩ | ⟨h1, h2, h3⟩ | ⟨h1, h2, h3⟩
                  · have tx : decide (0 < jx) = false := decide_eq_false (by omega)
                    have tx2 : ¬ 0 < jx := by omega
                    have HNN : Aside0 (n = ((rs.take (l + 1)).filter qf).length) := ⟨by rw [HFS.out, h2, HN.out]; simp⟩
                    clear h1 h2 hkn z1
                    go_wp2_with (first
                      | (go_at_call 12; with_reducible refine (psephoslaw09_Model_Find.calls KX (some ad) c0 m x jx _ HG.out.model HCC.out HKX.out).mono ?_; rintro e w7 ⟨rfl, hb⟩; replace HG := Aside0.mk (HG.out.below hb); replace HKR := Aside0.mk (Kd.R_below HKR.out hb); clear hb))
                    go_roundw
                    case rel => exact ⟨l + 1, n, by omega, rfl, by rw [HWL.out], HNN, HG, HKR⟩
                    case measure => rw [HWL.out]; simp [RowKit.intOf]; omega
                  · have tx : decide (0 < jx) = true := decide_eq_true h1
                    have tp : (px == q) = false := by simp [h2]
                    have HNN : Aside0 (n = ((rs.take (l + 1)).filter qf).length) := ⟨by rw [HFS.out, h3, HN.out]; simp⟩
                    clear h2 h3 hkn
                    go_wp2_with (first
                      | (go_at_call 12; with_reducible refine (psephoslaw09_Model_Find.calls KX (some ad) c0 m x jx _ HG.out.model HCC.out HKX.out).mono ?_; rintro e w7 ⟨rfl, hb⟩; replace HG := Aside0.mk (HG.out.below hb); replace HKR := Aside0.mk (Kd.R_below HKR.out hb); replace z1 := (hb.cell (World.block_lt_of_cell? _ _ z1)).trans z1; clear hb))
                    go_roundw
                    case rel => exact ⟨l + 1, n, by omega, rfl, by rw [HWL.out], HNN, HG, HKR⟩
                    case measure => rw [HWL.out]; simp [RowKit.intOf]; omega
                  · have tx : decide (0 < jx) = true := decide_eq_true h1
                    have tp : (px == q) = true := by simp [h2]
                    have HNN : Aside0 (n + 1 = ((rs.take (l + 1)).filter qf).length) := ⟨by rw [HFS.out, h3, HN.out]; simp⟩
                    obtain ⟨hn1, hn2⟩ := hkn h3
                    obtain ⟨ak, e, kc⟩ := Kd.at_int (Kd.R_reads' HKR.out).2.2 (n : Int) (by omega) (by omega)
                    cases e
                    rw [Int.toNat_natCast, hn2] at kc
                    have tn : decide (ks.length ≤ n) = false := decide_eq_false (by omega)
                    have txx : (x != x) = false := by simp
                    clear h2 h3 hn2
                    go_wp2_with (first
                      | (go_at_call 12; with_reducible refine (psephoslaw09_Model_Find.calls KX (some ad) c0 m x jx _ HG.out.model HCC.out HKX.out).mono ?_; rintro e w7 ⟨rfl, hb⟩; replace HG := Aside0.mk (HG.out.below hb); replace HKR := Aside0.mk (Kd.R_below HKR.out hb); replace z1 := (hb.cell (World.block_lt_of_cell? _ _ z1)).trans z1; replace kc := (hb.cell (World.block_lt_of_cell? _ _ kc)).trans kc; clear hb))
                    go_roundw
                    case rel => exact ⟨l + 1, n + 1, by omega, by rw [HWN.out], by rw [HWL.out], HNN, HG, HKR⟩
                    case measure => rw [HWL.out]; simp [RowKit.intOf]; omega
                · have t1 : decide ((l : Int) < (rs.length : Int)) = false := decide_eq_false (by omega)
                  have hnk : n = ks.length := by rw [HN.out, ← HKS.out, List.take_of_length_le (by omega)]
                  have tnk : ((n : Int) != (ks.length : Int)) = false := by rw [hnk]; simp
                  clear hnk
                  go_wp2_with fail
                  go_roundw
                  case rel => exact ⟨k + 1, by omega, by first | rw [HWK.out] | rfl | simp, HG⟩
                  case measure => (try rw [HWK.out]); simp [RowKit.intOf]; omega
            · have tj : decide (0 < j) = true := decide_eq_true hj0
              have tj2 : 0 < j := hj0
              have hne := HJZ.out hj0
              have hup := R.out.deeds.fit.well.up r HR1.out.1 hne
              obtain ⟨j2, hj2, hpj2, -, -, -, -⟩ := R.out.place hup.1
              obtain ⟨KP, hKP⟩ := (R.out.find (Tree.getD t.ns r).p).rounds
              rw [hpj2] at hKP
              obtain ⟨am, e, z0, z1, z2⟩ := at_T37 HG.out.model (j : Int) (Int.natCast_nonneg j) (Int.ofNat_lt.2 hj')
              cases e
              rw [Int.toNat_natCast] at z0 z1 z2
              rw [g1 hne] at z1
              have HKP := Aside0.mk hKP
              have hh0 := R.out.deeds.high r HR1.out.1
              have hh1 := R.out.deeds.high _ hup.1
              have hw : wrap64 (h + 1) = h + 1 := by have := HR1.out.2.2; have := HBD.out; unfold wrap64; omega
              have HW := Aside0.mk hw
              have HRN : Aside0 (Tree.has t.ns (Tree.getD t.ns r).p = true ∧ placeM m (Tree.getD t.ns r).p = j2 ∧ h + 1 = hq - (Tree.getD t.ns (Tree.getD t.ns r).p).h) := ⟨hup.1, hpj2, by have := HR1.out.2.2; omega⟩
              have HML : Aside0 (h < hq) := ⟨by have := HR1.out.2.2; omega⟩
              obtain ⟨pr, hpr⟩ : ∃ x, (Tree.getD t.ns r).p = x := ⟨_, rfl⟩
              rw [hpr] at z1 HKP HRN
              clear hj0 hfst HJZ g1 hne hup hj2 hpj2 hKP hh0 hh1 hw hpr z0 z2
              go_wp2_with (first
                | (go_at_call 12; with_reducible refine (psephoslaw09_Model_Find.calls KP (some ad) c0 m pr j2 _ HG.out.model HCC.out HKP.out).mono ?_; rintro e w5 ⟨rfl, hb⟩; replace HG := Aside0.mk (HG.out.below hb); clear hb))
              go_roundw
              case rel => exact ⟨pr, j2, h + 1, rfl, by rw [HW.out], HRN, HG⟩
              case measure => rw [HW.out]; simp [RowKit.intOf]; have := HML.out; omega
        · obtain rfl : pq = f1 := (hfp (fun e => by have := hz.2 e; omega)).symm
          have tz : ((i : Int) == 0) = false := by simp; omega
          clear hi0 hown hz hfp
          go_wp2_with fail
          go_at_call 23
          refine (get_calls p B t q _ HG.out.tree HQB.out).mono ?_
          rw [HGD.out.1, HGD.out.2.1, HGD.out.2.2.1, HGD.out.2.2.2]
          rintro e w4 ⟨rfl, hb⟩
          replace HG := Aside0.mk (HG.out.below hb)
          clear hb HB3
          (try clear hc8)
          obtain ⟨ad', e, y0, y1, y2⟩ := at_T37 HG.out.model (i : Int) (Int.natCast_nonneg i) (Int.ofNat_lt.2 HI.out)
          cases e
          rw [Int.toNat_natCast] at y0 y1 y2
          rw [HCE.out.1] at y0
          rw [HCE.out.2.1] at y1
          rw [HCE.out.2.2] at y2
          have tim : i < m.length := HI.out
          have HST : Aside0 (∃ (r : Int) (j : Nat), Tree.has t.ns r = true ∧ placeM m r = j ∧ i = j ∧ (0 : Int) = hq - (Tree.getD t.ns r).h) := ⟨_, i, HQ.out, HPL.out, rfl, by rw [HGD.out.2.2.1]; omega⟩
          go_wp2_with fail
          go_loopw [14, 15] (fun v14 v15 wr => ∃ (r : Int) (j : Nat) (h : Int), v15 = .int .i64 j ∧ v14 = .int .i64 h ∧ Aside0 (Tree.has t.ns r = true ∧ placeM m r = j ∧ h = hq - (Tree.getD t.ns r).h) ∧ Aside0 (AG w p B t (some ad) m (some ar) cr rs wr)) (fun v14 v15 _ => (hq - RowKit.intOf v14).toNat)
          case atStart =>
            obtain ⟨r, j, a1, a2, a3, a4⟩ := HST.out
            exact ⟨r, i, 0, rfl, rfl, ⟨a1, by rw [a2, a3], a4⟩, HG⟩
          case round =>
            clear HG HST
            obtain ⟨r, j, h, rfl, rfl, HR1, HG⟩ := hrel
            obtain ⟨j', hj', hpj, g0, g2, g1, gz⟩ := R.out.place HR1.out.1
            obtain rfl : j = j' := by have := HR1.out.2.1; omega
            have hfst : j = 0 → h = hq := fun e => by
              have := HR1.out.2.2
              rw [gz.1 e, R.out.deeds.fit.zero] at this
              omega
            have HJZ : Aside0 (0 < j → r ≠ t.first) := ⟨fun e e1 => by have := gz.2 e1; omega⟩
            clear g0 g2 hpj gz
            rcases (show j = 0 ∨ 0 < j by omega) with hj0 | hj0
            · have tj : decide (0 < j) = false := decide_eq_false (by omega)
              have tj2 : ¬ 0 < j := by omega
              obtain rfl : hq = h := (hfst hj0).symm
              clear hj0 HJZ g1 hj' hfst
              obtain ⟨ad', e, y0, y1, y2⟩ := at_T37 HG.out.model (i : Int) (Int.natCast_nonneg i) (Int.ofNat_lt.2 HI.out)
              cases e
              rw [Int.toNat_natCast] at y0 y1 y2
              rw [HCE.out.1] at y0
              rw [HCE.out.2.1] at y1
              rw [HCE.out.2.2] at y2
              go_wp2_with fail
              go_at_call 10
              refine (kids_calls p B t q _ HG.out.tree R.out.deeds.fit.uniq R.out.deeds.fit.ne (by have := R.out.deeds.len; omega) R.out.deeds.fit.well.wide).mono ?_
              rw [HKD.out q]
              obtain ⟨qf, hqf⟩ : ∃ qf : Int → Bool, (fun r => decide (r ≠ t.first) && decide ((Tree.getD t.ns r).p = q)) = qf := ⟨_, rfl⟩
              rw [hqf]
              obtain ⟨ks, hks⟩ : ∃ ks, rs.filter qf = ks := ⟨_, rfl⟩
              rw [hks]
              rintro e w6 ⟨v, rfl, hR, hb⟩
              obtain ⟨Ak, ck, rfl⟩ := Kd.R_slice hR
              have HKR : Aside0 (Kd.R (Kd.int .u64) 25 w6 w.heap.size (fun _ => True) (.slice Ak ks.length ck) ks) := ⟨Kd.R_lower hR HG.out.bel.size⟩
              replace HG := Aside0.mk (HG.out.below hb)
              have HQF : Aside0 (∀ x, qf x = (decide (x ≠ t.first) && decide ((Tree.getD t.ns x).p = q))) := ⟨fun x => by rw [← hqf]⟩
              have HKS := Aside0.mk hks
              clear hR hb hqf hks y0 y1 y2
              go_wp2_with fail
              go_loopw [17, 122] (fun v17 v122 wr => ∃ l n : Nat, l ≤ rs.length ∧ v17 = .int .i64 n ∧ v122 = .int .i64 l ∧ Aside0 (n = ((rs.take l).filter qf).length) ∧ Aside0 (AG w p B t (some ad) m (some ar) cr rs wr) ∧ Aside0 (Kd.R (Kd.int .u64) 25 wr w.heap.size (fun _ => True) (.slice Ak ks.length ck) ks)) (fun _ v122 _ => rs.length - (RowKit.intOf v122).toNat)
              case atStart => exact ⟨0, 0, by omega, rfl, rfl, ⟨by simp⟩, HG, HKR⟩
              case round =>
                clear HG HKR
                obtain ⟨l, n, hl, rfl, rfl, HN, HG, HKR⟩ := hrel
                by_cases hll : l < rs.length
                · have t1 : decide ((l : Int) < (rs.length : Int)) = true := decide_eq_true (by omega)
                  have hwl : wrap64 ((l : Int) + 1) = ((l + 1 : Nat) : Int) := by have := HRL.out; have := HFW.out; unfold wrap64; omega
                  have HWL := Aside0.mk hwl
                  obtain ⟨ar', e, hc⟩ := Kd.at_int (Kd.R_reads' HG.out.row).2.2 (l : Int) (by omega) (by omega)
                  cases e
                  rw [Int.toNat_natCast] at hc
                  have hxh := HRM.out l hll
                  have hfs := filter_snoc qf rs l hll
                  have hkn := kids_next qf rs l hll
                  rw [← HN.out, HKS.out] at hkn
                  obtain ⟨x, hxe⟩ : ∃ x, rd rs (l : Int) = x := ⟨_, rfl⟩
                  rw [hxe] at hc hxh hfs hkn
                  obtain ⟨jx, hjx, hpx, -, -, gp, gz⟩ := R.out.place hxh
                  obtain ⟨KX, hKX⟩ := (R.out.find x).rounds
                  rw [hpx] at hKX
                  have HKX := Aside0.mk hKX
                  obtain ⟨am, e, z0, z1, z2⟩ := at_T37 HG.out.model (jx : Int) (Int.natCast_nonneg jx) (Int.ofNat_lt.2 hjx)
                  cases e
                  rw [Int.toNat_natCast] at z0 z1 z2
                  obtain ⟨px, hpx'⟩ : ∃ px, (rd_T37 m (jx : Int)).f1 = px := ⟨_, rfl⟩
                  rw [hpx'] at z1 gp
                  have hq1 := HQF.out x
                  have hwn : wrap64 ((n : Int) + 1) = ((n + 1 : Nat) : Int) := by
                    have h1 := HN.out
                    have h2 := List.length_filter_le qf (rs.take l)
                    rw [List.length_take] at h2
                    have := HRL.out; have := HFW.out; unfold wrap64; omega
                  have HWN := Aside0.mk hwn
                  have HFS := Aside0.mk hfs
                  have hcs : (jx = 0 ∧ qf x = false) ∨ (0 < jx ∧ px ≠ q ∧ qf x = false) ∨ (0 < jx ∧ px = q ∧ qf x = true) := by
                    rcases (show jx = 0 ∨ 0 < jx by omega) with h | h
                    · refine .inl ⟨h, ?_⟩
                      rw [hq1, gz.1 h]
                      simp
                    · have h1 : x ≠ t.first := fun e => by have := gz.2 e; omega
                      rw [← gp h1] at hq1
                      by_cases h2 : px = q
                      · exact .inr (.inr ⟨h, h2, by rw [hq1]; simp [h1, h2]⟩)
                      · exact .inr (.inl ⟨h, h2, by rw [hq1]; simp [h2]⟩)
                  clear hwl hwn hxh hxe hpx hKX gp gz hpx' z0 z2 hq1 hfs
                  rcases hcs with ⟨h1, h2⟩ | ⟨h1, h2, h3⟩ | ⟨h1, h2, h3⟩
                  · have tx : decide (0 < jx) = false := decide_eq_false (by omega)
                    have tx2 : ¬ 0 < jx := by omega
                    have HNN : Aside0 (n = ((rs.take (l + 1)).filter qf).length) := ⟨by rw [HFS.out, h2, HN.out]; simp⟩
                    clear h1 h2 hkn z1
                    go_wp2_with (first
                      | (go_at_call 12; with_reducible refine (psephoslaw09_Model_Find.calls KX (some ad) c0 m x jx _ HG.out.model HCC.out HKX.out).mono ?_; rintro e w7 ⟨rfl, hb⟩; replace HG := Aside0.mk (HG.out.below hb); replace HKR := Aside0.mk (Kd.R_below HKR.out hb); clear hb))
                    go_roundw
                    case rel => exact ⟨l + 1, n, by omega, rfl, by rw [HWL.out], HNN, HG, HKR⟩
                    case measure => rw [HWL.out]; simp [RowKit.intOf]; omega
                  · have tx : decide (0 < jx) = true := decide_eq_true h1
                    have tp : (px == q) = false := by simp [h2]
                    have HNN : Aside0 (n = ((rs.take (l + 1)).filter qf).length) := ⟨by rw [HFS.out, h3, HN.out]; simp⟩
                    clear h2 h3 hkn
                    go_wp2_with (first
                      | (go_at_call 12; with_reducible refine (psephoslaw09_Model_Find.calls KX (some ad) c0 m x jx _ HG.out.model HCC.out HKX.out).mono ?_; rintro e w7 ⟨rfl, hb⟩; replace HG := Aside0.mk (HG.out.below hb); replace HKR := Aside0.mk (Kd.R_below HKR.out hb); replace z1 := (hb.cell (World.block_lt_of_cell? _ _ z1)).trans z1; clear hb))
                    go_roundw
                    case rel => exact ⟨l + 1, n, by omega, rfl, by rw [HWL.out], HNN, HG, HKR⟩
                    case measure => rw [HWL.out]; simp [RowKit.intOf]; omega
                  · have tx : decide (0 < jx) = true := decide_eq_true h1
                    have tp : (px == q) = true := by simp [h2]
                    have HNN : Aside0 (n + 1 = ((rs.take (l + 1)).filter qf).length) := ⟨by rw [HFS.out, h3, HN.out]; simp⟩
                    obtain ⟨hn1, hn2⟩ := hkn h3
                    obtain ⟨ak, e, kc⟩ := Kd.at_int (Kd.R_reads' HKR.out).2.2 (n : Int) (by omega) (by omega)
                    cases e
                    rw [Int.toNat_natCast, hn2] at kc
                    have tn : decide (ks.length ≤ n) = false := decide_eq_false (by omega)
                    have txx : (x != x) = false := by simp
                    clear h2 h3 hn2
                    go_wp2_with (first
                      | (go_at_call 12; with_reducible refine (psephoslaw09_Model_Find.calls KX (some ad) c0 m x jx _ HG.out.model HCC.out HKX.out).mono ?_; rintro e w7 ⟨rfl, hb⟩; replace HG := Aside0.mk (HG.out.below hb); replace HKR := Aside0.mk (Kd.R_below HKR.out hb); replace z1 := (hb.cell (World.block_lt_of_cell? _ _ z1)).trans z1; replace kc := (hb.cell (World.block_lt_of_cell? _ _ kc)).trans kc; clear hb))
                    go_roundw
                    case rel => exact ⟨l + 1, n + 1, by omega, by rw [HWN.out], by rw [HWL.out], HNN, HG, HKR⟩
                    case measure => rw [HWL.out]; simp [RowKit.intOf]; omega
                · have t1 : decide ((l : Int) < (rs.length : Int)) = false := decide_eq_false (by omega)
                  have hnk : n = ks.length := by rw [HN.out, ← HKS.out, List.take_of_length_le (by omega)]
                  have tnk : ((n : Int) != (ks.length : Int)) = false := by rw [hnk]; simp
                  clear hnk
                  go_wp2_with fail
                  go_roundw
                  case rel => exact ⟨k + 1, by omega, by first | rw [HWK.out] | rfl | simp, HG⟩
                  case measure => (try rw [HWK.out]); simp [RowKit.intOf]; omega
            · have tj : decide (0 < j) = true := decide_eq_true hj0
              have tj2 : 0 < j := hj0
              have hne := HJZ.out hj0
              have hup := R.out.deeds.fit.well.up r HR1.out.1 hne
              obtain ⟨j2, hj2, hpj2, -, -, -, -⟩ := R.out.place hup.1
              obtain ⟨KP, hKP⟩ := (R.out.find (Tree.getD t.ns r).p).rounds
              rw [hpj2] at hKP
              obtain ⟨am, e, z0, z1, z2⟩ := at_T37 HG.out.model (j : Int) (Int.natCast_nonneg j) (Int.ofNat_lt.2 hj')
              cases e
              rw [Int.toNat_natCast] at z0 z1 z2
              rw [g1 hne] at z1
              have HKP := Aside0.mk hKP
              have hh0 := R.out.deeds.high r HR1.out.1
              have hh1 := R.out.deeds.high _ hup.1
              have hw : wrap64 (h + 1) = h + 1 := by have := HR1.out.2.2; have := HBD.out; unfold wrap64; omega
              have HW := Aside0.mk hw
              have HRN : Aside0 (Tree.has t.ns (Tree.getD t.ns r).p = true ∧ placeM m (Tree.getD t.ns r).p = j2 ∧ h + 1 = hq - (Tree.getD t.ns (Tree.getD t.ns r).p).h) := ⟨hup.1, hpj2, by have := HR1.out.2.2; omega⟩
              have HML : Aside0 (h < hq) := ⟨by have := HR1.out.2.2; omega⟩
              obtain ⟨pr, hpr⟩ : ∃ x, (Tree.getD t.ns r).p = x := ⟨_, rfl⟩
              rw [hpr] at z1 HKP HRN
              clear hj0 hfst HJZ g1 hne hup hj2 hpj2 hKP hh0 hh1 hw hpr z0 z2
              go_wp2_with (first
                | (go_at_call 12; with_reducible refine (psephoslaw09_Model_Find.calls KP (some ad) c0 m pr j2 _ HG.out.model HCC.out HKP.out).mono ?_; rintro e w5 ⟨rfl, hb⟩; replace HG := Aside0.mk (HG.out.below hb); clear hb))
              go_roundw
              case rel => exact ⟨pr, j2, h + 1, rfl, by rw [HW.out], HRN, HG⟩
              case measure => rw [HW.out]; simp [RowKit.intOf]; have := HML.out; omega
    · have t0 : decide ((k : Int) < (rs.length : Int)) = false := decide_eq_false (by omega)
      go_wp2_with fail
      go_ret
      exact ⟨rfl, HG.out.bel⟩
end Go.Proofs.YtgbhblbfodphfaaDoor.QZ
