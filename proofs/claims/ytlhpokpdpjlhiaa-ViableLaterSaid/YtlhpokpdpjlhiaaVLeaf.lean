/-
  The law ViableLeaf of package psephoslaw13: in a tree all of whose blocks have one source all may lead on, or none.
-/
import Derived.Test.YtlhpokpdpjlhiaaMade
import Derived.Test.YtlhpokpdpjlhiaaVia4
namespace Go.Proofs.Ytlhpokpdpjlhiaa.QI
open Go.RowKit Go.Maps Go.Proofs.YtlhpokpdpjlhiaaW.PrintWords Go.Proofs.Ytlhpokpdpjlhiaa.Tree Go.Proofs.Ytlhpokpdpjlhiaa.Own
set_option linter.unusedVariables false
set_option maxRecDepth 100000

/-! ### the plain side -/
theorem rel_has {t : T} {m : List S39} (R : Rel t m) (x : Int) : Tree.has t.ns x = true ↔ 1 ≤ x ∧ x ≤ (t.ns.length : Int) := by
  rw [has_is R.chain]
  simp
theorem rel_low {t : T} {m : List S39} (R : Rel t m) : Low t := by
  have W := R.well
  have c := R.chain
  refine ⟨⟨W, ?_, fun x hx hf => ?_, ?_, ?_⟩, fun x hx => (R.heights x hx).2, by have := c.small; omega⟩
  · unfold Uniq
    rw [List.Nodup, List.pairwise_iff_getElem]
    intro i j hi hj hij e
    simp only [List.length_map] at hi hj
    simp only [List.getElem_map] at e
    rw [c.root i hi, c.root j hj] at e
    omega
  · have h := (rel_has R x).1 hx
    rw [R.first] at hf
    have hg := getD_in c (x.toNat - 1) (by omega)
    rw [show (((x.toNat - 1 : Nat) : Int) + 1) = x by omega] at hg
    obtain ⟨j, hj, h1, h2, h3⟩ := c.up (x.toNat - 1) (by omega) (by omega)
    rw [hg, h1, getD_in c j (by omega)]
    exact h3
  · have h := getD_in c 0 c.pos
    rw [R.first, show (1 : Int) = ((0 : Nat) : Int) + 1 from rfl, h]
    exact c.zero.2.2
  · have h := getD_in c 0 c.pos
    rw [R.first, show (1 : Int) = ((0 : Nat) : Int) + 1 from rfl, h, c.zero.2.1]
    exact Int.le_refl 0
theorem may_const {t : T} (L : Low t) {lf : Int → Bool} {b : Bool} (h : ∀ r, Tree.has t.ns r = true → lf r = b) : ∀ r, Tree.has t.ns r = true → may t lf r = b := by
  have key : ∀ (n : Nat) (r : Int), Tree.has t.ns r = true → 1024 - (getD t.ns r).h ≤ (n : Int) → mayN t lf n r = b := by
    intro n
    induction n with
    | zero =>
      intro r hr hn
      have := L.high r hr
      omega
    | succ n ih =>
      intro r hr hn
      rw [mayN_succ t lf n r]
      have hk : ∀ x ∈ kidsOf t r, mayN t lf n x = b := fun x hx => by
        have := L.kid hx
        exact ih x this.1 (by omega)
      revert hk
      cases kidsOf t r with
      | nil =>
        intro _
        simp [h r hr]
      | cons y l =>
        intro hk
        have hy := hk y (by simp)
        cases b with
        | true => simp [hy]
        | false =>
          rw [show (y :: l).isEmpty = false from rfl, Bool.false_and, Bool.false_or, List.any_eq_false]
          intro x hx
          rw [hk x hx]
          simp
  intro r hr
  have := L.fit.well.root r hr
  exact key 1024 r hr (by omega)
theorem all_len {t : T} (L : Low t) {lf : Int → Bool} {l : List Int} (hd : l.Nodup) (h : ∀ x, x ∈ l ↔ Tree.has t.ns x = true ∧ may t lf x = true) (b : Bool) (hl : ∀ r, Tree.has t.ns r = true → lf r = b) : (l.length : Int) = if b = true then (t.ns.length : Int) else 0 := by
  have hm := may_const L hl
  cases b with
  | true =>
    have := len_same hd L.fit.uniq (fun x => by
      rw [h, ← has_mem]
      exact ⟨fun e => e.1, fun e => ⟨e, hm x e⟩⟩)
    rw [List.length_map] at this
    rw [this, if_pos rfl]
  | false =>
    have : l = [] := List.eq_nil_iff_forall_not_mem.2 fun x hx => by
      obtain ⟨h1, h2⟩ := (h x).1 hx
      rw [hm x h1] at h2
      cases h2
    rw [this]
    rfl
/-- The sources laid in by the first k blocks. -/
def srcK (c : Int) (k : Nat) (y : Int) : Int := if 1 ≤ y ∧ y ≤ (k : Int) then c else 0
theorem srcK_next (c : Int) (k : Nat) : (fun y => if y = (k : Int) + 1 then c else srcK c k y) = srcK c (k + 1) := by
  funext y
  unfold srcK
  by_cases e : y = (k : Int) + 1
  · rw [if_pos e, if_pos (by omega)]
  · rw [if_neg e]
    by_cases e2 : 1 ≤ y ∧ y ≤ (k : Int)
    · rw [if_pos e2, if_pos (by omega)]
    · rw [if_neg e2, if_neg (by omega)]
theorem leaf_lf {t : T} {m : List S39} (R : Rel t m) (j c now : Int) (r : Int) (hr : Tree.has t.ns r = true) : lfOf t j 1 now (srcK c t.ns.length) r = (j == 0 || c == j || decide (wrap64 (c + 2) ≥ now)) := by
  have h1 : srcK c t.ns.length r = c := if_pos ((rel_has R r).1 hr)
  have h2 : below t r 1 = true := by
    have := (below_all (rel_low R) r).2 hr
    rw [R.first] at this
    exact this
  unfold lfOf
  rw [h1, h2, Bool.and_true]

/-! ### the walk -/
theorem wf_small {c : Int} (h : 0 ≤ c ∧ c < 9) : (Lit.int .i64 c).wf = true := by
  have h1 : IntKind.i64.min = -9223372036854775808 := by decide
  have h2 : IntKind.i64.max = 9223372036854775807 := by decide
  simp [Lit.wf, h1, h2]
  omega
/-- Between two rounds. -/
structure LeafAt (w : World) (p B gv S : Nat) (t : T) (Am : Option Addr) (cm : Nat) (m : List S39) (j now c : Int) (k : Nat) (wr : World) : Prop where
  mem : Mem wr p B t
  row : Kd.R k39 39 wr w.heap.size (fun b => b ≠ S) (.slice Am m.length cm) m
  box : wr.heap[gv]? = some (.cells #[.int .i64 j, .int .u64 1, .int .i64 0, .int .u64 1, .int .i64 now, .map (some S)] 34 (0, 0))
  src : SrcBlk wr S k (srcK c k)
  bel : Below w.heap.size w wr
  ne : p ≠ S ∧ B ≠ S ∧ gv ≠ S ∧ w.heap.size ≤ S
theorem LeafAt.below {w : World} {p B gv S : Nat} {t : T} {Am : Option Addr} {cm : Nat} {m : List S39} {j now c : Int} {k : Nat} {wr w' : World} (h : LeafAt w p B gv S t Am cm m j now c k wr) (hb : Below wr.heap.size wr w') : LeafAt w p B gv S t Am cm m j now c k w' :=
  ⟨h.mem.below hb, Kd.R_below h.row hb, (hb.block gv (Array.getElem?_eq_some_iff.1 h.box).1).trans h.box, h.src.below hb, h.bel.trans (hb.mono h.bel.size), h.ne⟩
theorem LeafAt.turn {w : World} {p B gv S : Nat} {t : T} {Am : Option Addr} {cm : Nat} {m : List S39} {j now c : Int} {k k' : Nat} {wr w' : World} (h : LeafAt w p B gv S t Am cm m j now c k wr) (ht : wr.mapTurned w' S) (hs : SrcBlk w' S k' (srcK c k')) : LeafAt w p B gv S t Am cm m j now c k' w' :=
  have hk := turned_kept ht
  ⟨h.mem.move (hk.2 p h.mem.lt.1 h.ne.1) (hk.2 B h.mem.lt.2 h.ne.2.1), Kd.R_kept h.row hk (fun b ho he => ho he), (hk.2 gv (Array.getElem?_eq_some_iff.1 h.box).1 h.ne.2.2.1).trans h.box, hs, h.bel.trans (turned_below ht h.ne.2.2.2), h.ne⟩
set_option maxHeartbeats 16000000 in
theorem viableLeaf_law (A : Option Addr) (n c0 : Nat) (zs : List Int) (a1 a2 a3 : Int) (w : World) (h : ReadsInt w .u8 A n zs) (hz : ∀ z ∈ zs, 0 ≤ z ∧ z ≤ 255) (h1 : 0 ≤ a1 ∧ a1 ≤ 255) (h2 : 0 ≤ a2 ∧ a2 ≤ 255) (h3 : 0 ≤ a3 ∧ a3 ≤ 255) :
    Calls Try.prog 6 #[.slice A n c0, .int .u8 a1, .int .u8 a2, .int .u8 a3] w fun e w' => e = .returned (.bool true) ∧ Below w.heap.size w w' := by
  have hmk : ∀ w : World, (Instr.makeMap 32 none).run Try.prog w = .ok (.map (some w.heap.size)) (w.alloc (.map #[] 0)) := fun _ => run_makeMap _ _
  have H := Aside0.mk h
  have HZ := Aside0.mk hz
  have r9 : ∀ a : Int, 0 ≤ a ∧ a ≤ 255 → wrap64 (a.tmod 9) = a % 9 ∧ 0 ≤ a % 9 ∧ a % 9 < 9 := fun a ha => by
    rw [Int.tmod_eq_emod_of_nonneg ha.1]
    unfold wrap64
    omega
  obtain ⟨hw1, hc1, hc2⟩ := r9 a1 h1
  obtain ⟨hwn, hn1, hn2⟩ := r9 a2 h2
  obtain ⟨hw3, hj1, hj2⟩ := r9 a3 h3
  obtain ⟨c, hc⟩ : ∃ c, a1 % 9 = c := ⟨_, rfl⟩
  obtain ⟨now, hnow⟩ : ∃ c, a2 % 9 = c := ⟨_, rfl⟩
  obtain ⟨j, hj⟩ : ∃ c, a3 % 9 = c := ⟨_, rfl⟩
  rw [hc] at hw1 hc1 hc2
  rw [hnow] at hwn hn1 hn2
  rw [hj] at hw3 hj1 hj2
  have HCB := Aside0.mk (And.intro hc1 hc2)
  clear h hz h1 h2 h3 r9 hc hnow hj hc1 hc2 hn1 hn2 hj1 hj2
  go_enter Try.func6, Try.ntmps6
  go_wp2_with fail
  go_at_call 9
  refine (vawake_calls w).mono ?_
  rintro e w0 ⟨rfl, hb⟩
  have HB0 := Aside0.mk hb
  have H1 := Aside0.mk (H.out.below hb)
  clear hb H
  go_wp2_with fail
  go_at_call 10
  refine (made_calls A n c0 zs w0 H1.out HZ.out).mono ?_
  rintro e w1 ⟨p, B, v, t, m, rfl, hM, hR, hrow, hb, hp, hB⟩
  obtain ⟨Am, cm, rfl⟩ := Kd.R_slice hrow
  have HLW := Aside0.mk (rel_low hR)
  have HR := Aside0.mk hR
  have HML := Aside0.mk hR.len
  have HM1 := Aside0.mk hM
  have HB1 := Aside0.mk (HB0.out.trans (hb.mono HB0.out.size))
  have HRW : Aside0 (Kd.R k39 39 w1 w.heap.size (fun b => b ≠ w1.heap.size) (.slice Am m.length cm) m) := ⟨Kd.R_reok rfl (Kd.R_lower hrow HB0.out.size) (fun b hb => by have := Kd.R_lt hrow b hb; omega)⟩
  have hml : (m.length : Int) ≤ 31 := by rw [hR.len]; have := hR.chain.small; omega
  have HMB := Aside0.mk hml
  clear hM hR hrow hb hp hB hml
  go_wp2_with fail
  obtain ⟨gv, hgv⟩ : ∃ gv, w1.heap.size + 1 = gv := ⟨_, rfl⟩
  obtain ⟨S, hS⟩ : ∃ S, w1.heap.size = S := ⟨_, rfl⟩
  obtain ⟨w2, hw2⟩ : ∃ w2, (w1.alloc (.map #[] 0)).alloc (.cells #[.int .i64 j, .int .u64 1, .int .i64 0, .int .u64 1, .int .i64 now, .map (some w1.heap.size)] 34) = w2 := ⟨_, rfl⟩
  have HL : Aside0 (LeafAt w p B gv S t Am cm m j now c 0 w2) := ⟨by
    have hbel : Below w1.heap.size w1 w2 := by rw [← hw2]; exact below_alloc (below_alloc (Below.refl _ _) _) _
    refine ⟨HM1.out.below hbel, Kd.R_below (by rw [← hS]; exact HRW.out) hbel, ?_, ?_, HB1.out.trans (hbel.mono HB1.out.size), ?_⟩
    · rw [← hgv, ← hS, ← hw2]
      have := new_block (w1.alloc (.map #[] 0)) (.cells #[.int .i64 j, .int .u64 1, .int .i64 0, .int .u64 1, .int .i64 now, .map (some w1.heap.size)] 34)
      simpa using this
    · rw [← hw2, ← hS]
      have := (srcBlk_made w1).below (below_alloc (Below.refl _ _) (.cells #[.int .i64 j, .int .u64 1, .int .i64 0, .int .u64 1, .int .i64 now, .map (some w1.heap.size)] 34))
      have e : srcK c 0 = fun _ => 0 := by
        funext y
        unfold srcK
        rw [if_neg (by omega)]
      rw [e]
      exact this
    · have := HM1.out.lt
      have := HB1.out.size
      omega⟩
  rw [hw2]
  rw [hgv]
  rw [hS]
  clear hgv hS
  have HW1 := Aside0.mk hw1
  have HWN := Aside0.mk hwn
  have HW3 := Aside0.mk hw3
  clear hw1 hwn hw3 hw2 HRW HM1 HB1 hmk
  go_loopw [36] (fun v36 wr => ∃ k : Nat, k ≤ m.length ∧ v36 = .int .i64 k ∧ Aside0 (LeafAt w p B gv S t Am cm m j now c k wr)) (fun v36 _ => m.length - (RowKit.intOf v36).toNat)
  case atStart => exact ⟨0, by omega, rfl, HL⟩
  case round =>
    obtain ⟨k, hk, rfl, HL⟩ := hrel
    have b := HL.out.box
    have bx0 : wr.cell? ⟨gv, 0, none⟩ = some (.int .i64 j) := by simp [World.cell?, b]
    have bx1 : wr.cell? ⟨gv, 1, none⟩ = some (.int .u64 1) := by simp [World.cell?, b]
    have bx2 : wr.cell? ⟨gv, 2, none⟩ = some (.int .i64 0) := by simp [World.cell?, b]
    have bx3 : wr.cell? ⟨gv, 3, none⟩ = some (.int .u64 1) := by simp [World.cell?, b]
    have bx4 : wr.cell? ⟨gv, 4, none⟩ = some (.int .i64 now) := by simp [World.cell?, b]
    have bx5 : wr.cell? ⟨gv, 5, none⟩ = some (.map (some S)) := by simp [World.cell?, b]
    clear b
    by_cases hlt : k < m.length
    · have t0 : decide ((k : Int) < (m.length : Int)) = true := decide_eq_true (by omega)
      have hwk : wrap64 ((k : Int) + 1) = ((k + 1 : Nat) : Int) := by have := HMB.out; unfold wrap64; omega
      have HWK := Aside0.mk hwk
      obtain ⟨am, hAM, e0, e1, e2⟩ := at_T39 (Kd.R_reads' HL.out.row).2.2 (k : Int) (by omega) (by omega)
      subst hAM
      have hkn : k < t.ns.length := by rw [← HML.out]; exact hlt
      rw [Int.toNat_natCast] at e0 e1 e2
      rw [rd_model HR.out k hkn] at e0 e1 e2
      have hnd : toS t.ns[k] = ⟨(k : Int) + 1, t.ns[k].p, t.ns[k].s⟩ := by unfold toS; rw [HR.out.chain.root k hkn]
      rw [hnd] at e0 e1 e2
      simp only at e0 e1 e2
      obtain ⟨np, hnp⟩ : ∃ np, t.ns[k].p = np := ⟨_, rfl⟩
      obtain ⟨sj, hsj⟩ : ∃ sj, t.ns[k].s = sj := ⟨_, rfl⟩
      rw [hnp] at e1
      rw [hsj] at e2
      have HKR : Aside0 ((0 : Int) ≤ (k : Int) + 1 ∧ (k : Int) + 1 ≤ 18446744073709551615) := ⟨by have := HMB.out; omega⟩
      have HWF : Aside0 ((Lit.int .i64 c).wf = true ∧ k < maxLen) := ⟨wf_small HCB.out, by have := HMB.out; unfold maxLen; omega⟩
      have HL1 := Aside0.mk (HL.out.below (below_alloc (Below.refl _ _) (.cells #[.int .u64 ((k : Int) + 1), .int .u64 np, .int .i64 sj] 39)))
      have hgl : gv < wr.heap.size := (Array.getElem?_eq_some_iff.1 HL.out.box).1
      have bxa : (wr.alloc (.cells #[.int .u64 ((k : Int) + 1), .int .u64 np, .int .i64 sj] 39)).cell? ⟨gv, 5, none⟩ = some (.map (some S)) := by
        have hb := HL1.out.box
        simp [World.cell?, hb]
      clear hwk hkn hnd hnp hsj
      go_wp2_with (at_mapUpdate; go_loud (refine src_put HL1.out.src HWF.out.2 rfl _ _ _ (.inr rfl) rfl ((k : Int) + 1) (wrap64 (a1.tmod 9)) rfl HKR.out rfl (by rw [HW1.out]; exact HWF.out.1) ?_); go_loud (intro w3 h1 h2; rw [HW1.out, srcK_next] at h1; have HL3 := Aside0.mk (HL1.out.turn h2 h1)); clear h1 h2)
      go_roundw
      case rel => exact ⟨k + 1, by omega, by rw [HWK.out], HL3⟩
      case measure => rw [HWK.out]; simp [RowKit.intOf]; omega
    · have t0 : decide ((k : Int) < (m.length : Int)) = false := decide_eq_false (by omega)
      obtain rfl : k = m.length := by omega
      have HLF : Aside0 (∀ r, Tree.has t.ns r = true → lfOf t j 1 now (srcK c m.length) r = (j == 0 || c == j || decide (wrap64 (c + 2) ≥ now))) := ⟨fun r hr => by rw [HML.out]; exact leaf_lf HR.out j c now r hr⟩
      by_cases d1 : (j == 0) = true
      · have HCC : Aside0 ((if (j == 0 || c == j || decide (wrap64 (c + 2) ≥ now)) = true then (t.ns.length : Int) else 0) = (m.length : Int)) := ⟨by rw [d1, HML.out]; simp⟩
        have e1 : (wrap64 (a3.tmod 9) == 0) = true := by rw [HW3.out]; exact d1
        clear d1
        go_wp2_with (first
          | (go_at_call 12; go_loud (refine (vof_calls p B t j 1 0 1 now (.map (some S)) (srcK c m.length) wr HLW.out (by omega) HL.out.mem (HL.out.src.at_ (by have := HL.out.src.lt; omega))).mono ?_); go_loud (rintro e w5 ⟨kb, rfl, hmo⟩; obtain ⟨lb, hob, hmb⟩ := hmo.out; have HO := Aside0.mk hob; have HB5 := Aside0.mk (HL.out.bel.trans (hmo.bel.mono HL.out.bel.size)); have HLE := Aside0.mk (all_len HLW.out hob.1 hmb _ HLF.out)); clear hmo hob hmb)
          | (at_len; refine out_size HO.out rfl _ rfl rfl ?_; rw [HLE.out]; rw [HCC.out]))
        go_ret
        exact ⟨rfl, HB5.out⟩
      · have d1' : (j == 0) = false := by simpa using d1
        clear d1
        have e1 : (wrap64 (a3.tmod 9) == 0) = false := by rw [HW3.out]; exact d1'
        have D1 := Aside0.mk d1'
        clear d1'
        by_cases d2 : (c == j) = true
        · have HCC : Aside0 ((if (j == 0 || c == j || decide (wrap64 (c + 2) ≥ now)) = true then (t.ns.length : Int) else 0) = (m.length : Int)) := ⟨by rw [d2, HML.out]; simp⟩
          have e2 : (wrap64 (a1.tmod 9) == wrap64 (a3.tmod 9)) = true := by rw [HW1.out, HW3.out]; exact d2
          clear d2
          go_wp2_with (first
            | (go_at_call 12; go_loud (refine (vof_calls p B t j 1 0 1 now (.map (some S)) (srcK c m.length) wr HLW.out (by omega) HL.out.mem (HL.out.src.at_ (by have := HL.out.src.lt; omega))).mono ?_); go_loud (rintro e w5 ⟨kb, rfl, hmo⟩; obtain ⟨lb, hob, hmb⟩ := hmo.out; have HO := Aside0.mk hob; have HB5 := Aside0.mk (HL.out.bel.trans (hmo.bel.mono HL.out.bel.size)); have HLE := Aside0.mk (all_len HLW.out hob.1 hmb _ HLF.out)); clear hmo hob hmb)
            | (at_len; refine out_size HO.out rfl _ rfl rfl ?_; rw [HLE.out]; rw [HCC.out]))
          go_ret
          exact ⟨rfl, HB5.out⟩
        · have d2' : (c == j) = false := by simpa using d2
          have e2 : (wrap64 (a1.tmod 9) == wrap64 (a3.tmod 9)) = false := by rw [HW1.out, HW3.out]; exact d2'
          have D2 := Aside0.mk d2'
          clear d2 d2'
          by_cases d3 : wrap64 (c + 2) ≥ now
          · have d3' : decide (wrap64 (c + 2) ≥ now) = true := decide_eq_true d3
            have HCC : Aside0 ((if (j == 0 || c == j || decide (wrap64 (c + 2) ≥ now)) = true then (t.ns.length : Int) else 0) = (m.length : Int)) := ⟨by rw [d3', HML.out]; simp⟩
            have e3 : decide (wrap64 (wrap64 (a1.tmod 9) + 2) ≥ wrap64 (a2.tmod 9)) = true := by rw [HW1.out, HWN.out]; exact d3'
            clear d3 d3'
            go_wp2_with (first
              | (go_at_call 12; go_loud (refine (vof_calls p B t j 1 0 1 now (.map (some S)) (srcK c m.length) wr HLW.out (by omega) HL.out.mem (HL.out.src.at_ (by have := HL.out.src.lt; omega))).mono ?_); go_loud (rintro e w5 ⟨kb, rfl, hmo⟩; obtain ⟨lb, hob, hmb⟩ := hmo.out; have HO := Aside0.mk hob; have HB5 := Aside0.mk (HL.out.bel.trans (hmo.bel.mono HL.out.bel.size)); have HLE := Aside0.mk (all_len HLW.out hob.1 hmb _ HLF.out)); clear hmo hob hmb)
              | (at_len; refine out_size HO.out rfl _ rfl rfl ?_; rw [HLE.out]; rw [HCC.out]))
            go_ret
            exact ⟨rfl, HB5.out⟩
          · have d3' : decide (wrap64 (c + 2) ≥ now) = false := decide_eq_false d3
            have HCC : Aside0 ((if (j == 0 || c == j || decide (wrap64 (c + 2) ≥ now)) = true then (t.ns.length : Int) else 0) = 0) := ⟨by rw [D1.out, D2.out, d3']; simp⟩
            have e3 : decide (wrap64 (wrap64 (a1.tmod 9) + 2) ≥ wrap64 (a2.tmod 9)) = false := by rw [HW1.out, HWN.out]; exact d3'
            clear d3 d3'
            go_wp2_with (first
              | (go_at_call 12; go_loud (refine (vof_calls p B t j 1 0 1 now (.map (some S)) (srcK c m.length) wr HLW.out (by omega) HL.out.mem (HL.out.src.at_ (by have := HL.out.src.lt; omega))).mono ?_); go_loud (rintro e w5 ⟨kb, rfl, hmo⟩; obtain ⟨lb, hob, hmb⟩ := hmo.out; have HO := Aside0.mk hob; have HB5 := Aside0.mk (HL.out.bel.trans (hmo.bel.mono HL.out.bel.size)); have HLE := Aside0.mk (all_len HLW.out hob.1 hmb _ HLF.out)); clear hmo hob hmb)
              | (at_len; refine out_size HO.out rfl _ rfl rfl ?_; rw [HLE.out]; rw [HCC.out]))
            go_ret
            exact ⟨rfl, HB5.out⟩
end Go.Proofs.Ytlhpokpdpjlhiaa.QI
