/-
  psephoslaw13's View: of a made tree's model and numbers.
-/
import Derived.Test.YtlhpokpdpjlhiaaVLeaf
import Derived.StillTailTactics
namespace Go.Proofs.Ytlhpokpdpjlhiaa.QI
open Go.RowKit Go.Maps Go.Proofs.YtlhpokpdpjlhiaaW.PrintWords Go.Proofs.Ytlhpokpdpjlhiaa.Tree Go.Proofs.Ytlhpokpdpjlhiaa.Own
set_option linter.unusedVariables false
set_option maxRecDepth 100000

/-- The sources laid in by the first k numbers; of n blocks. -/
def srcV (zs : List Int) (n k : Nat) (y : Int) : Int := if 1 ≤ y ∧ y ≤ (k : Int) ∧ y ≤ (n : Int) then rd zs (y - 1) % 7 else 0
theorem srcV_next (zs : List Int) (n k : Nat) (h : k < n) : (fun y => if y = (k : Int) + 1 then rd zs (k : Int) % 7 else srcV zs n k y) = srcV zs n (k + 1) := by
  funext y
  unfold srcV
  by_cases e : y = (k : Int) + 1
  · subst e
    rw [if_pos rfl, if_pos (by omega), show (k : Int) + 1 - 1 = (k : Int) by omega]
  · rw [if_neg e]
    by_cases e2 : 1 ≤ y ∧ y ≤ (k : Int) ∧ y ≤ (n : Int)
    · rw [if_pos e2, if_pos (by omega)]
    · rw [if_neg e2, if_neg (by omega)]
theorem srcV_past (zs : List Int) (n k : Nat) (h : ¬ k < n) : srcV zs n k = srcV zs n (k + 1) := by
  funext y
  unfold srcV
  by_cases e2 : 1 ≤ y ∧ y ≤ (k : Int) ∧ y ≤ (n : Int)
  · rw [if_pos e2, if_pos (by omega)]
  · rw [if_neg e2, if_neg (by omega)]
structure ViewAt (w : World) (g10 gv S : Nat) (Am : Option Addr) (cm : Nat) (m : List S39) (zs : List Int) (je fr ep : Int) (k : Nat) (wr : World) : Prop where
  box : wr.heap[gv]? = some (.cells #[.int .i64 je, .int .u64 1, .int .i64 0, .int .u64 fr, .int .i64 ep, .map (some S)] 34 (0, 0))
  out : ∃ v0 v1 v2 v3 v4 v5, wr.heap[g10]? = some (.cells #[v0, v1, v2, v3, v4, v5] 34 (0, 0))
  src : ∃ n, n ≤ k ∧ SrcBlk wr S n (srcV zs m.length k)
  bel : Below w.heap.size w wr
  ne : g10 ≠ S ∧ gv ≠ S ∧ g10 ≠ gv ∧ w.heap.size ≤ S ∧ w.heap.size ≤ g10
set_option maxHeartbeats 16000000 in
theorem view_calls (Am : Option Addr) (cm : Nat) (m : List S39) (t : T) (A : Option Addr) (n c0 : Nat) (zs : List Int) (a1 a2 a3 : Int) (w : World) (R : Rel t m) (hm : Kd.C k39 w Am m.length m) (h : ReadsInt w .u8 A n zs) (hz : ∀ z ∈ zs, 0 ≤ z ∧ z ≤ 255) (h1 : 0 ≤ a1 ∧ a1 ≤ 255) (h2 : 0 ≤ a2 ∧ a2 ≤ 255) (h3 : 0 ≤ a3 ∧ a3 ≤ 255) :
    Calls Try.prog 11 #[.slice Am m.length cm, .int .u8 a1, .int .u8 a2, .int .u8 a3, .slice A n c0] w fun e w' => ∃ S, e = .returned (.agg #[.int .i64 (a1 % 6), .int .u64 1, .int .i64 0, .int .u64 (a2 % (m.length : Int) + 1), .int .i64 (a3 % 9), .map (some S)]) ∧ w.heap.size ≤ S ∧ (∃ k, SrcBlk w' S k (srcV zs m.length n)) ∧ Below w.heap.size w w' := by
  have hmk : ∀ w : World, (Instr.makeMap 32 none).run Try.prog w = .ok (.map (some w.heap.size)) (w.alloc (.map #[] 0)) := fun _ => run_makeMap _ _
  have H := Aside0.mk h
  have HZ := Aside0.mk hz
  have HR := Aside0.mk R
  have hmp : 1 ≤ m.length ∧ m.length ≤ 31 := by rw [R.len]; exact ⟨R.chain.pos, R.chain.small⟩
  have HMP := Aside0.mk hmp
  have HW1 : Aside0 (wrap64 (a1.tmod 6) = a1 % 6) := ⟨by clear hmp; rw [Int.tmod_eq_emod_of_nonneg h1.1]; unfold wrap64; omega⟩
  have HW3 : Aside0 (wrap64 (a3.tmod 9) = a3 % 9) := ⟨by clear hmp; rw [Int.tmod_eq_emod_of_nonneg h3.1]; unfold wrap64; omega⟩
  have hw2 : wrap64 a2 = a2 := by unfold wrap64; omega
  obtain ⟨fi, hfi⟩ : ∃ fi : Nat, a2 % (m.length : Int) = (fi : Int) := ⟨(a2 % (m.length : Int)).toNat, by have := Int.emod_nonneg a2 (show (m.length : Int) ≠ 0 by omega); omega⟩
  have hfl : fi < m.length := by have := Int.emod_lt_of_pos a2 (show (0 : Int) < (m.length : Int) by omega); omega
  have hw4 : a2.tmod (m.length : Int) = (fi : Int) := by rw [Int.tmod_eq_emod_of_nonneg h2.1, hfi]
  have hw5 : wrap64 (fi : Int) = (fi : Int) := by unfold wrap64; omega
  obtain ⟨am, rfl, e0, e1, e2⟩ := at_T39 hm (fi : Int) (Int.natCast_nonneg fi) (by omega)
  rw [Int.toNat_natCast] at e0 e1 e2
  have hkn : fi < t.ns.length := by rw [← R.len]; exact hfl
  rw [rd_model R fi hkn] at e0
  have hnd : toS t.ns[fi] = ⟨(fi : Int) + 1, t.ns[fi].p, t.ns[fi].s⟩ := by unfold toS; rw [R.chain.root fi hkn]
  rw [hnd] at e0
  simp only at e0
  have t9 : decide ((fi : Int) < (m.length : Int)) = true := decide_eq_true (by omega)
  have t8 : (fi : Int) < (m.length : Int) := by omega
  rw [hfi]
  have HFI := Aside0.mk hfl
  clear h hz R hmp h1 h2 h3 hkn hnd e1 e2 hfi hfl
  have e9 := pw_cell_below (below_alloc (Below.refl w.heap.size w) (.cells #[.int .i64 0, .int .u64 0, .int .i64 0, .int .u64 0, .int .i64 0, .map none] 34)) e0
  go_enter Try.func11, Try.ntmps11
  go_wp2_with fail
  rw [HW1.out, HW3.out]
  obtain ⟨je, hje⟩ : ∃ x, a1 % 6 = x := ⟨_, rfl⟩
  obtain ⟨ep, hep⟩ : ∃ x, a3 % 9 = x := ⟨_, rfl⟩
  rw [hje, hep]
  obtain ⟨w2, hw2⟩ : ∃ w2, ((w.alloc (.cells #[.int .i64 0, .int .u64 0, .int .i64 0, .int .u64 0, .int .i64 0, .map none] 34)).alloc (.map #[] 0)).alloc (.cells #[.int .i64 je, .int .u64 1, .int .i64 0, .int .u64 ((fi : Int) + 1), .int .i64 ep, .map (some (w.heap.size + 1))] 34) = w2 := ⟨_, rfl⟩
  have HV : Aside0 (ViewAt w w.heap.size (w.heap.size + 1 + 1) (w.heap.size + 1) (some am) cm m zs je ((fi : Int) + 1) ep 0 w2) := ⟨by
    have s1 : (w.alloc (.cells #[.int .i64 0, .int .u64 0, .int .i64 0, .int .u64 0, .int .i64 0, .map none] 34)).heap.size = w.heap.size + 1 := by simp
    have s2 : ((w.alloc (.cells #[.int .i64 0, .int .u64 0, .int .i64 0, .int .u64 0, .int .i64 0, .map none] 34)).alloc (.map #[] 0)).heap.size = w.heap.size + 1 + 1 := by simp
    refine ⟨?_, ?_, ⟨0, Nat.le_refl _, ?_⟩, ?_, by omega⟩
    · rw [← hw2, ← s2]
      exact new_block _ _
    · refine ⟨.int .i64 0, .int .u64 0, .int .i64 0, .int .u64 0, .int .i64 0, .map none, ?_⟩
      rw [← hw2]
      exact (Below.heap_alloc _ _ _ (by omega)).trans ((Below.heap_alloc _ _ _ (by omega)).trans (new_block _ _))
    · have h := (srcBlk_made (w.alloc (.cells #[.int .i64 0, .int .u64 0, .int .i64 0, .int .u64 0, .int .i64 0, .map none] 34))).below (below_alloc (Below.refl _ _) (.cells #[.int .i64 je, .int .u64 1, .int .i64 0, .int .u64 ((fi : Int) + 1), .int .i64 ep, .map (some (w.heap.size + 1))] 34))
      rw [s1, hw2] at h
      have e : srcV zs m.length 0 = fun _ => 0 := by
        funext y
        unfold srcV
        rw [if_neg (by omega)]
      rw [e]
      exact h
    · rw [← hw2]
      exact below_alloc (below_alloc (below_alloc (Below.refl _ _) _) _) _⟩
  rw [hw2]
  have HAM := Aside0.mk hm
  obtain ⟨g, hg⟩ : ∃ g, w.heap.size + 1 + 1 = g := ⟨_, rfl⟩
  obtain ⟨S, hS⟩ : ∃ S, w.heap.size + 1 = S := ⟨_, rfl⟩
  rw [hg, hS] at HV
  rw [hg, hS]
  have HJE := Aside0.mk (And.intro hje hep)
  clear hm e9 hg hS hmk hw2 hw4 hw5 t8 t9 hje hep
  clear hw2
  have hnb : n ≤ 9223372036854775807 := by have := H.out.2.1; omega
  have HNB := Aside0.mk hnb
  clear hnb
  go_loopw [35] (fun v35 wr => ∃ k : Nat, k ≤ n ∧ v35 = .int .i64 k ∧ Aside0 (ViewAt w w.heap.size g S (some am) cm m zs je ((fi : Int) + 1) ep k wr)) (fun v35 _ => n - (RowKit.intOf v35).toNat)
  case atStart => exact ⟨0, by omega, rfl, HV⟩
  case round =>
    obtain ⟨k, hk, rfl, HV⟩ := hrel
    have b := HV.out.box
    have bx0 : wr.cell? ⟨g, 0, none⟩ = some (.int .i64 je) := by simp [World.cell?, b]
    have bx1 : wr.cell? ⟨g, 1, none⟩ = some (.int .u64 1) := by simp [World.cell?, b]
    have bx2 : wr.cell? ⟨g, 2, none⟩ = some (.int .i64 0) := by simp [World.cell?, b]
    have bx3 : wr.cell? ⟨g, 3, none⟩ = some (.int .u64 ((fi : Int) + 1)) := by simp [World.cell?, b]
    have bx4 : wr.cell? ⟨g, 4, none⟩ = some (.int .i64 ep) := by simp [World.cell?, b]
    have bx5 : wr.cell? ⟨g, 5, none⟩ = some (.map (some S)) := by simp [World.cell?, b]
    clear b
    by_cases hlt : k < n
    · have t0 : decide ((k : Int) < (n : Int)) = true := decide_eq_true (by omega)
      have hwk : wrap64 ((k : Int) + 1) = ((k + 1 : Nat) : Int) := by have := HNB.out; unfold wrap64; omega
      have HWK := Aside0.mk hwk
      obtain ⟨az, rfl, hc⟩ := H.out.2.2 (by omega)
      have d0 := pw_cell_below HV.out.bel (hc k hlt)
      by_cases hkm : k < m.length
      · have t1 : decide ((k : Int) < (m.length : Int)) = true := decide_eq_true (by omega)
        obtain ⟨am', hAM, f0, f1, f2⟩ := at_T39 HAM.out (k : Int) (Int.natCast_nonneg k) (Int.ofNat_lt.2 hkm)
        injection hAM with hAM
        subst hAM
        rw [Int.toNat_natCast] at f0
        have hkn : k < t.ns.length := by rw [← HR.out.len]; exact hkm
        rw [rd_model HR.out k hkn] at f0
        have hnd : toS t.ns[k] = ⟨(k : Int) + 1, t.ns[k].p, t.ns[k].s⟩ := by unfold toS; rw [HR.out.chain.root k hkn]
        rw [hnd] at f0
        simp only at f0
        have f9 := pw_cell_below HV.out.bel f0
        have t2 : (k : Int) < (m.length : Int) := Int.ofNat_lt.2 hkm
        obtain ⟨q, hq, hsrc⟩ := HV.out.src
        have HS := Aside0.mk hsrc
        clear hnd hkn f0 f1 f2 hsrc
        go_wp2_with fail
        refine wp_region_still_tail 10 (by kernel_rfl) (by kernel_rfl) ?_
        simp only [List.take_succ_cons, List.take_zero, List.drop_succ_cons, List.drop_zero]
        repeat still_step
        refine wpStill_nil ?_
        have hzr : 0 ≤ zs.getD k 0 ∧ zs.getD k 0 ≤ 255 := HZ.out _ (by rw [List.getD_eq_getElem?_getD, List.getElem?_eq_getElem (by rw [H.out.1]; exact hlt)]; simp)
        have hzw : IntKind.i64.wrap ((zs[k]?.getD 0).tmod 7) = rd zs (k : Int) % 7 := by
          rw [← List.getD_eq_getElem?_getD, Int.tmod_eq_emod_of_nonneg hzr.1, show rd zs (k : Int) = zs.getD k 0 by simp [rd]]
          simp only [IntKind.wrap, IntKind.bits, IntKind.signed]
          simp
          omega
        have hz2 : 0 ≤ rd zs (k : Int) % 7 ∧ rd zs (k : Int) % 7 < 9 := by clear hzw; omega
        refine src_put (w := { wr with drawn := wr.drawn + 1 }) (show SrcBlk _ S q _ from HS.out) (by have := HMP.out; unfold maxLen; omega) rfl _ _ _ (.inr rfl) (by simp only [Act.eval]; simp) ((k : Int) + 1) (IntKind.i64.wrap ((zs[k]?.getD 0).tmod 7)) (by simp only [Act.eval]; simp) (by have := HMP.out; omega) (by simp only [Act.eval]; simp) (by rw [hzw]; exact wf_small hz2) ?_
        intro w3 h1 h2
        rw [hzw, srcV_next zs m.length k hkm] at h1
        have HS3 := Aside0.mk h1
        have HT3 := Aside0.mk h2
        have hkp := turned_kept h2
        have HV3 := Aside0.mk (ViewAt.mk (w := w) (Am := some am) (cm := cm) (g10 := w.heap.size) (k := k + 1) ((hkp.2 g (Array.getElem?_eq_some_iff.1 HV.out.box).1 HV.out.ne.2.1).trans HV.out.box) (by obtain ⟨v0, v1, v2, v3, v4, v5, ho⟩ := HV.out.out; exact ⟨v0, v1, v2, v3, v4, v5, (hkp.2 _ (Array.getElem?_eq_some_iff.1 ho).1 HV.out.ne.1).trans ho⟩) ⟨q + 1, by omega, HS3.out⟩ ((HV.out.bel.trans (⟨rfl, rfl, rfl, Nat.le_refl _, fun _ _ => rfl⟩ : Below w.heap.size wr { wr with drawn := wr.drawn + 1 })).trans (turned_below HT3.out HV.out.ne.2.2.2.1)) HV.out.ne)
        clear h1 h2 hzw hz2 hzr hkp
        go_wp2_with fail
        go_roundw
        case rel =>
          exact ⟨k + 1, by omega, by rw [HWK.out], HV3⟩
        case measure => rw [HWK.out]; simp [RowKit.intOf]; omega
      · have t1 : decide ((k : Int) < (m.length : Int)) = false := decide_eq_false (by omega)
        go_wp2_with fail
        go_roundw
        case rel => exact ⟨k + 1, by omega, by rw [HWK.out], ⟨HV.out.box, HV.out.out, by obtain ⟨q, h1, h2⟩ := HV.out.src; exact ⟨q, by omega, by rw [← srcV_past zs m.length k hkm]; exact h2⟩, HV.out.bel, HV.out.ne⟩⟩
        case measure => rw [HWK.out]; simp [RowKit.intOf]; omega
    · have t0 : decide ((k : Int) < (n : Int)) = false := decide_eq_false (by omega)
      obtain rfl : k = n := by omega
      obtain ⟨v0, v1, v2, v3, v4, v5, ho⟩ := HV.out.out
      obtain ⟨y0, y1, y2, y3, y4, y5⟩ := cells6 ho
      have z0 : wr.frozen? ⟨w.heap.size, 0, none⟩ = false := by simp [World.frozen?, ho]
      have z1 : wr.frozen? ⟨w.heap.size, 1, none⟩ = false := by simp [World.frozen?, ho]
      have z2 : wr.frozen? ⟨w.heap.size, 2, none⟩ = false := by simp [World.frozen?, ho]
      have z3 : wr.frozen? ⟨w.heap.size, 3, none⟩ = false := by simp [World.frozen?, ho]
      have z4 : wr.frozen? ⟨w.heap.size, 4, none⟩ = false := by simp [World.frozen?, ho]
      have z5 : wr.frozen? ⟨w.heap.size, 5, none⟩ = false := by simp [World.frozen?, ho]
      have HOO := Aside0.mk ho
      clear ho
      go_wp2_with fail
      obtain ⟨W6, hW6⟩ : ∃ W, ((((((wr.setCell ⟨w.heap.size, 0, none⟩ (.int .i64 je)).setCell ⟨w.heap.size, 1, none⟩ (.int .u64 1)).setCell ⟨w.heap.size, 2, none⟩ (.int .i64 0)).setCell ⟨w.heap.size, 3, none⟩ (.int .u64 ((fi : Int) + 1))).setCell ⟨w.heap.size, 4, none⟩ (.int .i64 ep)).setCell ⟨w.heap.size, 5, none⟩ (.map (some S))) = W := ⟨_, rfl⟩
      rw [hW6]
      have h6 : W6.heap[w.heap.size]? = some (.cells #[.int .i64 je, .int .u64 1, .int .i64 0, .int .u64 ((fi : Int) + 1), .int .i64 ep, .map (some S)] 34 (0, 0)) := by
        rw [← hW6]
        simp [World.setCell, Array.getElem?_modify, HOO.out]
      have hS6 : W6.heap[S]? = wr.heap[S]? := by
        rw [← hW6]
        have hne := HV.out.ne.1.symm
        exact (Below.heap_setCell _ _ _ _ hne).trans ((Below.heap_setCell _ _ _ _ hne).trans ((Below.heap_setCell _ _ _ _ hne).trans ((Below.heap_setCell _ _ _ _ hne).trans ((Below.heap_setCell _ _ _ _ hne).trans (Below.heap_setCell _ _ _ _ hne)))))
      have hB6 : Below w.heap.size w W6 := by
        rw [← hW6]
        exact (((((HV.out.bel.setCell (p := ⟨w.heap.size, 0, none⟩) (Nat.le_refl _) _).setCell (p := ⟨w.heap.size, 1, none⟩) (Nat.le_refl _) _).setCell (p := ⟨w.heap.size, 2, none⟩) (Nat.le_refl _) _).setCell (p := ⟨w.heap.size, 3, none⟩) (Nat.le_refl _) _).setCell (p := ⟨w.heap.size, 4, none⟩) (Nat.le_refl _) _).setCell (p := ⟨w.heap.size, 5, none⟩) (Nat.le_refl _) _
      obtain ⟨x0, x1, x2, x3, x4, x5⟩ := cells6 h6
      obtain ⟨q, hq, D, d1, d2, d3⟩ := HV.out.src
      obtain ⟨es, clock, g1, g2⟩ := d1
      refine bodyPost_ret (v := .agg #[.int .i64 je, .int .u64 1, .int .i64 0, .int .u64 ((fi : Int) + 1), .int .i64 ep, .map (some S)]) ?_ rfl ⟨S, by rw [HJE.out.1, HJE.out.2], HV.out.ne.2.2.2.1, ⟨q, D, ⟨es, clock, hS6.trans g1, g2⟩, d2, d3⟩, hB6⟩
      simp [results, Try.results11, go_sem, x0, x1, x2, x3, x4, x5]
end Go.Proofs.Ytlhpokpdpjlhiaa.QI
