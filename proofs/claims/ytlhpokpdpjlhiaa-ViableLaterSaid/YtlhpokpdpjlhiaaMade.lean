/-
  A tree of blocks by numbers, and a model of it: what package psephoslaw12's Made comes to. No condition but that the numbers are of eight bits.
-/
import Derived.Test.YtlhpokpdpjlhiaaPureW2
import Derived.Test.YtlhpokpdpjlhiaaOwn
import Derived.Test.YtlhpokpdpjlhiaaBlock
import Derived.Outline
namespace Go.Proofs.Ytlhpokpdpjlhiaa.QI
open Go.RowKit Go.Maps Go.ChangeMaps Go.Proofs.YtlhpokpdpjlhiaaW.PrintWords Go.Proofs.Ytlhpokpdpjlhiaa.Tree Go.Proofs.Ytlhpokpdpjlhiaa.Own
set_option linter.unusedVariables false

/-- A literal of one element is a row of the call's own. -/
theorem lit_one {α : Type} (d : Kd α) (e : Nat) (w : World) (base : Nat) (hb : base ≤ w.heap.size) (x : α) (cs : List Value) (ok : Nat → Prop) (hM : d.M w base (fun _ => False) x cs) (hok : ok w.heap.size) :
    d.R e (w.alloc (.cells cs.toArray e)) base ok (.slice (some ⟨w.heap.size, 0, none⟩) 1 1) [x] := by
  have hl := d.K_len (d.K_of_M hM)
  refine ⟨fun k hk => ?_, cs, ?_, ?_⟩
  · have : w.heap.size = k := by simpa [Value.ownBlock] using hk
    subst this
    exact hok
  · have h2 := World.ownsRow_lit (base := base) (e := e) (size := d.sz) w cs.toArray 1 hb (by simp [maxLen]) (by simp [hl])
    simpa using h2
  · have h3 : Reps (d.M (w.alloc (.cells cs.toArray e)) base (fun k => ok k ∧ some k ≠ (Value.slice (some ⟨w.heap.size, 0, none⟩) 1 1).ownBlock)) d.sz ([] ++ [x]) ([] ++ cs) :=
      Reps.snoc (Reps.none _ _) (d.M_mono (fun k hk => hk.elim) (Kd.M_below hM (below_alloc (Below.refl _ _) _))) hl
    simpa using h3

/-- The head of Made's loop. -/
def MadeAt (w : World) (p B : Nat) (v : Value) (k : Nat) (wr : World) : Prop :=
  ∃ (t : T) (m : List S39), t.ns.length = k + 1 ∧ Rel t m ∧ Mem wr p B t ∧ Kd.R k39 39 wr w.heap.size (fun b => b ≠ p ∧ b ≠ B) v m ∧ Below w.heap.size w wr

set_option maxHeartbeats 8000000 in
set_option maxRecDepth 100000 in
theorem made_calls (A : Option Addr) (n c : Nat) (zs : List Int) (w : World) (h : ReadsInt w .u8 A n zs) (hz : ∀ z ∈ zs, 0 ≤ z ∧ z ≤ 255) :
    Calls Try.prog 10 #[.slice A n c] w fun e w' => ∃ p B v t m, e = .returned (.tuple #[.pointer (some ⟨p, 0, none⟩), v]) ∧ Mem w' p B t ∧ Rel t m ∧ Kd.R k39 39 w' w.heap.size (fun b => b ≠ p ∧ b ≠ B) v m ∧ Below w.heap.size w w' ∧ w.heap.size ≤ p ∧ w.heap.size ≤ B := by
  have hn := h.2.1
  have HR := Aside0.mk h
  have HZ := Aside0.mk hz
  clear h hz
  go_enter Try.func10, Try.ntmps10
  go_wp2_with (first
    | (go_at_call 15; refine (of_calls 1 0 _ (by omega)).mono ?_; rintro x w1 ⟨p, B, rfl, hm, hb, hp, hB⟩; have HM := Aside0.mk hm; have HB := Aside0.mk hb; have HP := Aside0.mk (And.intro hp hB); clear hm hb hp hB))
  have hlit := Aside0.mk (lit_one k39 39 w1 w.heap.size HB.out.size ⟨1, 1, 0⟩ [.int .u64 1, .int .u64 1, .int .i64 0] (fun b => b ≠ p ∧ b ≠ B) (k39_mkM _ _ _ ⟨1, 1, 0⟩) (by have := HM.out.lt; constructor <;> omega))
  obtain ⟨w2, hw2⟩ : ∃ w2, w2 = w1.alloc (.cells #[.int .u64 1, .int .u64 1, .int .i64 0] 39) := ⟨_, rfl⟩
  have HS : Aside0 (MadeAt w p B (.slice (some ⟨w1.heap.size, 0, none⟩) 1 1) 0 w2) := ⟨⟨_, _, rfl, rel_one, HM.out.below (by rw [hw2]; exact below_alloc (Below.refl _ _) _), by rw [hw2]; exact hlit.out, by rw [hw2]; exact below_alloc HB.out _⟩⟩
  rw [← hw2]
  clear hw2 hlit HM HB
  go_loopw [5, 15] (fun v c wr => ∃ k : Nat, k ≤ n ∧ k ≤ 30 ∧ c = .int .i64 k ∧ Aside0 (MadeAt w p B v k wr)) (fun _ c _ => n - (intOf c).toNat)
  case atStart => exact ⟨0, by omega, by omega, rfl, HS⟩
  case round =>
    obtain ⟨k, hkn, hk30, rfl, HS⟩ := hrel
    by_cases hlt : k < n
    · have t0 : decide ((k : Int) < (n : Int)) = true := decide_eq_true (by omega)
      obtain ⟨ad, rfl, hc⟩ := HR.out.2.2 (by omega)
      obtain ⟨t, m, hlen, R, hM, hR, hB⟩ := HS.out
      have d0 := pw_cell_below hB (hc k hlt)
      obtain ⟨z, hz⟩ : ∃ z, zs.getD k 0 = z := ⟨_, rfl⟩
      have hzr : 0 ≤ z ∧ z ≤ 255 := by rw [← hz]; exact HZ.out _ (by rw [List.getD_eq_getElem?_getD, List.getElem?_eq_getElem (by rw [HR.out.1]; exact hlt)]; simp)
      rw [hz] at d0
      clear hz hc
      by_cases h30 : k = 30
      · have t1 : ((k : Int) == 30) = true := by simp; omega
        have HH := Aside0.mk (show MadeAt w p B _ k wr from ⟨t, m, hlen, R, hM, hR, hB⟩)
        clear h30 R hM hR hB hlen HS
        go_wp2_with fail
        go_ret2
        obtain ⟨t, m, _, R, hM, hR, hB⟩ := HH.out
        exact ⟨p, B, _, t, m, rfl, hM, R, hR, hB, HP.out⟩
      · have t1 : ((k : Int) == 30) = false := by simp; omega
        have hml : m.length = k + 1 := R.len.trans hlen
        have hj0 : 0 ≤ z % ((k : Int) + 1) := Int.emod_nonneg _ (by omega)
        have hj1 : z % ((k : Int) + 1) < (k : Int) + 1 := Int.emod_lt_of_pos _ (by omega)
        obtain ⟨j, hj⟩ : ∃ j : Nat, z % ((k : Int) + 1) = (j : Int) := ⟨(z % ((k : Int) + 1)).toNat, by omega⟩
        rw [hj] at hj0 hj1
        have hj2 : j < t.ns.length := by omega
        obtain ⟨Am, cm, hv, hcm, hC⟩ := Kd.R_reads hR
        rw [hml] at hv hcm hC
        subst hv
        obtain ⟨am, rfl, e0, e1, e2⟩ := at_T39 hC (j : Int) hj0 (by omega)
        rw [Int.toNat_natCast] at e0 e1 e2
        rw [rd_model R j hj2] at e0 e1 e2
        have hnd : toS t.ns[j] = ⟨(j : Int) + 1, t.ns[j].p, t.ns[j].s⟩ := by unfold toS; rw [R.chain.root j hj2]
        rw [hnd] at e0 e1 e2
        simp only at e0 e1 e2
        obtain ⟨np, hnp⟩ : ∃ np, t.ns[j].p = np := ⟨_, rfl⟩
        obtain ⟨sj, hsj⟩ : ∃ sj, t.ns[j].s = sj := ⟨_, rfl⟩
        rw [hnp] at e1
        rw [hsj] at e2
        have hsr : 0 ≤ sj ∧ sj ≤ 124 := by rw [← hsj]; have := R.chain.late j hj2; omega
        have RR := Aside0.mk R
        have HM := Aside0.mk hM
        have HRR := Aside0.mk hR
        have HB := Aside0.mk hB
        have HL := Aside0.mk hlen
        have HML := Aside0.mk hml
        have HSJ := Aside0.mk hsj
        have hq : 0 ≤ z / 64 ∧ z / 64 ≤ 3 := by omega
        clear hC R hM hR hB hlen HS hml hnd hsj hnp
        have HA := Aside0.mk (add_fits RR.out (by have := HL.out; omega) j hj2 (z / 64) hq.1 hq.2)
        have HE : Aside0 (addErr t ((k : Int) + 2) ((j : Int) + 1) (sj + 1 + z / 64) = none) := ⟨by have h := HA.out.1; rw [HSJ.out, HL.out] at h; rw [show ((k : Int) + 2) = (((k + 1 : Nat) : Int) + 1) by omega]; exact h⟩
        have HR2 : Aside0 (Rel (addOf t ((k : Int) + 2) ((j : Int) + 1) (sj + 1 + z / 64)) (m ++ [⟨(k : Int) + 2, (j : Int) + 1, sj + 1 + z / 64⟩])) := ⟨by have h := HA.out.2; rw [HSJ.out, HL.out] at h; rw [show ((k : Int) + 2) = (((k + 1 : Nat) : Int) + 1) by omega]; exact h⟩
        have HPL := Aside0.mk HM.out.lt
        have HK : Aside0 ((0 ≤ (k : Int) + 2 ∧ (k : Int) + 2 ≤ 18446744073709551615) ∧ (0 ≤ (j : Int) + 1 ∧ (j : Int) + 1 ≤ 18446744073709551615)) := ⟨by omega⟩
        clear HA
        go_wp2_with (first
          | (go_at_call 16; refine (add_calls p B t _ _ _ _ (HM.out.below ?sb) HK.out.1 HK.out.2 RR.out.heights).mono ?_; (case sb => exact below_alloc (below_alloc (Below.refl _ _) _) _); rw [HE.out, show errV none = Value.nilIface from rfl]; rintro x w3 ⟨rfl, hm3, hb3, hk3⟩; have HM3 := Aside0.mk hm3; have HB3 := Aside0.mk (Below.trans (below_alloc (below_alloc HB.out _) _) (hb3 w.heap.size HP.out.2 (by simp; have := HB.out.size; omega))); have HR3 := Aside0.mk (Kd.R_kept (Kd.R_below HRR.out (below_alloc (below_alloc (Below.refl _ _) _) _)) hk3 (fun _ ho he => ho.2 he)); have HBK : Aside0 (w3.heap[wr.heap.size + 1]? = some (.cells #[.int .u64 ((k : Int) + 2), .int .u64 ((j : Int) + 1), .int .i64 (sj + 1 + z / 64)] 39 (0, 0))) := ⟨by have h := blk_kept (heap_alloc_new _ _) hk3 (by simp; have := HPL.out; omega); simpa using h⟩; have hcb := blk_cell HBK.out; have HS3 := Aside0.mk hk3.1; clear hm3 hb3 hk3)
          | (at_builtin; refine Kd.R_append k39 (w0 := w) w.heap.size rfl (.tmp 52) (.tmp 54) 26 39 (.agg #[.int .u64 0, .int .u64 0, .int .i64 0]) 24 rfl Try.underlying26 (by kernel_rfl) rfl (by decide) (by omega) _ m ⟨(k : Int) + 2, (j : Int) + 1, sj + 1 + z / 64⟩ [.int .u64 ((k : Int) + 2), .int .u64 ((j : Int) + 1), .int .i64 (sj + 1 + z / 64)] (fun b => b ≠ p ∧ b ≠ B) (fun _ => False) rfl rfl ?aP (fun _ hk => hk.elim) ?aF HR3.out HB3.out HB3.out.size ?aL ?_; (case aP => exact k39_mkM _ _ _ ⟨(k : Int) + 2, (j : Int) + 1, sj + 1 + z / 64⟩); (case aF => intro q hq; have := HM3.out.lt; constructor <;> omega); (case aL => have := HML.out; omega); intro v4 w4 ho hb hg hat; have HRN := Aside0.mk ho; have HB4 := Aside0.mk hb; have HG := Aside0.mk hg; clear ho hb hg hat))
        go_roundw
        case rel =>
          refine ⟨k + 1, by omega, by omega, by go_num, ⟨_, _, ?_, HR2.out, ?_, HRN.out, HB4.out⟩⟩
          · have h := HR2.out.len
            have h2 := HML.out
            simp at h
            omega
          · have hl := HM3.out.lt
            exact HM3.out.move (HG.out.block p hl.1 (fun e => (HR3.out.1 p e.symm).1 rfl)) (HG.out.block B hl.2 (fun e => (HR3.out.1 B e.symm).2 rfl))
        case measure => simp [intOf]; omega
    · have t0 : decide ((k : Int) < (n : Int)) = false := decide_eq_false (by omega)
      go_wp2_with fail
      go_ret2
      obtain ⟨t, m, _, R, hM, hR, hB⟩ := HS.out
      exact ⟨p, B, _, t, m, rfl, hM, R, hR, hB, HP.out⟩
end Go.Proofs.Ytlhpokpdpjlhiaa.QI
