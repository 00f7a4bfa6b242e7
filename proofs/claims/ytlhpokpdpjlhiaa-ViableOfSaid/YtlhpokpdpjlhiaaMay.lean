/-
  psephoslaw13's May, by its contract: whether a block of a made tree may lead to the head. It calls itself: by the blocks' numbers, downward.
-/
import Derived.Test.YtlhpokpdpjlhiaaQIx3
import Derived.Test.YtlhpokpdpjlhiaaMayP
import Derived.StillTailTactics
namespace Go.Proofs.Ytlhpokpdpjlhiaa.QI
open Go.RowKit Go.Maps Go.Proofs.YtlhpokpdpjlhiaaW.PrintWords Go.Proofs.Ytlhpokpdpjlhiaa.Tree Go.Proofs.Ytlhpokpdpjlhiaa.Own
set_option linter.unusedVariables false
set_option maxRecDepth 100000

theorem pOf_is {t : T} {m : List S39} (R : Rel t m) (k : Nat) (h : k < t.ns.length) : t.ns[k].p = pOf t k := by
  unfold pOf
  rw [getD_in R.chain k h]
/-- Between two rounds. -/
structure MayAt (w : World) (S : Nat) (t : T) (lf : Int → Bool) (je fr ep r : Int) (k : Nat) (wr : World) : Prop where
  box : wr.heap[w.heap.size]? = some (.cells #[.int .i64 je, .int .u64 1, .int .i64 0, .int .u64 fr, .int .i64 ep, .map (some S)] 34 (0, 0))
  bel : Below w.heap.size w wr
  miss : ∀ j : Nat, 0 < j → j < k → pOf t j = r → may t lf ((j : Int) + 1) = false
theorem MayAt.below {w : World} {S : Nat} {t : T} {lf : Int → Bool} {je fr ep r : Int} {k : Nat} {wr w' : World} (h : MayAt w S t lf je fr ep r k wr) (hb : Below wr.heap.size wr w') : MayAt w S t lf je fr ep r k w' :=
  ⟨(hb.block _ (Array.getElem?_eq_some_iff.1 h.box).1).trans h.box, h.bel.trans (hb.mono h.bel.size), h.miss⟩
theorem MayAt.next {w : World} {S : Nat} {t : T} {lf : Int → Bool} {je fr ep r : Int} {k : Nat} {wr : World} (h : MayAt w S t lf je fr ep r k wr) (hm : pOf t k = r → may t lf ((k : Int) + 1) = false) : MayAt w S t lf je fr ep r (k + 1) wr :=
  ⟨h.box, h.bel, fun j h1 h2 h3 => by
    by_cases e : j = k
    · subst e; exact hm h3
    · exact h.miss j h1 (by omega) h3⟩
set_option maxHeartbeats 16000000 in
theorem mayg_calls (Am : Option Addr) (cm S q : Nat) (m : List S39) (t : T) (je fr ep : Int) (src : Int → Int) (R : Rel t m) (hcm : m.length ≤ cm) (hfr : 0 ≤ fr ∧ fr ≤ 18446744073709551615) : ∀ (n i : Nat) (w : World), i < m.length → m.length - i ≤ n → Kd.C k39 w Am m.length m → SrcBlk w S q src →
    Calls Try.prog 13 #[.slice Am m.length cm, .agg #[.int .i64 je, .int .u64 1, .int .i64 0, .int .u64 fr, .int .i64 ep, .map (some S)], .int .u64 ((i : Int) + 1)] w fun e w' => e = .returned (.bool (may t (lfOf t je fr ep src) ((i : Int) + 1))) ∧ Below w.heap.size w w' := by
  intro n
  induction n with
  | zero =>
    intro i w h1 h2
    omega
  | succ n ih =>
    intro i w hi hn hC hS
    have IH := Aside0.mk ih
    have HC := Aside0.mk hC
    have HS := Aside0.mk hS
    have HR := Aside0.mk R
    have HCM := Aside0.mk hcm
    have HF := Aside0.mk hfr
    have hml : m.length = t.ns.length := R.len
    have hms : m.length ≤ 31 := by rw [hml]; exact R.chain.small
    obtain ⟨r, hr⟩ : ∃ r, (i : Int) + 1 = r := ⟨_, rfl⟩
    have hrh : Tree.has t.ns r = true := (rel_has R r).2 (by omega)
    have HRH := Aside0.mk hrh
    have HRW : Aside0 (0 ≤ r ∧ r ≤ 18446744073709551615) := ⟨by omega⟩
    rw [hr]
    obtain ⟨lf, hlf⟩ : ∃ lf, lfOf t je fr ep src = lf := ⟨_, rfl⟩
    have HLF := Aside0.mk hlf
    rw [hlf]
    rw [hlf] at IH
    have HML := Aside0.mk hml
    have HMS := Aside0.mk hms
    have HI := Aside0.mk hi
    have HN := Aside0.mk hn
    have HRI := Aside0.mk hr
    clear ih hC hS hcm hfr hml hms hrh hr hlf hi hn
    clear R
    go_enter Try.func13, Try.ntmps13
    go_wp2_with fail
    obtain ⟨w1, hw1⟩ : ∃ w1, w.alloc (.cells #[.int .i64 je, .int .u64 1, .int .i64 0, .int .u64 fr, .int .i64 ep, .map (some S)] 34) = w1 := ⟨_, rfl⟩
    have HM : Aside0 (MayAt w S t lf je fr ep r 1 w1) := ⟨by rw [← hw1]; exact ⟨new_block _ _, below_alloc (Below.refl _ _) _, fun j h1 h2 => by omega⟩⟩
    rw [hw1]
    clear hw1
    go_loopw [7, 8] (fun v7 v8 wr => ∃ k : Nat, 1 ≤ k ∧ k ≤ m.length ∧ v8 = .int .i64 k ∧ v7 = .bool (lone (pOf t) r k) ∧ Aside0 (MayAt w S t lf je fr ep r k wr)) (fun _ v8 _ => m.length - (RowKit.intOf v8).toNat)
    case atStart => exact ⟨1, by omega, by have := HI.out; omega, rfl, rfl, HM⟩
    case round =>
      obtain ⟨k, hk1, hk, rfl, rfl, HM⟩ := hrel
      have hml : (m.length : Int) ≤ 31 := by have := HMS.out; omega
      have HMI := Aside0.mk hml
      clear hml
      by_cases hlt : k < m.length
      · have t0 : decide ((k : Int) < (m.length : Int)) = true := decide_eq_true (by omega)
        have t8 : (k : Int) < (m.length : Int) := by omega
        have hwk : wrap64 ((k : Int) + 1) = ((k + 1 : Nat) : Int) := by have := HMI.out; unfold wrap64; omega
        have HWK := Aside0.mk hwk
        obtain ⟨am, hAM, e0, e1, e2⟩ := at_T39 (Kd.C_below HC.out HM.out.bel) (k : Int) (Int.natCast_nonneg k) (by omega)
        subst hAM
        have hkn : k < t.ns.length := by rw [← HML.out]; exact hlt
        rw [Int.toNat_natCast] at e0 e1 e2
        rw [rd_model HR.out k hkn] at e0 e1 e2
        have hnd : toS t.ns[k] = ⟨(k : Int) + 1, pOf t k, t.ns[k].s⟩ := by unfold toS; rw [HR.out.chain.root k hkn, pOf_is HR.out k hkn]
        rw [hnd] at e0 e1 e2
        simp only at e0 e1 e2
        have HKN := Aside0.mk hkn
        clear hnd hkn hwk e2
        by_cases hp : pOf t k = r
        · rw [hp] at e1
          have t1 : (r == r) = true := by simp
          have HP := Aside0.mk hp
          have HIK : Aside0 (i < k) := ⟨by
            obtain ⟨j, hj, h1, _⟩ := HR.out.chain.up k HKN.out (by omega)
            rw [pOf_is HR.out k HKN.out, hp] at h1
            have := HRI.out
            omega⟩
          have HLO : Aside0 (lone (pOf t) r (k + 1) = false) := ⟨by unfold lone; simp [hp]; omega⟩
          have b := HM.out.box
          have bx0 : wr.cell? ⟨w.heap.size, 0, none⟩ = some (.int .i64 je) := by simp [World.cell?, b]
          have bx1 : wr.cell? ⟨w.heap.size, 1, none⟩ = some (.int .u64 1) := by simp [World.cell?, b]
          have bx2 : wr.cell? ⟨w.heap.size, 2, none⟩ = some (.int .i64 0) := by simp [World.cell?, b]
          have bx3 : wr.cell? ⟨w.heap.size, 3, none⟩ = some (.int .u64 fr) := by simp [World.cell?, b]
          have bx4 : wr.cell? ⟨w.heap.size, 4, none⟩ = some (.int .i64 ep) := by simp [World.cell?, b]
          have bx5 : wr.cell? ⟨w.heap.size, 5, none⟩ = some (.map (some S)) := by simp [World.cell?, b]
          clear b hp
          go_wp2_with fail
          refine wp_region_still_tail 7 (by kernel_rfl) (by kernel_rfl) ?_
          simp only [List.take_succ_cons, List.take_zero, List.drop_succ_cons, List.drop_zero]
          repeat still_step
          refine wpStill_nil ?_
          have HMD := Aside0.mk (HM.out.below (⟨rfl, rfl, rfl, Nat.le_refl _, fun _ _ => rfl⟩ : Below wr.heap.size wr { wr with drawn := wr.drawn + 1 }))
          go_wp2_with fail
          go_at_call 13
          refine (IH.out k _ hlt (by have := HN.out; have := HIK.out; omega) (Kd.C_below HC.out HMD.out.bel) (HS.out.below HMD.out.bel)).mono ?_
          obtain ⟨b1, hb1⟩ : ∃ b, may t lf ((k : Int) + 1) = b := ⟨_, rfl⟩
          rw [hb1]
          rintro e w2 ⟨rfl, hb⟩
          have HM2 := Aside0.mk (HMD.out.below hb)
          have HB1 := Aside0.mk hb1
          clear hb hb1
          cases b1
          · go_wp2_with fail
            go_roundw
            case rel => exact ⟨k + 1, by omega, by omega, by rw [HWK.out], by rw [HLO.out], ⟨HM2.out.next (fun _ => HB1.out)⟩⟩
            case measure => rw [HWK.out]; simp [RowKit.intOf]; omega
          · have HA : Aside0 (may t lf r = true) := ⟨may_hit HR.out HRH.out (by omega) HKN.out HP.out HB1.out⟩
            go_wp2_with fail
            go_ret
            exact ⟨by rw [HA.out]; rfl, HM2.out.bel⟩
        · have t1 : (pOf t k == r) = false := by simpa using hp
          have HP := Aside0.mk hp
          have HLO : Aside0 (lone (pOf t) r (k + 1) = lone (pOf t) r k) := ⟨by
            show (lone (pOf t) r k && !(decide (0 < k) && (pOf t k == r))) = _
            rw [t1]
            simp⟩
          clear hp
          go_wp2_with fail
          go_roundw
          case rel => exact ⟨k + 1, by omega, by omega, by rw [HWK.out], by rw [HLO.out], ⟨HM.out.next (fun e => absurd e HP.out)⟩⟩
          case measure => rw [HWK.out]; simp [RowKit.intOf]; omega
      · have t0 : decide ((k : Int) < (m.length : Int)) = false := decide_eq_false (by omega)
        obtain rfl : k = m.length := by omega
        have hmm : may t lf r = (lone (pOf t) r m.length && lf r) := by
          rw [HML.out]
          exact may_miss HR.out HRH.out (fun j h1 h2 h3 => HM.out.miss j h1 (by have := HML.out; omega) h3)
        have b := HM.out.box
        have bx0 : wr.cell? ⟨w.heap.size, 0, none⟩ = some (.int .i64 je) := by simp [World.cell?, b]
        have bx1 : wr.cell? ⟨w.heap.size, 1, none⟩ = some (.int .u64 1) := by simp [World.cell?, b]
        have bx2 : wr.cell? ⟨w.heap.size, 2, none⟩ = some (.int .i64 0) := by simp [World.cell?, b]
        have bx3 : wr.cell? ⟨w.heap.size, 3, none⟩ = some (.int .u64 fr) := by simp [World.cell?, b]
        have bx4 : wr.cell? ⟨w.heap.size, 4, none⟩ = some (.int .i64 ep) := by simp [World.cell?, b]
        have bx5 : wr.cell? ⟨w.heap.size, 5, none⟩ = some (.map (some S)) := by simp [World.cell?, b]
        clear b
        obtain ⟨b0, hb0⟩ : ∃ b, lone (pOf t) r m.length = b := ⟨_, rfl⟩
        obtain ⟨s, hs⟩ : ∃ s, src r = s := ⟨_, rfl⟩
        obtain ⟨bl, hbl⟩ : ∃ b, below t r fr = b := ⟨_, rfl⟩
        have hlf : lf r = ((je == 0 || s == je || decide (wrap64 (s + 2) ≥ ep)) && bl) := by rw [← HLF.out]; unfold lfOf; rw [hbl, hs]
        obtain ⟨kf, hkf⟩ := (mbelow_f HR.out r fr).rounds
        rw [hbl] at hkf
        rw [hlf, hb0] at hmm
        rw [hb0]
        have HKF := Aside0.mk hkf
        have HSR := Aside0.mk hs
        cases b0
        · have HMM : Aside0 (may t lf r = false) := ⟨by rw [hmm, Bool.false_and]⟩
          clear hb0 hs hbl hlf hkf hmm
          go_wp2_with (at_lookup; refine src_look ((HS.out.below HM.out.bel).at_ (k := S + 1) (by omega)) rfl _ _ rfl rfl r rfl HRW.out ?_; rw [HSR.out])
          go_ret
          exact ⟨by rw [HMM.out]; rfl, HM.out.bel⟩
        · rw [Bool.true_and] at hmm
          by_cases h1 : (je == 0) = true
          · have HMM : Aside0 (may t lf r = bl) := ⟨by rw [hmm, h1]; simp⟩
            clear hb0 hs hbl hlf hkf hmm
            go_wp2_with (first
              | (at_lookup; refine src_look ((HS.out.below HM.out.bel).at_ (k := S + 1) (by omega)) rfl _ _ rfl rfl r rfl HRW.out ?_; rw [HSR.out])
              | (go_at_call 20; refine (psephoslaw09_Model_Below.calls kf Am cm m r fr bl _ (Kd.C_below HC.out HM.out.bel) HCM.out HKF.out).mono ?_; rintro x w3 ⟨rfl, hb⟩; have HB3 := Aside0.mk (HM.out.bel.trans (hb.mono HM.out.bel.size)); clear hb))
            go_ret
            exact ⟨by rw [HMM.out]; rfl, HB3.out⟩
          · have h1' : (je == 0) = false := by simpa using h1
            clear h1
            by_cases h2 : (s == je) = true
            · have HMM : Aside0 (may t lf r = bl) := ⟨by rw [hmm, h1', h2]; simp⟩
              clear hb0 hs hbl hlf hkf hmm
              go_wp2_with (first
                | (at_lookup; refine src_look ((HS.out.below HM.out.bel).at_ (k := S + 1) (by omega)) rfl _ _ rfl rfl r rfl HRW.out ?_; rw [HSR.out])
                | (go_at_call 20; refine (psephoslaw09_Model_Below.calls kf Am cm m r fr bl _ (Kd.C_below HC.out HM.out.bel) HCM.out HKF.out).mono ?_; rintro x w3 ⟨rfl, hb⟩; have HB3 := Aside0.mk (HM.out.bel.trans (hb.mono HM.out.bel.size)); clear hb))
              go_ret
              exact ⟨by rw [HMM.out]; rfl, HB3.out⟩
            · have h2' : (s == je) = false := by simpa using h2
              clear h2
              by_cases h3 : wrap64 (s + 2) ≥ ep
              · have h3' : decide (wrap64 (s + 2) ≥ ep) = true := decide_eq_true h3
                have HMM : Aside0 (may t lf r = bl) := ⟨by rw [hmm, h1', h2', h3']; simp⟩
                clear hb0 hs hbl hlf hkf hmm h3
                go_wp2_with (first
                  | (at_lookup; refine src_look ((HS.out.below HM.out.bel).at_ (k := S + 1) (by omega)) rfl _ _ rfl rfl r rfl HRW.out ?_; rw [HSR.out])
                  | (go_at_call 20; refine (psephoslaw09_Model_Below.calls kf Am cm m r fr bl _ (Kd.C_below HC.out HM.out.bel) HCM.out HKF.out).mono ?_; rintro x w3 ⟨rfl, hb⟩; have HB3 := Aside0.mk (HM.out.bel.trans (hb.mono HM.out.bel.size)); clear hb))
                go_ret
                exact ⟨by rw [HMM.out]; rfl, HB3.out⟩
              · have h3' : decide (wrap64 (s + 2) ≥ ep) = false := decide_eq_false h3
                have HMM : Aside0 (may t lf r = false) := ⟨by rw [hmm, h1', h2', h3']; simp⟩
                clear hb0 hs hbl hlf hkf hmm h3
                go_wp2_with (at_lookup; refine src_look ((HS.out.below HM.out.bel).at_ (k := S + 1) (by omega)) rfl _ _ rfl rfl r rfl HRW.out ?_; rw [HSR.out])
                go_ret
                exact ⟨by rw [HMM.out]; rfl, HM.out.bel⟩
end Go.Proofs.Ytlhpokpdpjlhiaa.QI
