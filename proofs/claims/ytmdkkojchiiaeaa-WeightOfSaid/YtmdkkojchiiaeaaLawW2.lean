/-
  The walk of the law WeightOf of package psephoslaw12: its call answers true, and writes nothing that was there; of arguments of their kinds.
-/
import Derived.Test.YtmdkkojchiiaeaaLawW
import Derived.Test.YtmdkkojchiiaeaaOpenStruct
import Derived.Test.YtmdkkojchiiaeaaQWx2
import Derived.Test.YtmdkkojchiiaeaaQWx7
import Derived.Test.YtmdkkojchiiaeaaQWx9
import Derived.Test.YtmdkkojchiiaeaaQWx10
import Derived.Test.YtmdkkojchiiaeaaQWx12
import Derived.Test.YtmdkkojchiiaeaaQWx14
namespace Go.Proofs.Ytmdkkojchiiaeaa.QW
open Go.RowKit Go.Maps Go.ChangeMaps Go.Proofs.YtmdkkojchiiaeaaW.PrintWords Go.Proofs.Ytmdkkojchiiaeaa.Tree Go.Proofs.Ytmdkkojchiiaeaa.Own
set_option linter.unusedVariables false

/-- The votes behind k rounds, some of them banned. -/
def votesBan (vt : Nat → Int) (bn : Nat → Bool) (k n : Nat) : List S63 := (List.range n).map fun j => if j < k then ⟨true, 1, vt j, bn j⟩ else ⟨false, 0, 0, false⟩
theorem votesBan_len (vt : Nat → Int) (bn : Nat → Bool) (k n : Nat) : (votesBan vt bn k n).length = n := by simp [votesBan]
theorem votesBan_zero (vt : Nat → Int) (bn : Nat → Bool) (n : Nat) : votesBan vt bn 0 n = votesAt (fun _ => 0) 0 n := by
  apply List.ext_getElem
  · simp [votesBan, votesAt]
  · intro i h1 h2
    simp [votesBan, votesAt]
theorem votesBan_get (vt : Nat → Int) (bn : Nat → Bool) (k n i : Nat) (h : i < n) : rd_T63 (votesBan vt bn k n) i = if i < k then ⟨true, 1, vt i, bn i⟩ else ⟨false, 0, 0, false⟩ := by
  simp [rd_T63, votesBan, List.getD_eq_getElem?_getD, h]
theorem votesBan_next (vt : Nat → Int) (bn : Nat → Bool) (k n : Nat) (h : k < n) : (votesBan vt bn k n).set k ⟨true, 1, vt k, bn k⟩ = votesBan vt bn (k + 1) n := by
  apply List.ext_getElem
  · simp [votesBan]
  · intro i h1 h2
    rw [List.getElem_set]
    simp only [votesBan, List.getElem_map, List.getElem_range]
    by_cases e : k = i
    · subst e
      rw [if_pos rfl, if_pos (by omega)]
    · rw [if_neg e]
      by_cases e2 : i < k
      · rw [if_pos e2, if_pos (by omega)]
      · rw [if_neg e2, if_neg (by omega)]
theorem take_b (vt : Nat → Int) (bn : Nat → Bool) (k n : Nat) (h : k < n) : latest_Votes_Take.f (votesBan vt bn k n) k 1 (vt k) = some (true, (votesBan vt bn k n).set k ⟨true, 1, vt k, false⟩) := by
  have hl := votesBan_len vt bn k n
  unfold latest_Votes_Take.f
  rw [if_neg (by omega), if_neg (by omega), if_pos (by omega), if_pos (by omega), votesBan_get vt bn k n k h, if_neg (Nat.lt_irrefl k)]
  simp only [Bool.false_eq_true, if_false, Int.toNat_natCast]
theorem ban_b (vt : Nat → Int) (bn : Nat → Bool) (k n : Nat) (h : k < n) (hb : bn k = true) : latest_Votes_Ban.f ((votesBan vt bn k n).set k ⟨true, 1, vt k, false⟩) k = some (true, votesBan vt bn (k + 1) n) := by
  have hl := votesBan_len vt bn k n
  have hr : rd_T63 ((votesBan vt bn k n).set k ⟨true, 1, vt k, false⟩) k = ⟨true, 1, vt k, false⟩ := by
    simp [rd_T63, List.getD_eq_getElem?_getD, hl, h]
  unfold latest_Votes_Ban.f
  rw [List.length_set, if_neg (by omega), if_neg (by omega), if_pos (by omega), if_pos (by omega), hr]
  simp only [Bool.false_eq_true, if_false, Int.toNat_natCast]
  have hn := votesBan_next vt bn k n h
  rw [hb] at hn
  rw [List.set_set, hn]
theorem noban_b (vt : Nat → Int) (bn : Nat → Bool) (k n : Nat) (h : k < n) (hb : bn k = false) : (votesBan vt bn k n).set k ⟨true, 1, vt k, false⟩ = votesBan vt bn (k + 1) n := by
  have hn := votesBan_next vt bn k n h
  rw [hb] at hn
  exact hn
theorem voteOf_ban (vt : Nat → Int) (bn : Nat → Bool) (k n i : Nat) (h : i < n) : voteOf (votesBan vt bn k n) i = if i < k ∧ bn i = false then some (vt i) else none := by
  unfold voteOf
  rw [votesBan_get vt bn k n i h]
  by_cases e : i < k <;> cases hb : bn i <;> simp [e]
theorem votesBan_wide (vt : Nat → Int) (bn : Nat → Bool) (k n : Nat) (h : ∀ j, 0 ≤ vt j ∧ vt j ≤ 18446744073709551615) : ∀ i r, i < (votesBan vt bn k n).length → voteOf (votesBan vt bn k n) i = some r → 0 ≤ r ∧ r ≤ 18446744073709551615 := by
  intro i r hi hr
  rw [votesBan_len] at hi
  rw [voteOf_ban vt bn k n i hi] at hr
  split at hr
  · injection hr with hr
    rw [← hr]
    exact h i
  · cases hr
/-- What the statement WeightOf adds up. -/
def wantSum (lx : List Int) (t : T) (root : Int) (vt : Nat → Int) (bn : Nat → Bool) : Nat → Int
  | 0 => 0
  | k + 1 => if bn k = false ∧ below t (vt k) root = true then IntKind.u64.wrap (wantSum lx t root vt bn k + rd lx k) else wantSum lx t root vt bn k
theorem want_have (t : T) (root : Int) (lx : List Int) (hp : ∀ b ∈ lx, 0 ≤ b ∧ b ≤ 4294967296) (vt : Nat → Int) (bn : Nat → Bool) (K : Nat) : ∀ i, i ≤ lx.length → haveOf lx t (votesBan vt bn K lx.length) root i = wantSum lx t root vt bn (min i K)
  | 0, _ => by rw [Nat.zero_min]; rfl
  | i + 1, h => by
    have ih := want_have t root lx hp vt bn K i (by omega)
    unfold haveOf
    rw [voteOf_ban vt bn K lx.length i (by omega)]
    by_cases e : i < K
    · rw [show min (i + 1) K = i + 1 by omega, wantSum.eq_2]
      rw [show min i K = i by omega] at ih
      by_cases hb : bn i = false
      · rw [if_pos ⟨e, hb⟩]
        simp only
        rw [ih, bal_is lx hp i (by omega)]
        by_cases hr : below t (vt i) root = true
        · rw [if_pos hr, if_pos ⟨hb, hr⟩]
        · rw [if_neg hr, if_neg (fun h => hr h.2)]
      · rw [if_neg (fun h => hb h.2), if_neg (fun h => hb h.1)]
        exact ih
    · rw [if_neg (fun h => e h.1), show min (i + 1) K = K by omega]
      rw [show min i K = K by omega] at ih
      exact ih
def wantOf (lx : List Int) (sl bo : Int) (t : T) (boosted root : Int) (vt : Nat → Int) (bn : Nat → Bool) (k : Nat) : Int :=
  if below t boosted root = true then IntKind.u64.wrap (wantSum lx t root vt bn k + boostOf lx sl bo) else wantSum lx t root vt bn k
theorem want_law (t : T) (boosted root : Int) (lx : List Int) (sl bo : Int) (hp : ∀ b ∈ lx, 0 ≤ b ∧ b ≤ 4294967296) (vt : Nat → Int) (bn : Nat → Bool) (K : Nat) (h : K ≤ lx.length) : weightOf lx sl bo t (votesBan vt bn K lx.length) boosted root = wantOf lx sl bo t boosted root vt bn K := by
  unfold weightOf wantOf
  rw [votesBan_len, want_have t root lx hp vt bn K lx.length (Nat.le_refl _), show min lx.length K = K by omega]

set_option maxHeartbeats 8000000 in
set_option maxRecDepth 100000 in
theorem weightOf_law (A0 : Option Addr) (n0 c0 : Nat) (z0 : List Int) (sl bo : Int) (A1 : Option Addr) (n1 c1 : Nat) (z1 : List Int) (A2 : Option Addr) (n2 c2 : Nat) (z2 : List Int) (w : World)
    (h0 : Kd.C (Kd.int .u64) w A0 n0 z0) (hc0 : n0 ≤ c0) (hn0 : n0 ≤ 17592186043904) (hs : -9223372036854775808 ≤ sl ∧ sl ≤ 9223372036854775807) (hb : -9223372036854775808 ≤ bo ∧ bo ≤ 9223372036854775807) (hp : ∀ z ∈ z0, 0 ≤ z)
    (h1 : ReadsInt w .u8 A1 n1 z1) (hz1 : ∀ z ∈ z1, 0 ≤ z ∧ z ≤ 255) (h2 : ReadsInt w .u8 A2 n2 z2) (hz2 : ∀ z ∈ z2, 0 ≤ z ∧ z ≤ 255) (A3 : Option Addr) (n3 c3 : Nat) (z3 : List Bool) (h3 : ReadsOf Value.bool false w A3 n3 z3) (bs rt : Int) (hbs : 0 ≤ bs ∧ bs ≤ 255) (hrt : 0 ≤ rt ∧ rt ≤ 255) :
    Calls Try.prog 7 #[.agg #[.slice A0 n0 c0, .int .i64 sl, .int .i64 bo], .slice A1 n1 c1, .slice A2 n2 c2, .slice A3 n3 c3, .int .u8 bs, .int .u8 rt] w fun x w' => x = .returned (.bool true) ∧ Below w.heap.size w w' := by
  have hl0 : z0.length = n0 := h0.1
  subst hl0
  have hn2 := h2.2.1
  have hn3 := h3.2.1
  have H3 := Aside0.mk h3
  obtain ⟨kr, hkr⟩ := (make3_f z0 sl bo hn0 hb.1 hb.2).rounds
  have HKR := Aside0.mk hkr
  have H0 := Aside0.mk h0
  have H1 := Aside0.mk h1
  have H2 := Aside0.mk h2
  have HZ1 := Aside0.mk hz1
  have HZ2 := Aside0.mk hz2
  have HP := Aside0.mk (mkBal_mem z0 hp)
  have HLN := Aside0.mk (mkBal_len z0)
  have HSL := Aside0.mk (mkSlots_in sl)
  clear hkr h0 h1 h2 h3 hz1 hz2 hp hs hb
  go_enter Try.func7, Try.ntmps7
  go_wp2_with (first
    | (go_at_call 9; refine (Law12.awake_calls _).mono ?_; rintro x w1 ⟨rfl, hb⟩; have HB1 := Aside0.mk (below_then (below_alloc (Below.refl w.heap.size w) _) (by simp) hb); have HBK := Aside0.mk (blk_below (heap_alloc_new w _) hb); have hcg := blk_cell HBK.out; clear hb)
    | (go_at_call 12; refine (psephoslaw03_Make.calls kr A0 c0 z0 sl bo _ _ _ _ (Kd.C_below H0.out HB1.out) hc0 HKR.out).mono ?_; rintro x w2 ⟨v0, rfl, hR, hb⟩; have HB2 := Aside0.mk (below_then HB1.out HB1.out.size hb); obtain ⟨AX, cX, rfl, hcx, hC⟩ := Kd.R_reads hR; have HX := Aside0.mk hC; have HCX := Aside0.mk hcx; clear hb hR hC hcx)
    | (go_at_call 13; refine (made_calls A1 n1 c1 z1 _ (H1.out.below (below_alloc HB2.out _)) HZ1.out).mono ?_; rintro x w3 ⟨p, B, v, t, m, rfl, hM, R, hR, hb, _, _⟩; obtain ⟨AM, cM, rfl, hcM, hC⟩ := Kd.R_reads hR; have HB3 := Aside0.mk (below_then (below_alloc HB2.out _) (by simp; have := HB2.out.size; omega) hb); have LD := Aside0.mk (show Laid w3 w2.heap.size AX cX (mkBal z0) (mkSlots sl) (mkBoost bo) p B t AM cM m from ⟨blk_below (heap_alloc_new w2 _) hb, Kd.C_below HX.out (below_then (below_alloc (Below.refl _ _) _) (by simp) hb), HCX.out, HLN.out, by have := HSL.out; omega, HP.out, hM, R, hC, hcM⟩); have hcg3 := blk_cell LD.out.box; clear hb hM R hR hC hcM hcg)
    | (go_at_call 15; refine (latest_Of.calls _ _ _ (of_f (mkBal z0).length HLN.out.2)).mono ?_; rintro x w4 ⟨v4, rfl, hR, hb⟩; have HB4 := Aside0.mk hb; have HV4 := Aside0.mk hR; clear hb hR))
  have hlen : (votesAt (fun _ => 0) 0 (mkBal z0).length).length = (mkBal z0).length := votesAt_len _ _ _
  obtain ⟨AV, cV, hv⟩ := Kd.R_slice HV4.out
  rw [hlen] at hv
  subst hv
  obtain ⟨vt, hvt⟩ : ∃ vt : Nat → Int, vt = fun j => z2.getD j 0 % 33 := ⟨_, rfl⟩
  obtain ⟨bn, hbn⟩ : ∃ bn : Nat → Bool, bn = fun j => decide (j < n3) && z3.getD j false := ⟨_, rfl⟩
  have HV : Aside0 (Kd.R k63 63 w4 w3.heap.size (fun _ => True) (.slice AV (mkBal z0).length cV) (votesBan vt bn 0 (mkBal z0).length)) := ⟨by rw [votesBan_zero]; exact HV4.out⟩
  have HVT := Aside0.mk hvt
  have HBN := Aside0.mk hbn
  clear hvt hbn hlen HV4
  have hM1 := HLN.out.1
  have hM2 := HLN.out.2
  have hrr : 0 ≤ rt % 33 ∧ rt % 33 < 33 := by omega
  have hbb : 0 ≤ bs % 33 ∧ bs % 33 < 33 := by omega
  go_loopw [17, 40] (fun x c wr => ∃ k : Nat, k ≤ n2 ∧ k ≤ (mkBal z0).length ∧ x = .int .u64 (wantSum (mkBal z0) t (rt % 33) vt bn k) ∧ c = .int .i64 k ∧
      Aside0 (Kd.R k63 63 wr w3.heap.size (fun _ => True) (.slice AV (mkBal z0).length cV) (votesBan vt bn k (mkBal z0).length)) ∧ Aside0 (Below w3.heap.size w3 wr)) (fun _ c _ => n2 - (intOf c).toNat)
  case atStart => exact ⟨0, by omega, by omega, rfl, rfl, HV, HB4⟩
  case round =>
    obtain ⟨k, hk, hkn, rfl, rfl, HV, HB⟩ := hrel
    have LR := Aside0.mk (LD.out.below HB.out)
    have hcr := blk_cell LR.out.box
    have HBW := Aside0.mk (below_then HB3.out HB3.out.size HB.out)
    clear hcg3
    by_cases hgo : k < n2 ∧ k < (mkBal z0).length
    · obtain ⟨hlt, hkl⟩ := hgo
      have t0 : decide ((k : Int) < (n2 : Int)) = true := decide_eq_true (by omega)
      have t1 : decide ((k : Int) ≥ ((mkBal z0).length : Int)) = false := decide_eq_false (by omega)
      have t1' : decide (((mkBal z0).length : Int) ≤ (k : Int)) = false := decide_eq_false (by omega)
      obtain ⟨ad, rfl, hc⟩ := H2.out.2.2 (by omega)
      have d0 := pw_cell_below HBW.out (hc k hlt)
      obtain ⟨z, hz⟩ : ∃ z, z2.getD k 0 = z := ⟨_, rfl⟩
      have hzr : 0 ≤ z ∧ z ≤ 255 := by rw [← hz]; exact HZ2.out _ (by rw [List.getD_eq_getElem?_getD, List.getElem?_eq_getElem (by rw [H2.out.1]; exact hlt)]; simp)
      have HVK : Aside0 (vt k = z % 33) := ⟨by rw [HVT.out]; simp only; rw [hz]⟩
      have hzm : 0 ≤ z % 33 ∧ z % 33 < 33 := by omega
      rw [hz] at d0
      clear hz hc
      have HTK : Aside0 (latest_Votes_Take.f (votesBan vt bn k (mkBal z0).length) k 1 (z % 33) = some (true, (votesBan vt bn k (mkBal z0).length).set k ⟨true, 1, z % 33, false⟩)) := ⟨by rw [← HVK.out]; exact take_b vt bn k _ hkl⟩
      by_cases hk3 : k < n3
      · have t2 : decide ((k : Int) < (n3 : Int)) = true := decide_eq_true (by omega)
        obtain ⟨a3, rfl, hq⟩ := H3.out.2.2 (by omega)
        have hq3 := hq k hk3
        clear hq
        have HBK0 : Aside0 (bn k = z3.getD k false) := ⟨by rw [HBN.out]; simp [hk3]⟩
        obtain ⟨b, hb⟩ : ∃ b, z3.getD k false = b := ⟨_, rfl⟩
        rw [hb] at hq3 HBK0
        clear hb
        cases b with
        | true =>
          have HBN3 : Aside0 (latest_Votes_Ban.f ((votesBan vt bn k (mkBal z0).length).set k ⟨true, 1, z % 33, false⟩) k = some (true, votesBan vt bn (k + 1) (mkBal z0).length)) := ⟨by rw [← HVK.out]; exact ban_b vt bn k _ hkl HBK0.out⟩
          have HN : Aside0 (wantSum (mkBal z0) t (rt % 33) vt bn (k + 1) = wantSum (mkBal z0) t (rt % 33) vt bn k) := ⟨by rw [wantSum.eq_2, if_neg (fun h => by rw [HBK0.out] at h; cases h.1)]⟩
          go_wp2_with (first
            | (go_at_call 17; refine (latest_Votes_Take.calls (fun _ => True) _ _ _ _ _ _ _ w3 wr HB.out HV.out HTK.out).mono ?_; rintro x w5 ⟨rfl, hR, hb, _⟩; have HV5 := Aside0.mk (Kd.R_mono hR (fun _ _ => trivial)); have HB5 := Aside0.mk hb; have L5 := Aside0.mk (LD.out.below hb); have d5 := pw_cell_below (below_then HB3.out HB3.out.size hb) hq3; clear hR hb)
            | (go_at_call 20; refine (latest_Votes_Ban.calls (fun _ => True) _ _ _ _ _ w3 w5 HB5.out HV5.out HBN3.out).mono ?_; rintro x w6 ⟨rfl, hR, hb, _⟩; have HV6 := Aside0.mk (Kd.R_mono hR (fun _ _ => trivial)); have HB6 := Aside0.mk hb; clear hR hb))
          go_roundw
          case rel => exact ⟨k + 1, by omega, by omega, by rw [HN.out], by go_num, HV6, HB6⟩
          case measure => simp [intOf]; omega
        | false =>
          have HBK3 := HBK0
          obtain ⟨kf, hkf⟩ := (mbelow_f LR.out.R (z % 33) (rt % 33)).rounds
          have HKF := Aside0.mk hkf
          clear hkf
          by_cases hbel : below t (z % 33) (rt % 33) = true
          · have HN : Aside0 (wantSum (mkBal z0) t (rt % 33) vt bn (k + 1) = IntKind.u64.wrap (wantSum (mkBal z0) t (rt % 33) vt bn k + rd (mkBal z0) k)) := ⟨by rw [wantSum.eq_2, if_pos ⟨HBK3.out, by rw [HVK.out]; exact hbel⟩]⟩
            rw [hbel] at HKF
            obtain ⟨ax, rfl, _⟩ := Kd.at_int LR.out.hx (k : Int) (by omega) (by omega)
            clear hbel
            go_wp2_with (first
              | (go_at_call 17; refine (latest_Votes_Take.calls (fun _ => True) _ _ _ _ _ _ _ w3 wr HB.out HV.out HTK.out).mono ?_; rintro x w5 ⟨rfl, hR, hb, _⟩; have HV5 := Aside0.mk (Kd.R_mono hR (fun _ _ => trivial)); have HVN : Aside0 (Kd.R k63 63 w5 w3.heap.size (fun _ => True) (.slice AV (mkBal z0).length cV) (votesBan vt bn (k + 1) (mkBal z0).length)) := ⟨by rw [← noban_b vt bn k _ hkl HBK3.out]; rw [HVK.out]; exact HV5.out⟩; have HB5 := Aside0.mk hb; have L5 := Aside0.mk (LD.out.below hb); have d5 := pw_cell_below (below_then HB3.out HB3.out.size hb) hq3; clear hR hb)
              | (go_at_call 18; refine (psephoslaw09_Model_Below.calls kf AM cM m _ _ _ _ L5.out.hm L5.out.hcm HKF.out).mono ?_; rintro x w6 ⟨rfl, hb⟩; have HV6 := Aside0.mk (Kd.R_below HVN.out hb); have HB6 := Aside0.mk (below_then HB5.out HB5.out.size hb); have L6 := Aside0.mk (L5.out.below hb); have hc6 := blk_cell L6.out.box; obtain ⟨ax', hax, d6⟩ := Kd.at_int L6.out.hx (k : Int) (by omega) (by omega); injection hax with hax; subst hax; rw [Int.toNat_natCast] at d6; clear hb))
            go_roundw
            case rel => exact ⟨k + 1, by omega, by omega, by rw [HN.out], by go_num, HV6, HB6⟩
            case measure => simp [intOf]; omega
          · have hbel' : below t (z % 33) (rt % 33) = false := by simpa using hbel
            have HN : Aside0 (wantSum (mkBal z0) t (rt % 33) vt bn (k + 1) = wantSum (mkBal z0) t (rt % 33) vt bn k) := ⟨by rw [wantSum.eq_2, if_neg (fun h => hbel (by rw [← HVK.out]; exact h.2))]⟩
            rw [hbel'] at HKF
            obtain ⟨ax, rfl, _⟩ := Kd.at_int LR.out.hx (k : Int) (by omega) (by omega)
            clear hbel hbel'
            go_wp2_with (first
              | (go_at_call 17; refine (latest_Votes_Take.calls (fun _ => True) _ _ _ _ _ _ _ w3 wr HB.out HV.out HTK.out).mono ?_; rintro x w5 ⟨rfl, hR, hb, _⟩; have HV5 := Aside0.mk (Kd.R_mono hR (fun _ _ => trivial)); have HVN : Aside0 (Kd.R k63 63 w5 w3.heap.size (fun _ => True) (.slice AV (mkBal z0).length cV) (votesBan vt bn (k + 1) (mkBal z0).length)) := ⟨by rw [← noban_b vt bn k _ hkl HBK3.out]; rw [HVK.out]; exact HV5.out⟩; have HB5 := Aside0.mk hb; have L5 := Aside0.mk (LD.out.below hb); have d5 := pw_cell_below (below_then HB3.out HB3.out.size hb) hq3; clear hR hb)
              | (go_at_call 18; refine (psephoslaw09_Model_Below.calls kf AM cM m _ _ _ _ L5.out.hm L5.out.hcm HKF.out).mono ?_; rintro x w6 ⟨rfl, hb⟩; have HV6 := Aside0.mk (Kd.R_below HVN.out hb); have HB6 := Aside0.mk (below_then HB5.out HB5.out.size hb); have L6 := Aside0.mk (L5.out.below hb); have hc6 := blk_cell L6.out.box; obtain ⟨ax', hax, d6⟩ := Kd.at_int L6.out.hx (k : Int) (by omega) (by omega); injection hax with hax; subst hax; rw [Int.toNat_natCast] at d6; clear hb))
            go_roundw
            case rel => exact ⟨k + 1, by omega, by omega, by rw [HN.out], by go_num, HV6, HB6⟩
            case measure => simp [intOf]; omega
      · have t2 : decide ((k : Int) < (n3 : Int)) = false := decide_eq_false (by omega)
        have HBK3 : Aside0 (bn k = false) := ⟨by rw [HBN.out]; simp [hk3]⟩
        obtain ⟨kf, hkf⟩ := (mbelow_f LR.out.R (z % 33) (rt % 33)).rounds
        have HKF := Aside0.mk hkf
        clear hkf
        by_cases hbel : below t (z % 33) (rt % 33) = true
        · have HN : Aside0 (wantSum (mkBal z0) t (rt % 33) vt bn (k + 1) = IntKind.u64.wrap (wantSum (mkBal z0) t (rt % 33) vt bn k + rd (mkBal z0) k)) := ⟨by rw [wantSum.eq_2, if_pos ⟨HBK3.out, by rw [HVK.out]; exact hbel⟩]⟩
          rw [hbel] at HKF
          obtain ⟨ax, rfl, _⟩ := Kd.at_int LR.out.hx (k : Int) (by omega) (by omega)
          clear hbel
          go_wp2_with (first
            | (go_at_call 17; refine (latest_Votes_Take.calls (fun _ => True) _ _ _ _ _ _ _ w3 wr HB.out HV.out HTK.out).mono ?_; rintro x w5 ⟨rfl, hR, hb, _⟩; have HV5 := Aside0.mk (Kd.R_mono hR (fun _ _ => trivial)); have HVN : Aside0 (Kd.R k63 63 w5 w3.heap.size (fun _ => True) (.slice AV (mkBal z0).length cV) (votesBan vt bn (k + 1) (mkBal z0).length)) := ⟨by rw [← noban_b vt bn k _ hkl HBK3.out]; rw [HVK.out]; exact HV5.out⟩; have HB5 := Aside0.mk hb; have L5 := Aside0.mk (LD.out.below hb); clear hR hb)
            | (go_at_call 18; refine (psephoslaw09_Model_Below.calls kf AM cM m _ _ _ _ L5.out.hm L5.out.hcm HKF.out).mono ?_; rintro x w6 ⟨rfl, hb⟩; have HV6 := Aside0.mk (Kd.R_below HVN.out hb); have HB6 := Aside0.mk (below_then HB5.out HB5.out.size hb); have L6 := Aside0.mk (L5.out.below hb); have hc6 := blk_cell L6.out.box; obtain ⟨ax', hax, d6⟩ := Kd.at_int L6.out.hx (k : Int) (by omega) (by omega); injection hax with hax; subst hax; rw [Int.toNat_natCast] at d6; clear hb))
          go_roundw
          case rel => exact ⟨k + 1, by omega, by omega, by rw [HN.out], by go_num, HV6, HB6⟩
          case measure => simp [intOf]; omega
        · have hbel' : below t (z % 33) (rt % 33) = false := by simpa using hbel
          have HN : Aside0 (wantSum (mkBal z0) t (rt % 33) vt bn (k + 1) = wantSum (mkBal z0) t (rt % 33) vt bn k) := ⟨by rw [wantSum.eq_2, if_neg (fun h => hbel (by rw [← HVK.out]; exact h.2))]⟩
          rw [hbel'] at HKF
          obtain ⟨ax, rfl, _⟩ := Kd.at_int LR.out.hx (k : Int) (by omega) (by omega)
          clear hbel hbel'
          go_wp2_with (first
            | (go_at_call 17; refine (latest_Votes_Take.calls (fun _ => True) _ _ _ _ _ _ _ w3 wr HB.out HV.out HTK.out).mono ?_; rintro x w5 ⟨rfl, hR, hb, _⟩; have HV5 := Aside0.mk (Kd.R_mono hR (fun _ _ => trivial)); have HVN : Aside0 (Kd.R k63 63 w5 w3.heap.size (fun _ => True) (.slice AV (mkBal z0).length cV) (votesBan vt bn (k + 1) (mkBal z0).length)) := ⟨by rw [← noban_b vt bn k _ hkl HBK3.out]; rw [HVK.out]; exact HV5.out⟩; have HB5 := Aside0.mk hb; have L5 := Aside0.mk (LD.out.below hb); clear hR hb)
            | (go_at_call 18; refine (psephoslaw09_Model_Below.calls kf AM cM m _ _ _ _ L5.out.hm L5.out.hcm HKF.out).mono ?_; rintro x w6 ⟨rfl, hb⟩; have HV6 := Aside0.mk (Kd.R_below HVN.out hb); have HB6 := Aside0.mk (below_then HB5.out HB5.out.size hb); have L6 := Aside0.mk (L5.out.below hb); have hc6 := blk_cell L6.out.box; obtain ⟨ax', hax, d6⟩ := Kd.at_int L6.out.hx (k : Int) (by omega) (by omega); injection hax with hax; subst hax; rw [Int.toNat_natCast] at d6; clear hb))
          go_roundw
          case rel => exact ⟨k + 1, by omega, by omega, by rw [HN.out], by go_num, HV6, HB6⟩
          case measure => simp [intOf]; omega
    · have HF := Aside0.mk (want_law t (bs % 33) (rt % 33) (mkBal z0) (mkSlots sl) (mkBoost bo) HP.out vt bn k hkn)
      have HW := Aside0.mk (votesBan_wide vt bn k (mkBal z0).length (fun j => by rw [HVT.out]; simp only; omega))
      have HLV : Aside0 ((votesBan vt bn k (mkBal z0).length).length ≤ 4096) := ⟨by rw [votesBan_len]; omega⟩
      have KB : Aside0 (0 ≤ bs % 33 ∧ bs % 33 ≤ 18446744073709551615) := ⟨by omega⟩
      have KR : Aside0 (0 ≤ rt % 33 ∧ rt % 33 ≤ 18446744073709551615) := ⟨by omega⟩
      obtain ⟨kf, hkf⟩ := (mbelow_f LR.out.R (bs % 33) (rt % 33)).rounds
      have HKF := Aside0.mk hkf
      obtain ⟨kb, hkb⟩ := (boost_f (mkBal z0) (mkSlots sl) (mkBoost bo) (by omega) LR.out.hsl).rounds
      have HKB := Aside0.mk hkb
      clear hkf hkb
      by_cases hbel : below t (bs % 33) (rt % 33) = true
      · have HN : Aside0 (wantOf (mkBal z0) (mkSlots sl) (mkBoost bo) t (bs % 33) (rt % 33) vt bn k = IntKind.u64.wrap (wantSum (mkBal z0) t (rt % 33) vt bn k + boostOf (mkBal z0) (mkSlots sl) (mkBoost bo))) := ⟨by rw [wantOf, if_pos hbel]⟩
        rw [hbel] at HKF
        rw [HN.out] at HF
        clear hbel
        by_cases h1 : k < n2
        · have t0 : decide ((k : Int) < (n2 : Int)) = true := decide_eq_true (by omega)
          have t1 : decide ((k : Int) ≥ ((mkBal z0).length : Int)) = true := decide_eq_true (by omega)
          have t1' : decide (((mkBal z0).length : Int) ≤ (k : Int)) = true := decide_eq_true (by omega)
          obtain ⟨ad, rfl, hc⟩ := H2.out.2.2 (by omega)
          have d0 := pw_cell_below HBW.out (hc k h1)
          clear hc
          go_wp2_with (first
            | (go_at_call 18; refine (psephoslaw09_Model_Below.calls kf AM cM m _ _ _ _ LR.out.hm LR.out.hcm HKF.out).mono ?_; rintro x w7 ⟨rfl, hb⟩; have HV7 := Aside0.mk (Kd.R_below HV.out hb); have HB7 := Aside0.mk (below_then HBW.out HBW.out.size hb); have L7 := Aside0.mk (LR.out.below hb); have hc7 := blk_cell L7.out.box; clear hb)
            | (go_at_call 16; refine (config_Boost.calls kb AX cX _ _ _ _ _ L7.out.hx L7.out.hcx HKB.out).mono ?_; rintro x w8 ⟨rfl, hb⟩; have HV8 := Aside0.mk (Kd.R_below HV7.out hb); have HB8 := Aside0.mk (below_then HB7.out HB7.out.size hb); have L8 := Aside0.mk (L7.out.below hb); have hc8 := blk_cell L8.out.box; clear hb)
            | (go_at_call 14; with_reducible refine (weight_at L8.out HV8.out HLV.out HW.out (bs % 33) (rt % 33) KB.out KR.out).mono ?_; rw [HF.out]; rintro x w9 ⟨rfl, hb⟩; have HB9 := Aside0.mk (below_then HB8.out HB8.out.size hb); clear hb))
          go_ret
          exact ⟨by first | rfl | simp, HB9.out⟩
        · have t0 : decide ((k : Int) < (n2 : Int)) = false := decide_eq_false (by omega)
          go_wp2_with (first
            | (go_at_call 18; refine (psephoslaw09_Model_Below.calls kf AM cM m _ _ _ _ LR.out.hm LR.out.hcm HKF.out).mono ?_; rintro x w7 ⟨rfl, hb⟩; have HV7 := Aside0.mk (Kd.R_below HV.out hb); have HB7 := Aside0.mk (below_then HBW.out HBW.out.size hb); have L7 := Aside0.mk (LR.out.below hb); have hc7 := blk_cell L7.out.box; clear hb)
            | (go_at_call 16; refine (config_Boost.calls kb AX cX _ _ _ _ _ L7.out.hx L7.out.hcx HKB.out).mono ?_; rintro x w8 ⟨rfl, hb⟩; have HV8 := Aside0.mk (Kd.R_below HV7.out hb); have HB8 := Aside0.mk (below_then HB7.out HB7.out.size hb); have L8 := Aside0.mk (L7.out.below hb); have hc8 := blk_cell L8.out.box; clear hb)
            | (go_at_call 14; with_reducible refine (weight_at L8.out HV8.out HLV.out HW.out (bs % 33) (rt % 33) KB.out KR.out).mono ?_; rw [HF.out]; rintro x w9 ⟨rfl, hb⟩; have HB9 := Aside0.mk (below_then HB8.out HB8.out.size hb); clear hb))
          go_ret
          exact ⟨by first | rfl | simp, HB9.out⟩
      · have hbel' : below t (bs % 33) (rt % 33) = false := by simpa using hbel
        have HN : Aside0 (wantOf (mkBal z0) (mkSlots sl) (mkBoost bo) t (bs % 33) (rt % 33) vt bn k = wantSum (mkBal z0) t (rt % 33) vt bn k) := ⟨by rw [wantOf, if_neg hbel]⟩
        rw [hbel'] at HKF
        rw [HN.out] at HF
        clear hbel hbel'
        by_cases h1 : k < n2
        · have t0 : decide ((k : Int) < (n2 : Int)) = true := decide_eq_true (by omega)
          have t1 : decide ((k : Int) ≥ ((mkBal z0).length : Int)) = true := decide_eq_true (by omega)
          have t1' : decide (((mkBal z0).length : Int) ≤ (k : Int)) = true := decide_eq_true (by omega)
          obtain ⟨ad, rfl, hc⟩ := H2.out.2.2 (by omega)
          have d0 := pw_cell_below HBW.out (hc k h1)
          clear hc
          go_wp2_with (first
            | (go_at_call 18; refine (psephoslaw09_Model_Below.calls kf AM cM m _ _ _ _ LR.out.hm LR.out.hcm HKF.out).mono ?_; rintro x w7 ⟨rfl, hb⟩; have HV7 := Aside0.mk (Kd.R_below HV.out hb); have HB7 := Aside0.mk (below_then HBW.out HBW.out.size hb); have L7 := Aside0.mk (LR.out.below hb); have hc7 := blk_cell L7.out.box; clear hb)
            | (go_at_call 14; with_reducible refine (weight_at L7.out HV7.out HLV.out HW.out (bs % 33) (rt % 33) KB.out KR.out).mono ?_; rw [HF.out]; rintro x w9 ⟨rfl, hb⟩; have HB9 := Aside0.mk (below_then HB7.out HB7.out.size hb); clear hb))
          go_ret
          exact ⟨by first | rfl | simp, HB9.out⟩
        · have t0 : decide ((k : Int) < (n2 : Int)) = false := decide_eq_false (by omega)
          go_wp2_with (first
            | (go_at_call 18; refine (psephoslaw09_Model_Below.calls kf AM cM m _ _ _ _ LR.out.hm LR.out.hcm HKF.out).mono ?_; rintro x w7 ⟨rfl, hb⟩; have HV7 := Aside0.mk (Kd.R_below HV.out hb); have HB7 := Aside0.mk (below_then HBW.out HBW.out.size hb); have L7 := Aside0.mk (LR.out.below hb); have hc7 := blk_cell L7.out.box; clear hb)
            | (go_at_call 14; with_reducible refine (weight_at L7.out HV7.out HLV.out HW.out (bs % 33) (rt % 33) KB.out KR.out).mono ?_; rw [HF.out]; rintro x w9 ⟨rfl, hb⟩; have HB9 := Aside0.mk (below_then HB7.out HB7.out.size hb); clear hb))
          go_ret
          exact ⟨by first | rfl | simp, HB9.out⟩

/-- The same, of arguments as they are opened. -/
theorem weightOf_args {A0 A1 A2 A3 : Option Addr} {n0 c0 n1 c1 n2 c2 n3 c3 : Nat} {z0 z1 z2 : List Int} {z3 : List Bool} {sl bo bs rt : Int} {w : World} (g0 : Open.ConfigArg w A0 n0 c0 z0 sl bo) (g1 : Open.IntsArg w .u8 1 A1 n1 c1 z1) (g2 : Open.IntsArg w .u8 1 A2 n2 c2 z2) (g3 : Open.BoolsArg w A3 n3 c3 z3) (w4 : (Lit.int .u8 bs).wf = true) (w5 : (Lit.int .u8 rt).wf = true) :
    Calls Try.prog 7 #[.agg #[.slice A0 n0 c0, .int .i64 sl, .int .i64 bo], .slice A1 n1 c1, .slice A2 n2 c2, .slice A3 n3 c3, .int .u8 bs, .int .u8 rt] w fun x w' => x = .returned (.bool true) ∧ Below w.heap.size w w' :=
  weightOf_law A0 n0 c0 z0 sl bo A1 n1 c1 z1 A2 n2 c2 z2 w (Kd.C_of_reads (d := (0 : Int)) (h1 := fun _ => rfl) g0.row.reads) g0.row.le (by have := g0.row.size; omega) (bd_i64 g0.ws) (bd_i64 g0.wb) (fun z hz => (bd_u64 (g0.row.wf z hz)).1) g1.reads (fun z hz => bd_u8 (g1.wf z hz)) g2.reads (fun z hz => bd_u8 (g2.wf z hz)) A3 n3 c3 z3 g3.reads bs rt (bd_u8 w4) (bd_u8 w5)
end Go.Proofs.Ytmdkkojchiiaeaa.QW
