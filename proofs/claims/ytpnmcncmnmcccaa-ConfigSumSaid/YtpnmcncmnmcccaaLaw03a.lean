/-
  The law ConfigSum: its printed function answers true, so its call does; of a configuration and a slice that came in.
-/
import Derived.Test.YtpnmcncmnmcccaaConfigPureSum
import Derived.Test.YtpnmcncmnmcccaaMConfigSumx2
import Derived.Test.YtpnmcncmnmcccaaOwn
namespace Go.Proofs.Ytpnmcncmnmcccaa.PConfigSum
open Go.RowKit Go.Proofs.YtpnmcncmnmcccaaW.PrintWords Go.Proofs.Ytpnmcncmnmcccaa.Own

theorem awake_ev : Ev (fun k => psephoslaw03_awake.f k) true := Ev.of psephoslaw03_awake.mono (k := 20) (by decide +kernel)

theorem law_l1 (bs who : List Int) (s b : Int) (hb : bs.length ≤ 17592186044416) (hn : who.length ≤ 140737488351232) (d : Nat) : ∀ (i : Nat) (acc : Int), i + d = bs.length → allOf acc (bs.drop i) = allOf 0 bs →
    Ev (fun k => psephoslaw03_ConfigSum.l1 k who (sumOf bs 0 who) acc bs bs.length i bs s b) true := by
  induction d with
  | zero =>
    intro i acc hi h
    rw [List.drop_eq_nil_of_le (by omega)] at h
    have h : acc = allOf 0 bs := h
    refine Ev.step (f := fun k => (config_Sum.f k bs s b who).bind fun t129 => (if t129 = sumOf bs 0 who then ((config_Total.f k bs s b).bind fun t130 => (if t130 = acc then ((config_Sum.f k bs s b ([] : List Int)).bind fun t131 => (some (t131 == 0))) else (some false))) else (some false))) (fun k => ?_) ?_
    · simp only [psephoslaw03_ConfigSum.l1]
      rw [if_neg (by omega)]
    · refine Ev.bind (sum_f bs who s b hn) ?_
      refine Ev.congr (f := fun k => (config_Total.f k bs s b).bind fun t130 => (if t130 = acc then ((config_Sum.f k bs s b ([] : List Int)).bind fun t131 => (some (t131 == 0))) else (some false))) (fun k => by rw [if_pos rfl]) ?_
      refine Ev.bind (total_f bs s b (by omega)) ?_
      refine Ev.congr (f := fun k => (config_Sum.f k bs s b ([] : List Int)).bind fun t131 => (some (t131 == 0))) (fun k => by rw [if_pos h.symm]) ?_
      exact Ev.bind (sum_f bs [] s b (by simp)) (Ev.now _)
  | succ d ih =>
    intro i acc hi h
    refine Ev.step (f := fun k => psephoslaw03_ConfigSum.l1 k who (sumOf bs 0 who) (IntKind.u64.wrap (acc + rd bs i)) bs bs.length ((i + 1 : Nat) : Int) bs s b) (fun k => ?_) (ih (i + 1) _ (by omega) ?_)
    · simp only [psephoslaw03_ConfigSum.l1]
      rw [if_pos (by omega), if_pos (by omega), if_pos (by omega), wrap_next (n := bs.length) (by omega) (by omega)]
    · rw [drop_rd bs i (by omega)] at h
      exact h

theorem law_l0 (bs who : List Int) (s b : Int) (hb : bs.length ≤ 17592186044416) (hn : who.length ≤ 140737488351232) (d : Nat) : ∀ (i : Nat) (acc : Int), i + d = who.length → sumOf bs acc (who.drop i) = sumOf bs 0 who →
    Ev (fun k => psephoslaw03_ConfigSum.l0 k who acc 0 who who.length i bs s b) true := by
  induction d with
  | zero =>
    intro i acc hi h
    rw [List.drop_eq_nil_of_le (by omega)] at h
    obtain rfl : acc = sumOf bs 0 who := h
    refine Ev.step (f := fun k => psephoslaw03_ConfigSum.l1 k who (sumOf bs 0 who) 0 bs bs.length 0 bs s b) (fun k => ?_) (law_l1 bs who s b hb hn bs.length 0 0 (by omega) (by rw [List.drop_zero]))
    simp only [psephoslaw03_ConfigSum.l0]
    rw [if_neg (by omega)]
  | succ d ih =>
    intro i acc hi h
    rw [drop_rd who i (by omega)] at h
    simp only [sumOf, List.foldl_cons] at h
    by_cases c : 0 ≤ rd who i ∧ rd who i < (bs.length : Int)
    · rw [if_pos c] at h
      refine Ev.step (f := fun k => psephoslaw03_ConfigSum.l0 k who (IntKind.u64.wrap (acc + rd bs (rd who i))) 0 who who.length ((i + 1 : Nat) : Int) bs s b) (fun k => ?_) (ih (i + 1) _ (by omega) h)
      simp only [psephoslaw03_ConfigSum.l0]
      rw [if_pos (by omega), if_pos (by omega), if_pos (by omega), if_pos c.1, if_pos c.2, if_pos c.1, wrap_next (n := who.length) (by omega) hn]
    · rw [if_neg c] at h
      refine Ev.step (f := fun k => psephoslaw03_ConfigSum.l0 k who acc 0 who who.length ((i + 1 : Nat) : Int) bs s b) (fun k => ?_) (ih (i + 1) _ (by omega) h)
      simp only [psephoslaw03_ConfigSum.l0]
      rw [if_pos (by omega), if_pos (by omega), if_pos (by omega), wrap_next (n := who.length) (by omega) hn]
      by_cases h0 : rd who i ≥ 0
      · rw [if_pos h0, if_neg (by omega)]
      · rw [if_neg h0]

theorem law_f (bs who : List Int) (s b : Int) (hb : bs.length ≤ 17592186044416) (hn : who.length ≤ 140737488351232) : ∃ k, psephoslaw03_ConfigSum.f k bs s b who = some true := by
  refine Ev.rounds (g := fun k => psephoslaw03_ConfigSum.f k bs s b who) ?_
  unfold psephoslaw03_ConfigSum.f
  refine Ev.bind awake_ev ?_
  refine Ev.congr (fun k => by rw [if_pos rfl]; rfl) (law_l0 bs who s b hb hn who.length 0 0 (by omega) (by rw [List.drop_zero]))

theorem configSum_law (A : Option Addr) (n c : Nat) (bs : List Int) (s b : Int) (A1 : Option Addr) (n1 c1 : Nat) (who : List Int) (w : World) (g : ReadsInt w .u64 A n bs) (hc : n ≤ c) (hs : n * 8 ≤ 140737488351232) (g1 : ReadsInt w .i64 A1 n1 who) (hc1 : n1 ≤ c1) (hs1 : n1 * 8 ≤ 140737488351232) :
    Calls Try.prog 3 #[.agg #[.slice A n c, .int .i64 s, .int .i64 b], .slice A1 n1 c1] w fun e w' => e = .returned (.bool true) ∧ Below w.heap.size w w' := by
  obtain ⟨rfl, hm, hr⟩ := g
  obtain ⟨rfl, hm1, hr1⟩ := g1
  obtain ⟨k, h⟩ := law_f bs who s b (by omega) (by omega)
  exact psephoslaw03_ConfigSum.calls k _ _ bs s b _ _ who true w (Kd.C_of_reads (d := (0 : Int)) (h1 := fun _ => rfl) ⟨rfl, hm, hr⟩) hc (Kd.C_of_reads (d := (0 : Int)) (h1 := fun _ => rfl) ⟨rfl, hm1, hr1⟩) hc1 h
end Go.Proofs.Ytpnmcncmnmcccaa.PConfigSum
