/-
  The law ConfigEach: its printed function answers true, so its call does; of a configuration that came in and a number.
-/
import Derived.Test.YtpnmcncmnmcccaaConfigPureEach
import Derived.Test.YtpnmcncmnmcccaaMConfigEachx2
import Derived.Test.YtpnmcncmnmcccaaOwn
import Derived.IntWalk
namespace Go.Proofs.Ytpnmcncmnmcccaa.PConfigEach
open Go.RowKit Go.Proofs.YtpnmcncmnmcccaaW.PrintWords Go.Proofs.Ytpnmcncmnmcccaa.Own

theorem awake_ev : Ev (fun k => psephoslaw03_awake.f k) true := Ev.of psephoslaw03_awake.mono (k := 20) (by decide +kernel)

theorem rd_u64 {bs : List Int} (hw : ∀ x ∈ bs, (Lit.int .u64 x).wf = true) {i : Int} (h0 : 0 ≤ i) (h1 : i < (bs.length : Int)) : 0 ≤ rd bs i ∧ rd bs i ≤ 18446744073709551615 := by
  have hm : rd bs i ∈ bs := by
    unfold rd
    rw [List.getD_eq_getElem?_getD, List.getElem?_eq_getElem (by omega), Option.getD_some]
    exact List.getElem_mem _
  exact bd_u64 (hw _ hm)

theorem j0_in (bs : List Int) (s b i : Int) (hw : ∀ x ∈ bs, (Lit.int .u64 x).wf = true) (h0 : 0 ≤ i) (h1 : i < (bs.length : Int)) : Ev (fun k => psephoslaw03_ConfigEach.j0 k i 0 true bs s b) true := by
  have hr := rd_u64 hw h0 h1
  have s1 : sumOf bs 0 [i] = rd bs i := by
    simp only [sumOf, List.foldl_cons, List.foldl_nil]
    rw [if_pos ⟨h0, h1⟩, IntWalk.u64_in _ (by omega)]
    omega
  have s2 : sumOf bs 0 [i, i] = IntKind.u64.wrap (2 * rd bs i) := by
    simp only [sumOf, List.foldl_cons, List.foldl_nil]
    rw [if_pos ⟨h0, h1⟩, if_pos ⟨h0, h1⟩, IntWalk.u64_in (0 + rd bs i) (by omega), show 0 + rd bs i + rd bs i = 2 * rd bs i by omega]
  refine Ev.step (f := fun k => (config_Sum.f k bs s b [i]).bind fun t130 => (if t130 = rd bs i then ((config_Sum.f k bs s b [i, i]).bind fun t134 => (some (t134 == (IntKind.u64.wrap (2 * (rd bs i)))))) else (some false))) (fun k => ?_) ?_
  · simp only [psephoslaw03_ConfigEach.j0]
    rw [if_pos trivial, if_pos h0, if_pos h1]
  · refine Ev.bind (sum_f bs [i] s b (by simp)) ?_
    refine Ev.congr (fun k => by rw [if_pos s1]) ?_
    refine Ev.bind (sum_f bs [i, i] s b (by simp)) ?_
    rw [s2]
    simp only [beq_self_eq_true]
    exact Ev.now _
theorem j0_out (bs : List Int) (s b i : Int) (h : ¬ (0 ≤ i ∧ i < (bs.length : Int))) : Ev (fun k => psephoslaw03_ConfigEach.j0 k i 0 false bs s b) true := by
  have s1 : sumOf bs 0 [i] = 0 := by
    simp only [sumOf, List.foldl_cons, List.foldl_nil]
    rw [if_neg h]
  have s2 : sumOf bs 0 [i, i] = 0 := by
    simp only [sumOf, List.foldl_cons, List.foldl_nil]
    rw [if_neg h, if_neg h]
  refine Ev.step (f := fun k => (config_Sum.f k bs s b [i]).bind fun t138 => (if t138 = 0 then ((config_Sum.f k bs s b [i, i]).bind fun t142 => (some (t142 == (IntKind.u64.wrap (2 * 0))))) else (some false))) (fun k => ?_) ?_
  · simp only [psephoslaw03_ConfigEach.j0, Bool.false_eq_true, if_false]
  · refine Ev.bind (sum_f bs [i] s b (by simp)) ?_
    refine Ev.congr (fun k => by rw [if_pos s1]) ?_
    refine Ev.bind (sum_f bs [i, i] s b (by simp)) ?_
    rw [s2]
    exact Ev.now _

theorem law_f (bs : List Int) (s b i : Int) (hw : ∀ x ∈ bs, (Lit.int .u64 x).wf = true) : ∃ k, psephoslaw03_ConfigEach.f k bs s b i = some true := by
  refine Ev.rounds (g := fun k => psephoslaw03_ConfigEach.f k bs s b i) ?_
  unfold psephoslaw03_ConfigEach.f
  refine Ev.bind awake_ev ?_
  by_cases h0 : i ≥ 0
  · by_cases h1 : i < (bs.length : Int)
    · exact Ev.congr (fun k => by rw [if_pos rfl, if_pos h0, decide_eq_true h1]) (j0_in bs s b i hw h0 h1)
    · exact Ev.congr (fun k => by rw [if_pos rfl, if_pos h0, decide_eq_false h1]) (j0_out bs s b i (fun h => h1 h.2))
  · exact Ev.congr (fun k => by rw [if_pos rfl, if_neg h0]) (j0_out bs s b i (fun h => h0 h.1))

theorem configEach_law (A : Option Addr) (n c : Nat) (bs : List Int) (s b i : Int) (w : World) (g : ReadsInt w .u64 A n bs) (hc : n ≤ c) (hw : ∀ x ∈ bs, (Lit.int .u64 x).wf = true) :
    Calls Try.prog 6 #[.agg #[.slice A n c, .int .i64 s, .int .i64 b], .int .i64 i] w fun e w' => e = .returned (.bool true) ∧ Below w.heap.size w w' := by
  obtain ⟨rfl, hm, hr⟩ := g
  obtain ⟨k, h⟩ := law_f bs s b i hw
  exact psephoslaw03_ConfigEach.calls k _ _ bs s b i true w (Kd.C_of_reads (d := (0 : Int)) (h1 := fun _ => rfl) ⟨rfl, hm, hr⟩) hc h
end Go.Proofs.Ytpnmcncmnmcccaa.PConfigEach
