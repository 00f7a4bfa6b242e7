/-
  The law ConfigParts, of arguments of at most 1048576 values together: its printed function answers true, so its call does.
-/
import Derived.Test.YtpnmcncmnmcccaaConfigPureParts
import Derived.Test.YtpnmcncmnmcccaaQPx2
import Derived.Test.YtpnmcncmnmcccaaOwn
namespace Go.Proofs.Ytpnmcncmnmcccaa.QP
open Go.RowKit Go.Proofs.YtpnmcncmnmcccaaW.PrintWords Go.Proofs.Ytpnmcncmnmcccaa.Own
set_option linter.unusedVariables false

theorem awake_ev : Ev (fun k => psephoslaw03_awake.f k) true := Ev.of psephoslaw03_awake.mono (k := 20) (by decide +kernel)

theorem sumOf_add (bs : List Int) (who : List Int) : ∀ a : Int, sumOf bs (IntKind.u64.wrap a) who = IntKind.u64.wrap (a + sumOf bs 0 who) := by
  induction who with
  | nil => intro a; simp [sumOf]
  | cons k r ih =>
    intro a
    simp only [sumOf, List.foldl_cons]
    by_cases h : 0 ≤ k ∧ k < (bs.length : Int)
    · rw [if_pos h, if_pos h]
      have h1 := ih (IntKind.u64.wrap a + rd bs k)
      have h2 := ih (0 + rd bs k)
      unfold sumOf at h1 h2
      rw [h1, h2]
      simp only [IntKind.wrap, IntKind.signed, IntKind.bits]
      generalize List.foldl _ 0 r = z
      simp
      omega
    · rw [if_neg h, if_neg h]
      exact ih a
theorem sumOf_small (bs : List Int) (who : List Int) : IntKind.u64.wrap (sumOf bs 0 who) = sumOf bs 0 who := by
  have h := sumOf_add bs who 0
  have e : IntKind.u64.wrap 0 = 0 := by decide
  rw [e, Int.zero_add] at h
  exact h.symm
theorem sumOf_parts (bs a b : List Int) : sumOf bs 0 (a ++ b) = IntKind.u64.wrap (sumOf bs 0 a + sumOf bs 0 b) := by
  have h : sumOf bs 0 (a ++ b) = sumOf bs (sumOf bs 0 a) b := by unfold sumOf; rw [List.foldl_append]
  rw [h, ← sumOf_small bs a, sumOf_add, sumOf_small bs a]

theorem law_f (bs a b : List Int) (s bo : Int) (ha : a.length ≤ 1048576) (hb2 : b.length ≤ 1048576) : ∃ k, psephoslaw03_ConfigParts.f k bs s bo a b = some true := by
  refine Ev.rounds (g := fun k => psephoslaw03_ConfigParts.f k bs s bo a b) ?_
  unfold psephoslaw03_ConfigParts.f
  refine Ev.bind awake_ev ?_
  refine Ev.congr (f := fun k => (config_Sum.f k bs s bo (a ++ b)).bind fun t132 => ((config_Sum.f k bs s bo a).bind fun t133 => ((config_Sum.f k bs s bo b).bind fun t134 => (some (t132 == (IntKind.u64.wrap (t133 + t134))))))) (fun k => ?_) ?_
  · rw [if_pos rfl, if_pos (by simp; omega)]
    simp only [Option.bind_some, List.nil_append]
    rw [if_pos (by omega)]
  · refine Ev.bind (sum_f bs (a ++ b) s bo (by simp; omega)) ?_
    refine Ev.bind (sum_f bs a s bo (by omega)) ?_
    refine Ev.bind (sum_f bs b s bo (by omega)) ?_
    rw [sumOf_parts, beq_self_eq_true]
    exact Ev.now _

theorem configParts_law (A : Option Addr) (n c : Nat) (bs : List Int) (s bo : Int) (A1 : Option Addr) (n1 c1 : Nat) (a : List Int) (A2 : Option Addr) (n2 c2 : Nat) (b : List Int) (w : World) (g : ReadsInt w .u64 A n bs) (hc : n ≤ c) (hs : n ≤ 1048576) (g1 : ReadsInt w .i64 A1 n1 a) (hc1 : n1 ≤ c1) (hs1 : n1 ≤ 1048576) (g2 : ReadsInt w .i64 A2 n2 b) (hc2 : n2 ≤ c2) (hs2 : n2 ≤ 1048576) :
    Calls Try.prog 5 #[.agg #[.slice A n c, .int .i64 s, .int .i64 bo], .slice A1 n1 c1, .slice A2 n2 c2] w fun e w' => e = .returned (.bool true) ∧ Below w.heap.size w w' := by
  obtain ⟨rfl, hm, hr⟩ := g
  obtain ⟨rfl, hm1, hr1⟩ := g1
  obtain ⟨rfl, hm2, hr2⟩ := g2
  obtain ⟨k, h⟩ := law_f bs a b s bo hs1 hs2
  exact psephoslaw03_ConfigParts.calls k _ _ bs s bo _ _ a _ _ b true w (Kd.C_of_reads (d := (0 : Int)) (h1 := fun _ => rfl) ⟨rfl, hm, hr⟩) hc (Kd.C_of_reads (d := (0 : Int)) (h1 := fun _ => rfl) ⟨rfl, hm1, hr1⟩) hc1 (Kd.C_of_reads (d := (0 : Int)) (h1 := fun _ => rfl) ⟨rfl, hm2, hr2⟩) hc2 h rfl
end Go.Proofs.Ytpnmcncmnmcccaa.QP
