/- Two votes of unlike epochs may not both be just if one's span lies within the other's: the printed law answers true. -/
import Derived.Test.YtolkagkfedpjmaaPSlashSpansx3
namespace Go.Proofs.Ytolkagkfedpjmaa.Pure
open Go.RowKit Go.Proofs.Ytolkagkfedpjmaa.PSlashSpans Go.Proofs.YtolkagkfedpjmaaW.PrintWords Go.Proofs.YtolkagkfedpjmaaW.PrintLast

theorem spans_awake : psephoslaw06_awake.f = some true := by decide

theorem small8 {a : Int} (h : (Lit.int .u8 a).wf = true) : Int.tmod a 8 = a % 8 ∧ 0 ≤ a % 8 ∧ a % 8 < 8 := by
  have h : 0 ≤ a ∧ a ≤ 255 := by simpa [Lit.wf, IntKind.min, IntKind.max, IntKind.signed, IntKind.bits] using h
  exact ⟨Int.tmod_eq_emod_of_nonneg h.1, by omega⟩

theorem spans_bad (x y u v : Int) (l l' : List Int) : slash_Bad.f 0 0 x 0 y 0 l 0 0 u 0 v 0 l' = some ((decide (y = v) && !decide (x = u)) || (decide (x < u) && decide (v < y)) || (decide (u < x) && decide (y < v))) := by
  unfold slash_Bad.f slash_Double.f slash_Around.f vote_Same.f
  by_cases h1 : y = v <;> by_cases h2 : x = u <;> by_cases h3 : x < u <;> by_cases h4 : u < x <;> by_cases h5 : v < y <;> by_cases h6 : y < v <;> simp [h1, h2, h3, h4, h5, h6]
theorem spans_double (x y u v : Int) (h : ¬ y = v) (l l' : List Int) : slash_Double.f 0 0 x 0 y 0 l 0 0 u 0 v 0 l' = some false := by
  unfold slash_Double.f
  rw [if_neg h]

theorem SlashSpans : psephoslaw06_SlashSpans.Pure := by
  intro a0 a1 a2 a3 h0 h1 h2 h3
  obtain ⟨t0, k0⟩ := small8 h0
  obtain ⟨t1, k1⟩ := small8 h1
  obtain ⟨t2, k2⟩ := small8 h2
  obtain ⟨t3, k3⟩ := small8 h3
  clear h0 h1 h2 h3
  unfold psephoslaw06_SlashSpans.f
  rw [t0, t1, t2, t3, spans_awake]
  clear t0 t1 t2 t3
  have w0 : wrap64 (a0 % 8) = a0 % 8 := by unfold wrap64; omega
  have w1 : wrap64 (a1 % 8) = a1 % 8 := by unfold wrap64; omega
  have w2 : wrap64 (a2 % 8) = a2 % 8 := by unfold wrap64; omega
  have w3 : wrap64 (a3 % 8) = a3 % 8 := by unfold wrap64; omega
  rw [w0, w1, w2, w3]
  generalize a0 % 8 = x at *
  generalize a1 % 8 = b at *
  generalize a2 % 8 = u at *
  generalize a3 % 8 = d at *
  have w4 : wrap64 (x + 1) = x + 1 := by unfold wrap64; omega
  have w5 : wrap64 (u + 1) = u + 1 := by unfold wrap64; omega
  have w6 : wrap64 (x + 1 + b) = x + 1 + b := by unfold wrap64; omega
  have w7 : wrap64 (u + 1 + d) = u + 1 + d := by unfold wrap64; omega
  rw [w4, w5, w6, w7]
  obtain ⟨y, hy⟩ : ∃ y, x + 1 + b = y := ⟨_, rfl⟩
  obtain ⟨v, hv⟩ : ∃ v, u + 1 + d = v := ⟨_, rfl⟩
  rw [hy, hv]
  clear w0 w1 w2 w3 w4 w5 w6 w7
  simp only [Option.bind_some, if_true, spans_bad]
  by_cases e : y = v
  · rw [if_pos e]
    subst e
    have n1 : ¬ y < y := by omega
    simp [n1]
    by_cases q : x = u <;> simp [q]
  · rw [if_neg e]
    simp only [spans_double _ _ _ _ e, Option.bind_some, Bool.not_false, e, decide_false, Bool.false_and, Bool.false_or]
    by_cases c1 : x < u <;> by_cases c2 : v < y <;> by_cases c3 : u < x <;> by_cases c4 : y < v <;> simp [c1, c2, c3, c4] <;> omega

end Go.Proofs.Ytolkagkfedpjmaa.Pure
