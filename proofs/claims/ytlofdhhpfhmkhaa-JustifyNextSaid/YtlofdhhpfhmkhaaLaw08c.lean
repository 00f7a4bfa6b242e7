/-
  The walk of the law JustifyNext of package psephoslaw08: the law's call answers true, and writes nothing that was there; no condition but that epochs are of 64 bits.
-/
import Derived.Test.YtlofdhhpfhmkhaaJustifyE
import Derived.Test.YtlofdhhpfhmkhaaEqBools
import Derived.Test.YtlofdhhpfhmkhaaBlock
namespace Go.Proofs.Ytlofdhhpfhmkhaa.Law08
open Go.RowKit Go.Proofs.YtlofdhhpfhmkhaaW.PrintWords Go.Proofs.Ytlofdhhpfhmkhaa.Own Go.Proofs.Ytlofdhhpfhmkhaa.Justify

/-- What is final, with the tests as the law spells them. -/
def fin (b0 b1 b2 b3 : Bool) (pe pr ce cr fe fr e : Int) : Int × Int :=
  if b0 = true ∧ b1 = true ∧ ce = wrap64 (e - 1) then (ce, cr)
  else if b0 = true ∧ b1 = true ∧ b2 = true ∧ ce = wrap64 (e - 2) then (ce, cr)
  else if b1 = true ∧ b2 = true ∧ pe = wrap64 (e - 2) then (pe, pr)
  else if b1 = true ∧ b2 = true ∧ b3 = true ∧ pe = wrap64 (e - 3) then (pe, pr)
  else (fe, fr)

theorem below_le {B B' : Nat} {w w' : World} (k : Below B' w w') (h : B ≤ B') : Below B w w' := ⟨k.os, k.tape, k.output, k.size, fun i hi => k.block i (Nat.lt_of_lt_of_le hi h)⟩

theorem wrap_back {a e : Int} (k : Int) (ha : -9223372036854775808 ≤ a ∧ a ≤ 9223372036854775807) (he : -9223372036854775808 ≤ e ∧ e ≤ 9223372036854775807) : (wrap64 (a + k) == e) = decide (a = wrap64 (e - k)) := by
  rw [Bool.eq_iff_iff]
  simp only [beq_iff_eq, decide_eq_true_eq]
  unfold wrap64
  omega

theorem next_is {s0 s1 s2 s3 : Bool} {pe pr ce cr fe fr e p q p' q' : Int} {before now : Bool} {m0 m1 m2 m3 : Bool} {mpe mpr mce mcr mfe mfr : Int}
    (he : -9223372036854775808 ≤ e ∧ e ≤ 9223372036854775807) (hc : -9223372036854775808 ≤ ce ∧ ce ≤ 9223372036854775807) (hp : -9223372036854775808 ≤ pe ∧ pe ≤ 9223372036854775807)
    (h : next ⟨s0, s1, s2, s3, pe, pr, ce, cr, fe, fr⟩ e before now p q p' q' = ⟨m0, m1, m2, m3, mpe, mpr, mce, mcr, mfe, mfr⟩) :
    m0 = now ∧ m1 = (s0 || before) ∧ m2 = s1 ∧ m3 = s2 ∧ mpe = ce ∧ mpr = cr ∧ (mce, mcr) = (if now = true then (p', q') else if before = true then (p, q) else (ce, cr)) ∧ (mfe, mfr) = fin now (s0 || before) s1 s2 pe pr ce cr fe fr e := by
  simp only [next, St.mk.injEq] at h
  obtain ⟨rfl, rfl, rfl, rfl, rfl, rfl, h1, h2, h3, h4⟩ := h
  refine ⟨rfl, rfl, rfl, rfl, rfl, rfl, ?_, ?_⟩
  · rw [← h1, ← h2]
  · rw [← h3, ← h4]
    simp only [wrap_back 1 hc he, wrap_back 2 hc he, wrap_back 2 hp he, wrap_back 3 hp he, fin, Bool.and_eq_true, decide_eq_true_eq, and_assoc]

theorem fin_is {b0 b1 b2 b3 : Bool} {pe pr ce cr fe fr e : Int} {t1 t2 t3 t4 : Bool} {x1 y1 x2 y2 x3 y3 x4 y4 : Int}
    (T1 : t1 = (b1 && b2 && b3 && decide (pe = wrap64 (e - 3)))) (T2 : t2 = (b1 && b2 && decide (pe = wrap64 (e - 2)))) (T3 : t3 = (b0 && b1 && b2 && decide (ce = wrap64 (e - 2)))) (T4 : t4 = (b0 && b1 && decide (ce = wrap64 (e - 1))))
    (h1 : (x1, y1) = if t1 = true then (pe, pr) else (fe, fr)) (h2 : (x2, y2) = if t2 = true then (pe, pr) else (x1, y1)) (h3 : (x3, y3) = if t3 = true then (ce, cr) else (x2, y2)) (h4 : (x4, y4) = if t4 = true then (ce, cr) else (x3, y3)) :
    (x4, y4) = fin b0 b1 b2 b3 pe pr ce cr fe fr e := by
  rw [h4, h3, h2, h1, T1, T2, T3, T4]
  unfold fin
  cases b0 <;> cases b1 <;> cases b2 <;> cases b3 <;> simp
end Go.Proofs.Ytlofdhhpfhmkhaa.Law08
