/-
  justify.Next at any state, told with its fields as letters; and the document's examples. No condition.
-/
import Derived.Test.YtlofdhhpfhmkhaaJustifyA
import Derived.Test.YtlofdhhpfhmkhaaJustifyB
import Derived.Test.YtlofdhhpfhmkhaaJustifyC
import Derived.Test.YtlofdhhpfhmkhaaJustifyD
namespace Go.Proofs.Ytlofdhhpfhmkhaa.Justify
open Go.RowKit Go.Proofs.YtlofdhhpfhmkhaaW.PrintWords Go.Proofs.Ytlofdhhpfhmkhaa.Own

theorem next_calls (s : St) (e : Int) (before now : Bool) (p q p' q' : Int) (w : World) :
    Calls Try.prog 10 #[.agg s.cells, .int .i64 e, .bool before, .bool now, .agg #[.int .i64 p, .int .u64 q], .agg #[.int .i64 p', .int .u64 q']] w fun x w' =>
      x = .returned (.agg (next s e before now p q p' q').cells) ∧ Below w.heap.size w w' := by
  obtain ⟨s0, s1, s2, s3, pe, pr, ce, cr, fe, fr⟩ := s
  cases before <;> cases now
  · exact next_ff s0 s1 s2 s3 pe pr ce cr fe fr e p q p' q' w
  · exact next_ft s0 s1 s2 s3 pe pr ce cr fe fr e p q p' q' w
  · exact next_tf s0 s1 s2 s3 pe pr ce cr fe fr e p q p' q' w
  · exact next_tt s0 s1 s2 s3 pe pr ce cr fe fr e p q p' q' w

/-- The same with all fields told. -/
theorem next_at (s0 s1 s2 s3 : Bool) (spe spr sce scr sfe sfr e : Int) (before now : Bool) (p q p' q' : Int) (m0 m1 m2 m3 : Bool) (mpe mpr mce mcr mfe mfr : Int) (h : next ⟨s0, s1, s2, s3, spe, spr, sce, scr, sfe, sfr⟩ e before now p q p' q' = ⟨m0, m1, m2, m3, mpe, mpr, mce, mcr, mfe, mfr⟩) (w : World) :
    Calls Try.prog 10 #[.agg #[.bool s0, .bool s1, .bool s2, .bool s3, .int .i64 spe, .int .u64 spr, .int .i64 sce, .int .u64 scr, .int .i64 sfe, .int .u64 sfr], .int .i64 e, .bool before, .bool now, .agg #[.int .i64 p, .int .u64 q], .agg #[.int .i64 p', .int .u64 q']] w fun x w' =>
      x = .returned (.agg #[.bool m0, .bool m1, .bool m2, .bool m3, .int .i64 mpe, .int .u64 mpr, .int .i64 mce, .int .u64 mcr, .int .i64 mfe, .int .u64 mfr]) ∧ Below w.heap.size w w' := by
  have := next_calls ⟨s0, s1, s2, s3, spe, spr, sce, scr, sfe, sfr⟩ e before now p q p' q' w
  rw [h] at this
  exact this
/-- The same with the answer's fields as letters. -/
theorem next_some (s0 s1 s2 s3 : Bool) (spe spr sce scr sfe sfr e : Int) (before now : Bool) (p q p' q' : Int) (w : World) :
    Calls Try.prog 10 #[.agg #[.bool s0, .bool s1, .bool s2, .bool s3, .int .i64 spe, .int .u64 spr, .int .i64 sce, .int .u64 scr, .int .i64 sfe, .int .u64 sfr], .int .i64 e, .bool before, .bool now, .agg #[.int .i64 p, .int .u64 q], .agg #[.int .i64 p', .int .u64 q']] w fun x w' =>
      ∃ (m0 m1 m2 m3 : Bool) (mpe mpr mce mcr mfe mfr : Int), x = .returned (.agg #[.bool m0, .bool m1, .bool m2, .bool m3, .int .i64 mpe, .int .u64 mpr, .int .i64 mce, .int .u64 mcr, .int .i64 mfe, .int .u64 mfr]) ∧ next ⟨s0, s1, s2, s3, spe, spr, sce, scr, sfe, sfr⟩ e before now p q p' q' = ⟨m0, m1, m2, m3, mpe, mpr, mce, mcr, mfe, mfr⟩ ∧ Below w.heap.size w w' := by
  cases hm : next ⟨s0, s1, s2, s3, spe, spr, sce, scr, sfe, sfr⟩ e before now p q p' q' with
  | mk m0 m1 m2 m3 mpe mpr mce mcr mfe mfr =>
    exact (next_at _ _ _ _ _ _ _ _ _ _ _ _ _ _ _ _ _ _ _ _ _ _ _ _ _ _ _ hm w).mono fun x w' ⟨h1, h2⟩ => ⟨_, _, _, _, _, _, _, _, _, _, h1, rfl, h2⟩

theorem awake_calls (w : World) : Calls Try.prog 9 #[] w fun e w' => e = .returned (.bool true) ∧ Below w.heap.size w w' := by
  have e : next ⟨true, false, false, false, 0, 0, 4, 9, 0, 0⟩ 5 false true 0 0 5 8 = ⟨true, true, false, false, 4, 9, 5, 8, 4, 9⟩ := by
    have w5 : wrap64 5 = 5 := IntWalk.wrap64_in 5 (by omega)
    simp [next, w5]
  have H := Aside0.mk (next_at _ _ _ _ _ _ _ _ _ _ _ _ _ _ _ _ _ _ _ _ _ _ _ _ _ _ _ e)
  clear e
  go_enter Try.func9, Try.ntmps9
  go_wp2_with (go_at_call 10; refine (H.out _).mono ?_; rintro x w1 ⟨rfl, hb⟩; have HB := Aside0.mk (below_then (below_alloc (Below.refl w.heap.size w) _) (by simp) hb); obtain ⟨hc, hf⟩ := bcell hb; clear hb)
  go_ret
  exact ⟨rfl, by repeat (first | exact HB.out | apply below_alloc | apply below_drew)⟩
end Go.Proofs.Ytlofdhhpfhmkhaa.Justify
