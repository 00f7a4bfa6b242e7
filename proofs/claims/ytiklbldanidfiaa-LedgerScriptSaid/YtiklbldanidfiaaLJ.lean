/-
  justify.Next at any state, told with its fields as letters; and the document's examples. No condition.
-/
import Derived.Test.YtiklbldanidfiaaOwn
import Derived.Test.YtiklbldanidfiaaProg
import Derived.RegionTactic
import Derived.ChangeAlike
import Derived.BigRegion
import Derived.BigGuardPart
namespace Go.Proofs.Ytiklbldanidfiaa.Justify
open Go.RowKit Go.Proofs.YtiklbldanidfiaaW.PrintWords Go.Proofs.Ytiklbldanidfiaa.Own

/-- A state of package justify. -/
structure St where
  b0 : Bool
  b1 : Bool
  b2 : Bool
  b3 : Bool
  pe : Int
  pr : Int
  ce : Int
  cr : Int
  fe : Int
  fr : Int
deriving DecidableEq
/-- Its cells. -/
def St.cells (s : St) : Array Value := #[.bool s.b0, .bool s.b1, .bool s.b2, .bool s.b3, .int .i64 s.pe, .int .u64 s.pr, .int .i64 s.ce, .int .u64 s.cr, .int .i64 s.fe, .int .u64 s.fr]
/-- What is justified and final at an epoch's end. -/
def next (s : St) (e : Int) (before now : Bool) (fe fr se sr : Int) : St :=
  let b0 := now
  let b1 := s.b0 || before
  let b2 := s.b1
  let b3 := s.b2
  let c : Int × Int := if now then (se, sr) else if before then (fe, fr) else (s.ce, s.cr)
  let f : Int × Int :=
    if b0 && b1 && (wrap64 (s.ce + 1) == e) then (s.ce, s.cr)
    else if b0 && b1 && b2 && (wrap64 (s.ce + 2) == e) then (s.ce, s.cr)
    else if b1 && b2 && (wrap64 (s.pe + 2) == e) then (s.pe, s.pr)
    else if b1 && b2 && b3 && (wrap64 (s.pe + 3) == e) then (s.pe, s.pr)
    else (s.fe, s.fr)
  ⟨b0, b1, b2, b3, s.ce, s.cr, c.1, c.2, f.1, f.2⟩

end Go.Proofs.Ytiklbldanidfiaa.Justify
namespace Go.Proofs.Ytiklbldanidfiaa.Justify
open Go.RowKit Go.Proofs.YtiklbldanidfiaaW.PrintWords Go.Proofs.Ytiklbldanidfiaa.Own

set_option maxHeartbeats 8000000 in
set_option maxRecDepth 100000 in
theorem next_ff (s0 s1 s2 s3 : Bool) (pe pr ce cr fe fr e p q p' q' : Int) (w : World) :
    Calls Try.prog 30 #[.agg #[.bool s0, .bool s1, .bool s2, .bool s3, .int .i64 pe, .int .u64 pr, .int .i64 ce, .int .u64 cr, .int .i64 fe, .int .u64 fr], .int .i64 e, .bool false, .bool false, .agg #[.int .i64 p, .int .u64 q], .agg #[.int .i64 p', .int .u64 q']] w fun x w' =>
      x = .returned (.agg (next ⟨s0, s1, s2, s3, pe, pr, ce, cr, fe, fr⟩ e false false p q p' q').cells) ∧ Below w.heap.size w w' := by
  go_enter Try.func30, Try.ntmps30
  go_wp2
  go_region
  all_goals go_wp2
  all_goals
    refine bodyPost_ret (v := .agg (next ⟨s0, s1, s2, s3, pe, pr, ce, cr, fe, fr⟩ e false false p q p' q').cells) ?_ rfl ⟨rfl, ?_⟩
    · simp [results, Try.results30, go_sem, next, St.cells, *]
    · repeat (first | exact Below.refl _ _ | apply below_alloc | apply below_drew)
end Go.Proofs.Ytiklbldanidfiaa.Justify
namespace Go.Proofs.Ytiklbldanidfiaa.Justify
open Go.RowKit Go.Proofs.YtiklbldanidfiaaW.PrintWords Go.Proofs.Ytiklbldanidfiaa.Own

set_option maxHeartbeats 8000000 in
set_option maxRecDepth 100000 in
theorem next_tf (s0 s1 s2 s3 : Bool) (pe pr ce cr fe fr e p q p' q' : Int) (w : World) :
    Calls Try.prog 30 #[.agg #[.bool s0, .bool s1, .bool s2, .bool s3, .int .i64 pe, .int .u64 pr, .int .i64 ce, .int .u64 cr, .int .i64 fe, .int .u64 fr], .int .i64 e, .bool true, .bool false, .agg #[.int .i64 p, .int .u64 q], .agg #[.int .i64 p', .int .u64 q']] w fun x w' =>
      x = .returned (.agg (next ⟨s0, s1, s2, s3, pe, pr, ce, cr, fe, fr⟩ e true false p q p' q').cells) ∧ Below w.heap.size w w' := by
  go_enter Try.func30, Try.ntmps30
  go_wp2
  go_region
  all_goals go_wp2
  all_goals
    refine bodyPost_ret (v := .agg (next ⟨s0, s1, s2, s3, pe, pr, ce, cr, fe, fr⟩ e true false p q p' q').cells) ?_ rfl ⟨rfl, ?_⟩
    · simp [results, Try.results30, go_sem, next, St.cells, *]
    · repeat (first | exact Below.refl _ _ | apply below_alloc | apply below_drew)
end Go.Proofs.Ytiklbldanidfiaa.Justify
namespace Go.Proofs.Ytiklbldanidfiaa.Justify
open Go.RowKit Go.Proofs.YtiklbldanidfiaaW.PrintWords Go.Proofs.Ytiklbldanidfiaa.Own

set_option maxHeartbeats 8000000 in
set_option maxRecDepth 100000 in
theorem next_ft (s0 s1 s2 s3 : Bool) (pe pr ce cr fe fr e p q p' q' : Int) (w : World) :
    Calls Try.prog 30 #[.agg #[.bool s0, .bool s1, .bool s2, .bool s3, .int .i64 pe, .int .u64 pr, .int .i64 ce, .int .u64 cr, .int .i64 fe, .int .u64 fr], .int .i64 e, .bool false, .bool true, .agg #[.int .i64 p, .int .u64 q], .agg #[.int .i64 p', .int .u64 q']] w fun x w' =>
      x = .returned (.agg (next ⟨s0, s1, s2, s3, pe, pr, ce, cr, fe, fr⟩ e false true p q p' q').cells) ∧ Below w.heap.size w w' := by
  go_enter Try.func30, Try.ntmps30
  go_wp2
  go_region
  all_goals go_wp2
  all_goals
    refine bodyPost_ret (v := .agg (next ⟨s0, s1, s2, s3, pe, pr, ce, cr, fe, fr⟩ e false true p q p' q').cells) ?_ rfl ⟨rfl, ?_⟩
    · simp [results, Try.results30, go_sem, next, St.cells, *]
    · repeat (first | exact Below.refl _ _ | apply below_alloc | apply below_drew)
end Go.Proofs.Ytiklbldanidfiaa.Justify
namespace Go.Proofs.Ytiklbldanidfiaa.Justify
open Go.RowKit Go.Proofs.YtiklbldanidfiaaW.PrintWords Go.Proofs.Ytiklbldanidfiaa.Own

set_option maxHeartbeats 8000000 in
set_option maxRecDepth 100000 in
theorem next_tt (s0 s1 s2 s3 : Bool) (pe pr ce cr fe fr e p q p' q' : Int) (w : World) :
    Calls Try.prog 30 #[.agg #[.bool s0, .bool s1, .bool s2, .bool s3, .int .i64 pe, .int .u64 pr, .int .i64 ce, .int .u64 cr, .int .i64 fe, .int .u64 fr], .int .i64 e, .bool true, .bool true, .agg #[.int .i64 p, .int .u64 q], .agg #[.int .i64 p', .int .u64 q']] w fun x w' =>
      x = .returned (.agg (next ⟨s0, s1, s2, s3, pe, pr, ce, cr, fe, fr⟩ e true true p q p' q').cells) ∧ Below w.heap.size w w' := by
  go_enter Try.func30, Try.ntmps30
  go_wp2
  go_region
  all_goals go_wp2
  all_goals
    refine bodyPost_ret (v := .agg (next ⟨s0, s1, s2, s3, pe, pr, ce, cr, fe, fr⟩ e true true p q p' q').cells) ?_ rfl ⟨rfl, ?_⟩
    · simp [results, Try.results30, go_sem, next, St.cells, *]
    · repeat (first | exact Below.refl _ _ | apply below_alloc | apply below_drew)
end Go.Proofs.Ytiklbldanidfiaa.Justify
namespace Go.Proofs.Ytiklbldanidfiaa.Justify
open Go.RowKit Go.Proofs.YtiklbldanidfiaaW.PrintWords Go.Proofs.Ytiklbldanidfiaa.Own

theorem next_calls (s : St) (e : Int) (before now : Bool) (p q p' q' : Int) (w : World) :
    Calls Try.prog 30 #[.agg s.cells, .int .i64 e, .bool before, .bool now, .agg #[.int .i64 p, .int .u64 q], .agg #[.int .i64 p', .int .u64 q']] w fun x w' =>
      x = .returned (.agg (next s e before now p q p' q').cells) ∧ Below w.heap.size w w' := by
  obtain ⟨s0, s1, s2, s3, pe, pr, ce, cr, fe, fr⟩ := s
  cases before <;> cases now
  · exact next_ff s0 s1 s2 s3 pe pr ce cr fe fr e p q p' q' w
  · exact next_ft s0 s1 s2 s3 pe pr ce cr fe fr e p q p' q' w
  · exact next_tf s0 s1 s2 s3 pe pr ce cr fe fr e p q p' q' w
  · exact next_tt s0 s1 s2 s3 pe pr ce cr fe fr e p q p' q' w

/-- The same with all fields told. -/
theorem next_at (s0 s1 s2 s3 : Bool) (spe spr sce scr sfe sfr e : Int) (before now : Bool) (p q p' q' : Int) (m0 m1 m2 m3 : Bool) (mpe mpr mce mcr mfe mfr : Int) (h : next ⟨s0, s1, s2, s3, spe, spr, sce, scr, sfe, sfr⟩ e before now p q p' q' = ⟨m0, m1, m2, m3, mpe, mpr, mce, mcr, mfe, mfr⟩) (w : World) :
    Calls Try.prog 30 #[.agg #[.bool s0, .bool s1, .bool s2, .bool s3, .int .i64 spe, .int .u64 spr, .int .i64 sce, .int .u64 scr, .int .i64 sfe, .int .u64 sfr], .int .i64 e, .bool before, .bool now, .agg #[.int .i64 p, .int .u64 q], .agg #[.int .i64 p', .int .u64 q']] w fun x w' =>
      x = .returned (.agg #[.bool m0, .bool m1, .bool m2, .bool m3, .int .i64 mpe, .int .u64 mpr, .int .i64 mce, .int .u64 mcr, .int .i64 mfe, .int .u64 mfr]) ∧ Below w.heap.size w w' := by
  have := next_calls ⟨s0, s1, s2, s3, spe, spr, sce, scr, sfe, sfr⟩ e before now p q p' q' w
  rw [h] at this
  exact this
/-- The same with the answer's fields as letters. -/
theorem next_some (s0 s1 s2 s3 : Bool) (spe spr sce scr sfe sfr e : Int) (before now : Bool) (p q p' q' : Int) (w : World) :
    Calls Try.prog 30 #[.agg #[.bool s0, .bool s1, .bool s2, .bool s3, .int .i64 spe, .int .u64 spr, .int .i64 sce, .int .u64 scr, .int .i64 sfe, .int .u64 sfr], .int .i64 e, .bool before, .bool now, .agg #[.int .i64 p, .int .u64 q], .agg #[.int .i64 p', .int .u64 q']] w fun x w' =>
      ∃ (m0 m1 m2 m3 : Bool) (mpe mpr mce mcr mfe mfr : Int), x = .returned (.agg #[.bool m0, .bool m1, .bool m2, .bool m3, .int .i64 mpe, .int .u64 mpr, .int .i64 mce, .int .u64 mcr, .int .i64 mfe, .int .u64 mfr]) ∧ next ⟨s0, s1, s2, s3, spe, spr, sce, scr, sfe, sfr⟩ e before now p q p' q' = ⟨m0, m1, m2, m3, mpe, mpr, mce, mcr, mfe, mfr⟩ ∧ Below w.heap.size w w' := by
  cases hm : next ⟨s0, s1, s2, s3, spe, spr, sce, scr, sfe, sfr⟩ e before now p q p' q' with
  | mk m0 m1 m2 m3 mpe mpr mce mcr mfe mfr =>
    exact (next_at _ _ _ _ _ _ _ _ _ _ _ _ _ _ _ _ _ _ _ _ _ _ _ _ _ _ _ hm w).mono fun x w' ⟨h1, h2⟩ => ⟨_, _, _, _, _, _, _, _, _, _, h1, rfl, h2⟩

end Go.Proofs.Ytiklbldanidfiaa.Justify
