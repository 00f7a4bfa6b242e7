/-
  What struct arguments read as, told by their cells: checkpoints, states of package justify, configurations, votes; each where the program has it. No condition.
-/
import Derived.Test.YtolkagkfedpjmaaDoorProg
import Derived.Test.YtolkagkfedpjmaaDoorOpen
namespace Go.Proofs.YtolkagkfedpjmaaDoor.Open
open Go.ChangeShapes Go.WideShapes Go.ChangeAt Go.RowKit Go.Deep Go.Proofs.YtolkagkfedpjmaaDoorW.PrintWords Go.Proofs.YtolkagkfedpjmaaDoor.Own
set_option maxRecDepth 100000

theorem list2 {α : Type} {l : List α} (h : l.length = 2) : ∃ a b, l = [a, b] := by
  match l, h with
  | [a, b], _ => exact ⟨a, b, rfl⟩
theorem list3 {α : Type} {l : List α} (h : l.length = 3) : ∃ a b c, l = [a, b, c] := by
  match l, h with
  | [a, b, c], _ => exact ⟨a, b, c, rfl⟩
theorem list7 {α : Type} {l : List α} (h : l.length = 7) : ∃ a b c d e f g, l = [a, b, c, d, e, f, g] := by
  match l, h with
  | [a, b, c, d, e, f, g], _ => exact ⟨a, b, c, d, e, f, g, rfl⟩
theorem list10 {α : Type} {l : List α} (h : l.length = 10) : ∃ a b c d e f g i j k, l = [a, b, c, d, e, f, g, i, j, k] := by
  match l, h with
  | [a, b, c, d, e, f, g, i, j, k], _ => exact ⟨a, b, c, d, e, f, g, i, j, k, rfl⟩

theorem cells_int : Tryd.prog.cellsOf 3 = 1 := by kernel_rfl
theorem cells_u64 : Tryd.prog.cellsOf 25 = 1 := by kernel_rfl
theorem cells_point : Tryd.prog.cellsOf 27 = 2 := by kernel_rfl
section
variable {H : Type} {enc : TypeId × Value → H} {w : World} {base : Nat} {held : Bool}
theorem rd_point {fuel : Nat} {cs : List Value} {x : DataW H × List MemPlace} (hf : DataW.trod enc Tryd.prog w base (fun _ => true) held fuel 27 cs = some x) (hwt : ∀ m ∈ x.1.weights Tryd.prog 27, m ≤ reachBytes) :
    ∃ e r, cs = [.int .i64 e, .int .u64 r] ∧ (Lit.int .i64 e).wf = true ∧ (Lit.int .u64 r).wf = true := by
  obtain ⟨hl, n, hx⟩ := rd_struct Tryd.underlying27 hf hwt
  rw [cells_point] at hl
  obtain ⟨c0, c1, rfl⟩ := list2 hl
  obtain ⟨y0, h0, _, _⟩ := hx 0 _ rfl
  obtain ⟨y1, h1, _, _⟩ := hx 1 _ rfl
  simp only [List.getElem_toArray, List.getElem_cons_zero, List.getElem_cons_succ, cells_int, cells_u64, List.drop_zero, List.drop_succ_cons, List.take_succ_cons, List.take_zero] at h0 h1
  obtain ⟨e, h0, _, w0⟩ := DataW.trod_int Tryd.underlying3 h0
  obtain ⟨r, h1, _, w1⟩ := DataW.trod_int Tryd.underlying25 h1
  injection h0 with h0
  injection h1 with h1
  exact ⟨e, r, by rw [h0, h1], w0, w1⟩
/-- A checkpoint by value. -/
structure PointArg (e r : Int) : Prop where
  we : (Lit.int .i64 e).wf = true
  wr : (Lit.int .u64 r).wf = true
theorem open_point {rr : Reach} {b0 : Nat} {v : Value} {d : DataW H} {ps : List MemPlace} (hv : Value.okWide Tryd.prog w rr b0 27 v) (h : DataW.Trod enc Tryd.prog w base (fun _ => true) held 27 v d ps) (hwt : ∀ m ∈ d.weights Tryd.prog 27, m ≤ reachBytes) :
    ∃ e r, v = .agg #[.int .i64 e, .int .u64 r] ∧ PointArg e r := by
  obtain ⟨cs, rfl, _⟩ := okWide_struct Tryd.underlying27 hv
  obtain ⟨fuel, hf⟩ := h
  obtain ⟨e, r, hcs, w1, w2⟩ := rd_point (x := (d, ps)) hf hwt
  exact ⟨e, r, by simp only [Value.cells] at hcs; rw [show cs = #[.int .i64 e, .int .u64 r] from Array.ext' hcs], w1, w2⟩
theorem cells_config : Tryd.prog.cellsOf 24 = 3 := by kernel_rfl
theorem cells_u64s : Tryd.prog.cellsOf 22 = 1 := by kernel_rfl
/-- A configuration by value. -/
structure ConfigArg (w : World) (A : Option Addr) (n c : Nat) (zs : List Int) (sl bo : Int) : Prop where
  row : IntsArg w .u64 8 A n c zs
  ws : (Lit.int .i64 sl).wf = true
  wb : (Lit.int .i64 bo).wf = true
theorem open_config {rr : Reach} {b0 : Nat} {v : Value} {d : DataW H} {ps : List MemPlace} (hv : Value.okWide Tryd.prog w rr b0 24 v) (h : DataW.Trod enc Tryd.prog w base (fun _ => true) held 24 v d ps) (hwt : ∀ m ∈ d.weights Tryd.prog 24, m ≤ reachBytes) :
    ∃ A n c zs sl bo, v = .agg #[.slice A n c, .int .i64 sl, .int .i64 bo] ∧ ConfigArg w A n c zs sl bo ∧ n + 1 ≤ Rows.uptoBulk d := by
  obtain ⟨cs, rfl, _⟩ := okWide_struct Tryd.underlying24 hv
  obtain ⟨fuel, hf⟩ := h
  obtain ⟨hl, m, hx⟩ := rd_struct (x := (d, ps)) Tryd.underlying24 hf hwt
  rw [cells_config] at hl
  obtain ⟨c0, c1, c2, hcs⟩ := list3 hl
  rw [hcs] at hx
  obtain ⟨y0, h0, g0, u0⟩ := hx 0 _ rfl
  obtain ⟨y1, h1, _, _⟩ := hx 1 _ rfl
  obtain ⟨y2, h2, _, _⟩ := hx 2 _ rfl
  simp only [List.getElem_toArray, List.getElem_cons_zero] at g0
  simp only [List.getElem_toArray, List.getElem_cons_zero, List.getElem_cons_succ, cells_u64s, cells_int, List.drop_zero, List.drop_succ_cons, List.take_succ_cons, List.take_zero] at h0 h1 h2
  obtain ⟨A, n, c, zs, k0, ga, gu⟩ := rd_ints (k := .u64) (B := 8) Tryd.underlying22 Tryd.underlying25 (by kernel_rfl) (by kernel_rfl) h0 g0
  obtain ⟨sl, k1, _, w1⟩ := DataW.trod_int Tryd.underlying3 h1
  obtain ⟨bo, k2, _, w2⟩ := DataW.trod_int Tryd.underlying3 h2
  injection k0 with k0
  injection k1 with k1
  injection k2 with k2
  refine ⟨A, n, c, zs, sl, bo, ?_, ⟨ga, w1, w2⟩, by have := u0; simp only at this; omega⟩
  simp only [Value.cells] at hcs
  congr 1
  apply Array.ext'
  rw [hcs, k0, k1, k2]
theorem cells_vote : Tryd.prog.cellsOf 30 = 7 := by kernel_rfl
theorem cells_ints : Tryd.prog.cellsOf 28 = 1 := by kernel_rfl
/-- A vote by value. -/
structure VoteArg (w : World) (sl hd se sr te tr : Int) (A : Option Addr) (n c : Nat) (zs : List Int) : Prop where
  ws : (Lit.int .i64 sl).wf = true
  wh : (Lit.int .u64 hd).wf = true
  s : (Lit.int .i64 se).wf = true ∧ (Lit.int .u64 sr).wf = true
  t : (Lit.int .i64 te).wf = true ∧ (Lit.int .u64 tr).wf = true
  row : IntsArg w .i64 8 A n c zs
theorem open_vote {rr : Reach} {b0 : Nat} {v : Value} {d : DataW H} {ps : List MemPlace} (hv : Value.okWide Tryd.prog w rr b0 30 v) (h : DataW.Trod enc Tryd.prog w base (fun _ => true) held 30 v d ps) (hwt : ∀ m ∈ d.weights Tryd.prog 30, m ≤ reachBytes) :
    ∃ (sl hd se sr te tr : Int) (A : Option Addr) (n c : Nat) (zs : List Int), v = .agg #[.int .i64 sl, .int .u64 hd, .int .i64 se, .int .u64 sr, .int .i64 te, .int .u64 tr, .slice A n c] ∧ VoteArg w sl hd se sr te tr A n c zs ∧ n + 1 ≤ Rows.uptoBulk d := by
  obtain ⟨cs, rfl, _⟩ := okWide_struct Tryd.underlying30 hv
  obtain ⟨fuel, hf⟩ := h
  obtain ⟨hl, m, hx⟩ := rd_struct (x := (d, ps)) Tryd.underlying30 hf hwt
  rw [cells_vote] at hl
  obtain ⟨c0, c1, c2, c3, c4, c5, c6, hcs⟩ := list7 hl
  rw [hcs] at hx
  obtain ⟨y0, h0, _, _⟩ := hx 0 _ rfl
  obtain ⟨y1, h1, _, _⟩ := hx 1 _ rfl
  obtain ⟨y2, h2, g2, _⟩ := hx 2 _ rfl
  obtain ⟨y3, h3, g3, _⟩ := hx 3 _ rfl
  obtain ⟨y4, h4, g4, u4⟩ := hx 4 _ rfl
  simp only [List.getElem_toArray, List.getElem_cons_zero, List.getElem_cons_succ] at g2 g3 g4
  simp only [List.getElem_toArray, List.getElem_cons_zero, List.getElem_cons_succ, cells_ints, cells_int, cells_u64, cells_point, List.drop_zero, List.drop_succ_cons, List.take_succ_cons, List.take_zero] at h0 h1 h2 h3 h4
  obtain ⟨sl, k0, _, w0⟩ := DataW.trod_int Tryd.underlying3 h0
  obtain ⟨hd, k1, _, w1⟩ := DataW.trod_int Tryd.underlying25 h1
  obtain ⟨se, sr, k2, a2, b2⟩ := rd_point h2 g2
  obtain ⟨te, tr, k3, a3, b3⟩ := rd_point h3 g3
  obtain ⟨A, n, c, zs, k4, ga, gu⟩ := rd_ints (k := .i64) (B := 8) Tryd.underlying28 Tryd.underlying3 (by kernel_rfl) (by kernel_rfl) h4 g4
  injection k0 with k0
  injection k1 with k1
  injection k4 with k4
  simp only [List.cons.injEq, and_true] at k2 k3
  refine ⟨sl, hd, se, sr, te, tr, A, n, c, zs, ?_, ⟨w0, w1, ⟨a2, b2⟩, ⟨a3, b3⟩, ga⟩, by have := u4; simp only at this; omega⟩
  simp only [Value.cells] at hcs
  congr 1
  apply Array.ext'
  rw [hcs, k0, k1, k2.1, k2.2, k3.1, k3.2, k4]
end
end Go.Proofs.YtolkagkfedpjmaaDoor.Open
