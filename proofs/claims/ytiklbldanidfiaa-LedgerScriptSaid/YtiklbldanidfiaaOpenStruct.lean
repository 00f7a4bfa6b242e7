/-
  What struct arguments read as, told by their cells: checkpoints, states of package justify, configurations, votes; each where the program has it. No condition.
-/
import Derived.Test.YtiklbldanidfiaaProg
import Derived.Test.YtiklbldanidfiaaOpen
namespace Go.Proofs.Ytiklbldanidfiaa.Open
open Go.ChangeShapes Go.WideShapes Go.ChangeAt Go.RowKit Go.Deep Go.Proofs.YtiklbldanidfiaaW.PrintWords Go.Proofs.Ytiklbldanidfiaa.Own
set_option maxRecDepth 100000

theorem list2 {α : Type} {l : List α} (h : l.length = 2) : ∃ a b, l = [a, b] := by
  match l, h with
  | [a, b], _ => exact ⟨a, b, rfl⟩
theorem list3 {α : Type} {l : List α} (h : l.length = 3) : ∃ a b c, l = [a, b, c] := by
  match l, h with
  | [a, b, c], _ => exact ⟨a, b, c, rfl⟩
theorem list7 {α : Type} {l : List α} (h : l.length = 7) : ∃ a b c d e f g, l = [a, b, c, d, e, f, g] := by
  match l, h with
  | [a, b, c, d, e, f, g], _ => exact ⟨a, b, c, d, e, f, g, rfl⟩
theorem list10 {α : Type} {l : List α} (h : l.length = 10) : ∃ a b c d e f g i j k, l = [a, b, c, d, e, f, g, i, j, k] := by
  match l, h with
  | [a, b, c, d, e, f, g, i, j, k], _ => exact ⟨a, b, c, d, e, f, g, i, j, k, rfl⟩

theorem cells_int : Try.prog.cellsOf 3 = 1 := by kernel_rfl
theorem cells_u64 : Try.prog.cellsOf 32 = 1 := by kernel_rfl
theorem cells_point : Try.prog.cellsOf 34 = 2 := by kernel_rfl
theorem cells_bool : Try.prog.cellsOf 4 = 1 := by kernel_rfl
theorem cells_bits : Try.prog.cellsOf 31 = 4 := by kernel_rfl
theorem cells_state : Try.prog.cellsOf 36 = 10 := by kernel_rfl
section
variable {H : Type} {enc : TypeId × Value → H} {w : World} {base : Nat} {held : Bool}
theorem rd_point {fuel : Nat} {cs : List Value} {x : DataW H × List MemPlace} (hf : DataW.trod enc Try.prog w base (fun _ => true) held fuel 34 cs = some x) (hwt : ∀ m ∈ x.1.weights Try.prog 34, m ≤ reachBytes) :
    ∃ e r, cs = [.int .i64 e, .int .u64 r] ∧ (Lit.int .i64 e).wf = true ∧ (Lit.int .u64 r).wf = true := by
  obtain ⟨hl, n, hx⟩ := rd_struct Try.underlying34 hf hwt
  rw [cells_point] at hl
  obtain ⟨c0, c1, rfl⟩ := list2 hl
  obtain ⟨y0, h0, _, _⟩ := hx 0 _ rfl
  obtain ⟨y1, h1, _, _⟩ := hx 1 _ rfl
  simp only [List.getElem_toArray, List.getElem_cons_zero, List.getElem_cons_succ, cells_int, cells_u64, List.drop_zero, List.drop_succ_cons, List.take_succ_cons, List.take_zero] at h0 h1
  obtain ⟨e, h0, _, w0⟩ := DataW.trod_int Try.underlying3 h0
  obtain ⟨r, h1, _, w1⟩ := DataW.trod_int Try.underlying32 h1
  injection h0 with h0
  injection h1 with h1
  exact ⟨e, r, by rw [h0, h1], w0, w1⟩
/-- A checkpoint by value. -/
structure PointArg (e r : Int) : Prop where
  we : (Lit.int .i64 e).wf = true
  wr : (Lit.int .u64 r).wf = true
theorem open_point {rr : Reach} {b0 : Nat} {v : Value} {d : DataW H} {ps : List MemPlace} (hv : Value.okWide Try.prog w rr b0 34 v) (h : DataW.Trod enc Try.prog w base (fun _ => true) held 34 v d ps) (hwt : ∀ m ∈ d.weights Try.prog 34, m ≤ reachBytes) :
    ∃ e r, v = .agg #[.int .i64 e, .int .u64 r] ∧ PointArg e r := by
  obtain ⟨cs, rfl, _⟩ := okWide_struct Try.underlying34 hv
  obtain ⟨fuel, hf⟩ := h
  obtain ⟨e, r, hcs, w1, w2⟩ := rd_point (x := (d, ps)) hf hwt
  exact ⟨e, r, by simp only [Value.cells] at hcs; rw [show cs = #[.int .i64 e, .int .u64 r] from Array.ext' hcs], w1, w2⟩
theorem rd_bits {fuel : Nat} {cs : List Value} {x : DataW H × List MemPlace} (hf : DataW.trod enc Try.prog w base (fun _ => true) held fuel 31 cs = some x) : ∃ a b c d : Bool, cs = [.bool a, .bool b, .bool c, .bool d] := by
  obtain ⟨xs, m, _, _, hl, hxl, hx⟩ := DataW.trod_array Try.underlying31 hf
  rw [cells_bits] at hl
  match cs, hl with
  | [c0, c1, c2, c3], _ =>
    have k : ∀ i, i < 4 → ∃ b : Bool, ([c0, c1, c2, c3].drop i).take 1 = [.bool b] := fun i hi => by
      have h := hx i hi
      rw [cells_bool, Nat.mul_one, List.getElem?_eq_getElem (by omega)] at h
      obtain ⟨b, hb, _⟩ := DataW.trod_bool Try.underlying4 h
      exact ⟨b, hb⟩
    obtain ⟨a, ha⟩ := k 0 (by omega)
    obtain ⟨b, hb⟩ := k 1 (by omega)
    obtain ⟨c, hc⟩ := k 2 (by omega)
    obtain ⟨d, hd⟩ := k 3 (by omega)
    simp at ha hb hc hd
    exact ⟨a, b, c, d, by rw [ha, hb, hc, hd]⟩
/-- A state by value. -/
structure StateArg (pe pr ce cr fe fr : Int) : Prop where
  p : (Lit.int .i64 pe).wf = true ∧ (Lit.int .u64 pr).wf = true
  c : (Lit.int .i64 ce).wf = true ∧ (Lit.int .u64 cr).wf = true
  f : (Lit.int .i64 fe).wf = true ∧ (Lit.int .u64 fr).wf = true
theorem open_state {rr : Reach} {b0 : Nat} {v : Value} {d : DataW H} {ps : List MemPlace} (hv : Value.okWide Try.prog w rr b0 36 v) (h : DataW.Trod enc Try.prog w base (fun _ => true) held 36 v d ps) (hwt : ∀ m ∈ d.weights Try.prog 36, m ≤ reachBytes) :
    ∃ (s0 s1 s2 s3 : Bool) (pe pr ce cr fe fr : Int), v = .agg #[.bool s0, .bool s1, .bool s2, .bool s3, .int .i64 pe, .int .u64 pr, .int .i64 ce, .int .u64 cr, .int .i64 fe, .int .u64 fr] ∧ StateArg pe pr ce cr fe fr := by
  obtain ⟨cs, rfl, _⟩ := okWide_struct Try.underlying36 hv
  obtain ⟨fuel, hf⟩ := h
  obtain ⟨hl, n, hx⟩ := rd_struct (x := (d, ps)) Try.underlying36 hf hwt
  rw [cells_state] at hl
  obtain ⟨c0, c1, c2, c3, c4, c5, c6, c7, c8, c9, hcs⟩ := list10 hl
  rw [hcs] at hx
  obtain ⟨y0, h0, _, _⟩ := hx 0 _ rfl
  obtain ⟨y1, h1, g1, _⟩ := hx 1 _ rfl
  obtain ⟨y2, h2, g2, _⟩ := hx 2 _ rfl
  obtain ⟨y3, h3, g3, _⟩ := hx 3 _ rfl
  simp only [List.getElem_toArray, List.getElem_cons_zero, List.getElem_cons_succ] at g1 g2 g3
  simp only [List.getElem_toArray, List.getElem_cons_zero, List.getElem_cons_succ, cells_point, cells_bits, List.drop_zero, List.drop_succ_cons, List.take_succ_cons, List.take_zero] at h0 h1 h2 h3
  obtain ⟨s0, s1, s2, s3, k0⟩ := rd_bits h0
  obtain ⟨pe, pr, k1, a1, b1⟩ := rd_point h1 g1
  obtain ⟨ce, cr, k2, a2, b2⟩ := rd_point h2 g2
  obtain ⟨fe, fr, k3, a3, b3⟩ := rd_point h3 g3
  simp only [List.cons.injEq, and_true] at k0 k1 k2 k3
  refine ⟨s0, s1, s2, s3, pe, pr, ce, cr, fe, fr, ?_, ⟨a1, b1⟩, ⟨a2, b2⟩, ⟨a3, b3⟩⟩
  simp only [Value.cells] at hcs
  congr 1
  apply Array.ext'
  rw [hcs, k0.1, k0.2.1, k0.2.2.1, k0.2.2.2, k1.1, k1.2, k2.1, k2.2, k3.1, k3.2]
theorem cells_config : Try.prog.cellsOf 24 = 3 := by kernel_rfl
theorem cells_u64s : Try.prog.cellsOf 22 = 1 := by kernel_rfl
/-- A configuration by value. -/
structure ConfigArg (w : World) (A : Option Addr) (n c : Nat) (zs : List Int) (sl bo : Int) : Prop where
  row : IntsArg w .u64 8 A n c zs
  ws : (Lit.int .i64 sl).wf = true
  wb : (Lit.int .i64 bo).wf = true
theorem open_config {rr : Reach} {b0 : Nat} {v : Value} {d : DataW H} {ps : List MemPlace} (hv : Value.okWide Try.prog w rr b0 24 v) (h : DataW.Trod enc Try.prog w base (fun _ => true) held 24 v d ps) (hwt : ∀ m ∈ d.weights Try.prog 24, m ≤ reachBytes) :
    ∃ A n c zs sl bo, v = .agg #[.slice A n c, .int .i64 sl, .int .i64 bo] ∧ ConfigArg w A n c zs sl bo ∧ n + 1 ≤ Rows.uptoBulk d := by
  obtain ⟨cs, rfl, _⟩ := okWide_struct Try.underlying24 hv
  obtain ⟨fuel, hf⟩ := h
  obtain ⟨hl, m, hx⟩ := rd_struct (x := (d, ps)) Try.underlying24 hf hwt
  rw [cells_config] at hl
  obtain ⟨c0, c1, c2, hcs⟩ := list3 hl
  rw [hcs] at hx
  obtain ⟨y0, h0, g0, u0⟩ := hx 0 _ rfl
  obtain ⟨y1, h1, _, _⟩ := hx 1 _ rfl
  obtain ⟨y2, h2, _, _⟩ := hx 2 _ rfl
  simp only [List.getElem_toArray, List.getElem_cons_zero] at g0
  simp only [List.getElem_toArray, List.getElem_cons_zero, List.getElem_cons_succ, cells_u64s, cells_int, List.drop_zero, List.drop_succ_cons, List.take_succ_cons, List.take_zero] at h0 h1 h2
  obtain ⟨A, n, c, zs, k0, ga, gu⟩ := rd_ints (k := .u64) (B := 8) Try.underlying22 Try.underlying32 (by kernel_rfl) (by kernel_rfl) h0 g0
  obtain ⟨sl, k1, _, w1⟩ := DataW.trod_int Try.underlying3 h1
  obtain ⟨bo, k2, _, w2⟩ := DataW.trod_int Try.underlying3 h2
  injection k0 with k0
  injection k1 with k1
  injection k2 with k2
  refine ⟨A, n, c, zs, sl, bo, ?_, ⟨ga, w1, w2⟩, by have := u0; simp only at this; omega⟩
  simp only [Value.cells] at hcs
  congr 1
  apply Array.ext'
  rw [hcs, k0, k1, k2]
theorem cells_vote : Try.prog.cellsOf 43 = 7 := by kernel_rfl
theorem cells_ints : Try.prog.cellsOf 41 = 1 := by kernel_rfl
/-- A vote by value. -/
structure VoteArg (w : World) (sl hd se sr te tr : Int) (A : Option Addr) (n c : Nat) (zs : List Int) : Prop where
  ws : (Lit.int .i64 sl).wf = true
  wh : (Lit.int .u64 hd).wf = true
  s : (Lit.int .i64 se).wf = true ∧ (Lit.int .u64 sr).wf = true
  t : (Lit.int .i64 te).wf = true ∧ (Lit.int .u64 tr).wf = true
  row : IntsArg w .i64 8 A n c zs
theorem open_vote {rr : Reach} {b0 : Nat} {v : Value} {d : DataW H} {ps : List MemPlace} (hv : Value.okWide Try.prog w rr b0 43 v) (h : DataW.Trod enc Try.prog w base (fun _ => true) held 43 v d ps) (hwt : ∀ m ∈ d.weights Try.prog 43, m ≤ reachBytes) :
    ∃ (sl hd se sr te tr : Int) (A : Option Addr) (n c : Nat) (zs : List Int), v = .agg #[.int .i64 sl, .int .u64 hd, .int .i64 se, .int .u64 sr, .int .i64 te, .int .u64 tr, .slice A n c] ∧ VoteArg w sl hd se sr te tr A n c zs ∧ n + 1 ≤ Rows.uptoBulk d := by
  obtain ⟨cs, rfl, _⟩ := okWide_struct Try.underlying43 hv
  obtain ⟨fuel, hf⟩ := h
  obtain ⟨hl, m, hx⟩ := rd_struct (x := (d, ps)) Try.underlying43 hf hwt
  rw [cells_vote] at hl
  obtain ⟨c0, c1, c2, c3, c4, c5, c6, hcs⟩ := list7 hl
  rw [hcs] at hx
  obtain ⟨y0, h0, _, _⟩ := hx 0 _ rfl
  obtain ⟨y1, h1, _, _⟩ := hx 1 _ rfl
  obtain ⟨y2, h2, g2, _⟩ := hx 2 _ rfl
  obtain ⟨y3, h3, g3, _⟩ := hx 3 _ rfl
  obtain ⟨y4, h4, g4, u4⟩ := hx 4 _ rfl
  simp only [List.getElem_toArray, List.getElem_cons_zero, List.getElem_cons_succ] at g2 g3 g4
  simp only [List.getElem_toArray, List.getElem_cons_zero, List.getElem_cons_succ, cells_ints, cells_int, cells_u64, cells_point, List.drop_zero, List.drop_succ_cons, List.take_succ_cons, List.take_zero] at h0 h1 h2 h3 h4
  obtain ⟨sl, k0, _, w0⟩ := DataW.trod_int Try.underlying3 h0
  obtain ⟨hd, k1, _, w1⟩ := DataW.trod_int Try.underlying32 h1
  obtain ⟨se, sr, k2, a2, b2⟩ := rd_point h2 g2
  obtain ⟨te, tr, k3, a3, b3⟩ := rd_point h3 g3
  obtain ⟨A, n, c, zs, k4, ga, gu⟩ := rd_ints (k := .i64) (B := 8) Try.underlying41 Try.underlying3 (by kernel_rfl) (by kernel_rfl) h4 g4
  injection k0 with k0
  injection k1 with k1
  injection k4 with k4
  simp only [List.cons.injEq, and_true] at k2 k3
  refine ⟨sl, hd, se, sr, te, tr, A, n, c, zs, ?_, ⟨w0, w1, ⟨a2, b2⟩, ⟨a3, b3⟩, ga⟩, by have := u4; simp only at this; omega⟩
  simp only [Value.cells] at hcs
  congr 1
  apply Array.ext'
  rw [hcs, k0, k1, k2.1, k2.2, k3.1, k3.2, k4]
end
end Go.Proofs.Ytiklbldanidfiaa.Open
