/-
  What struct arguments read as, told by their cells: checkpoints, states of package justify, configurations, votes; each where the program has it. No condition.
-/
import Derived.Test.YtmdkkojchiiaeaaProg
import Derived.Test.YtmdkkojchiiaeaaOpen
namespace Go.Proofs.Ytmdkkojchiiaeaa.Open
open Go.ChangeShapes Go.WideShapes Go.ChangeAt Go.RowKit Go.Deep Go.Proofs.YtmdkkojchiiaeaaW.PrintWords Go.Proofs.Ytmdkkojchiiaeaa.Own
set_option maxRecDepth 100000

theorem list2 {α : Type} {l : List α} (h : l.length = 2) : ∃ a b, l = [a, b] := by
  match l, h with
  | [a, b], _ => exact ⟨a, b, rfl⟩
theorem list3 {α : Type} {l : List α} (h : l.length = 3) : ∃ a b c, l = [a, b, c] := by
  match l, h with
  | [a, b, c], _ => exact ⟨a, b, c, rfl⟩
theorem list7 {α : Type} {l : List α} (h : l.length = 7) : ∃ a b c d e f g, l = [a, b, c, d, e, f, g] := by
  match l, h with
  | [a, b, c, d, e, f, g], _ => exact ⟨a, b, c, d, e, f, g, rfl⟩
theorem list10 {α : Type} {l : List α} (h : l.length = 10) : ∃ a b c d e f g i j k, l = [a, b, c, d, e, f, g, i, j, k] := by
  match l, h with
  | [a, b, c, d, e, f, g, i, j, k], _ => exact ⟨a, b, c, d, e, f, g, i, j, k, rfl⟩

theorem cells_int : Try.prog.cellsOf 3 = 1 := by kernel_rfl
theorem cells_u64 : Try.prog.cellsOf 25 = 1 := by kernel_rfl
section
variable {H : Type} {enc : TypeId × Value → H} {w : World} {base : Nat} {held : Bool}
theorem cells_config : Try.prog.cellsOf 31 = 3 := by kernel_rfl
theorem cells_u64s : Try.prog.cellsOf 22 = 1 := by kernel_rfl
/-- A configuration by value. -/
structure ConfigArg (w : World) (A : Option Addr) (n c : Nat) (zs : List Int) (sl bo : Int) : Prop where
  row : IntsArg w .u64 8 A n c zs
  ws : (Lit.int .i64 sl).wf = true
  wb : (Lit.int .i64 bo).wf = true
theorem open_config {rr : Reach} {b0 : Nat} {v : Value} {d : DataW H} {ps : List MemPlace} (hv : Value.okWide Try.prog w rr b0 31 v) (h : DataW.Trod enc Try.prog w base (fun _ => true) held 31 v d ps) (hwt : ∀ m ∈ d.weights Try.prog 31, m ≤ reachBytes) :
    ∃ A n c zs sl bo, v = .agg #[.slice A n c, .int .i64 sl, .int .i64 bo] ∧ ConfigArg w A n c zs sl bo ∧ n + 1 ≤ Rows.uptoBulk d := by
  obtain ⟨cs, rfl, _⟩ := okWide_struct Try.underlying31 hv
  obtain ⟨fuel, hf⟩ := h
  obtain ⟨hl, m, hx⟩ := rd_struct (x := (d, ps)) Try.underlying31 hf hwt
  rw [cells_config] at hl
  obtain ⟨c0, c1, c2, hcs⟩ := list3 hl
  rw [hcs] at hx
  obtain ⟨y0, h0, g0, u0⟩ := hx 0 _ rfl
  obtain ⟨y1, h1, _, _⟩ := hx 1 _ rfl
  obtain ⟨y2, h2, _, _⟩ := hx 2 _ rfl
  simp only [List.getElem_toArray, List.getElem_cons_zero] at g0
  simp only [List.getElem_toArray, List.getElem_cons_zero, List.getElem_cons_succ, cells_u64s, cells_int, List.drop_zero, List.drop_succ_cons, List.take_succ_cons, List.take_zero] at h0 h1 h2
  obtain ⟨A, n, c, zs, k0, ga, gu⟩ := rd_ints (k := .u64) (B := 8) Try.underlying22 Try.underlying25 (by kernel_rfl) (by kernel_rfl) h0 g0
  obtain ⟨sl, k1, _, w1⟩ := DataW.trod_int Try.underlying3 h1
  obtain ⟨bo, k2, _, w2⟩ := DataW.trod_int Try.underlying3 h2
  injection k0 with k0
  injection k1 with k1
  injection k2 with k2
  refine ⟨A, n, c, zs, sl, bo, ?_, ⟨ga, w1, w2⟩, by have := u0; simp only at this; omega⟩
  simp only [Value.cells] at hcs
  congr 1
  apply Array.ext'
  rw [hcs, k0, k1, k2]
end
end Go.Proofs.Ytmdkkojchiiaeaa.Open
