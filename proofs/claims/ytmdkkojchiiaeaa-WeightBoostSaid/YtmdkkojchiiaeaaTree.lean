/-
  Package tree over memory: a tree behind a pointer, its blocks as a list of nodes; what Has tells of it.
-/
import Derived.Test.YtmdkkojchiiaeaaProg
import Derived.Test.YtmdkkojchiiaeaaWWords
import Derived.WalkKit
import Derived.Below
import Derived.KernelRfl
import Derived.Maps.OwnOps
import Derived.Maps.OwnSet
import Derived.Maps.Views
import Derived.RowKitTokens
namespace Go.Proofs.Ytmdkkojchiiaeaa.Tree
open Go.RowKit Go.Maps Go.Proofs.YtmdkkojchiiaeaaW.PrintWords
set_option linter.unusedVariables false

/-- A block: its root, its parent, its slot, how many blocks it stands on. -/
structure Nd where
  r : Int
  p : Int
  s : Int
  h : Int
/-- What a map's element reads as. -/
def ndData (p s h : Int) : DataW Unit := .agg [.lit (.int .u64 p), .lit (.int .i64 s), .lit (.int .i64 h)]
def ndElem3 : List Value → Option (DataW Unit × List MemPlace)
  | [.int .u64 p, .int .i64 s, .int .i64 h] => some (ndData p s h, [])
  | _ => none
def ndElem : Value → Option (DataW Unit × List MemPlace)
  | .agg cs => ndElem3 cs.toList
  | _ => none
theorem ndElem_mk (p s h : Int) : ndElem (.agg #[.int .u64 p, .int .i64 s, .int .i64 h]) = some (ndData p s h, []) := rfl
theorem ndElem_inv {v : Value} {z : DataW Unit × List MemPlace} (e : ndElem v = some z) : ∃ p s h, v = .agg #[.int .u64 p, .int .i64 s, .int .i64 h] ∧ z = (ndData p s h, []) := by
  cases v with
  | agg cs =>
    have e1 : ndElem3 cs.toList = some z := e
    unfold ndElem3 at e1
    split at e1
    · rename_i p s h hl
      refine ⟨p, s, h, ?_, (Option.some.inj e1).symm⟩
      congr 1
      apply Array.ext'
      rw [hl]
    · cases e1
  | _ => cases e
theorem ndData_inj {p s h p' s' h' : Int} (e : ndData p s h = ndData p' s' h') : p = p' ∧ s = s' ∧ h = h' := by
  unfold ndData at e
  injection e with e
  injection e with e1 e
  injection e with e2 e
  injection e with e3 e
  injection e1 with e1
  injection e1 with _ e1
  injection e2 with e2
  injection e2 with _ e2
  injection e3 with e3
  injection e3 with _ e3
  exact ⟨e1, e2, e3⟩

def find (ns : List Nd) (r : Int) : Option Nd := ns.find? (fun n => n.r == r)
def has (ns : List Nd) (r : Int) : Bool := (find ns r).isSome
/-- What is at a root; zeros, if it is not there. -/
def getD (ns : List Nd) (r : Int) : Nd := (find ns r).getD ⟨0, 0, 0, 0⟩
def key (r : Int) : Lit := .int .u64 r
/-- A map's datum says what the nodes say. -/
structure Says (D : DataW Unit) (ns : List Nd) : Prop where
  tidy : Tidy D
  size : Maps.size D = ns.length
  has : ∀ r, Maps.has D (key r) = has ns r
  at_ : ∀ r, D.atKey (key r) (ndData 0 0 0) = ndData (getD ns r).p (getD ns r).s (getD ns r).h

theorem says_nil : Says (.map []) [] := ⟨tidy_empty, rfl, fun r => rfl, fun r => rfl⟩
theorem find_snoc (ns : List Nd) (n : Nd) (r : Int) : find (ns ++ [n]) r = (find ns r).or (if n.r = r then some n else none) := by
  unfold find
  rw [List.find?_append]
  congr 1
  by_cases h : n.r = r <;> simp [h]
theorem says_put {D : DataW Unit} {ns : List Nd} (h : Says D ns) (r p s t : Int) (hno : has ns r = false) : Says (D.put (key r) (ndData p s t)) (ns ++ [⟨r, p, s, t⟩]) := by
  have hm := h.tidy.isMap
  have hnone : find ns r = none := by unfold has at hno; simpa using hno
  refine ⟨h.tidy.put (by trivial) _, ?_, ?_, ?_⟩
  · rw [size_put h.tidy, h.has, hno, h.size]
    simp
  · intro q
    by_cases e : q = r
    · subst e
      rw [has_put_same hm (by trivial)]
      unfold has
      rw [find_snoc, hnone]
      simp
    · rw [has_put_other (fun h => e (by injection h)), h.has]
      unfold has
      rw [find_snoc, if_neg (fun h => e h.symm)]
      simp
  · intro q
    by_cases e : q = r
    · subst e
      rw [atKey_put_same hm (by trivial)]
      unfold getD
      rw [find_snoc, hnone]
      simp
    · rw [atKey_put_other (fun h => e (by injection h)), h.at_]
      unfold getD
      rw [find_snoc, if_neg (fun h => e h.symm)]
      simp

/-- A tree: its first block, its blocks. -/
structure T where
  first : Int
  ns : List Nd
/-- A tree's bounds: whatever it holds is of its kind, no height is above how many there are. -/
structure Fine (t : T) : Prop where
  first : 0 ≤ t.first ∧ t.first ≤ 18446744073709551615
  small : t.ns.length ≤ 4096
  nodes : ∀ n ∈ t.ns, (0 ≤ n.r ∧ n.r ≤ 18446744073709551615) ∧ (0 ≤ n.p ∧ n.p ≤ 18446744073709551615) ∧ (-9223372036854775808 ≤ n.s ∧ n.s ≤ 9223372036854775807) ∧ 0 ≤ n.h ∧ n.h < t.ns.length

theorem law : Keyed Try.prog 25 := int_keyed Try.underlying25
theorem zeroE (w : World) : (zeroValue 69).run Try.prog w = .ok (.agg #[.int .u64 0, .int .i64 0, .int .i64 0]) w := by kernel_rfl
theorem zeroT (w : World) : (zeroValue 67).run Try.prog w = .ok (.agg #[.int .u64 0, .map none]) w := by kernel_rfl

/-- The tree's two blocks in memory: the struct behind the pointer, and the map. -/
structure Mem (w : World) (p B : Nat) (t : T) : Prop where
  ne : p ≠ B
  cells : w.heap[p]? = some (.cells #[.int .u64 t.first, .map (some B)] 67 (0, 0))
  map : ∃ D : DataW Unit, w.ownsMap Try.prog 25 ndElem B t.ns.length D ∧ Says D t.ns
theorem Mem.lt {w : World} {p B : Nat} {t : T} (h : Mem w p B t) : p < w.heap.size ∧ B < w.heap.size := by
  obtain ⟨D, hD, _⟩ := h.map
  exact ⟨(Array.getElem?_eq_some_iff.1 h.cells).1, hD.lt⟩
/-- It stays where its blocks stay. -/
theorem Mem.move {w w' : World} {p B : Nat} {t : T} (h : Mem w p B t) (hp : w'.heap[p]? = w.heap[p]?) (hB : w'.heap[B]? = w.heap[B]?) : Mem w' p B t := by
  obtain ⟨D, ⟨es, clock, h1, h2⟩, hS⟩ := h.map
  exact ⟨h.ne, hp.trans h.cells, D, ⟨es, clock, hB.trans h1, h2⟩, hS⟩
theorem Mem.below {w w' : World} {p B : Nat} {t : T} (h : Mem w p B t) (hb : Below w.heap.size w w') : Mem w' p B t :=
  h.move (hb.block p h.lt.1) (hb.block B h.lt.2)
theorem Mem.cell0 {w : World} {p B : Nat} {t : T} (h : Mem w p B t) : w.cell? ⟨p, 0, none⟩ = some (.int .u64 t.first) := by
  simp [World.cell?, h.cells]
theorem Mem.cell1 {w : World} {p B : Nat} {t : T} (h : Mem w p B t) : w.cell? ⟨p, 1, none⟩ = some (.map (some B)) := by
  simp [World.cell?, h.cells]

theorem hkey {r : Int} (h : 0 ≤ r ∧ r ≤ 18446744073709551615) : keyOf Try.prog 25 (.int .u64 r) = some (key r) :=
  keyOf_int_mk Try.underlying25 (by simp [Lit.wf, IntKind.min, IntKind.max, IntKind.signed, IntKind.bits]; omega)

/-- A look-up: what is there, and whether. -/
theorem look {w : World} {B n : Nat} {D : DataW Unit} {ns : List Nd} (hS : Says D ns) {r : Int} {v : Value} {ps : List MemPlace} (hv : ndElem v = some (D.atKey (key r) (ndData 0 0 0), ps)) :
    v = .agg #[.int .u64 (getD ns r).p, .int .i64 (getD ns r).s, .int .i64 (getD ns r).h] := by
  obtain ⟨p, s, h, rfl, hz⟩ := ndElem_inv hv
  have e := congrArg Prod.fst hz
  simp only at e
  rw [hS.at_] at e
  obtain ⟨e1, e2, e3⟩ := ndData_inj e
  rw [e1, e2, e3]

section
variable {ops : Array Oper} {rest : List Oper} {o : Oper} {a : Act} {Q : Exit → Act → World → Prop}
/-- 'n, ok := t.nodes[r]' at the operation. -/
theorem look_ok {w : World} {p B : Nat} {t : T} (h : Mem w p B t) (hg : o.guard = none) (m x : Operand) (hop : o.op = Op.lookup 65 m x true) (hm : a.eval m = .map (some B)) (r : Int) (hx : a.eval x = .int .u64 r) (hr : 0 ≤ r ∧ r ≤ 18446744073709551615)
    (hK : wpList Try.prog ops Q rest (a.put o.dst (.tuple #[.agg #[.int .u64 (getD t.ns r).p, .int .i64 (getD t.ns r).s, .int .i64 (getD t.ns r).h], .bool (has t.ns r)])) w) : wpList Try.prog ops Q (o :: rest) a w := by
  obtain ⟨D, hown, hS⟩ := h.map
  refine wpList_lookup_own_ok _ hg m x 65 hop 25 69 law Try.underlying65 ndElem (zeroE _) (ndData 0 0 0) [] (ndElem_mk 0 0 0) B t.ns.length D hm hown _ _ hx (hkey hr) ?_
  intro v ps hv
  obtain rfl := look (w := w) (B := B) (n := 0) hS hv
  rw [hS.has]
  exact hK
/-- 't.nodes[r]' at the operation. -/
theorem look_one {w : World} {p B : Nat} {t : T} (h : Mem w p B t) (hg : o.guard = none) (m x : Operand) (hop : o.op = Op.lookup 65 m x false) (hm : a.eval m = .map (some B)) (r : Int) (hx : a.eval x = .int .u64 r) (hr : 0 ≤ r ∧ r ≤ 18446744073709551615)
    (hK : wpList Try.prog ops Q rest (a.put o.dst (.agg #[.int .u64 (getD t.ns r).p, .int .i64 (getD t.ns r).s, .int .i64 (getD t.ns r).h])) w) : wpList Try.prog ops Q (o :: rest) a w := by
  obtain ⟨D, hown, hS⟩ := h.map
  refine wpList_plain hg fun K' hK' => ?_
  obtain ⟨v, ps, hrun, hv⟩ := hown.lookup law Try.underlying65 (zeroE _) (ndElem_mk 0 0 0) (hkey hr)
  obtain rfl := look (w := w) (B := B) (n := 0) hS hv
  unfold Oper.wp
  simp [execOp, hop, hm, hx, hrun, Result.andThen]
  exact hK' _ _ hK
end

theorem new_block (w : World) (o : Obj) : (w.alloc o).heap[w.heap.size]? = some o := by
  show (w.heap.push o)[w.heap.size]? = some o
  simp
theorem cells3 {w : World} {g t : Nat} {v0 v1 v2 : Value} (h : w.heap[g]? = some (.cells #[v0, v1, v2] t (0, 0))) :
    w.cell? ⟨g, 0, none⟩ = some v0 ∧ w.cell? ⟨g, 1, none⟩ = some v1 ∧ w.cell? ⟨g, 2, none⟩ = some v2 ∧ w.frozen? ⟨g, 0, none⟩ = false ∧ w.frozen? ⟨g, 1, none⟩ = false ∧ w.frozen? ⟨g, 2, none⟩ = false :=
  ⟨by simp [World.cell?, h], by simp [World.cell?, h], by simp [World.cell?, h], by simp [World.frozen?, h], by simp [World.frozen?, h], by simp [World.frozen?, h]⟩
set_option maxHeartbeats 1000000 in
theorem has_calls (p B : Nat) (t : T) (r : Int) (w : World) (h : Mem w p B t) (hr : 0 ≤ r ∧ r ≤ 18446744073709551615) :
    Calls Try.prog 32 #[.pointer (some ⟨p, 0, none⟩), .int .u64 r] w fun e w' => e = .returned (.bool (has t.ns r)) ∧ Below w.heap.size w w' := by
  have c1 := h.cell1
  have hm := Aside0.mk h
  have hk := Aside0.mk hr
  clear hr h
  go_enter Try.func32, Try.ntmps32
  go_wp2_with (at_lookup; refine look_ok hm.out rfl _ _ rfl rfl _ rfl hk.out ?_)
  go_ret
  exact ⟨rfl, by repeat (first | exact Below.refl _ _ | refine Below.setCell ?_ (by simp <;> omega) _ | refine Below.alloc ?_ (by simp <;> omega) _)⟩
end Go.Proofs.Ytmdkkojchiiaeaa.Tree
