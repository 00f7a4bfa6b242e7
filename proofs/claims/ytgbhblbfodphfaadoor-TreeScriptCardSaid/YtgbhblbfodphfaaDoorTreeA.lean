/-
  Package tree over memory: a tree behind a pointer; Has, At, Below, Of, Add by their contracts.
-/
import Derived.Test.YtgbhblbfodphfaaDoorProg
import Derived.Test.YtgbhblbfodphfaaDoorWWords
import Derived.WalkKit
import Derived.Below
import Derived.KernelRfl
import Derived.Maps.OwnOps
import Derived.Maps.OwnSet
import Derived.Maps.Views
import Derived.RowKitTokens
import Derived.LoopTactic
import Derived.Deep.LoopGhost
import Derived.Carry
import Derived.ChangeMaps4
import Derived.Test.YtgbhblbfodphfaaDoorWKept
import Derived.StillTail
import Derived.StillTailTactics
namespace Go.Proofs.YtgbhblbfodphfaaDoor.Tree
open Go.RowKit Go.Maps Go.Proofs.YtgbhblbfodphfaaDoorW.PrintWords
set_option linter.unusedVariables false

/-- A block: its root, its parent, its slot, how many blocks it stands on. -/
structure Nd where
  r : Int
  p : Int
  s : Int
  h : Int
/-- What a map's element reads as. -/
def ndData (p s h : Int) : DataW Unit := .agg [.lit (.int .u64 p), .lit (.int .i64 s), .lit (.int .i64 h)]
def ndElem3 : List Value → Option (DataW Unit × List MemPlace)
  | [.int .u64 p, .int .i64 s, .int .i64 h] => some (ndData p s h, [])
  | _ => none
def ndElem : Value → Option (DataW Unit × List MemPlace)
  | .agg cs => ndElem3 cs.toList
  | _ => none
theorem ndElem_mk (p s h : Int) : ndElem (.agg #[.int .u64 p, .int .i64 s, .int .i64 h]) = some (ndData p s h, []) := rfl
theorem ndElem_inv {v : Value} {z : DataW Unit × List MemPlace} (e : ndElem v = some z) : ∃ p s h, v = .agg #[.int .u64 p, .int .i64 s, .int .i64 h] ∧ z = (ndData p s h, []) := by
  cases v with
  | agg cs =>
    have e1 : ndElem3 cs.toList = some z := e
    unfold ndElem3 at e1
    split at e1
    · rename_i p s h hl
      refine ⟨p, s, h, ?_, (Option.some.inj e1).symm⟩
      congr 1
      apply Array.ext'
      rw [hl]
    · cases e1
  | _ => cases e
theorem ndData_inj {p s h p' s' h' : Int} (e : ndData p s h = ndData p' s' h') : p = p' ∧ s = s' ∧ h = h' := by
  unfold ndData at e
  injection e with e
  injection e with e1 e
  injection e with e2 e
  injection e with e3 e
  injection e1 with e1
  injection e1 with _ e1
  injection e2 with e2
  injection e2 with _ e2
  injection e3 with e3
  injection e3 with _ e3
  exact ⟨e1, e2, e3⟩

def find (ns : List Nd) (r : Int) : Option Nd := ns.find? (fun n => n.r == r)
def has (ns : List Nd) (r : Int) : Bool := (find ns r).isSome
/-- What is at a root; zeros, if it is not there. -/
def getD (ns : List Nd) (r : Int) : Nd := (find ns r).getD ⟨0, 0, 0, 0⟩
def key (r : Int) : Lit := .int .u64 r
/-- A map's datum says what the nodes say. -/
structure Says (D : DataW Unit) (ns : List Nd) : Prop where
  tidy : Tidy D
  size : Maps.size D = ns.length
  has : ∀ r, Maps.has D (key r) = has ns r
  at_ : ∀ r, D.atKey (key r) (ndData 0 0 0) = ndData (getD ns r).p (getD ns r).s (getD ns r).h

theorem says_nil : Says (.map []) [] := ⟨tidy_empty, rfl, fun r => rfl, fun r => rfl⟩
theorem find_snoc (ns : List Nd) (n : Nd) (r : Int) : find (ns ++ [n]) r = (find ns r).or (if n.r = r then some n else none) := by
  unfold find
  rw [List.find?_append]
  congr 1
  by_cases h : n.r = r <;> simp [h]
theorem says_put {D : DataW Unit} {ns : List Nd} (h : Says D ns) (r p s t : Int) (hno : has ns r = false) : Says (D.put (key r) (ndData p s t)) (ns ++ [⟨r, p, s, t⟩]) := by
  have hm := h.tidy.isMap
  have hnone : find ns r = none := by unfold has at hno; simpa using hno
  refine ⟨h.tidy.put (by trivial) _, ?_, ?_, ?_⟩
  · rw [size_put h.tidy, h.has, hno, h.size]
    simp
  · intro q
    by_cases e : q = r
    · subst e
      rw [has_put_same hm (by trivial)]
      unfold has
      rw [find_snoc, hnone]
      simp
    · rw [has_put_other (fun h => e (by injection h)), h.has]
      unfold has
      rw [find_snoc, if_neg (fun h => e h.symm)]
      simp
  · intro q
    by_cases e : q = r
    · subst e
      rw [atKey_put_same hm (by trivial)]
      unfold getD
      rw [find_snoc, hnone]
      simp
    · rw [atKey_put_other (fun h => e (by injection h)), h.at_]
      unfold getD
      rw [find_snoc, if_neg (fun h => e h.symm)]
      simp

/-- A tree: its first block, its blocks. -/
structure T where
  first : Int
  ns : List Nd
/-- A tree's bounds: whatever it holds is of its kind, no height is above how many there are. -/
structure Fine (t : T) : Prop where
  first : 0 ≤ t.first ∧ t.first ≤ 18446744073709551615
  small : t.ns.length ≤ 4096
  nodes : ∀ n ∈ t.ns, (0 ≤ n.r ∧ n.r ≤ 18446744073709551615) ∧ (0 ≤ n.p ∧ n.p ≤ 18446744073709551615) ∧ (-9223372036854775808 ≤ n.s ∧ n.s ≤ 9223372036854775807) ∧ 0 ≤ n.h ∧ n.h < t.ns.length

theorem law : Keyed Tryd.prog 25 := int_keyed Tryd.underlying25
theorem zeroE (w : World) : (zeroValue 50).run Tryd.prog w = .ok (.agg #[.int .u64 0, .int .i64 0, .int .i64 0]) w := by kernel_rfl
theorem zeroT (w : World) : (zeroValue 53).run Tryd.prog w = .ok (.agg #[.int .u64 0, .map none]) w := by kernel_rfl

/-- The tree's two blocks in memory: the struct behind the pointer, and the map. -/
structure Mem (w : World) (p B : Nat) (t : T) : Prop where
  ne : p ≠ B
  cells : w.heap[p]? = some (.cells #[.int .u64 t.first, .map (some B)] 53 (0, 0))
  map : ∃ D : DataW Unit, w.ownsMap Tryd.prog 25 ndElem B t.ns.length D ∧ Says D t.ns
theorem Mem.lt {w : World} {p B : Nat} {t : T} (h : Mem w p B t) : p < w.heap.size ∧ B < w.heap.size := by
  obtain ⟨D, hD, _⟩ := h.map
  exact ⟨(Array.getElem?_eq_some_iff.1 h.cells).1, hD.lt⟩
/-- It stays where its blocks stay. -/
theorem Mem.move {w w' : World} {p B : Nat} {t : T} (h : Mem w p B t) (hp : w'.heap[p]? = w.heap[p]?) (hB : w'.heap[B]? = w.heap[B]?) : Mem w' p B t := by
  obtain ⟨D, ⟨es, clock, h1, h2⟩, hS⟩ := h.map
  exact ⟨h.ne, hp.trans h.cells, D, ⟨es, clock, hB.trans h1, h2⟩, hS⟩
theorem Mem.below {w w' : World} {p B : Nat} {t : T} (h : Mem w p B t) (hb : Below w.heap.size w w') : Mem w' p B t :=
  h.move (hb.block p h.lt.1) (hb.block B h.lt.2)
theorem Mem.cell0 {w : World} {p B : Nat} {t : T} (h : Mem w p B t) : w.cell? ⟨p, 0, none⟩ = some (.int .u64 t.first) := by
  simp [World.cell?, h.cells]
theorem Mem.cell1 {w : World} {p B : Nat} {t : T} (h : Mem w p B t) : w.cell? ⟨p, 1, none⟩ = some (.map (some B)) := by
  simp [World.cell?, h.cells]

theorem hkey {r : Int} (h : 0 ≤ r ∧ r ≤ 18446744073709551615) : keyOf Tryd.prog 25 (.int .u64 r) = some (key r) :=
  keyOf_int_mk Tryd.underlying25 (by simp [Lit.wf, IntKind.min, IntKind.max, IntKind.signed, IntKind.bits]; omega)

/-- A look-up: what is there, and whether. -/
theorem look {w : World} {B n : Nat} {D : DataW Unit} {ns : List Nd} (hS : Says D ns) {r : Int} {v : Value} {ps : List MemPlace} (hv : ndElem v = some (D.atKey (key r) (ndData 0 0 0), ps)) :
    v = .agg #[.int .u64 (getD ns r).p, .int .i64 (getD ns r).s, .int .i64 (getD ns r).h] := by
  obtain ⟨p, s, h, rfl, hz⟩ := ndElem_inv hv
  have e := congrArg Prod.fst hz
  simp only at e
  rw [hS.at_] at e
  obtain ⟨e1, e2, e3⟩ := ndData_inj e
  rw [e1, e2, e3]

section
variable {ops : Array Oper} {rest : List Oper} {o : Oper} {a : Act} {Q : Exit → Act → World → Prop}
/-- 'n, ok := t.nodes[r]' at the operation. -/
theorem look_ok {w : World} {p B : Nat} {t : T} (h : Mem w p B t) (hg : o.guard = none) (m x : Operand) (hop : o.op = Op.lookup 51 m x true) (hm : a.eval m = .map (some B)) (r : Int) (hx : a.eval x = .int .u64 r) (hr : 0 ≤ r ∧ r ≤ 18446744073709551615)
    (hK : wpList Tryd.prog ops Q rest (a.put o.dst (.tuple #[.agg #[.int .u64 (getD t.ns r).p, .int .i64 (getD t.ns r).s, .int .i64 (getD t.ns r).h], .bool (has t.ns r)])) w) : wpList Tryd.prog ops Q (o :: rest) a w := by
  obtain ⟨D, hown, hS⟩ := h.map
  refine wpList_lookup_own_ok _ hg m x 51 hop 25 50 law Tryd.underlying51 ndElem (zeroE _) (ndData 0 0 0) [] (ndElem_mk 0 0 0) B t.ns.length D hm hown _ _ hx (hkey hr) ?_
  intro v ps hv
  obtain rfl := look (w := w) (B := B) (n := 0) hS hv
  rw [hS.has]
  exact hK
/-- 't.nodes[r]' at the operation. -/
theorem look_one {w : World} {p B : Nat} {t : T} (h : Mem w p B t) (hg : o.guard = none) (m x : Operand) (hop : o.op = Op.lookup 51 m x false) (hm : a.eval m = .map (some B)) (r : Int) (hx : a.eval x = .int .u64 r) (hr : 0 ≤ r ∧ r ≤ 18446744073709551615)
    (hK : wpList Tryd.prog ops Q rest (a.put o.dst (.agg #[.int .u64 (getD t.ns r).p, .int .i64 (getD t.ns r).s, .int .i64 (getD t.ns r).h])) w) : wpList Tryd.prog ops Q (o :: rest) a w := by
  obtain ⟨D, hown, hS⟩ := h.map
  refine wpList_plain hg fun K' hK' => ?_
  obtain ⟨v, ps, hrun, hv⟩ := hown.lookup law Tryd.underlying51 (zeroE _) (ndElem_mk 0 0 0) (hkey hr)
  obtain rfl := look (w := w) (B := B) (n := 0) hS hv
  unfold Oper.wp
  simp [execOp, hop, hm, hx, hrun, Result.andThen]
  exact hK' _ _ hK
end

theorem new_block (w : World) (o : Obj) : (w.alloc o).heap[w.heap.size]? = some o := by
  show (w.heap.push o)[w.heap.size]? = some o
  simp
theorem cells3 {w : World} {g t : Nat} {v0 v1 v2 : Value} (h : w.heap[g]? = some (.cells #[v0, v1, v2] t (0, 0))) :
    w.cell? ⟨g, 0, none⟩ = some v0 ∧ w.cell? ⟨g, 1, none⟩ = some v1 ∧ w.cell? ⟨g, 2, none⟩ = some v2 ∧ w.frozen? ⟨g, 0, none⟩ = false ∧ w.frozen? ⟨g, 1, none⟩ = false ∧ w.frozen? ⟨g, 2, none⟩ = false :=
  ⟨by simp [World.cell?, h], by simp [World.cell?, h], by simp [World.cell?, h], by simp [World.frozen?, h], by simp [World.frozen?, h], by simp [World.frozen?, h]⟩
set_option maxHeartbeats 1000000 in
theorem has_calls (p B : Nat) (t : T) (r : Int) (w : World) (h : Mem w p B t) (hr : 0 ≤ r ∧ r ≤ 18446744073709551615) :
    Calls Tryd.prog 20 #[.pointer (some ⟨p, 0, none⟩), .int .u64 r] w fun e w' => e = .returned (.bool (has t.ns r)) ∧ Below w.heap.size w w' := by
  have c1 := h.cell1
  have hm := Aside0.mk h
  have hk := Aside0.mk hr
  clear hr h
  go_enter Tryd.func20, Tryd.ntmps20
  go_wp2_with (at_lookup; refine look_ok hm.out rfl _ _ rfl rfl _ rfl hk.out ?_)
  go_ret
  exact ⟨rfl, by repeat (first | exact Below.refl _ _ | refine Below.setCell ?_ (by simp <;> omega) _ | refine Below.alloc ?_ (by simp <;> omega) _)⟩
end Go.Proofs.YtgbhblbfodphfaaDoor.Tree
namespace Go.Proofs.YtgbhblbfodphfaaDoor.Tree
open Go.RowKit Go.Maps Go.Proofs.YtgbhblbfodphfaaDoorW.PrintWords
set_option linter.unusedVariables false

/-- Each block but the first one stands on one that is there, one lower. -/
structure Well (t : T) : Prop where
  first : has t.ns t.first = true
  up : ∀ r, has t.ns r = true → r ≠ t.first → has t.ns (getD t.ns r).p = true ∧ (getD t.ns (getD t.ns r).p).h + 1 = (getD t.ns r).h
  root : ∀ r, has t.ns r = true → 0 ≤ (getD t.ns r).h
  wide : ∀ r, has t.ns r = true → 0 ≤ r ∧ r ≤ 18446744073709551615

/-- The last block below r, or itself, whose slot is not above s; k: how far at most. -/
def climb (t : T) (s : Int) : Nat → Int → Int
  | 0, r => r
  | k + 1, r => if r ≠ t.first ∧ (getD t.ns r).s > s then climb t s k (getD t.ns r).p else r
def upTo (t : T) (s r : Int) : Int := climb t s ((getD t.ns r).h.toNat + 1) r
theorem upTo_step {t : T} (W : Well t) {s r : Int} (h : has t.ns r = true) (h1 : r ≠ t.first) (h2 : (getD t.ns r).s > s) : upTo t s (getD t.ns r).p = upTo t s r := by
  obtain ⟨hp, hh⟩ := W.up r h h1
  have h0 := W.root _ hp
  unfold upTo
  rw [show (getD t.ns r).h.toNat = (getD t.ns (getD t.ns r).p).h.toNat + 1 by omega]
  rw [climb.eq_2 t s r ((getD t.ns (getD t.ns r).p).h.toNat + 1), if_pos ⟨h1, h2⟩]
theorem upTo_stop {t : T} {s r : Int} (h : ¬ (r ≠ t.first ∧ (getD t.ns r).s > s)) : upTo t s r = r := by
  unfold upTo climb
  rw [if_neg h]
def atOf (t : T) (r s : Int) : Int := if has t.ns r = true then upTo t s r else 0

theorem set3 {w : World} {g t : Nat} {a b c x y z : Value} (h : w.heap[g]? = some (.cells #[a, b, c] t (0, 0))) :
    (((w.setCell ⟨g, 0, none⟩ x).setCell ⟨g, 1, none⟩ y).setCell ⟨g, 2, none⟩ z).heap[g]? = some (.cells #[x, y, z] t (0, 0)) := by
  simp [World.setCell, Array.getElem?_modify, h]
set_option maxHeartbeats 2000000 in
theorem at_calls (p B : Nat) (t : T) (r s : Int) (w : World) (h : Mem w p B t) (W : Well t) (hr : 0 ≤ r ∧ r ≤ 18446744073709551615) :
    Calls Tryd.prog 17 #[.pointer (some ⟨p, 0, none⟩), .int .u64 r, .int .i64 s] w fun e w' => e = .returned (.int .u64 (atOf t r s)) ∧ Below w.heap.size w w' := by
  have hm := Aside0.mk h
  have c1 := h.cell1
  have hk := Aside0.mk hr
  have HW := Aside0.mk W
  clear h W hr
  by_cases hh : has t.ns r = true
  · have hh' := Aside0.mk hh
    clear hh
    go_enter Tryd.func17, Tryd.ntmps17
    go_wp2_with (at_lookup; refine look_ok hm.out rfl _ _ rfl rfl _ rfl hk.out ?_; rw [hh'.out])
    clear c1
    go_loopw [1] (fun v wr => ∃ q : Int, v = .int .u64 q ∧ Aside0 (has t.ns q = true) ∧ Aside0 (upTo t s q = upTo t s r) ∧ Aside0 (wr.heap[w.heap.size]? = some (.cells #[.int .u64 (getD t.ns q).p, .int .i64 (getD t.ns q).s, .int .i64 (getD t.ns q).h] 50 (0, 0))) ∧ Aside0 (Below w.heap.size w wr)) (fun v _ => (getD t.ns (intOf v)).h.toNat)
    case atStart => exact ⟨r, rfl, hh', ⟨rfl⟩, ⟨new_block _ _⟩, ⟨by repeat (first | exact Below.refl _ _ | refine Below.setCell ?_ (by simp <;> omega) _ | refine Below.alloc ?_ (by simp <;> omega) _)⟩⟩
    case round =>
      obtain ⟨q, rfl, hq, hu, hb, HB⟩ := hrel
      have hmr := Aside0.mk (Mem.below hm.out HB.out)
      have d0 := hmr.out.cell0
      have d1 := hmr.out.cell1
      obtain ⟨b0, b1, b2, z0, z1, z2⟩ := cells3 hb.out
      by_cases e1 : q = t.first
      · have e2 : (q != t.first) = false := by simp [e1]
        have HE := Aside0.mk e1
        clear e1
        go_wp2_with fail
        go_ret
        refine ⟨?_, HB.out⟩
        rw [show atOf t r s = q by unfold atOf; rw [if_pos hh'.out, ← hu.out, upTo_stop (fun h => h.1 HE.out)]]
        rfl
      · have e2 : (q != t.first) = true := by simp [e1]
        have HE := Aside0.mk e1
        clear e1
        by_cases e3 : (getD t.ns q).s > s
        · have e4 : decide ((getD t.ns q).s > s) = true := decide_eq_true e3
          have HN := Aside0.mk (HW.out.up q hq.out HE.out)
          have HP := Aside0.mk (HW.out.wide _ HN.out.1)
          have HU := Aside0.mk ((upTo_step HW.out hq.out HE.out e3).trans hu.out)
          have HR := Aside0.mk (HW.out.root _ HN.out.1)
          clear e3
          go_wp2_with (at_lookup; refine look_one hmr.out rfl _ _ rfl rfl _ rfl HP.out ?_)
          go_roundw
          case rel => exact ⟨_, rfl, ⟨HN.out.1⟩, HU, ⟨set3 hb.out⟩, ⟨((HB.out.setCell (p := ⟨w.heap.size, 0, none⟩) (Nat.le_refl _) _).setCell (p := ⟨w.heap.size, 1, none⟩) (Nat.le_refl _) _).setCell (p := ⟨w.heap.size, 2, none⟩) (Nat.le_refl _) _⟩⟩
          case measure => simp [intOf]; have := HN.out.2; have := HR.out; omega
        · have e4 : decide ((getD t.ns q).s > s) = false := decide_eq_false e3
          have HE3 := Aside0.mk e3
          clear e3
          go_wp2_with fail
          go_ret
          refine ⟨?_, HB.out⟩
          rw [show atOf t r s = q by unfold atOf; rw [if_pos hh'.out, ← hu.out, upTo_stop (fun h => by have := HE3.out; have := h.2; omega)]]
          rfl
  · have hh' : has t.ns r = false := by simpa using hh
    have hH := Aside0.mk hh'
    clear hh hh'
    go_enter Tryd.func17, Tryd.ntmps17
    go_wp2_with (at_lookup; refine look_ok hm.out rfl _ _ rfl rfl _ rfl hk.out ?_; rw [hH.out])
    refine wp_loop_rounds 1 ?_
    rw [rounds_succ]
    go_wp2_with fail
    go_ret
    exact ⟨by unfold atOf; rw [hH.out]; simp, by repeat (first | exact Below.refl _ _ | refine Below.setCell ?_ (by simp <;> omega) _ | refine Below.alloc ?_ (by simp <;> omega) _)⟩

/-- Does a block stand on another one, or is it that? -/
def below (t : T) (r on : Int) : Bool := has t.ns on && has t.ns r && (atOf t r (getD t.ns on).s == on)
set_option maxHeartbeats 2000000 in
theorem below_calls (p B : Nat) (t : T) (r on : Int) (w : World) (h : Mem w p B t) (W : Well t) (hr : 0 ≤ r ∧ r ≤ 18446744073709551615) (ho : 0 ≤ on ∧ on ≤ 18446744073709551615) :
    Calls Tryd.prog 16 #[.pointer (some ⟨p, 0, none⟩), .int .u64 r, .int .u64 on] w fun e w' => e = .returned (.bool (below t r on)) ∧ Below w.heap.size w w' := by
  have hm := Aside0.mk h
  have c1 := h.cell1
  have hk := Aside0.mk ho
  have hk2 := Aside0.mk hr
  have HW := Aside0.mk W
  clear h W hr ho
  by_cases hh : has t.ns on = true
  · have hh' := Aside0.mk hh
    clear hh
    by_cases hg : has t.ns r = true
    · have hg' := Aside0.mk hg
      clear hg
      go_enter Tryd.func16, Tryd.ntmps16
      go_wp2_with (first
        | (at_lookup; refine look_ok hm.out rfl _ _ rfl rfl _ rfl hk.out ?_; rw [hh'.out])
        | (go_at_call 20; refine (has_calls p B t r _ (hm.out.below ?sb) hk2.out).mono ?_; (case sb => repeat (first | exact Below.refl _ _ | refine Below.setCell ?_ (by simp <;> omega) _ | refine Below.alloc ?_ (by simp <;> omega) _)); rw [hg'.out]; rintro e w1 ⟨rfl, hb⟩; have BW := Aside0.mk (((Below.refl w.heap.size w).alloc (Nat.le_refl _) _).trans (hb.mono (by simp))); have HN := Aside0.mk ((hb.block w.heap.size (by simp)).trans (new_block _ _)); clear hb; obtain ⟨b0, b1, b2, z0, z1, z2⟩ := cells3 HN.out)
        | (go_at_call 17; refine (at_calls p B t r _ _ (hm.out.below BW.out) HW.out hk2.out).mono ?_; rintro e w2 ⟨rfl, hb⟩; have BW2 := Aside0.mk (BW.out.trans (hb.mono BW.out.size)); clear hb))
      go_ret
      exact ⟨by unfold below; rw [hh'.out, hg'.out]; rfl, BW2.out⟩
    · have hg' : has t.ns r = false := by simpa using hg
      have hG := Aside0.mk hg'
      clear hg hg'
      go_enter Tryd.func16, Tryd.ntmps16
      go_wp2_with (first
        | (at_lookup; refine look_ok hm.out rfl _ _ rfl rfl _ rfl hk.out ?_; rw [hh'.out])
        | (go_at_call 20; refine (has_calls p B t r _ (hm.out.below ?sb) hk2.out).mono ?_; (case sb => repeat (first | exact Below.refl _ _ | refine Below.setCell ?_ (by simp <;> omega) _ | refine Below.alloc ?_ (by simp <;> omega) _)); rw [hG.out]; rintro e w1 ⟨rfl, hb⟩; have BW := Aside0.mk (((Below.refl w.heap.size w).alloc (Nat.le_refl _) _).trans (hb.mono (by simp))); clear hb))
      go_ret
      exact ⟨by unfold below; rw [hh'.out, hG.out]; rfl, BW.out⟩
  · have hh' : has t.ns on = false := by simpa using hh
    have hH := Aside0.mk hh'
    clear hh hh'
    go_enter Tryd.func16, Tryd.ntmps16
    go_wp2_with (at_lookup; refine look_ok hm.out rfl _ _ rfl rfl _ rfl hk.out ?_; rw [hH.out])
    go_ret
    exact ⟨by unfold below; rw [hH.out]; rfl, by repeat (first | exact Below.refl _ _ | refine Below.setCell ?_ (by simp <;> omega) _ | refine Below.alloc ?_ (by simp <;> omega) _)⟩
end Go.Proofs.YtgbhblbfodphfaaDoor.Tree
namespace Go.Proofs.YtgbhblbfodphfaaDoor.Tree
open Go.RowKit Go.Maps Go.ChangeMaps Go.Proofs.YtgbhblbfodphfaaDoorW.PrintWords
set_option linter.unusedVariables false

section
variable {ops : Array Oper} {rest : List Oper} {o : Oper} {a : Act} {Q : Exit → Act → World → Prop}
/-- An entry of a map's literal at the operation: a node is put at a root that is not there. -/
theorem insert_node {w : World} {B n : Nat} {D : DataW Unit} {ns : List Nd} (hown : w.ownsMap Tryd.prog 25 ndElem B n D) (hS : Says D ns) (hn : n < maxLen) (hg : o.guard = none) (m x v : Operand) (hop : o.op = Op.insert 51 m x v) (hm : a.eval m = .map (some B)) (r p s t : Int) (hx : a.eval x = .int .u64 r) (hr : 0 ≤ r ∧ r ≤ 18446744073709551615) (hv : a.eval v = .agg #[.int .u64 p, .int .i64 s, .int .i64 t]) (hno : has ns r = false)
    (hK : ∀ w' D', w'.ownsMap Tryd.prog 25 ndElem B (n + 1) D' → Says D' (ns ++ [⟨r, p, s, t⟩]) → w.mapTurned w' B → wpList Tryd.prog ops Q rest (a.put o.dst undef) w') : wpList Tryd.prog ops Q (o :: rest) a w := by
  refine wpList_plain hg fun K' hK' => ?_
  obtain ⟨w', hrun, r1, r2⟩ := hown.store law Tryd.underlying51 hn (hkey hr) (ndElem_mk p s t)
  unfold Oper.wp
  simp [execOp, hop, hm, hx, hv, hrun, Result.andThen]
  exact hK' _ _ (hK w' _ r1 (says_put hS r p s t hno) r2)
end
theorem turned_below {w w' : World} {b B : Nat} (h : w.mapTurned w' b) (hB : B ≤ b) : Below B w w' := by
  obtain ⟨es, clock, es', clock', h1, rfl⟩ := h
  refine ⟨rfl, rfl, rfl, by simp [setBlock], fun i hi => ?_⟩
  show (w.heap.setIfInBounds b _)[i]? = w.heap[i]?
  rw [Array.getElem?_setIfInBounds_ne (by omega)]

set_option maxHeartbeats 1000000 in
theorem of_calls (r s : Int) (w : World) (hr : 0 ≤ r ∧ r ≤ 18446744073709551615) :
    Calls Tryd.prog 6 #[.int .u64 r, .int .i64 s] w fun e w' => ∃ p B, e = .returned (.pointer (some ⟨p, 0, none⟩)) ∧ Mem w' p B ⟨r, [⟨r, r, s, 0⟩]⟩ ∧ Below w.heap.size w w' ∧ w.heap.size ≤ p ∧ w.heap.size ≤ B := by
  have hk := Aside0.mk hr
  clear hr
  have hmk : ∀ w : World, (Instr.makeMap 51 none).run Tryd.prog w = .ok (.map (some w.heap.size)) (w.alloc (.map #[] 0)) := fun _ => run_makeMap _ _
  have hown := Aside0.mk (World.ownsMap_made w Tryd.prog 25 ndElem)
  go_enter Tryd.func6, Tryd.ntmps6
  go_wp2_with (refine insert_node hown.out says_nil (by unfold maxLen; omega) rfl _ _ _ rfl rfl r r s 0 rfl hk.out rfl rfl ?_; intro w1 D1 h1 h2 h3; have HB := Aside0.mk (((Below.refl w.heap.size w).alloc (Nat.le_refl _) _).trans (turned_below h3 (Nat.le_refl _))); have H1 := Aside0.mk h1; have H2 := Aside0.mk h2; clear h1 h2 h3)
  go_ret
  refine ⟨w1.heap.size, w.heap.size, rfl, ⟨?_, ?_, ?_⟩, ?_, ?_, ?_⟩
  · have h := H1.out.lt
    show w1.heap.size ≠ w.heap.size
    omega
  · exact new_block _ _
  · exact ⟨D1, H1.out.alloc _, H2.out⟩
  · exact HB.out.alloc HB.out.size _
  · exact HB.out.size
  · exact Nat.le_refl _
end Go.Proofs.YtgbhblbfodphfaaDoor.Tree
namespace Go.Proofs.YtgbhblbfodphfaaDoor.Tree
open Go.RowKit Go.Maps Go.ChangeMaps Go.Proofs.YtgbhblbfodphfaaDoorW.PrintWords
set_option linter.unusedVariables false

/-- Which error Add answers; none, if the block is laid. -/
def addErr (t : T) (r p s : Int) : Option Int :=
  if has t.ns r = true then some 6 else if has t.ns p = false then some 5 else if s ≤ (getD t.ns p).s then some 7 else if (t.ns.length : Int) ≥ 1024 then some 12 else none
def addOf (t : T) (r p s : Int) : T := if addErr t r p s = none then ⟨t.first, t.ns ++ [⟨r, p, s, (getD t.ns p).h + 1⟩]⟩ else t
def errV : Option Int → Value
  | none => .nilIface
  | some c => .iface 29 (.int .i64 c)
theorem Mem.len {w : World} {p B : Nat} {t : T} (h : Mem w p B t) : ∃ D : DataW Unit, w.ownsMap Tryd.prog 25 ndElem B t.ns.length D ∧ Says D t.ns ∧ Maps.size D = t.ns.length := by
  obtain ⟨D, h1, h2⟩ := h.map
  exact ⟨D, h1, h2, h2.size⟩

set_option maxHeartbeats 2000000 in
theorem add_twice (p B : Nat) (t : T) (r q s : Int) (w : World) (h : Mem w p B t) (hr : 0 ≤ r ∧ r ≤ 18446744073709551615) (hq : 0 ≤ q ∧ q ≤ 18446744073709551615) (h1 : has t.ns r = true) :
    Calls Tryd.prog 7 #[.pointer (some ⟨p, 0, none⟩), .int .u64 r, .int .u64 q, .int .i64 s] w fun e w' => e = .returned (errV (some 6)) ∧ Below w.heap.size w w' := by
  have hm := Aside0.mk h
  have c1 := h.cell1
  have hk := Aside0.mk hq
  have hk2 := Aside0.mk hr
  have hg := Aside0.mk h1
  clear h hr hq h1
  go_enter Tryd.func7, Tryd.ntmps7
  go_wp2_with (first
    | (at_lookup; refine look_ok hm.out rfl _ _ rfl rfl _ rfl hk.out ?_)
    | (go_at_call 20; refine (has_calls p B t r _ (hm.out.below ?sb) hk2.out).mono ?_; (case sb => repeat (first | exact Below.refl _ _ | refine Below.setCell ?_ (by simp <;> omega) _ | refine Below.alloc ?_ (by simp <;> omega) _)); rw [hg.out]; rintro e w1 ⟨rfl, hb⟩; have BW := Aside0.mk (((Below.refl w.heap.size w).alloc (Nat.le_refl _) _).trans (hb.mono (by simp))); clear hb))
  go_ret
  exact ⟨rfl, BW.out⟩
set_option maxHeartbeats 2000000 in
theorem add_parent (p B : Nat) (t : T) (r q s : Int) (w : World) (h : Mem w p B t) (hr : 0 ≤ r ∧ r ≤ 18446744073709551615) (hq : 0 ≤ q ∧ q ≤ 18446744073709551615) (h1 : has t.ns r = false) (h2 : has t.ns q = false) :
    Calls Tryd.prog 7 #[.pointer (some ⟨p, 0, none⟩), .int .u64 r, .int .u64 q, .int .i64 s] w fun e w' => e = .returned (errV (some 5)) ∧ Below w.heap.size w w' := by
  have hm := Aside0.mk h
  have c1 := h.cell1
  have hk := Aside0.mk hq
  have hk2 := Aside0.mk hr
  have hg := Aside0.mk h1
  have hp := Aside0.mk h2
  clear h2
  clear h hr hq h1
  go_enter Tryd.func7, Tryd.ntmps7
  go_wp2_with (first
    | (at_lookup; refine look_ok hm.out rfl _ _ rfl rfl _ rfl hk.out ?_; rw [hp.out])
    | (go_at_call 20; refine (has_calls p B t r _ (hm.out.below ?sb) hk2.out).mono ?_; (case sb => repeat (first | exact Below.refl _ _ | refine Below.setCell ?_ (by simp <;> omega) _ | refine Below.alloc ?_ (by simp <;> omega) _)); rw [hg.out]; rintro e w1 ⟨rfl, hb⟩; have BW := Aside0.mk (((Below.refl w.heap.size w).alloc (Nat.le_refl _) _).trans (hb.mono (by simp))); have HN := Aside0.mk ((hb.block w.heap.size (by simp)).trans (new_block _ _)); clear hb; obtain ⟨b0, b1, b2, z0, z1, z2⟩ := cells3 HN.out; have d1 := (hm.out.below BW.out).cell1; obtain ⟨D, hD, hS, hZ⟩ := (hm.out.below BW.out).len; have HD := Aside0.mk hD; have HS := Aside0.mk hS; have HZ := Aside0.mk hZ; clear hD hS hZ)
    | (at_len; refine wpList_len_own _ rfl _ 51 rfl _ _ Tryd.underlying51 _ B t.ns.length D rfl HD.out ?_; rw [HZ.out]))
  go_ret
  exact ⟨rfl, BW.out⟩

set_option maxHeartbeats 2000000 in
theorem add_slot (p B : Nat) (t : T) (r q s : Int) (w : World) (h : Mem w p B t) (hr : 0 ≤ r ∧ r ≤ 18446744073709551615) (hq : 0 ≤ q ∧ q ≤ 18446744073709551615) (h1 : has t.ns r = false) (h2 : has t.ns q = true) (h3 : s ≤ (getD t.ns q).s) :
    Calls Tryd.prog 7 #[.pointer (some ⟨p, 0, none⟩), .int .u64 r, .int .u64 q, .int .i64 s] w fun e w' => e = .returned (errV (some 7)) ∧ Below w.heap.size w w' := by
  have hm := Aside0.mk h
  have c1 := h.cell1
  have hk := Aside0.mk hq
  have hk2 := Aside0.mk hr
  have hg := Aside0.mk h1
  have hp := Aside0.mk h2
  have h4 : decide (s ≤ (getD t.ns q).s) = true := decide_eq_true h3
  clear h2 h3
  clear h hr hq h1
  go_enter Tryd.func7, Tryd.ntmps7
  go_wp2_with (first
    | (at_lookup; refine look_ok hm.out rfl _ _ rfl rfl _ rfl hk.out ?_; rw [hp.out])
    | (go_at_call 20; refine (has_calls p B t r _ (hm.out.below ?sb) hk2.out).mono ?_; (case sb => repeat (first | exact Below.refl _ _ | refine Below.setCell ?_ (by simp <;> omega) _ | refine Below.alloc ?_ (by simp <;> omega) _)); rw [hg.out]; rintro e w1 ⟨rfl, hb⟩; have BW := Aside0.mk (((Below.refl w.heap.size w).alloc (Nat.le_refl _) _).trans (hb.mono (by simp))); have HN := Aside0.mk ((hb.block w.heap.size (by simp)).trans (new_block _ _)); clear hb; obtain ⟨b0, b1, b2, z0, z1, z2⟩ := cells3 HN.out; have d1 := (hm.out.below BW.out).cell1; obtain ⟨D, hD, hS, hZ⟩ := (hm.out.below BW.out).len; have HD := Aside0.mk hD; have HS := Aside0.mk hS; have HZ := Aside0.mk hZ; clear hD hS hZ)
    | (at_len; refine wpList_len_own _ rfl _ 51 rfl _ _ Tryd.underlying51 _ B t.ns.length D rfl HD.out ?_; rw [HZ.out]))
  go_ret
  exact ⟨rfl, BW.out⟩

set_option maxHeartbeats 2000000 in
theorem add_full (p B : Nat) (t : T) (r q s : Int) (w : World) (h : Mem w p B t) (hr : 0 ≤ r ∧ r ≤ 18446744073709551615) (hq : 0 ≤ q ∧ q ≤ 18446744073709551615) (h1 : has t.ns r = false) (h2 : has t.ns q = true) (h3 : ¬ s ≤ (getD t.ns q).s) (h5 : (t.ns.length : Int) ≥ 1024) :
    Calls Tryd.prog 7 #[.pointer (some ⟨p, 0, none⟩), .int .u64 r, .int .u64 q, .int .i64 s] w fun e w' => e = .returned (errV (some 12)) ∧ Below w.heap.size w w' := by
  have hm := Aside0.mk h
  have c1 := h.cell1
  have hk := Aside0.mk hq
  have hk2 := Aside0.mk hr
  have hg := Aside0.mk h1
  have hp := Aside0.mk h2
  have h4 : decide (s ≤ (getD t.ns q).s) = false := decide_eq_false h3
  have h6 : decide ((t.ns.length : Int) ≥ 1024) = true := decide_eq_true h5
  clear h2 h3
  clear h hr hq h1
  go_enter Tryd.func7, Tryd.ntmps7
  go_wp2_with (first
    | (at_lookup; refine look_ok hm.out rfl _ _ rfl rfl _ rfl hk.out ?_; rw [hp.out])
    | (go_at_call 20; refine (has_calls p B t r _ (hm.out.below ?sb) hk2.out).mono ?_; (case sb => repeat (first | exact Below.refl _ _ | refine Below.setCell ?_ (by simp <;> omega) _ | refine Below.alloc ?_ (by simp <;> omega) _)); rw [hg.out]; rintro e w1 ⟨rfl, hb⟩; have BW := Aside0.mk (((Below.refl w.heap.size w).alloc (Nat.le_refl _) _).trans (hb.mono (by simp))); have HN := Aside0.mk ((hb.block w.heap.size (by simp)).trans (new_block _ _)); clear hb; obtain ⟨b0, b1, b2, z0, z1, z2⟩ := cells3 HN.out; have d1 := (hm.out.below BW.out).cell1; obtain ⟨D, hD, hS, hZ⟩ := (hm.out.below BW.out).len; have HD := Aside0.mk hD; have HS := Aside0.mk hS; have HZ := Aside0.mk hZ; clear hD hS hZ)
    | (at_len; refine wpList_len_own _ rfl _ 51 rfl _ _ Tryd.underlying51 _ B t.ns.length D rfl HD.out ?_; rw [HZ.out]))
  go_ret
  exact ⟨rfl, BW.out⟩

theorem put_node {w : World} {B n : Nat} {D : DataW Unit} {ns : List Nd} {ops : Array Oper} {rest : List Oper} {o : Oper} {a : Act} {Q : Exit → Act → World → Prop} (hown : w.ownsMap Tryd.prog 25 ndElem B n D) (hS : Says D ns) (hn : n < maxLen) (hg : o.guard = none) (m x v : Operand) (hop : o.op = Op.mapUpdate 51 m x v) (hm : a.eval m = .map (some B)) (r p s t : Int) (hx : a.eval x = .int .u64 r) (hr : 0 ≤ r ∧ r ≤ 18446744073709551615) (hv : a.eval v = .agg #[.int .u64 p, .int .i64 s, .int .i64 t]) (hno : has ns r = false)
    (hK : ∀ w' D', w'.ownsMap Tryd.prog 25 ndElem B (n + 1) D' → Says D' (ns ++ [⟨r, p, s, t⟩]) → w.mapTurned w' B → wpList Tryd.prog ops Q rest (a.put o.dst undef) w') : wpList Tryd.prog ops Q (o :: rest) a w := by
  refine wpList_plain hg fun K' hK' => ?_
  obtain ⟨w', hrun, r1, r2⟩ := hown.store law Tryd.underlying51 hn (hkey hr) (ndElem_mk p s t)
  unfold Oper.wp
  simp [execOp, hop, hm, hx, hv, hrun, Result.andThen]
  exact hK' _ _ (hK w' _ r1 (says_put hS r p s t hno) r2)

theorem turned_kept {w w' : World} {B : Nat} (h : w.mapTurned w' B) : Kept w w' (fun k => k = B) := by
  obtain ⟨es, clock, es', clock', e1, e2⟩ := h
  rw [e2]
  refine ⟨by simp [setBlock], fun i _ hi => ?_⟩
  show (w.heap.setIfInBounds B _)[i]? = _
  rw [Array.getElem?_setIfInBounds_ne (fun h => hi h.symm)]
set_option maxRecDepth 100000 in
set_option maxHeartbeats 2000000 in
theorem add_done (p B : Nat) (t : T) (r q s : Int) (w : World) (h : Mem w p B t) (hr : 0 ≤ r ∧ r ≤ 18446744073709551615) (hq : 0 ≤ q ∧ q ≤ 18446744073709551615) (h1 : has t.ns r = false) (h2 : has t.ns q = true) (h3 : ¬ s ≤ (getD t.ns q).s) (h5 : ¬ (t.ns.length : Int) ≥ 1024) (h7 : 0 ≤ (getD t.ns q).h ∧ (getD t.ns q).h < 1024) :
    Calls Tryd.prog 7 #[.pointer (some ⟨p, 0, none⟩), .int .u64 r, .int .u64 q, .int .i64 s] w fun e w' => e = .returned (errV none) ∧ Mem w' p B ⟨t.first, t.ns ++ [⟨r, q, s, (getD t.ns q).h + 1⟩]⟩ ∧ (∀ b, b ≤ B → b ≤ w.heap.size → Below b w w') ∧ Kept w w' (fun k => k = B) := by
  have hm := Aside0.mk h
  have c1 := h.cell1
  have hk := Aside0.mk hq
  have hk2 := Aside0.mk hr
  have hg := Aside0.mk h1
  have hp := Aside0.mk h2
  have h4 : decide (s ≤ (getD t.ns q).s) = false := decide_eq_false h3
  have h6 : decide ((t.ns.length : Int) ≥ 1024) = false := decide_eq_false h5
  have hw : IntKind.i64.wrap ((getD t.ns q).h + 1) = (getD t.ns q).h + 1 := by first | (rw [i64_w]; unfold wrap64; omega) | (simp [IntKind.wrap, IntKind.bits, IntKind.signed]; omega)
  have hl : Aside0 (t.ns.length < maxLen) := ⟨by unfold maxLen; omega⟩
  clear h hr hq h1 h2 h3 h5 h7
  go_enter Tryd.func7, Tryd.ntmps7
  go_wp2_with (first
    | (at_lookup; refine look_ok hm.out rfl _ _ rfl rfl _ rfl hk.out ?_; rw [hp.out])
    | (go_at_call 20; refine (has_calls p B t r _ (hm.out.below ?sb) hk2.out).mono ?_; (case sb => repeat (first | exact Below.refl _ _ | refine Below.setCell ?_ (by simp <;> omega) _ | refine Below.alloc ?_ (by simp <;> omega) _)); rw [hg.out]; rintro e w1 ⟨rfl, hb⟩; have BW := Aside0.mk (((Below.refl w.heap.size w).alloc (Nat.le_refl _) _).trans (hb.mono (by simp))); have HN := Aside0.mk ((hb.block w.heap.size (by simp)).trans (new_block _ _)); clear hb; obtain ⟨b0, b1, b2, z0, z1, z2⟩ := cells3 HN.out; have d1 := (hm.out.below BW.out).cell1; obtain ⟨D, hD, hS, hZ⟩ := (hm.out.below BW.out).len; have HD := Aside0.mk hD; have HS := Aside0.mk hS; have HZ := Aside0.mk hZ; clear hD hS hZ)
    | (at_len; refine wpList_len_own _ rfl _ 51 rfl _ _ Tryd.underlying51 _ B t.ns.length D rfl HD.out ?_; rw [HZ.out]))
  refine wp_region_still_tail 11 (by kernel_rfl) (by kernel_rfl) ?_
  simp only [List.take_succ_cons, List.take_zero, List.drop_succ_cons, List.drop_zero]
  repeat still_step
  refine wpStill_nil ?_
  refine put_node HD.out HS.out hl.out rfl _ _ _ rfl rfl r q s ((getD t.ns q).h + 1) rfl hk2.out ?hv hg.out ?_
  case hv =>
    simp only [Act.eval]
    simp
  intro w2 D2 r1 r2 r3
  have R1 := Aside0.mk r1
  have R2 := Aside0.mk r2
  have R3 := Aside0.mk r3
  clear r1 r2 r3
  go_wp2_with fail
  go_ret
  refine ⟨rfl, ?_, fun b hb1 hb2 => (BW.out.mono hb2).trans (Below.trans (b := { w1 with drawn := w1.drawn + 1 }) ⟨rfl, rfl, rfl, Nat.le_refl _, fun _ _ => rfl⟩ (turned_below R3.out hb1)), (Kept.of_below BW.out _).then_ (turned_kept (w := { w1 with drawn := w1.drawn + 1 }) R3.out) (fun _ h => Or.inl h)⟩
  have hm1 := hm.out.below BW.out
  obtain ⟨es, clock, es', clock', e1, e2⟩ := R3.out
  refine ⟨hm.out.ne, ?_, D2, ?_, R2.out⟩
  · rw [e2]
    show (w1.heap.setIfInBounds B _)[p]? = _
    rw [Array.getElem?_setIfInBounds_ne (fun h => hm.out.ne h.symm)]
    exact hm1.cells
  · have h := R1.out
    simpa using h
end Go.Proofs.YtgbhblbfodphfaaDoor.Tree
namespace Go.Proofs.YtgbhblbfodphfaaDoor.Tree
open Go.RowKit Go.Maps Go.ChangeMaps Go.Proofs.YtgbhblbfodphfaaDoorW.PrintWords
set_option linter.unusedVariables false

/-- Add, whatever it answers. -/
theorem add_calls (p B : Nat) (t : T) (r q s : Int) (w : World) (h : Mem w p B t) (hr : 0 ≤ r ∧ r ≤ 18446744073709551615) (hq : 0 ≤ q ∧ q ≤ 18446744073709551615) (hh : ∀ x, has t.ns x = true → 0 ≤ (getD t.ns x).h ∧ (getD t.ns x).h < 1024) :
    Calls Tryd.prog 7 #[.pointer (some ⟨p, 0, none⟩), .int .u64 r, .int .u64 q, .int .i64 s] w fun e w' => e = .returned (errV (addErr t r q s)) ∧ Mem w' p B (addOf t r q s) ∧ (∀ b, b ≤ B → b ≤ w.heap.size → Below b w w') ∧ Kept w w' (fun k => k = B) := by
  have keep : ∀ c, addErr t r q s = some c → ∀ (e : Ending) (w' : World), (e = .returned (errV (some c)) ∧ Below w.heap.size w w') → e = .returned (errV (addErr t r q s)) ∧ Mem w' p B (addOf t r q s) ∧ (∀ b, b ≤ B → b ≤ w.heap.size → Below b w w') ∧ Kept w w' (fun k => k = B) := by
    rintro c hc e w' ⟨rfl, hb⟩
    refine ⟨by rw [hc], ?_, fun b _ h2 => hb.mono h2, Kept.of_below hb _⟩
    unfold addOf
    rw [hc, if_neg (by simp)]
    exact h.below hb
  by_cases h1 : has t.ns r = true
  · exact (add_twice p B t r q s w h hr hq h1).mono fun e w' => keep 6 (by unfold addErr; rw [if_pos h1]) e w'
  · have h1' : has t.ns r = false := by simpa using h1
    by_cases h2 : has t.ns q = false
    · exact (add_parent p B t r q s w h hr hq h1' h2).mono fun e w' => keep 5 (by unfold addErr; rw [if_neg h1, if_pos h2]) e w'
    · have h2' : has t.ns q = true := by simpa using h2
      by_cases h3 : s ≤ (getD t.ns q).s
      · exact (add_slot p B t r q s w h hr hq h1' h2' h3).mono fun e w' => keep 7 (by unfold addErr; rw [if_neg h1, if_neg h2, if_pos h3]) e w'
      · by_cases h5 : (t.ns.length : Int) ≥ 1024
        · exact (add_full p B t r q s w h hr hq h1' h2' h3 h5).mono fun e w' => keep 12 (by unfold addErr; rw [if_neg h1, if_neg h2, if_neg h3, if_pos h5]) e w'
        · have hn : addErr t r q s = none := by unfold addErr; rw [if_neg h1, if_neg h2, if_neg h3, if_neg h5]
          refine (add_done p B t r q s w h hr hq h1' h2' h3 h5 (hh q h2')).mono fun e w' hx => ?_
          rw [hn]
          unfold addOf
          rw [hn, if_pos rfl]
          exact hx
end Go.Proofs.YtgbhblbfodphfaaDoor.Tree
