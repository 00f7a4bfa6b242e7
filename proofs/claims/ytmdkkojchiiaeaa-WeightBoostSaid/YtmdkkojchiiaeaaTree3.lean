/-
  Package tree: Of, by its contract over memory.
-/
import Derived.Test.YtmdkkojchiiaeaaTree2
import Derived.Carry
import Derived.ChangeMaps4
namespace Go.Proofs.Ytmdkkojchiiaeaa.Tree
open Go.RowKit Go.Maps Go.ChangeMaps Go.Proofs.YtmdkkojchiiaeaaW.PrintWords
set_option linter.unusedVariables false

section
variable {ops : Array Oper} {rest : List Oper} {o : Oper} {a : Act} {Q : Exit → Act → World → Prop}
/-- An entry of a map's literal at the operation: a node is put at a root that is not there. -/
theorem insert_node {w : World} {B n : Nat} {D : DataW Unit} {ns : List Nd} (hown : w.ownsMap Try.prog 25 ndElem B n D) (hS : Says D ns) (hn : n < maxLen) (hg : o.guard = none) (m x v : Operand) (hop : o.op = Op.insert 65 m x v) (hm : a.eval m = .map (some B)) (r p s t : Int) (hx : a.eval x = .int .u64 r) (hr : 0 ≤ r ∧ r ≤ 18446744073709551615) (hv : a.eval v = .agg #[.int .u64 p, .int .i64 s, .int .i64 t]) (hno : has ns r = false)
    (hK : ∀ w' D', w'.ownsMap Try.prog 25 ndElem B (n + 1) D' → Says D' (ns ++ [⟨r, p, s, t⟩]) → w.mapTurned w' B → wpList Try.prog ops Q rest (a.put o.dst undef) w') : wpList Try.prog ops Q (o :: rest) a w := by
  refine wpList_plain hg fun K' hK' => ?_
  obtain ⟨w', hrun, r1, r2⟩ := hown.store law Try.underlying65 hn (hkey hr) (ndElem_mk p s t)
  unfold Oper.wp
  simp [execOp, hop, hm, hx, hv, hrun, Result.andThen]
  exact hK' _ _ (hK w' _ r1 (says_put hS r p s t hno) r2)
end
theorem turned_below {w w' : World} {b B : Nat} (h : w.mapTurned w' b) (hB : B ≤ b) : Below B w w' := by
  obtain ⟨es, clock, es', clock', h1, rfl⟩ := h
  refine ⟨rfl, rfl, rfl, by simp [setBlock], fun i hi => ?_⟩
  show (w.heap.setIfInBounds b _)[i]? = w.heap[i]?
  rw [Array.getElem?_setIfInBounds_ne (by omega)]

set_option maxHeartbeats 1000000 in
theorem of_calls (r s : Int) (w : World) (hr : 0 ≤ r ∧ r ≤ 18446744073709551615) :
    Calls Try.prog 26 #[.int .u64 r, .int .i64 s] w fun e w' => ∃ p B, e = .returned (.pointer (some ⟨p, 0, none⟩)) ∧ Mem w' p B ⟨r, [⟨r, r, s, 0⟩]⟩ ∧ Below w.heap.size w w' ∧ w.heap.size ≤ p ∧ w.heap.size ≤ B := by
  have hk := Aside0.mk hr
  clear hr
  have hmk : ∀ w : World, (Instr.makeMap 65 none).run Try.prog w = .ok (.map (some w.heap.size)) (w.alloc (.map #[] 0)) := fun _ => run_makeMap _ _
  have hown := Aside0.mk (World.ownsMap_made w Try.prog 25 ndElem)
  go_enter Try.func26, Try.ntmps26
  go_wp2_with (refine insert_node hown.out says_nil (by unfold maxLen; omega) rfl _ _ _ rfl rfl r r s 0 rfl hk.out rfl rfl ?_; intro w1 D1 h1 h2 h3; have HB := Aside0.mk (((Below.refl w.heap.size w).alloc (Nat.le_refl _) _).trans (turned_below h3 (Nat.le_refl _))); have H1 := Aside0.mk h1; have H2 := Aside0.mk h2; clear h1 h2 h3)
  go_ret
  refine ⟨w1.heap.size, w.heap.size, rfl, ⟨?_, ?_, ?_⟩, ?_, ?_, ?_⟩
  · have h := H1.out.lt
    show w1.heap.size ≠ w.heap.size
    omega
  · exact new_block _ _
  · exact ⟨D1, H1.out.alloc _, H2.out⟩
  · exact HB.out.alloc HB.out.size _
  · exact HB.out.size
  · exact Nat.le_refl _
end Go.Proofs.Ytmdkkojchiiaeaa.Tree
