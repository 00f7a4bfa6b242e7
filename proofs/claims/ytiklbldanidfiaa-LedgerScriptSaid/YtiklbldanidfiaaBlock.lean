/-
  A block known whole: a struct's variable that is stored as a whole; what a store leaves. No condition.
-/
import Derived.Test.YtiklbldanidfiaaOwn
namespace Go.Proofs.Ytiklbldanidfiaa.Block
open Go.RowKit Go.Proofs.YtiklbldanidfiaaW.PrintWords Go.Proofs.Ytiklbldanidfiaa.Own

/-- A store of a whole struct into a block that is known whole. -/
theorem store_block {P : Program} {ops : Array Oper} {rest : List Oper} {o : Oper} {a : Act} {Q : Exit → Act → World → Prop} {W : World} (hN : o.dst = none) (hgd : o.guard = none) (t : TypeId) (p x : Operand) (ho : o.op = .store t p x) (g : Nat) (e : TypeId) (cur cs : Array Value)
    (haddr : a.eval p = .pointer (some ⟨g, 0, none⟩)) (hx : a.eval x = .agg cs) (hh : W.heap[g]? = some (.cells cur e (0, 0))) (hsz : cs.size = cur.size) (ht : (P.info? t).map (·.size) = some cs.size) (h1 : ∀ q ∈ cs.toList, q.oneCell' = true)
    (h : ∀ w1, w1.heap[g]? = some (.cells cs e (0, 0)) → W.grownBy w1 (some g) → wpList P ops Q rest a w1) : wpList P ops Q (o :: rest) a W := by
  have hrun := run_store_run (P := P) (w := W) (o := 0) t (.agg cs) cs.toList hh rfl (by rw [ht, Array.length_toList]) (by simp [hsz]) h1
  have hs := setCells_same g cs.toList 0 W
  have hr := setCells_row cs.toList 0 W cur hh (by simp [hsz])
  refine wpList_plain hgd fun K hK => ?_
  unfold Oper.wp execOp
  simp only [ho, haddr, hx, Sem.run_bind, Sem.run_pure, Result.andThen_ok, hrun]
  show K (a.put o.dst undef) _
  rw [hN]
  refine hK a _ (h _ ?_ ⟨hs.1, hs.2.1, hs.2.2.1, by rw [hs.2.2.2]; omega, fun k hk hne => setCells_far _ _ k (fun e => hne (by rw [e]))⟩)
  obtain ⟨cur', h2, h3, h4⟩ := hr
  have : cur' = cs := by
    apply Array.ext'
    rw [h4]
    rw [List.drop_of_length_le (show cur.toList.length ≤ 0 + cs.toList.length by simp [hsz]), List.take_zero, List.nil_append, List.append_nil]
  rwa [this] at h2

/-- Boxes laid one behind the other. -/
theorem box1 (w : World) (A : Array Value) (s : TypeId) : (w.alloc (.cells A s)).heap[w.heap.size]? = some (.cells A s (0, 0)) := heap_alloc_new w _
theorem box3 (w : World) (A B C : Array Value) (s t u : TypeId) : (((w.alloc (.cells A s)).alloc (.cells B t)).alloc (.cells C u)).heap[w.heap.size]? = some (.cells A s (0, 0)) ∧
    (((w.alloc (.cells A s)).alloc (.cells B t)).alloc (.cells C u)).heap[w.heap.size + 1]? = some (.cells B t (0, 0)) ∧ (((w.alloc (.cells A s)).alloc (.cells B t)).alloc (.cells C u)).heap[w.heap.size + 1 + 1]? = some (.cells C u (0, 0)) := by
  refine ⟨?_, ?_, ?_⟩
  · rw [heap_alloc_old _ _ (by simp; omega), heap_alloc_old _ _ (by simp), heap_alloc_new]
  · rw [heap_alloc_old _ _ (by simp), heap_alloc2_new]
  · have := heap_alloc_new ((w.alloc (.cells A s)).alloc (.cells B t)) (.cells C u)
    simpa using this
/-- A block stays as it was below. -/
theorem stays {B : Nat} {w w1 : World} {g : Nat} {o : Obj} (h : w.heap[g]? = some o) (hb : Below B w w1) (hg : g < B) : w1.heap[g]? = some o := (hb.block g hg).trans h
end Go.Proofs.Ytiklbldanidfiaa.Block
