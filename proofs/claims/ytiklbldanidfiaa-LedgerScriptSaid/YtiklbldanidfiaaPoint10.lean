/-
  psephoslaw10's point, by its contract.
-/
import Derived.Test.YtiklbldanidfiaaPullP
import Derived.Test.YtiklbldanidfiaaQLx5
namespace Go.Proofs.Ytiklbldanidfiaa.QL
open Go.RowKit Go.Proofs.YtiklbldanidfiaaW.PrintWords Go.Proofs.YtiklbldanidfiaaW.PrintLast Go.Proofs.YtiklbldanidfiaaW.PrintMore Go.Proofs.Ytiklbldanidfiaa.Own Go.Proofs.Ytiklbldanidfiaa.Justify
set_option linter.unusedVariables false
set_option linter.unusedSimpArgs false
attribute [local go_sem] max2_is min2_is max_pair min_pair
set_option maxHeartbeats 4000000 in
set_option maxRecDepth 100000 in
theorem point10_calls (A : Option Addr) (n c : Nat) (sl bo e : Int) (v : Value) (g : Int → Int) (w : World) (h : ChainAt v g w) (he : -9223372036854775808 ≤ e ∧ e ≤ 9223372036854775807) :
    Calls Try.prog 16 #[.agg #[.slice A n c, .int .i64 sl, .int .i64 bo], .int .i64 e, v] w fun x w' => x = .returned (.agg #[.int .i64 e, .int .u64 (g (startOf e sl))]) ∧ Below w.heap.size w w' := by
  have H := Aside0.mk h
  have HS := Aside0.mk (start_f e sl)
  have HW := Aside0.mk (start_range e sl)
  clear h
  go_enter Try.func16, Try.ntmps16
  go_wp2_with (first
    | (go_at_call 17; refine (epoch_Start.calls e sl _ _ HS.out).mono ?_; rintro x w1 ⟨rfl, hb⟩; have HB1 := Aside0.mk (below_then (below_alloc (below_alloc (Below.refl w.heap.size w) _) _) (by simp; omega) hb); have BR1 : Aside0 (w1.heap[w.heap.size + 1]? = some (.cells #[.int .i64 0, .int .u64 0] 34 (0, 0))) := ⟨blk_below (by have h := heap_alloc_new (w.alloc (.cells #[.slice A n c, .int .i64 sl, .int .i64 bo] 24)) (.cells #[.int .i64 0, .int .u64 0] 34); simpa using h) hb⟩; clear hb)
    | (refine fire H.out HB1.out (some 13) rfl rfl (x := .tmp 8) rfl rfl (startOf e sl) rfl HW.out ?_; intro w2 hb; have HB2 := Aside0.mk (below_then HB1.out HB1.out.size hb); have BR2 := Aside0.mk (blk_below BR1.out hb); have hc2 := blk_cell BR2.out; have hf2 := blk_frozen BR2.out; clear hb))
  refine bodyPost_ret (v := .agg #[.int .i64 e, .int .u64 (g (startOf e sl))]) ?_ rfl ⟨rfl, ?_⟩
  · simp [results, Try.results16, go_sem, hc2]
  · exact below_set (below_set HB2.out (by omega)) (by omega)
end Go.Proofs.Ytiklbldanidfiaa.QL
