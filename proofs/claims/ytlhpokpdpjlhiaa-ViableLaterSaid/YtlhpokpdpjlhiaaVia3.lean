/-
  Package viable: Of, by its contract.
-/
import Derived.Test.YtlhpokpdpjlhiaaVia2
import Derived.Laws.EntriesVeiled
import Derived.Deep.RegionWith
namespace Go.Proofs.Ytlhpokpdpjlhiaa.Tree
open Go.RowKit Go.Maps Go.Proofs.YtlhpokpdpjlhiaaW.PrintWords
set_option linter.unusedVariables false
set_option maxRecDepth 100000

set_option maxHeartbeats 1000000 in
theorem first_eq (p B : Nat) (t : T) (w : World) (h : Mem w p B t) :
    Calls Try.prog 19 #[.pointer (some ⟨p, 0, none⟩)] w fun e w' => e = .returned (.int .u64 t.first) ∧ w' = w := by
  have c0 := h.cell0
  clear h
  go_enter Try.func19, Try.ntmps19
  go_wp2_with fail
  go_ret
  exact ⟨rfl, rfl⟩
/-- What Of answers: a map, made here, of the blocks that may. -/
structure MapOf (w : World) (k : Nat) (t : T) (lf : Int → Bool) (w' : World) : Prop where
  new_ : w.heap.size ≤ k
  bel : Below w.heap.size w w'
  out : ∃ l, OutAt w' k l ∧ ∀ x, x ∈ l ↔ has t.ns x = true ∧ may t lf x = true
theorem five (w : World) (o1 o2 o3 o4 o5 : Obj) : ∃ W, ((((w.alloc o1).alloc o2).alloc o3).alloc o4).alloc o5 = W ∧ W.heap[w.heap.size]? = some o1 ∧ W.heap[w.heap.size + 1]? = some o2 ∧ W.heap[w.heap.size + 1 + 1]? = some o3 ∧ W.heap[w.heap.size + 1 + 1 + 1]? = some o4 ∧ W.heap[w.heap.size + 1 + 1 + 1 + 1]? = some o5 ∧ Below w.heap.size w W ∧ W.heap.size = w.heap.size + 5 := by
  have s1 : (w.alloc o1).heap.size = w.heap.size + 1 := by simp
  have s2 : ((w.alloc o1).alloc o2).heap.size = w.heap.size + 1 + 1 := by simp
  have s3 : (((w.alloc o1).alloc o2).alloc o3).heap.size = w.heap.size + 1 + 1 + 1 := by simp
  have s4 : ((((w.alloc o1).alloc o2).alloc o3).alloc o4).heap.size = w.heap.size + 1 + 1 + 1 + 1 := by simp
  have n1 := new_block w o1
  have n2 := new_block (w.alloc o1) o2
  have n3 := new_block ((w.alloc o1).alloc o2) o3
  have n4 := new_block (((w.alloc o1).alloc o2).alloc o3) o4
  have n5 := new_block ((((w.alloc o1).alloc o2).alloc o3).alloc o4) o5
  rw [s1] at n2
  rw [s2] at n3
  rw [s3] at n4
  rw [s4] at n5
  refine ⟨_, rfl, ?_, ?_, ?_, ?_, n5, ?_, by simp⟩
  · exact (Below.heap_alloc _ _ _ (by omega)).trans ((Below.heap_alloc _ _ _ (by omega)).trans ((Below.heap_alloc _ _ _ (by omega)).trans ((Below.heap_alloc _ _ _ (by omega)).trans n1)))
  · exact (Below.heap_alloc _ _ _ (by omega)).trans ((Below.heap_alloc _ _ _ (by omega)).trans ((Below.heap_alloc _ _ _ (by omega)).trans n2))
  · exact (Below.heap_alloc _ _ _ (by omega)).trans ((Below.heap_alloc _ _ _ (by omega)).trans n3)
  · exact (Below.heap_alloc _ _ _ (by omega)).trans n4
  · exact below_alloc (below_alloc (below_alloc (below_alloc (below_alloc (Below.refl _ _) _) _) _) _) _
set_option maxHeartbeats 16000000 in
theorem vof_calls (p B : Nat) (t : T) (je jr fe fr ep : Int) (M : Value) (src : Int → Int) (w : World) (L : Low t) (hf : 0 ≤ fr ∧ fr ≤ 18446744073709551615) (h : Mem w p B t) (hS : SrcAt w (w.heap.size + 2) M src) :
    Calls Try.prog 12 #[.pointer (some ⟨p, 0, none⟩), .agg #[.int .i64 je, .int .u64 jr, .int .i64 fe, .int .u64 fr, .int .i64 ep, M]] w fun e w' => ∃ k, e = .returned (.map (some k)) ∧ MapOf w k t (lfOf t je fr ep src) w' := by
  have H := Aside0.mk h
  have HS := Aside0.mk hS
  have HL := Aside0.mk L
  have HF := Aside0.mk hf
  have HLT := Aside0.mk h.lt
  have hmk : ∀ w : World, (Instr.makeMap 36 none).run Try.prog w = .ok (.map (some w.heap.size)) (w.alloc (.map #[] 0)) := fun _ => run_makeMap _ _
  clear h hS L hf
  go_enter Try.func12, Try.ntmps12
  go_wp2_with fail
  obtain ⟨W, hW, e1, e2, e3, e4, e5, hb, hz⟩ := five w (.cells #[.pointer (some ⟨p, 0, none⟩)] 24) (.cells #[.int .i64 je, .int .u64 jr, .int .i64 fe, .int .u64 fr, .int .i64 ep, M] 34) (.map #[] 0) (.cells #[.map (some (w.heap.size + 1 + 1))] 36) (.cells #[.func (.func 17) #[] #[.pointer (some ⟨w.heap.size, 0, none⟩), .pointer (some ⟨w.heap.size + 1, 0, none⟩), .pointer (some ⟨w.heap.size + 1 + 1 + 1 + 1, 0, none⟩), .pointer (some ⟨w.heap.size + 1 + 1 + 1, 0, none⟩)]] 52)
  rw [hW]
  have k1 := cell1 e1
  have k5 := cell1 e5
  have HI : Aside0 (IntoAt W p B (w.heap.size + 1 + 1) w.heap.size (w.heap.size + 1) (w.heap.size + 1 + 1 + 1 + 1) (w.heap.size + 1 + 1 + 1) t je jr fe fr ep M src) := ⟨⟨H.out.below hb, e1, e2, e5, e4, HS.out.below hb, by have := HLT.out; omega⟩⟩
  have HO : Aside0 (OutAt W (w.heap.size + 1 + 1) []) := ⟨by simp, 0, .map [], ⟨#[], 0, e3, ⟨by simp, Go.MapKept.stamped_empty 0, by simp⟩, Nat.le_refl _, rfl⟩, saysB_nil⟩
  have HB := Aside0.mk hb
  have hdr : Below W.heap.size W W.drew := ⟨rfl, rfl, rfl, Nat.le_refl _, fun i _ => rfl⟩
  have HID := Aside0.mk (HI.out.below hdr)
  have HOD := Aside0.mk (HO.out.below hdr)
  clear hdr
  clear hW e1 e2 e3 e4 e5 hb hz hmk
  go_region_with (first
    | (go_at_call 19; refine (first_eq p B t _ HID.out.tree).mono ?_; rintro e w2 ⟨rfl, rfl⟩)
    | (go_at_call 17; go_loud (refine (into_calls p B _ _ _ _ _ t je jr fe fr ep M src HL.out HF.out 1024 t.first _ [] HL.out.fit.well.first (by have := HL.out.fit.well.root _ HL.out.fit.well.first; omega) HID.out HOD.out (by simp)).mono ?_); rintro e w2 ⟨rfl, hd⟩; have HD2 := Aside0.mk hd; clear hd))
  all_goals
    have c4 := cell1 (HID.out.kept HD2.out.kept).co
    go_wp2_with fail
    go_ret
    refine ⟨w.heap.size + 1 + 1, rfl, by omega, ?_, ?_⟩
    · refine (HB.out.trans ((⟨rfl, rfl, rfl, Nat.le_refl _, fun i _ => rfl⟩ : Below W.heap.size W W.drew).mono HB.out.size)).trans (HD2.out.bel w.heap.size (by omega) ?_)
      exact HB.out.size
    · obtain ⟨l', h1, h2⟩ := HD2.out.out
      exact ⟨l', h1, fun x => by rw [h2, below_all HL.out]; simp⟩
end Go.Proofs.Ytlhpokpdpjlhiaa.Tree
