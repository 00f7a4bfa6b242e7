/-
  Package tree: Len, First, Get, and Cut at a block that is not there, by their contracts.
-/
import Derived.Test.YtgbhblbfodphfaaDoorCut
import Derived.BigQuiet
namespace Go.Proofs.YtgbhblbfodphfaaDoor.Tree
open Go.RowKit Go.Maps Go.Proofs.YtgbhblbfodphfaaDoorW.PrintWords
set_option linter.unusedVariables false

set_option maxHeartbeats 1000000 in
theorem len_calls (p B : Nat) (t : T) (w : World) (h : Mem w p B t) :
    Calls Tryd.prog 9 #[.pointer (some ⟨p, 0, none⟩)] w fun e w' => e = .returned (.int .i64 (t.ns.length : Int)) ∧ Below w.heap.size w w' := by
  have d1 := h.cell1
  obtain ⟨D, hD, hS, hZ⟩ := h.len
  have HD := Aside0.mk hD
  have HZ := Aside0.mk hZ
  clear h hD hS hZ
  go_enter Tryd.func9, Tryd.ntmps9
  go_wp2_with (at_len; refine wpList_len_own _ rfl _ 51 rfl _ _ Tryd.underlying51 _ B t.ns.length D rfl HD.out ?_; rw [HZ.out])
  go_ret
  exact ⟨rfl, Below.refl _ _⟩
theorem results_tmp4 {fn : Func} {t u v x : Tmp} (h : fn.results = #[.tmp t, .tmp u, .tmp v, .tmp x]) (tmps : Array Value) (P : Program) (w : World) :
    (results fn tmps).run P w = .ok (.tuple #[tmps.getD t undef, tmps.getD u undef, tmps.getD v undef, tmps.getD x undef]) w := by
  simp [results, h]
set_option maxHeartbeats 4000000 in
set_option maxRecDepth 100000 in
theorem get_calls (p B : Nat) (t : T) (r : Int) (w : World) (h : Mem w p B t) (hr : 0 ≤ r ∧ r ≤ 18446744073709551615) :
    Calls Tryd.prog 23 #[.pointer (some ⟨p, 0, none⟩), .int .u64 r] w fun e w' => e = .returned (.tuple #[.int .u64 (getD t.ns r).p, .int .i64 (getD t.ns r).s, .int .i64 (getD t.ns r).h, .bool (has t.ns r)]) ∧ Below w.heap.size w w' := by
  have c1 := h.cell1
  have hm := Aside0.mk h
  have hk := Aside0.mk hr
  obtain ⟨pp, hpp⟩ : ∃ x, (getD t.ns r).p = x := ⟨_, rfl⟩
  obtain ⟨ss, hss⟩ : ∃ x, (getD t.ns r).s = x := ⟨_, rfl⟩
  obtain ⟨hh, hhh⟩ : ∃ x, (getD t.ns r).h = x := ⟨_, rfl⟩
  obtain ⟨b, hb⟩ : ∃ x, has t.ns r = x := ⟨_, rfl⟩
  have HP := Aside0.mk (And.intro hpp (And.intro hss (And.intro hhh hb)))
  rw [hpp, hss, hhh, hb]
  clear hr h hpp hss hhh hb
  go_enter Tryd.func23, Tryd.ntmps23
  go_wp2_with (at_lookup; refine look_ok hm.out rfl _ _ rfl rfl _ rfl hk.out ?_; rw [HP.out.1, HP.out.2.1, HP.out.2.2.1, HP.out.2.2.2])
  obtain ⟨b0, b1, b2, z0, z1, z2⟩ := cells3 (new_block w (.cells #[.int .u64 pp, .int .i64 ss, .int .i64 hh] 50))
  go_region
  go_wp2_with fail
  (try simp only [Exit.inBlock, Exit.then]); refine bodyPost_ret (results_tmp4 rfl _ _ _) rfl ?_
  exact ⟨rfl, by refine Below.trans (b := w.alloc _) ?_ ⟨rfl, rfl, rfl, Nat.le_refl _, fun i _ => rfl⟩; repeat (first | exact Below.refl _ _ | refine Below.setCell ?_ (by simp <;> omega) _ | refine Below.alloc ?_ (by simp <;> omega) _)⟩
set_option maxHeartbeats 1000000 in
theorem cut_none (p B : Nat) (t : T) (r : Int) (w : World) (h : Mem w p B t) (hr : 0 ≤ r ∧ r ≤ 18446744073709551615) (hno : has t.ns r = false) :
    Calls Tryd.prog 11 #[.pointer (some ⟨p, 0, none⟩), .int .u64 r] w fun e w' => e = .returned (.slice none 0 0) ∧ Below w.heap.size w w' := by
  have c1 := h.cell1
  have hm := Aside0.mk h
  have hk := Aside0.mk hr
  have HN := Aside0.mk hno
  clear hr h hno
  go_enter Tryd.func11, Tryd.ntmps11
  go_wp2_with (go_at_call 20; refine (has_calls p B t r _ hm.out hk.out).mono ?_; rw [HN.out]; rintro e w1 ⟨rfl, hb⟩; have HB := Aside0.mk hb; clear hb)
  go_ret
  exact ⟨rfl, HB.out⟩

end Go.Proofs.YtgbhblbfodphfaaDoor.Tree
