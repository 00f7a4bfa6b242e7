/-
  Package tree: Add, by its contract over memory.
-/
import Derived.Test.YtmdkkojchiiaeaaTree3
import Derived.Test.YtmdkkojchiiaeaaWKept
import Derived.StillTail
import Derived.StillTailTactics
namespace Go.Proofs.Ytmdkkojchiiaeaa.Tree
open Go.RowKit Go.Maps Go.ChangeMaps Go.Proofs.YtmdkkojchiiaeaaW.PrintWords
set_option linter.unusedVariables false

/-- Which error Add answers; none, if the block is laid. -/
def addErr (t : T) (r p s : Int) : Option Int :=
  if has t.ns r = true then some 6 else if has t.ns p = false then some 5 else if s ≤ (getD t.ns p).s then some 7 else if (t.ns.length : Int) ≥ 1024 then some 12 else none
def addOf (t : T) (r p s : Int) : T := if addErr t r p s = none then ⟨t.first, t.ns ++ [⟨r, p, s, (getD t.ns p).h + 1⟩]⟩ else t
def errV : Option Int → Value
  | none => .nilIface
  | some c => .iface 72 (.int .i64 c)
theorem Mem.len {w : World} {p B : Nat} {t : T} (h : Mem w p B t) : ∃ D : DataW Unit, w.ownsMap Try.prog 25 ndElem B t.ns.length D ∧ Says D t.ns ∧ Maps.size D = t.ns.length := by
  obtain ⟨D, h1, h2⟩ := h.map
  exact ⟨D, h1, h2, h2.size⟩

set_option maxHeartbeats 2000000 in
theorem add_twice (p B : Nat) (t : T) (r q s : Int) (w : World) (h : Mem w p B t) (hr : 0 ≤ r ∧ r ≤ 18446744073709551615) (hq : 0 ≤ q ∧ q ≤ 18446744073709551615) (h1 : has t.ns r = true) :
    Calls Try.prog 27 #[.pointer (some ⟨p, 0, none⟩), .int .u64 r, .int .u64 q, .int .i64 s] w fun e w' => e = .returned (errV (some 6)) ∧ Below w.heap.size w w' := by
  have hm := Aside0.mk h
  have c1 := h.cell1
  have hk := Aside0.mk hq
  have hk2 := Aside0.mk hr
  have hg := Aside0.mk h1
  clear h hr hq h1
  go_enter Try.func27, Try.ntmps27
  go_wp2_with (first
    | (at_lookup; refine look_ok hm.out rfl _ _ rfl rfl _ rfl hk.out ?_)
    | (go_at_call 32; refine (has_calls p B t r _ (hm.out.below ?sb) hk2.out).mono ?_; (case sb => repeat (first | exact Below.refl _ _ | refine Below.setCell ?_ (by simp <;> omega) _ | refine Below.alloc ?_ (by simp <;> omega) _)); rw [hg.out]; rintro e w1 ⟨rfl, hb⟩; have BW := Aside0.mk (((Below.refl w.heap.size w).alloc (Nat.le_refl _) _).trans (hb.mono (by simp))); clear hb))
  go_ret
  exact ⟨rfl, BW.out⟩
set_option maxHeartbeats 2000000 in
theorem add_parent (p B : Nat) (t : T) (r q s : Int) (w : World) (h : Mem w p B t) (hr : 0 ≤ r ∧ r ≤ 18446744073709551615) (hq : 0 ≤ q ∧ q ≤ 18446744073709551615) (h1 : has t.ns r = false) (h2 : has t.ns q = false) :
    Calls Try.prog 27 #[.pointer (some ⟨p, 0, none⟩), .int .u64 r, .int .u64 q, .int .i64 s] w fun e w' => e = .returned (errV (some 5)) ∧ Below w.heap.size w w' := by
  have hm := Aside0.mk h
  have c1 := h.cell1
  have hk := Aside0.mk hq
  have hk2 := Aside0.mk hr
  have hg := Aside0.mk h1
  have hp := Aside0.mk h2
  clear h2
  clear h hr hq h1
  go_enter Try.func27, Try.ntmps27
  go_wp2_with (first
    | (at_lookup; refine look_ok hm.out rfl _ _ rfl rfl _ rfl hk.out ?_; rw [hp.out])
    | (go_at_call 32; refine (has_calls p B t r _ (hm.out.below ?sb) hk2.out).mono ?_; (case sb => repeat (first | exact Below.refl _ _ | refine Below.setCell ?_ (by simp <;> omega) _ | refine Below.alloc ?_ (by simp <;> omega) _)); rw [hg.out]; rintro e w1 ⟨rfl, hb⟩; have BW := Aside0.mk (((Below.refl w.heap.size w).alloc (Nat.le_refl _) _).trans (hb.mono (by simp))); have HN := Aside0.mk ((hb.block w.heap.size (by simp)).trans (new_block _ _)); clear hb; obtain ⟨b0, b1, b2, z0, z1, z2⟩ := cells3 HN.out; have d1 := (hm.out.below BW.out).cell1; obtain ⟨D, hD, hS, hZ⟩ := (hm.out.below BW.out).len; have HD := Aside0.mk hD; have HS := Aside0.mk hS; have HZ := Aside0.mk hZ; clear hD hS hZ)
    | (at_len; refine wpList_len_own _ rfl _ 65 rfl _ _ Try.underlying65 _ B t.ns.length D rfl HD.out ?_; rw [HZ.out]))
  go_ret
  exact ⟨rfl, BW.out⟩

set_option maxHeartbeats 2000000 in
theorem add_slot (p B : Nat) (t : T) (r q s : Int) (w : World) (h : Mem w p B t) (hr : 0 ≤ r ∧ r ≤ 18446744073709551615) (hq : 0 ≤ q ∧ q ≤ 18446744073709551615) (h1 : has t.ns r = false) (h2 : has t.ns q = true) (h3 : s ≤ (getD t.ns q).s) :
    Calls Try.prog 27 #[.pointer (some ⟨p, 0, none⟩), .int .u64 r, .int .u64 q, .int .i64 s] w fun e w' => e = .returned (errV (some 7)) ∧ Below w.heap.size w w' := by
  have hm := Aside0.mk h
  have c1 := h.cell1
  have hk := Aside0.mk hq
  have hk2 := Aside0.mk hr
  have hg := Aside0.mk h1
  have hp := Aside0.mk h2
  have h4 : decide (s ≤ (getD t.ns q).s) = true := decide_eq_true h3
  clear h2 h3
  clear h hr hq h1
  go_enter Try.func27, Try.ntmps27
  go_wp2_with (first
    | (at_lookup; refine look_ok hm.out rfl _ _ rfl rfl _ rfl hk.out ?_; rw [hp.out])
    | (go_at_call 32; refine (has_calls p B t r _ (hm.out.below ?sb) hk2.out).mono ?_; (case sb => repeat (first | exact Below.refl _ _ | refine Below.setCell ?_ (by simp <;> omega) _ | refine Below.alloc ?_ (by simp <;> omega) _)); rw [hg.out]; rintro e w1 ⟨rfl, hb⟩; have BW := Aside0.mk (((Below.refl w.heap.size w).alloc (Nat.le_refl _) _).trans (hb.mono (by simp))); have HN := Aside0.mk ((hb.block w.heap.size (by simp)).trans (new_block _ _)); clear hb; obtain ⟨b0, b1, b2, z0, z1, z2⟩ := cells3 HN.out; have d1 := (hm.out.below BW.out).cell1; obtain ⟨D, hD, hS, hZ⟩ := (hm.out.below BW.out).len; have HD := Aside0.mk hD; have HS := Aside0.mk hS; have HZ := Aside0.mk hZ; clear hD hS hZ)
    | (at_len; refine wpList_len_own _ rfl _ 65 rfl _ _ Try.underlying65 _ B t.ns.length D rfl HD.out ?_; rw [HZ.out]))
  go_ret
  exact ⟨rfl, BW.out⟩

set_option maxHeartbeats 2000000 in
theorem add_full (p B : Nat) (t : T) (r q s : Int) (w : World) (h : Mem w p B t) (hr : 0 ≤ r ∧ r ≤ 18446744073709551615) (hq : 0 ≤ q ∧ q ≤ 18446744073709551615) (h1 : has t.ns r = false) (h2 : has t.ns q = true) (h3 : ¬ s ≤ (getD t.ns q).s) (h5 : (t.ns.length : Int) ≥ 1024) :
    Calls Try.prog 27 #[.pointer (some ⟨p, 0, none⟩), .int .u64 r, .int .u64 q, .int .i64 s] w fun e w' => e = .returned (errV (some 12)) ∧ Below w.heap.size w w' := by
  have hm := Aside0.mk h
  have c1 := h.cell1
  have hk := Aside0.mk hq
  have hk2 := Aside0.mk hr
  have hg := Aside0.mk h1
  have hp := Aside0.mk h2
  have h4 : decide (s ≤ (getD t.ns q).s) = false := decide_eq_false h3
  have h6 : decide ((t.ns.length : Int) ≥ 1024) = true := decide_eq_true h5
  clear h2 h3
  clear h hr hq h1
  go_enter Try.func27, Try.ntmps27
  go_wp2_with (first
    | (at_lookup; refine look_ok hm.out rfl _ _ rfl rfl _ rfl hk.out ?_; rw [hp.out])
    | (go_at_call 32; refine (has_calls p B t r _ (hm.out.below ?sb) hk2.out).mono ?_; (case sb => repeat (first | exact Below.refl _ _ | refine Below.setCell ?_ (by simp <;> omega) _ | refine Below.alloc ?_ (by simp <;> omega) _)); rw [hg.out]; rintro e w1 ⟨rfl, hb⟩; have BW := Aside0.mk (((Below.refl w.heap.size w).alloc (Nat.le_refl _) _).trans (hb.mono (by simp))); have HN := Aside0.mk ((hb.block w.heap.size (by simp)).trans (new_block _ _)); clear hb; obtain ⟨b0, b1, b2, z0, z1, z2⟩ := cells3 HN.out; have d1 := (hm.out.below BW.out).cell1; obtain ⟨D, hD, hS, hZ⟩ := (hm.out.below BW.out).len; have HD := Aside0.mk hD; have HS := Aside0.mk hS; have HZ := Aside0.mk hZ; clear hD hS hZ)
    | (at_len; refine wpList_len_own _ rfl _ 65 rfl _ _ Try.underlying65 _ B t.ns.length D rfl HD.out ?_; rw [HZ.out]))
  go_ret
  exact ⟨rfl, BW.out⟩

theorem put_node {w : World} {B n : Nat} {D : DataW Unit} {ns : List Nd} {ops : Array Oper} {rest : List Oper} {o : Oper} {a : Act} {Q : Exit → Act → World → Prop} (hown : w.ownsMap Try.prog 25 ndElem B n D) (hS : Says D ns) (hn : n < maxLen) (hg : o.guard = none) (m x v : Operand) (hop : o.op = Op.mapUpdate 65 m x v) (hm : a.eval m = .map (some B)) (r p s t : Int) (hx : a.eval x = .int .u64 r) (hr : 0 ≤ r ∧ r ≤ 18446744073709551615) (hv : a.eval v = .agg #[.int .u64 p, .int .i64 s, .int .i64 t]) (hno : has ns r = false)
    (hK : ∀ w' D', w'.ownsMap Try.prog 25 ndElem B (n + 1) D' → Says D' (ns ++ [⟨r, p, s, t⟩]) → w.mapTurned w' B → wpList Try.prog ops Q rest (a.put o.dst undef) w') : wpList Try.prog ops Q (o :: rest) a w := by
  refine wpList_plain hg fun K' hK' => ?_
  obtain ⟨w', hrun, r1, r2⟩ := hown.store law Try.underlying65 hn (hkey hr) (ndElem_mk p s t)
  unfold Oper.wp
  simp [execOp, hop, hm, hx, hv, hrun, Result.andThen]
  exact hK' _ _ (hK w' _ r1 (says_put hS r p s t hno) r2)

theorem turned_kept {w w' : World} {B : Nat} (h : w.mapTurned w' B) : Kept w w' (fun k => k = B) := by
  obtain ⟨es, clock, es', clock', e1, e2⟩ := h
  rw [e2]
  refine ⟨by simp [setBlock], fun i _ hi => ?_⟩
  show (w.heap.setIfInBounds B _)[i]? = _
  rw [Array.getElem?_setIfInBounds_ne (fun h => hi h.symm)]
set_option maxRecDepth 100000 in
set_option maxHeartbeats 2000000 in
theorem add_done (p B : Nat) (t : T) (r q s : Int) (w : World) (h : Mem w p B t) (hr : 0 ≤ r ∧ r ≤ 18446744073709551615) (hq : 0 ≤ q ∧ q ≤ 18446744073709551615) (h1 : has t.ns r = false) (h2 : has t.ns q = true) (h3 : ¬ s ≤ (getD t.ns q).s) (h5 : ¬ (t.ns.length : Int) ≥ 1024) (h7 : 0 ≤ (getD t.ns q).h ∧ (getD t.ns q).h < 1024) :
    Calls Try.prog 27 #[.pointer (some ⟨p, 0, none⟩), .int .u64 r, .int .u64 q, .int .i64 s] w fun e w' => e = .returned (errV none) ∧ Mem w' p B ⟨t.first, t.ns ++ [⟨r, q, s, (getD t.ns q).h + 1⟩]⟩ ∧ (∀ b, b ≤ B → b ≤ w.heap.size → Below b w w') ∧ Kept w w' (fun k => k = B) := by
  have hm := Aside0.mk h
  have c1 := h.cell1
  have hk := Aside0.mk hq
  have hk2 := Aside0.mk hr
  have hg := Aside0.mk h1
  have hp := Aside0.mk h2
  have h4 : decide (s ≤ (getD t.ns q).s) = false := decide_eq_false h3
  have h6 : decide ((t.ns.length : Int) ≥ 1024) = false := decide_eq_false h5
  have hw : IntKind.i64.wrap ((getD t.ns q).h + 1) = (getD t.ns q).h + 1 := by first | (rw [i64_w]; unfold wrap64; omega) | (simp [IntKind.wrap, IntKind.bits, IntKind.signed]; omega)
  have hl : Aside0 (t.ns.length < maxLen) := ⟨by unfold maxLen; omega⟩
  clear h hr hq h1 h2 h3 h5 h7
  go_enter Try.func27, Try.ntmps27
  go_wp2_with (first
    | (at_lookup; refine look_ok hm.out rfl _ _ rfl rfl _ rfl hk.out ?_; rw [hp.out])
    | (go_at_call 32; refine (has_calls p B t r _ (hm.out.below ?sb) hk2.out).mono ?_; (case sb => repeat (first | exact Below.refl _ _ | refine Below.setCell ?_ (by simp <;> omega) _ | refine Below.alloc ?_ (by simp <;> omega) _)); rw [hg.out]; rintro e w1 ⟨rfl, hb⟩; have BW := Aside0.mk (((Below.refl w.heap.size w).alloc (Nat.le_refl _) _).trans (hb.mono (by simp))); have HN := Aside0.mk ((hb.block w.heap.size (by simp)).trans (new_block _ _)); clear hb; obtain ⟨b0, b1, b2, z0, z1, z2⟩ := cells3 HN.out; have d1 := (hm.out.below BW.out).cell1; obtain ⟨D, hD, hS, hZ⟩ := (hm.out.below BW.out).len; have HD := Aside0.mk hD; have HS := Aside0.mk hS; have HZ := Aside0.mk hZ; clear hD hS hZ)
    | (at_len; refine wpList_len_own _ rfl _ 65 rfl _ _ Try.underlying65 _ B t.ns.length D rfl HD.out ?_; rw [HZ.out]))
  refine wp_region_still_tail 11 (by kernel_rfl) (by kernel_rfl) ?_
  simp only [List.take_succ_cons, List.take_zero, List.drop_succ_cons, List.drop_zero]
  repeat still_step
  refine wpStill_nil ?_
  refine put_node HD.out HS.out hl.out rfl _ _ _ rfl rfl r q s ((getD t.ns q).h + 1) rfl hk2.out ?hv hg.out ?_
  case hv =>
    simp only [Act.eval]
    simp
  intro w2 D2 r1 r2 r3
  have R1 := Aside0.mk r1
  have R2 := Aside0.mk r2
  have R3 := Aside0.mk r3
  clear r1 r2 r3
  go_wp2_with fail
  go_ret
  refine ⟨rfl, ?_, fun b hb1 hb2 => (BW.out.mono hb2).trans (Below.trans (b := { w1 with drawn := w1.drawn + 1 }) ⟨rfl, rfl, rfl, Nat.le_refl _, fun _ _ => rfl⟩ (turned_below R3.out hb1)), (Kept.of_below BW.out _).then_ (turned_kept (w := { w1 with drawn := w1.drawn + 1 }) R3.out) (fun _ h => Or.inl h)⟩
  have hm1 := hm.out.below BW.out
  obtain ⟨es, clock, es', clock', e1, e2⟩ := R3.out
  refine ⟨hm.out.ne, ?_, D2, ?_, R2.out⟩
  · rw [e2]
    show (w1.heap.setIfInBounds B _)[p]? = _
    rw [Array.getElem?_setIfInBounds_ne (fun h => hm.out.ne h.symm)]
    exact hm1.cells
  · have h := R1.out
    simpa using h
end Go.Proofs.Ytmdkkojchiiaeaa.Tree
