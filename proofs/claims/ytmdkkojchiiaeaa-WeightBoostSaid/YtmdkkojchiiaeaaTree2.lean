/-
  Package tree: At and Below, by their contracts over a tree in memory.
-/
import Derived.Test.YtmdkkojchiiaeaaTree
import Derived.LoopTactic
import Derived.Deep.LoopGhost
namespace Go.Proofs.Ytmdkkojchiiaeaa.Tree
open Go.RowKit Go.Maps Go.Proofs.YtmdkkojchiiaeaaW.PrintWords
set_option linter.unusedVariables false

/-- Each block but the first one stands on one that is there, one lower. -/
structure Well (t : T) : Prop where
  first : has t.ns t.first = true
  up : ∀ r, has t.ns r = true → r ≠ t.first → has t.ns (getD t.ns r).p = true ∧ (getD t.ns (getD t.ns r).p).h + 1 = (getD t.ns r).h
  root : ∀ r, has t.ns r = true → 0 ≤ (getD t.ns r).h
  wide : ∀ r, has t.ns r = true → 0 ≤ r ∧ r ≤ 18446744073709551615

/-- The last block below r, or itself, whose slot is not above s; k: how far at most. -/
def climb (t : T) (s : Int) : Nat → Int → Int
  | 0, r => r
  | k + 1, r => if r ≠ t.first ∧ (getD t.ns r).s > s then climb t s k (getD t.ns r).p else r
def upTo (t : T) (s r : Int) : Int := climb t s ((getD t.ns r).h.toNat + 1) r
theorem upTo_step {t : T} (W : Well t) {s r : Int} (h : has t.ns r = true) (h1 : r ≠ t.first) (h2 : (getD t.ns r).s > s) : upTo t s (getD t.ns r).p = upTo t s r := by
  obtain ⟨hp, hh⟩ := W.up r h h1
  have h0 := W.root _ hp
  unfold upTo
  rw [show (getD t.ns r).h.toNat = (getD t.ns (getD t.ns r).p).h.toNat + 1 by omega]
  rw [climb.eq_2 t s r ((getD t.ns (getD t.ns r).p).h.toNat + 1), if_pos ⟨h1, h2⟩]
theorem upTo_stop {t : T} {s r : Int} (h : ¬ (r ≠ t.first ∧ (getD t.ns r).s > s)) : upTo t s r = r := by
  unfold upTo climb
  rw [if_neg h]
def atOf (t : T) (r s : Int) : Int := if has t.ns r = true then upTo t s r else 0

theorem set3 {w : World} {g t : Nat} {a b c x y z : Value} (h : w.heap[g]? = some (.cells #[a, b, c] t (0, 0))) :
    (((w.setCell ⟨g, 0, none⟩ x).setCell ⟨g, 1, none⟩ y).setCell ⟨g, 2, none⟩ z).heap[g]? = some (.cells #[x, y, z] t (0, 0)) := by
  simp [World.setCell, Array.getElem?_modify, h]
set_option maxHeartbeats 2000000 in
theorem at_calls (p B : Nat) (t : T) (r s : Int) (w : World) (h : Mem w p B t) (W : Well t) (hr : 0 ≤ r ∧ r ≤ 18446744073709551615) :
    Calls Try.prog 33 #[.pointer (some ⟨p, 0, none⟩), .int .u64 r, .int .i64 s] w fun e w' => e = .returned (.int .u64 (atOf t r s)) ∧ Below w.heap.size w w' := by
  have hm := Aside0.mk h
  have c1 := h.cell1
  have hk := Aside0.mk hr
  have HW := Aside0.mk W
  clear h W hr
  by_cases hh : has t.ns r = true
  · have hh' := Aside0.mk hh
    clear hh
    go_enter Try.func33, Try.ntmps33
    go_wp2_with (at_lookup; refine look_ok hm.out rfl _ _ rfl rfl _ rfl hk.out ?_; rw [hh'.out])
    clear c1
    go_loopw [1] (fun v wr => ∃ q : Int, v = .int .u64 q ∧ Aside0 (has t.ns q = true) ∧ Aside0 (upTo t s q = upTo t s r) ∧ Aside0 (wr.heap[w.heap.size]? = some (.cells #[.int .u64 (getD t.ns q).p, .int .i64 (getD t.ns q).s, .int .i64 (getD t.ns q).h] 69 (0, 0))) ∧ Aside0 (Below w.heap.size w wr)) (fun v _ => (getD t.ns (intOf v)).h.toNat)
    case atStart => exact ⟨r, rfl, hh', ⟨rfl⟩, ⟨new_block _ _⟩, ⟨by repeat (first | exact Below.refl _ _ | refine Below.setCell ?_ (by simp <;> omega) _ | refine Below.alloc ?_ (by simp <;> omega) _)⟩⟩
    case round =>
      obtain ⟨q, rfl, hq, hu, hb, HB⟩ := hrel
      have hmr := Aside0.mk (Mem.below hm.out HB.out)
      have d0 := hmr.out.cell0
      have d1 := hmr.out.cell1
      obtain ⟨b0, b1, b2, z0, z1, z2⟩ := cells3 hb.out
      by_cases e1 : q = t.first
      · have e2 : (q != t.first) = false := by simp [e1]
        have HE := Aside0.mk e1
        clear e1
        go_wp2_with fail
        go_ret
        refine ⟨?_, HB.out⟩
        rw [show atOf t r s = q by unfold atOf; rw [if_pos hh'.out, ← hu.out, upTo_stop (fun h => h.1 HE.out)]]
        rfl
      · have e2 : (q != t.first) = true := by simp [e1]
        have HE := Aside0.mk e1
        clear e1
        by_cases e3 : (getD t.ns q).s > s
        · have e4 : decide ((getD t.ns q).s > s) = true := decide_eq_true e3
          have HN := Aside0.mk (HW.out.up q hq.out HE.out)
          have HP := Aside0.mk (HW.out.wide _ HN.out.1)
          have HU := Aside0.mk ((upTo_step HW.out hq.out HE.out e3).trans hu.out)
          have HR := Aside0.mk (HW.out.root _ HN.out.1)
          clear e3
          go_wp2_with (at_lookup; refine look_one hmr.out rfl _ _ rfl rfl _ rfl HP.out ?_)
          go_roundw
          case rel => exact ⟨_, rfl, ⟨HN.out.1⟩, HU, ⟨set3 hb.out⟩, ⟨((HB.out.setCell (p := ⟨w.heap.size, 0, none⟩) (Nat.le_refl _) _).setCell (p := ⟨w.heap.size, 1, none⟩) (Nat.le_refl _) _).setCell (p := ⟨w.heap.size, 2, none⟩) (Nat.le_refl _) _⟩⟩
          case measure => simp [intOf]; have := HN.out.2; have := HR.out; omega
        · have e4 : decide ((getD t.ns q).s > s) = false := decide_eq_false e3
          have HE3 := Aside0.mk e3
          clear e3
          go_wp2_with fail
          go_ret
          refine ⟨?_, HB.out⟩
          rw [show atOf t r s = q by unfold atOf; rw [if_pos hh'.out, ← hu.out, upTo_stop (fun h => by have := HE3.out; have := h.2; omega)]]
          rfl
  · have hh' : has t.ns r = false := by simpa using hh
    have hH := Aside0.mk hh'
    clear hh hh'
    go_enter Try.func33, Try.ntmps33
    go_wp2_with (at_lookup; refine look_ok hm.out rfl _ _ rfl rfl _ rfl hk.out ?_; rw [hH.out])
    refine wp_loop_rounds 1 ?_
    rw [rounds_succ]
    go_wp2_with fail
    go_ret
    exact ⟨by unfold atOf; rw [hH.out]; simp, by repeat (first | exact Below.refl _ _ | refine Below.setCell ?_ (by simp <;> omega) _ | refine Below.alloc ?_ (by simp <;> omega) _)⟩

/-- Does a block stand on another one, or is it that? -/
def below (t : T) (r on : Int) : Bool := has t.ns on && has t.ns r && (atOf t r (getD t.ns on).s == on)
set_option maxHeartbeats 2000000 in
theorem below_calls (p B : Nat) (t : T) (r on : Int) (w : World) (h : Mem w p B t) (W : Well t) (hr : 0 ≤ r ∧ r ≤ 18446744073709551615) (ho : 0 ≤ on ∧ on ≤ 18446744073709551615) :
    Calls Try.prog 28 #[.pointer (some ⟨p, 0, none⟩), .int .u64 r, .int .u64 on] w fun e w' => e = .returned (.bool (below t r on)) ∧ Below w.heap.size w w' := by
  have hm := Aside0.mk h
  have c1 := h.cell1
  have hk := Aside0.mk ho
  have hk2 := Aside0.mk hr
  have HW := Aside0.mk W
  clear h W hr ho
  by_cases hh : has t.ns on = true
  · have hh' := Aside0.mk hh
    clear hh
    by_cases hg : has t.ns r = true
    · have hg' := Aside0.mk hg
      clear hg
      go_enter Try.func28, Try.ntmps28
      go_wp2_with (first
        | (at_lookup; refine look_ok hm.out rfl _ _ rfl rfl _ rfl hk.out ?_; rw [hh'.out])
        | (go_at_call 32; refine (has_calls p B t r _ (hm.out.below ?sb) hk2.out).mono ?_; (case sb => repeat (first | exact Below.refl _ _ | refine Below.setCell ?_ (by simp <;> omega) _ | refine Below.alloc ?_ (by simp <;> omega) _)); rw [hg'.out]; rintro e w1 ⟨rfl, hb⟩; have BW := Aside0.mk (((Below.refl w.heap.size w).alloc (Nat.le_refl _) _).trans (hb.mono (by simp))); have HN := Aside0.mk ((hb.block w.heap.size (by simp)).trans (new_block _ _)); clear hb; obtain ⟨b0, b1, b2, z0, z1, z2⟩ := cells3 HN.out)
        | (go_at_call 33; refine (at_calls p B t r _ _ (hm.out.below BW.out) HW.out hk2.out).mono ?_; rintro e w2 ⟨rfl, hb⟩; have BW2 := Aside0.mk (BW.out.trans (hb.mono BW.out.size)); clear hb))
      go_ret
      exact ⟨by unfold below; rw [hh'.out, hg'.out]; rfl, BW2.out⟩
    · have hg' : has t.ns r = false := by simpa using hg
      have hG := Aside0.mk hg'
      clear hg hg'
      go_enter Try.func28, Try.ntmps28
      go_wp2_with (first
        | (at_lookup; refine look_ok hm.out rfl _ _ rfl rfl _ rfl hk.out ?_; rw [hh'.out])
        | (go_at_call 32; refine (has_calls p B t r _ (hm.out.below ?sb) hk2.out).mono ?_; (case sb => repeat (first | exact Below.refl _ _ | refine Below.setCell ?_ (by simp <;> omega) _ | refine Below.alloc ?_ (by simp <;> omega) _)); rw [hG.out]; rintro e w1 ⟨rfl, hb⟩; have BW := Aside0.mk (((Below.refl w.heap.size w).alloc (Nat.le_refl _) _).trans (hb.mono (by simp))); clear hb))
      go_ret
      exact ⟨by unfold below; rw [hh'.out, hG.out]; rfl, BW.out⟩
  · have hh' : has t.ns on = false := by simpa using hh
    have hH := Aside0.mk hh'
    clear hh hh'
    go_enter Try.func28, Try.ntmps28
    go_wp2_with (at_lookup; refine look_ok hm.out rfl _ _ rfl rfl _ rfl hk.out ?_; rw [hH.out])
    go_ret
    exact ⟨by unfold below; rw [hH.out]; rfl, by repeat (first | exact Below.refl _ _ | refine Below.setCell ?_ (by simp <;> omega) _ | refine Below.alloc ?_ (by simp <;> omega) _)⟩
end Go.Proofs.Ytmdkkojchiiaeaa.Tree
