/-
  Package tree: fit trees: what 'it stands on' is; First, by its contract.
-/
import Derived.Test.YtgbhblbfodphfaaDoorRootsA
namespace Go.Proofs.YtgbhblbfodphfaaDoor.Tree
open Go.RowKit Go.Maps Go.Proofs.YtgbhblbfodphfaaDoorW.PrintWords
set_option linter.unusedVariables false
set_option maxRecDepth 100000

theorem own_tight {w : World} {B n : Nat} {D : DataW Unit} (h : w.ownsMap Tryd.prog 25 ndElem B n D) : w.ownsMap Tryd.prog 25 ndElem B (Maps.size D) D := by
  obtain ⟨es, clock, h1, h2, h3, h4⟩ := h
  refine ⟨es, clock, h1, h2, ?_, h4⟩
  rw [h4]
  show es.size ≤ ((es.toList.map (Go.WideElems.rg Tryd.prog 25 ndElem)).foldr DataW.insert []).length
  rw [length_sorted]
  simp
theorem own_set {w : World} {B n g j : Nat} {D : DataW Unit} (h : w.ownsMap Tryd.prog 25 ndElem B n D) (hne : g ≠ B) (v : Value) : (w.setCell ⟨g, j, none⟩ v).ownsMap Tryd.prog 25 ndElem B n D := by
  obtain ⟨es, clock, h1, h2⟩ := h
  exact ⟨es, clock, (Below.heap_setCell w ⟨g, j, none⟩ v B (Ne.symm hne)).trans h1, h2⟩
theorem own_below {w w' : World} {B n : Nat} {D : DataW Unit} (h : w.ownsMap Tryd.prog 25 ndElem B n D) (hb : Below w.heap.size w w') : w'.ownsMap Tryd.prog 25 ndElem B n D := by
  have hl := h.lt
  obtain ⟨es, clock, h1, h2⟩ := h
  exact ⟨es, clock, (hb.block B hl).trans h1, h2⟩
set_option maxHeartbeats 1000000 in
theorem first_calls (p B : Nat) (t : T) (w : World) (h : Mem w p B t) :
    Calls Tryd.prog 19 #[.pointer (some ⟨p, 0, none⟩)] w fun e w' => e = .returned (.int .u64 t.first) ∧ Below w.heap.size w w' := by
  have c0 := h.cell0
  clear h
  go_enter Tryd.func19, Tryd.ntmps19
  go_wp2_with fail
  go_ret
  exact ⟨rfl, Below.refl _ _⟩
theorem below_refl {t : T} {r : Int} (h : has t.ns r = true) : below t r r = true := by
  unfold below atOf
  rw [h, if_pos rfl, upTo_stop (fun h => by omega)]
  simp
/-! ### the plain side: what 'it stands on' is -/
/-- A tree whose slots rise, from the first block's, at height 0, on. -/
structure Fit (t : T) : Prop where
  well : Well t
  uniq : Uniq t.ns
  rise : ∀ r, has t.ns r = true → r ≠ t.first → (getD t.ns (getD t.ns r).p).s < (getD t.ns r).s
  zero : (getD t.ns t.first).h = 0
  low : 0 ≤ (getD t.ns t.first).s
theorem Fit.ne {t : T} (F : Fit t) : t.ns ≠ [] := fun e => by
  have := F.well.first
  rw [e] at this
  cases this
theorem Fit.high {t : T} (F : Fit t) : ∀ (n : Nat) (r : Int), has t.ns r = true → (getD t.ns r).h = (n : Int) → (getD t.ns r).h ≤ (getD t.ns r).s := by
  intro n
  induction n with
  | zero =>
    intro r hr hn
    by_cases e : r = t.first
    · rw [e, F.zero]
      exact F.low
    · have h1 := (F.well.up r hr e)
      have := F.well.root _ h1.1
      omega
  | succ n ih =>
    intro r hr hn
    by_cases e : r = t.first
    · rw [e, F.zero]
      exact F.low
    · have h1 := (F.well.up r hr e)
      have h2 := ih _ h1.1 (by omega)
      have h3 := F.rise r hr e
      omega
theorem Fit.high' {t : T} (F : Fit t) (r : Int) (h : has t.ns r = true) : (getD t.ns r).h ≤ (getD t.ns r).s := by
  have := F.well.root r h
  exact F.high (getD t.ns r).h.toNat r h (by omega)
theorem Fit.limit {t : T} (F : Fit t) (hs : ∀ r, has t.ns r = true → (getD t.ns r).s ≤ 1000) : ∀ r, has t.ns r = true → 0 ≤ (getD t.ns r).h ∧ (getD t.ns r).h < 1024 := fun r h => ⟨F.well.root r h, by have := F.high' r h; have := hs r h; omega⟩
theorem below_no {t : T} {r on : Int} (h : has t.ns r = false ∨ has t.ns on = false) : below t r on = false := by
  unfold below
  rcases h with h | h <;> rw [h] <;> simp
theorem below_has {t : T} {r on : Int} (h : below t r on = true) : has t.ns r = true ∧ has t.ns on = true := by
  constructor
  · cases h1 : has t.ns r with
    | true => rfl
    | false => rw [below_no (.inl h1)] at h; cases h
  · cases h1 : has t.ns on with
    | true => rfl
    | false => rw [below_no (.inr h1)] at h; cases h
theorem below_first {t : T} {on : Int} (h : t.first ≠ on) : below t t.first on = false := by
  unfold below atOf
  by_cases h1 : has t.ns t.first = true
  · rw [if_pos h1, upTo_stop (fun h => h.1 rfl)]
    simp [h]
  · rw [if_neg h1]
    simp [h1]
theorem Fit.below_up {t : T} (F : Fit t) {r on : Int} (h : has t.ns r = true) (h1 : r ≠ t.first) (h2 : r ≠ on) : below t r on = below t (getD t.ns r).p on := by
  have hp := (F.well.up r h h1).1
  have hr := F.rise r h h1
  unfold below atOf
  rw [if_pos h, if_pos hp, h, hp]
  congr 1
  by_cases hs : (getD t.ns r).s > (getD t.ns on).s
  · rw [upTo_step F.well h h1 hs]
  · rw [upTo_stop (fun e => hs e.2), upTo_stop (fun e => by have := e.2; omega)]
    have e1 : (r == on) = false := by simpa using h2
    have e2 : ((getD t.ns r).p == on) = false := by
      simp only [beq_eq_false_iff_ne]
      intro e
      rw [e] at hr
      omega
    rw [e1, e2]
theorem Fit.below_slot {t : T} (F : Fit t) : ∀ (n : Nat) (r on : Int), (getD t.ns r).h ≤ (n : Int) → below t r on = true → r = on ∨ (getD t.ns on).s < (getD t.ns r).s := by
  intro n
  induction n with
  | zero =>
    intro r on hn hb
    have hh := below_has hb
    by_cases e : r = on
    · exact .inl e
    · by_cases e1 : r = t.first
      · rw [e1, below_first (by rw [← e1]; exact e)] at hb
        cases hb
      · have h1 := F.well.up r hh.1 e1
        have := F.well.root _ h1.1
        omega
  | succ n ih =>
    intro r on hn hb
    have hh := below_has hb
    by_cases e : r = on
    · exact .inl e
    · by_cases e1 : r = t.first
      · rw [e1, below_first (by rw [← e1]; exact e)] at hb
        cases hb
      · have h1 := F.well.up r hh.1 e1
        rw [F.below_up hh.1 e1 e] at hb
        have h3 := F.rise r hh.1 e1
        rcases ih _ _ (by omega) hb with h2 | h2
        · rw [h2] at h3
          exact .inr h3
        · exact .inr (by omega)
theorem Fit.below_trans {t : T} (F : Fit t) : ∀ (n : Nat) (x y z : Int), (getD t.ns x).h ≤ (n : Int) → below t x y = true → below t y z = true → below t x z = true := by
  intro n
  induction n with
  | zero =>
    intro x y z hn h1 h2
    have hh := below_has h1
    by_cases e : x = y
    · rw [e]; exact h2
    · by_cases e1 : x = t.first
      · rw [e1, below_first (by rw [← e1]; exact e)] at h1
        cases h1
      · have h3 := F.well.up x hh.1 e1
        have := F.well.root _ h3.1
        omega
  | succ n ih =>
    intro x y z hn h1 h2
    have hh := below_has h1
    by_cases e : x = y
    · rw [e]; exact h2
    · by_cases e1 : x = t.first
      · rw [e1, below_first (by rw [← e1]; exact e)] at h1
        cases h1
      · have h3 := F.well.up x hh.1 e1
        rw [F.below_up hh.1 e1 e] at h1
        by_cases e2 : x = z
        · rw [e2]; exact below_refl (by rw [← e2]; exact hh.1)
        · rw [F.below_up hh.1 e1 e2]
          exact ih _ _ _ (by omega) h1 h2
theorem Fit.order {t : T} (F : Fit t) (x y z : Int) : (below t x x = has t.ns x) ∧ ¬ (below t x y = true ∧ below t y x = true ∧ x ≠ y) ∧ (below t x y = true → below t y z = true → below t x z = true) := by
  refine ⟨?_, ?_, fun h1 h2 => ?_⟩
  · cases h : has t.ns x with
    | true => exact below_refl h
    | false => exact below_no (.inl h)
  · rintro ⟨h1, h2, h3⟩
    have hx := F.well.root x (below_has h1).1
    have hy := F.well.root y (below_has h2).1
    rcases F.below_slot (getD t.ns x).h.toNat x y (by omega) h1 with e | e
    · exact h3 e
    · rcases F.below_slot (getD t.ns y).h.toNat y x (by omega) h2 with e2 | e2
      · exact h3 e2.symm
      · omega
  · have hx := F.well.root x (below_has h1).1
    exact F.below_trans (getD t.ns x).h.toNat x y z (by omega) h1 h2

/-! ### laying a block keeps it so -/
theorem find_new {ns : List Nd} {n : Nd} {r : Int} (hno : has ns n.r = false) : find (ns ++ [n]) r = if r = n.r then some n else find ns r := by
  rw [find_snoc]
  by_cases e : n.r = r
  · subst e
    have : find ns n.r = none := by unfold has at hno; simpa using hno
    rw [this]
    simp
  · rw [if_neg e, if_neg (Ne.symm e)]
    simp
theorem has_new {ns : List Nd} {n : Nd} {r : Int} (hno : has ns n.r = false) : has (ns ++ [n]) r = (decide (r = n.r) || has ns r) := by
  unfold has
  rw [find_new hno]
  by_cases e : r = n.r <;> simp [e]
theorem getD_new {ns : List Nd} {n : Nd} {r : Int} (hno : has ns n.r = false) : getD (ns ++ [n]) r = if r = n.r then n else getD ns r := by
  unfold getD
  rw [find_new hno]
  by_cases e : r = n.r <;> simp [e]
theorem addErr_none {t : T} {r p s : Int} (h : addErr t r p s = none) : has t.ns r = false ∧ has t.ns p = true ∧ (getD t.ns p).s < s ∧ t.ns.length < 1024 := by
  unfold addErr at h
  split at h
  · cases h
  · rename_i h1
    split at h
    · cases h
    · rename_i h2
      split at h
      · cases h
      · rename_i h3
        split at h
        · cases h
        · rename_i h4
          exact ⟨by simpa using h1, by simpa using h2, by omega, by omega⟩
theorem Fit.add {t : T} (F : Fit t) (r p s : Int) (hr : 0 ≤ r ∧ r ≤ 18446744073709551615) : Fit (addOf t r p s) := by
  unfold addOf
  by_cases h : addErr t r p s = none
  · rw [if_pos h]
    obtain ⟨h1, h2, h3, h4⟩ := addErr_none h
    have hno : has t.ns (Nd.r ⟨r, p, s, (getD t.ns p).h + 1⟩) = false := h1
    have hpr : p ≠ r := fun e => by rw [e, h1] at h2; cases h2
    have hfr : t.first ≠ r := fun e => by have := F.well.first; rw [e, h1] at this; cases this
    have old : ∀ q, q ≠ r → getD (t.ns ++ [⟨r, p, s, (getD t.ns p).h + 1⟩]) q = getD t.ns q := fun q hq => by rw [getD_new hno, if_neg hq]
    have oldh : ∀ q, q ≠ r → has (t.ns ++ [⟨r, p, s, (getD t.ns p).h + 1⟩]) q = has t.ns q := fun q hq => by rw [has_new hno]; simp [hq]
    have new_ : getD (t.ns ++ [⟨r, p, s, (getD t.ns p).h + 1⟩]) r = ⟨r, p, s, (getD t.ns p).h + 1⟩ := by rw [getD_new hno, if_pos rfl]
    have par : ∀ q, q ≠ r → has t.ns q = true → q ≠ t.first → (getD t.ns q).p ≠ r := fun q hq hh hf e => by have := (F.well.up q hh hf).1; rw [e, h1] at this; cases this
    refine ⟨⟨?_, fun q hq hf => ?_, fun q hq => ?_, fun q hq => ?_⟩, ?_, fun q hq hf => ?_, ?_, ?_⟩
    · show has (t.ns ++ _) t.first = true
      rw [oldh _ hfr]; exact F.well.first
    · by_cases e : q = r
      · subst e
        show has _ (getD _ q).p = true ∧ (getD _ (getD _ q).p).h + 1 = (getD _ q).h
        rw [new_, oldh _ hpr, old _ hpr]
        exact ⟨h2, rfl⟩
      · have hq' : has t.ns q = true := by rw [← oldh q e]; exact hq
        show has _ (getD _ q).p = true ∧ (getD _ (getD _ q).p).h + 1 = (getD _ q).h
        rw [old q e, oldh _ (par q e hq' hf), old _ (par q e hq' hf)]
        exact F.well.up q hq' hf
    · by_cases e : q = r
      · subst e
        show 0 ≤ (getD _ q).h
        rw [new_]
        have := F.well.root p h2
        show 0 ≤ (getD t.ns p).h + 1
        omega
      · have hq' : has t.ns q = true := by rw [← oldh q e]; exact hq
        show 0 ≤ (getD _ q).h
        rw [old q e]
        exact F.well.root q hq'
    · by_cases e : q = r
      · subst e; exact hr
      · exact F.well.wide q (by rw [← oldh q e]; exact hq)
    · show Uniq (t.ns ++ _)
      unfold Uniq
      rw [List.map_append, List.nodup_append]
      refine ⟨F.uniq, by simp, fun a ha b hb => ?_⟩
      simp at hb
      subst hb
      intro e
      subst e
      have := (has_mem t.ns a).2 ha
      rw [h1] at this
      cases this
    · by_cases e : q = r
      · subst e
        show (getD _ (getD _ q).p).s < (getD _ q).s
        rw [new_, old _ hpr]
        exact h3
      · have hq' : has t.ns q = true := by rw [← oldh q e]; exact hq
        show (getD _ (getD _ q).p).s < (getD _ q).s
        rw [old q e, old _ (par q e hq' hf)]
        exact F.rise q hq' hf
    · show (getD (t.ns ++ _) t.first).h = 0
      rw [old _ hfr]; exact F.zero
    · show 0 ≤ (getD (t.ns ++ _) t.first).s
      rw [old _ hfr]; exact F.low
  · rw [if_neg h]
    exact F
theorem Fit.one (r s : Int) (hr : 0 ≤ r ∧ r ≤ 18446744073709551615) (hs : 0 ≤ s) : Fit ⟨r, [⟨r, r, s, 0⟩]⟩ := by
  have hh : ∀ q, has [⟨r, r, s, 0⟩] q = decide (r = q) := fun q => by
    unfold has find
    rw [List.find?_cons]
    by_cases e : r = q
    · simp [e]
    · have : (r == q) = false := by simp [e]
      show (match r == q with | true => some _ | false => List.find? _ []).isSome = _
      rw [this]
      simp [e]
  have hg : getD [⟨r, r, s, 0⟩] r = ⟨r, r, s, 0⟩ := by simp [getD, find]
  refine ⟨⟨by show has _ r = true; rw [hh]; simp, fun q hq hf => ?_, fun q hq => ?_, fun q hq => ?_⟩, by simp [Uniq], fun q hq hf => ?_, by show (getD _ r).h = 0; rw [hg], by show 0 ≤ (getD _ r).s; rw [hg]; exact hs⟩
  all_goals
    replace hq : has [⟨r, r, s, 0⟩] q = true := hq
    rw [hh] at hq
    have e : r = q := by simpa using hq
    subst e
  · exact absurd rfl hf
  · show 0 ≤ (getD _ r).h
    rw [hg]
    exact Int.le_refl 0
  · exact hr
  · exact absurd rfl hf
theorem add_slots {t : T} (r p s : Int) (b : Int) (hs : ∀ q, has t.ns q = true → (getD t.ns q).s ≤ b) (hb : s ≤ b) : ∀ q, has (addOf t r p s).ns q = true → (getD (addOf t r p s).ns q).s ≤ b := by
  unfold addOf
  by_cases h : addErr t r p s = none
  · rw [if_pos h]
    obtain ⟨h1, h2, h3, h4⟩ := addErr_none h
    have hno : has t.ns (Nd.r ⟨r, p, s, (getD t.ns p).h + 1⟩) = false := h1
    intro q hq
    replace hq : has (t.ns ++ [⟨r, p, s, (getD t.ns p).h + 1⟩]) q = true := hq
    show (getD (t.ns ++ [⟨r, p, s, (getD t.ns p).h + 1⟩]) q).s ≤ b
    rw [has_new hno] at hq
    rw [getD_new hno]
    split
    · exact hb
    · rename_i e
      exact hs q (by simpa [e] using hq)
  · rw [if_neg h]
    exact hs
theorem add_length (t : T) (r p s : Int) : (addOf t r p s).ns.length ≤ max t.ns.length 1024 := by
  unfold addOf
  by_cases h : addErr t r p s = none
  · rw [if_pos h]
    obtain ⟨h1, h2, h3, h4⟩ := addErr_none h
    simp
    omega
  · rw [if_neg h]
    omega
end Go.Proofs.YtgbhblbfodphfaaDoor.Tree
