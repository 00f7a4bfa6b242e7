/-
  Package tree: what is left by a cut is a fit tree again (the plain side).
-/
import Derived.Test.YtgbhblbfodphfaaDoorDeeds
namespace Go.Proofs.YtgbhblbfodphfaaDoor.Tree
open Go.RowKit Go.Maps Go.Proofs.YtgbhblbfodphfaaDoorW.PrintWords
set_option linter.unusedVariables false

theorem Fit.below_low {t : T} (F : Fit t) : ∀ (n : Nat) (r on : Int), (getD t.ns r).h ≤ (n : Int) → below t r on = true → (getD t.ns on).h ≤ (getD t.ns r).h := by
  intro n
  induction n with
  | zero =>
    intro r on hn hb
    have hh := below_has hb
    by_cases e : r = on
    · rw [e]; exact Int.le_refl _
    · by_cases e1 : r = t.first
      · rw [e1, below_first (by rw [← e1]; exact e)] at hb
        cases hb
      · have h1 := F.well.up r hh.1 e1
        have := F.well.root _ h1.1
        omega
  | succ n ih =>
    intro r on hn hb
    have hh := below_has hb
    by_cases e : r = on
    · rw [e]; exact Int.le_refl _
    · by_cases e1 : r = t.first
      · rw [e1, below_first (by rw [← e1]; exact e)] at hb
        cases hb
      · have h1 := F.well.up r hh.1 e1
        rw [F.below_up hh.1 e1 e] at hb
        have := ih _ _ (by omega) hb
        omega
theorem cut_mem (t : T) (root x : Int) : x ∈ (rootsOf t.ns).filter (fun r => below t r root) ↔ below t x root = true := by
  rw [List.mem_filter, roots_mem]
  exact ⟨fun h => h.2, fun h => ⟨(below_has h).1, h⟩⟩
theorem cut_has (t : T) (root x : Int) : has (cutOf t root).ns x = below t x root := by
  show has (setAt _ root ⟨root, root, (getD t.ns root).s, 0⟩) x = _
  rw [set_has _ root ⟨root, root, (getD t.ns root).s, 0⟩ rfl, stay_has]
  by_cases h : below t x root = true
  · rw [h]; exact decide_eq_true ((cut_mem t root x).2 h)
  · rw [show below t x root = false by simpa using h]
    exact decide_eq_false (fun e => h ((cut_mem t root x).1 e))
theorem cut_get (t : T) (root : Int) (hr : has t.ns root = true) (x : Int) (h : below t x root = true) : getD (cutOf t root).ns x = if x = root then ⟨root, root, (getD t.ns root).s, 0⟩ else ⟨x, (getD t.ns x).p, (getD t.ns x).s, (getD t.ns x).h - (getD t.ns root).h⟩ := by
  show getD (setAt _ root ⟨root, root, (getD t.ns root).s, 0⟩) x = _
  rw [set_getD _ root ⟨root, root, (getD t.ns root).s, 0⟩ rfl (by rw [stay_has]; exact decide_eq_true ((cut_mem t root root).2 (below_refl hr)))]
  split
  · rfl
  · rw [stay_getD _ _ _ _ ((cut_mem t root x).2 h)]
    rfl
theorem set_roots (ns : List Nd) (r : Int) (m : Nd) (hm : m.r = r) : (setAt ns r m).map (·.r) = ns.map (·.r) := by
  unfold setAt
  rw [List.map_map]
  refine List.map_congr_left fun n _ => ?_
  simp only [Function.comp]
  split
  · rename_i e; rw [hm, e]
  · rfl
theorem cut_uniq {t : T} (hu : Uniq t.ns) (root : Int) : Uniq (cutOf t root).ns := by
  unfold Uniq
  show ((setAt _ root ⟨root, root, (getD t.ns root).s, 0⟩).map (·.r)).Nodup
  rw [set_roots _ root ⟨root, root, (getD t.ns root).s, 0⟩ rfl]
  unfold stayOf
  rw [List.map_map]
  have : ((fun n : Nd => n.r) ∘ stayNd t (getD t.ns root).h) = id := by
    funext x
    rfl
  rw [this, List.map_id]
  exact (roots_nodup hu).filter _
theorem cut_length (t : T) (root : Int) : (cutOf t root).ns.length = ((rootsOf t.ns).filter (fun r => below t r root)).length := by
  show (setAt _ _ _).length = _
  rw [set_length, stay_length]
theorem cut_sum (t : T) (root : Int) : (goneOf t root).length + (cutOf t root).ns.length = t.ns.length := by
  rw [cut_length, ← roots_length t.ns]
  unfold goneOf
  generalize rootsOf t.ns = l
  induction l with
  | nil => rfl
  | cons x l ih =>
    cases h : below t x root <;> simp [h] <;> omega
theorem gone_mem (t : T) (root x : Int) : x ∈ goneOf t root ↔ has t.ns x = true ∧ below t x root = false := by
  unfold goneOf
  rw [List.mem_filter, roots_mem]
  simp
theorem gone_nodup {t : T} (hu : Uniq t.ns) (root : Int) : (goneOf t root).Nodup := (roots_nodup hu).filter _
theorem Fit.cut {t : T} (F : Fit t) {root : Int} (hr : has t.ns root = true) : Fit (cutOf t root) := by
  have par : ∀ x, below t x root = true → x ≠ root → below t (getD t.ns x).p root = true ∧ x ≠ t.first := by
    intro x h hne
    have hf : x ≠ t.first := fun e => by rw [e, below_first (by rw [← e]; exact hne)] at h; cases h
    exact ⟨by rw [← F.below_up (below_has h).1 hf hne]; exact h, hf⟩
  have low : ∀ x, below t x root = true → (getD t.ns root).h ≤ (getD t.ns x).h := fun x h => by
    have := F.well.root x (below_has h).1
    exact F.below_low (getD t.ns x).h.toNat x root (by omega) h
  refine ⟨⟨?_, fun x hx hf => ?_, fun x hx => ?_, fun x hx => ?_⟩, cut_uniq F.uniq root, fun x hx hf => ?_, ?_, ?_⟩
  · show has (cutOf t root).ns root = true
    rw [cut_has]
    exact below_refl hr
  · rw [cut_has] at hx
    replace hf : x ≠ root := hf
    have hp := par x hx hf
    have h1 := F.well.up x (below_has hx).1 hp.2
    rw [cut_get t root hr x hx, if_neg hf]
    show has (cutOf t root).ns (getD t.ns x).p = true ∧ (getD (cutOf t root).ns (getD t.ns x).p).h + 1 = (getD t.ns x).h - (getD t.ns root).h
    rw [cut_has, cut_get t root hr _ hp.1]
    refine ⟨hp.1, ?_⟩
    split
    · rename_i e
      show 0 + 1 = _
      rw [e] at h1
      omega
    · show (getD t.ns (getD t.ns x).p).h - (getD t.ns root).h + 1 = _
      omega
  · rw [cut_has] at hx
    rw [cut_get t root hr x hx]
    split
    · exact Int.le_refl 0
    · have := low x hx
      show 0 ≤ (getD t.ns x).h - (getD t.ns root).h
      omega
  · rw [cut_has] at hx
    exact F.well.wide x (below_has hx).1
  · rw [cut_has] at hx
    replace hf : x ≠ root := hf
    have hp := par x hx hf
    have h1 := F.rise x (below_has hx).1 hp.2
    rw [cut_get t root hr x hx, if_neg hf]
    show (getD (cutOf t root).ns (getD t.ns x).p).s < (getD t.ns x).s
    rw [cut_get t root hr _ hp.1]
    split
    · rename_i e
      rw [e] at h1
      exact h1
    · exact h1
  · show (getD (cutOf t root).ns root).h = 0
    rw [cut_get t root hr root (below_refl hr), if_pos rfl]
  · show 0 ≤ (getD (cutOf t root).ns root).s
    rw [cut_get t root hr root (below_refl hr), if_pos rfl]
    have h1 := F.well.root root hr
    have h2 := F.high' root hr
    show 0 ≤ (getD t.ns root).s
    omega
theorem Deeds.cut {t : T} (h : Deeds t) {root : Int} (hr : has t.ns root = true) : Deeds (cutOf t root) := by
  refine ⟨h.fit.cut hr, fun x hx => ?_, ?_, fun x hx => ?_⟩
  · rw [cut_has] at hx
    rw [cut_get t root hr x hx]
    split
    · exact h.slot root hr
    · exact h.slot x (below_has hx).1
  · have := cut_sum t root
    have := h.len
    omega
  · rw [cut_has] at hx
    exact h.root x (below_has hx).1
/-- What is left, block by block. -/
theorem cut_same {t : T} (h : Deeds t) {root : Int} (hr : has t.ns root = true) (x : Int) (hx : has (cutOf t root).ns x = true) :
    has t.ns x = true ∧ (getD (cutOf t root).ns x).s = (getD t.ns x).s ∧ wrap64 ((getD t.ns x).h - (getD t.ns root).h) = (getD (cutOf t root).ns x).h ∧ (x ≠ root → (getD (cutOf t root).ns x).p = (getD t.ns x).p) := by
  rw [cut_has] at hx
  have h1 := h.high x (below_has hx).1
  have h2 := h.high root hr
  have hw : wrap64 ((getD t.ns x).h - (getD t.ns root).h) = (getD t.ns x).h - (getD t.ns root).h := by unfold wrap64; omega
  rw [hw, cut_get t root hr x hx]
  refine ⟨(below_has hx).1, ?_⟩
  split
  · rename_i e
    subst e
    refine ⟨rfl, ?_, fun hne => absurd rfl hne⟩
    show _ = (0 : Int)
    omega
  · exact ⟨rfl, rfl, fun _ => rfl⟩

/-! ### what is cut off is laid anew -/
def anew (t : T) (root : Int) (l : List Int) : Nat → T
  | 0 => t
  | k + 1 => addOf (anew t root l k) (rd l (k : Int)) root 1000
theorem rd_at (l : List Int) (k : Nat) (hk : k < l.length) : rd l (k : Int) = l[k] := by simp [rd, List.getD_eq_getElem?_getD, hk]
structure Anew (t : T) (root : Int) (l : List Int) (k : Nat) (v : T) : Prop where
  fit : Fit v
  slot : ∀ r, has v.ns r = true → (getD v.ns r).s ≤ 1000
  has_ : ∀ x, has v.ns x = true ↔ has t.ns x = true ∨ x ∈ l.take k
  len : v.ns.length = t.ns.length + k
  base : getD v.ns root = getD t.ns root
theorem anew_err {t : T} {root : Int} {l : List Int} {k : Nat} {v : T} (h : Anew t root l k v) (hr : has t.ns root = true) (hs : (getD t.ns root).s < 1000) (hn : l.Nodup) (hd : ∀ x ∈ l, has t.ns x = false) (hl : t.ns.length + l.length ≤ 1024) (hk : k < l.length) :
    addErr v (rd l (k : Int)) root 1000 = none := by
  have hx := nodup_new hn k hk
  have hm : rd l (k : Int) ∈ l := by rw [rd_at l k hk]; exact List.getElem_mem hk
  have h1 : has v.ns (rd l (k : Int)) = false := by
    cases e : has v.ns (rd l (k : Int)) with
    | false => rfl
    | true =>
      rcases (h.has_ _).1 e with e1 | e1
      · rw [hd _ hm] at e1; cases e1
      · exact absurd e1 hx
  have h2 : has v.ns root = true := (h.has_ root).2 (.inl hr)
  unfold addErr
  rw [h1, if_neg (by simp), h2, if_neg (by simp), h.base, if_neg (by omega), h.len, if_neg (by omega)]
theorem anew_ok {t : T} (F : Fit t) {root : Int} {l : List Int} (ht : ∀ r, has t.ns r = true → (getD t.ns r).s ≤ 1000) (hr : has t.ns root = true) (hs : (getD t.ns root).s < 1000) (hn : l.Nodup) (hd : ∀ x ∈ l, has t.ns x = false) (hw : ∀ x ∈ l, 0 ≤ x ∧ x ≤ 18446744073709551615) (hl : t.ns.length + l.length ≤ 1024) :
    ∀ k, k ≤ l.length → Anew t root l k (anew t root l k) := by
  intro k
  induction k with
  | zero => exact fun _ => ⟨F, ht, fun x => by simp [anew], rfl, rfl⟩
  | succ k ih =>
    intro hk
    have h := ih (by omega)
    have he := anew_err h hr hs hn hd hl (by omega)
    have hm : rd l (k : Int) ∈ l := by rw [rd_at l k (by omega)]; exact List.getElem_mem (by omega)
    have hno := (addErr_none he).1
    have hno' : has (anew t root l k).ns (Nd.r ⟨rd l (k : Int), root, 1000, (getD (anew t root l k).ns root).h + 1⟩) = false := hno
    have hns : (addOf (anew t root l k) (rd l (k : Int)) root 1000).ns = (anew t root l k).ns ++ [⟨rd l (k : Int), root, 1000, (getD (anew t root l k).ns root).h + 1⟩] := by
      unfold addOf
      rw [if_pos he]
    have hne : root ≠ rd l (k : Int) := fun e => by have := hd _ hm; rw [← e, hr] at this; cases this
    refine ⟨h.fit.add _ _ _ (hw _ hm), add_slots _ _ _ 1000 h.slot (Int.le_refl _), fun x => ?_, ?_, ?_⟩
    · show has (addOf (anew t root l k) (rd l (k : Int)) root 1000).ns x = true ↔ _
      rw [hns, has_new hno', List.take_succ_eq_append_getElem (by omega), List.mem_append, ← rd_at l k (by omega)]
      simp only [Bool.or_eq_true, decide_eq_true_eq, List.mem_singleton, h.has_ x]
      constructor
      · rintro (e | e | e)
        · exact .inr (.inr e)
        · exact .inl e
        · exact .inr (.inl e)
      · rintro (e | e | e)
        · exact .inr (.inl e)
        · exact .inr (.inr e)
        · exact .inl e
    · show (addOf (anew t root l k) (rd l (k : Int)) root 1000).ns.length = _
      rw [hns, List.length_append, h.len]
      rfl
    · show getD (addOf (anew t root l k) (rd l (k : Int)) root 1000).ns root = _
      rw [hns, getD_new hno', if_neg hne, h.base]
end Go.Proofs.YtgbhblbfodphfaaDoor.Tree
