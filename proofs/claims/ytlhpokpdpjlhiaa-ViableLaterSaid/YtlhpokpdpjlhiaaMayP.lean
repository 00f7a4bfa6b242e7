/-
  The plain side of the laws ViableOf and ViableLater of package psephoslaw13.
-/
import Derived.Test.YtlhpokpdpjlhiaaView
import Derived.Test.YtlhpokpdpjlhiaaVUpP
namespace Go.Proofs.Ytlhpokpdpjlhiaa.QI
open Go.RowKit Go.Maps Go.Proofs.YtlhpokpdpjlhiaaW.PrintWords Go.Proofs.Ytlhpokpdpjlhiaa.Tree Go.Proofs.Ytlhpokpdpjlhiaa.Own
set_option linter.unusedVariables false
set_option maxRecDepth 100000

/-- The parent of the block behind k others. -/
def pOf (t : T) (k : Nat) : Int := (getD t.ns ((k : Int) + 1)).p
/-- None of the first k blocks, but the first one, stands on r at once. -/
def lone (p : Nat → Int) (r : Int) : Nat → Bool
  | 0 => true
  | k + 1 => lone p r k && !(decide (0 < k) && (p k == r))
theorem lone_iff (p : Nat → Int) (r : Int) : ∀ n, lone p r n = true ↔ ∀ k, 0 < k → k < n → p k ≠ r
  | 0 => by simp [lone]
  | n + 1 => by
    unfold lone
    rw [Bool.and_eq_true, lone_iff p r n]
    constructor
    · rintro ⟨h1, h2⟩ k hk hn e
      by_cases e2 : k = n
      · subst e2
        simp [hk, e] at h2
      · exact h1 k hk (by omega) e
    · intro h
      refine ⟨fun k h1 h2 => h k h1 (by omega), ?_⟩
      by_cases h0 : 0 < n
      · have := h n h0 (by omega)
        simp [h0, this]
      · simp [h0]
theorem kid_num {t : T} {m : List S39} (R : Rel t m) (r x : Int) : x ∈ kidsOf t r ↔ ∃ k : Nat, 0 < k ∧ k < t.ns.length ∧ x = (k : Int) + 1 ∧ pOf t k = r := by
  rw [kid_is, rel_has R, R.first]
  constructor
  · rintro ⟨⟨h1, h2⟩, h3, h4⟩
    refine ⟨(x - 1).toNat, by omega, by omega, by omega, ?_⟩
    unfold pOf
    rw [show (((x - 1).toNat : Nat) : Int) + 1 = x by omega]
    exact h4
  · rintro ⟨k, h1, h2, rfl, h4⟩
    exact ⟨by omega, by omega, h4⟩
theorem kids_lone {t : T} {m : List S39} (R : Rel t m) (r : Int) : (kidsOf t r).isEmpty = lone (pOf t) r t.ns.length := by
  cases h : lone (pOf t) r t.ns.length with
  | true =>
    rw [lone_iff] at h
    rw [List.isEmpty_iff]
    refine List.eq_nil_iff_forall_not_mem.2 fun x hx => ?_
    obtain ⟨k, h1, h2, _, h4⟩ := (kid_num R r x).1 hx
    exact h k h1 h2 h4
  | false =>
    cases hk : kidsOf t r with
    | cons => rfl
    | nil =>
      have : lone (pOf t) r t.ns.length = true := (lone_iff _ _ _).2 fun k h1 h2 h4 => by
        have := (kid_num R r ((k : Int) + 1)).2 ⟨k, h1, h2, rfl, h4⟩
        rw [hk] at this
        cases this
      rw [h] at this
      cases this
theorem may_hit {t : T} {m : List S39} (R : Rel t m) {lf : Int → Bool} {r : Int} {k : Nat} (hr : Tree.has t.ns r = true) (h0 : 0 < k) (hk : k < t.ns.length) (hp : pOf t k = r) (hm : may t lf ((k : Int) + 1) = true) : may t lf r = true := by
  rw [may_eq (rel_low R) lf hr, Bool.or_eq_true]
  exact .inr (List.any_eq_true.2 ⟨_, (kid_num R r _).2 ⟨k, h0, hk, rfl, hp⟩, hm⟩)
theorem may_miss {t : T} {m : List S39} (R : Rel t m) {lf : Int → Bool} {r : Int} (hr : Tree.has t.ns r = true) (h : ∀ k : Nat, 0 < k → k < t.ns.length → pOf t k = r → may t lf ((k : Int) + 1) = false) : may t lf r = (lone (pOf t) r t.ns.length && lf r) := by
  rw [may_eq (rel_low R) lf hr, kids_lone R]
  have : (kidsOf t r).any (may t lf) = false := by
    rw [List.any_eq_false]
    intro x hx
    obtain ⟨k, h1, h2, rfl, h4⟩ := (kid_num R r x).1 hx
    rw [h k h1 h2 h4]
    simp
  rw [this, Bool.or_false]
/-- How many of the first k blocks may. -/
def cnt (f : Int → Bool) : Nat → Nat
  | 0 => 0
  | k + 1 => cnt f k + (if f ((k : Int) + 1) = true then 1 else 0)
theorem cnt_le (f : Int → Bool) : ∀ n, cnt f n ≤ n
  | 0 => Nat.le_refl _
  | n + 1 => by
    have := cnt_le f n
    unfold cnt
    split <;> omega
theorem cnt_len (f : Int → Bool) : ∀ n, cnt f n = ((List.range n).filter fun k : Nat => f ((k : Int) + 1)).length
  | 0 => rfl
  | n + 1 => by
    rw [List.range_succ, List.filter_append, List.length_append, ← cnt_len f n]
    show cnt f n + (if f ((n : Int) + 1) = true then 1 else 0) = _
    split
    · rename_i h
      simp [h]
    · rename_i h
      simp [h]
theorem cnt_is {t : T} {m : List S39} (R : Rel t m) {lf : Int → Bool} {l : List Int} (hd : l.Nodup) (hm : ∀ x, x ∈ l ↔ Tree.has t.ns x = true ∧ may t lf x = true) : l.length = cnt (may t lf) t.ns.length := by
  rw [cnt_len]
  have e := len_same hd (m := ((List.range t.ns.length).filter fun k : Nat => may t lf ((k : Int) + 1)).map (fun k : Nat => (k : Int) + 1)) ?_ ?_
  · rw [e, List.length_map]
  · rw [List.Nodup, List.pairwise_map]
    refine List.Pairwise.imp ?_ ((List.nodup_range (n := t.ns.length)).filter _)
    intro a b h e
    exact h (by omega)
  · intro x
    rw [hm, rel_has R, List.mem_map]
    constructor
    · rintro ⟨⟨h1, h2⟩, h3⟩
      refine ⟨(x - 1).toNat, List.mem_filter.2 ⟨List.mem_range.2 (by omega), ?_⟩, by omega⟩
      rw [show (((x - 1).toNat : Nat) : Int) + 1 = x by omega]
      exact h3
    · rintro ⟨k, hk, rfl⟩
      rw [List.mem_filter, List.mem_range] at hk
      exact ⟨by omega, hk.2⟩

/-! ### later -/
theorem mayN_mono (t : T) {lf lg : Int → Bool} (h : ∀ r, lf r = true → lg r = true) : ∀ (n : Nat) (r : Int), mayN t lf n r = true → mayN t lg n r = true
  | 0, _, e => by cases e
  | n + 1, r, e => by
    rw [mayN_succ, Bool.or_eq_true, Bool.and_eq_true] at e ⊢
    rcases e with ⟨e1, e2⟩ | e
    · exact .inl ⟨e1, h r e2⟩
    · obtain ⟨x, hx, h2⟩ := List.any_eq_true.1 e
      exact .inr (List.any_eq_true.2 ⟨x, hx, mayN_mono t h n x h2⟩)
theorem lf_later (t : T) (je fr ep : Int) (src : Int → Int) (r : Int) (h : lfOf t je fr (ep + 1) src r = true) : lfOf t je fr ep src r = true := by
  unfold lfOf at h ⊢
  rw [Bool.and_eq_true, Bool.or_eq_true, Bool.or_eq_true, decide_eq_true_eq] at h ⊢
  refine ⟨?_, h.2⟩
  rcases h.1 with h | h
  · exact .inl h
  · exact .inr (by omega)
theorem may_later (t : T) (je fr ep : Int) (src : Int → Int) (r : Int) (h : may t (lfOf t je fr (ep + 1) src) r = true) : may t (lfOf t je fr ep src) r = true :=
  mayN_mono t (lf_later t je fr ep src) 1024 r h
end Go.Proofs.Ytlhpokpdpjlhiaa.QI
