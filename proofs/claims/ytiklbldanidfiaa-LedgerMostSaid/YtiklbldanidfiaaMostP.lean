/-
  The plain side of the law LedgerMost of package psephoslaw10: votes of enough for an epoch's checkpoint justify it when that ends.
-/
import Derived.Test.YtiklbldanidfiaaPullP
import Derived.Test.YtiklbldanidfiaaVoteR3
import Derived.Test.YtiklbldanidfiaaQLx10
namespace Go.Proofs.Ytiklbldanidfiaa.QL
open Go.RowKit Go.Proofs.YtiklbldanidfiaaW.PrintWords Go.Proofs.YtiklbldanidfiaaW.PrintLast Go.Proofs.YtiklbldanidfiaaW.PrintMore Go.Proofs.Ytiklbldanidfiaa.Own Go.Proofs.Ytiklbldanidfiaa.Justify Go.Proofs.Ytiklbldanidfiaa.QLV
set_option linter.unusedVariables false

/-- Rising lists of the same are the same. -/
theorem rising_eq {a b : List Int} (ha : a.Pairwise (· < ·)) (hb : b.Pairwise (· < ·)) (h : ∀ x, x ∈ a ↔ x ∈ b) : a = b :=
  List.Perm.eq_of_pairwise (le := (· < ·)) (fun _ _ _ _ h1 h2 => by omega) ha hb
    ((List.perm_ext_iff_of_nodup (ha.imp (fun h => by omega)) (hb.imp (fun h => by omega))).2 h)
/-- Those of the first k that are asked for. -/
def someL (P : Nat → Bool) : Nat → List Int
  | 0 => []
  | k + 1 => if P k = true then someL P k ++ [(k : Int)] else someL P k
theorem someL_len (P : Nat → Bool) : ∀ k, (someL P k).length ≤ k
  | 0 => Nat.le_refl _
  | k + 1 => by
    have := someL_len P k
    unfold someL
    split
    · simp; omega
    · omega
theorem someL_mem (P : Nat → Bool) (x : Int) : ∀ k, x ∈ someL P k ↔ ∃ j : Nat, j < k ∧ x = j ∧ P j = true
  | 0 => by simp [someL]
  | k + 1 => by
    unfold someL
    split
    · rename_i h
      rw [List.mem_append, someL_mem P x k, List.mem_singleton]
      constructor
      · rintro (⟨j, h1, h2, h3⟩ | rfl)
        · exact ⟨j, by omega, h2, h3⟩
        · exact ⟨k, by omega, rfl, h⟩
      · rintro ⟨j, h1, h2, h3⟩
        by_cases e : j = k
        · subst e; exact .inr h2
        · exact .inl ⟨j, by omega, h2, h3⟩
    · rename_i h
      rw [someL_mem P x k]
      constructor
      · rintro ⟨j, h1, h2, h3⟩
        exact ⟨j, by omega, h2, h3⟩
      · rintro ⟨j, h1, h2, h3⟩
        by_cases e : j = k
        · subst e; exact absurd h3 h
        · exact ⟨j, by omega, h2, h3⟩
theorem someL_rises (P : Nat → Bool) : ∀ k, (someL P k).Pairwise (· < ·)
  | 0 => by simp [someL]
  | k + 1 => by
    unfold someL
    split
    · rw [List.pairwise_append]
      refine ⟨someL_rises P k, by simp, fun a ha b hb => ?_⟩
      obtain ⟨j, h1, h2, _⟩ := (someL_mem P a k).1 ha
      rw [List.mem_singleton] at hb
      omega
    · exact someL_rises P k
theorem idx_mem (l : List Bool) : ∀ (i : Nat) (x : Int), x ∈ idx i l ↔ ∃ j : Nat, j < l.length ∧ x = ((i + j : Nat) : Int) ∧ l[j]? = some true := by
  induction l with
  | nil => intro i x; simp [idx]
  | cons b l ih =>
    intro i x
    have key : (∃ j : Nat, j < (b :: l).length ∧ x = ((i + j : Nat) : Int) ∧ (b :: l)[j]? = some true) ↔ (x = (i : Int) ∧ b = true) ∨ ∃ j : Nat, j < l.length ∧ x = ((i + 1 + j : Nat) : Int) ∧ l[j]? = some true := by
      constructor
      · rintro ⟨j, h1, h2, h3⟩
        cases j with
        | zero => exact .inl ⟨by omega, by simpa using h3⟩
        | succ j => exact .inr ⟨j, by simpa using h1, by omega, by simpa using h3⟩
      · rintro (⟨h1, h2⟩ | ⟨j, h1, h2, h3⟩)
        · exact ⟨0, by simp, by omega, by simp [h2]⟩
        · exact ⟨j + 1, by simpa using h1, by omega, by simpa using h3⟩
    rw [key]
    unfold idx
    split
    · rename_i h
      rw [List.mem_cons, ih]
      simp [h]
    · rename_i h
      rw [ih]
      simp [h]
theorem idx_rises (l : List Bool) : ∀ i : Nat, (idx i l).Pairwise (· < ·) := by
  induction l with
  | nil => intro i; simp [idx]
  | cons b l ih =>
    intro i
    unfold idx
    split
    · rw [List.pairwise_cons]
      refine ⟨fun x hx => ?_, ih _⟩
      obtain ⟨j, h1, h2, _⟩ := (idx_mem l (i + 1) x).1 hx
      omega
    · exact ih _
theorem marks_get (W : List Int) : ∀ (l : List Bool), (∀ x ∈ W, 0 ≤ x) → ∀ j, j < l.length → ((marks l W)[j]? = some true ↔ l[j]? = some true ∨ (j : Int) ∈ W) := by
  induction W with
  | nil => intro l _ j hj; simp [marks]
  | cons k W ih =>
    intro l hW j hj
    have hk := hW k (by simp)
    show (marks (l.set k.toNat true) W)[j]? = some true ↔ _
    rw [ih (l.set k.toNat true) (fun x hx => hW x (by simp [hx])) j (by simpa using hj), List.mem_cons, List.getElem?_set]
    by_cases e : k.toNat = j
    · have : (j : Int) = k := by omega
      simp [e, this, hj]
    · have : ¬ (j : Int) = k := by omega
      simp [e, this]
theorem idx_marks (P : Nat → Bool) (n : Nat) : idx 0 (marks (List.replicate n false) (someL P n)) = someL P n := by
  refine rising_eq (idx_rises _ _) (someL_rises P n) fun x => ?_
  have hl : (marks (List.replicate n false) (someL P n)).length = n := by rw [marks_len, List.length_replicate]
  rw [idx_mem, hl]
  have hp : ∀ x ∈ someL P n, 0 ≤ x := fun x hx => by obtain ⟨j, _, h, _⟩ := (someL_mem P x n).1 hx; omega
  constructor
  · rintro ⟨j, h1, h2, h3⟩
    rw [marks_get _ _ hp j (by rw [List.length_replicate]; exact h1)] at h3
    rcases h3 with h3 | h3
    · simp [h1] at h3
    · rw [h2, Nat.zero_add]; exact h3
  · intro hx
    obtain ⟨j, h1, h2, h3⟩ := (someL_mem P x n).1 hx
    refine ⟨j, h1, by omega, ?_⟩
    rw [marks_get _ _ hp j (by rw [List.length_replicate]; exact h1)]
    exact .inr (by rw [← h2]; exact hx)
/-- The state of epoch 2 in which some have voted: what is justified when it ends. -/
theorem most_pull (lx : List Int) (sl : Int) (f : Int → Int) (t : LS) (n : Nat) (p : Int) (hb : t.j.b0 = false ∧ t.j.pe = 0 ∧ t.j.pr = p ∧ t.j.ce = 0 ∧ t.j.cr = p ∧ t.j.fe = 0 ∧ t.j.fr = p ∧ t.bf = List.replicate n false) (he : t.ep = 2) :
    (pullOf lx sl f t).ce = (if enough (sumOf lx 0 (idx 0 t.nw)) (allOf 0 lx) = true then 2 else 0) ∧ (pullOf lx sl f t).cr = (if enough (sumOf lx 0 (idx 0 t.nw)) (allOf 0 lx) = true then f (startOf 2 sl) else p) ∧ (pullOf lx sl f t).b0 = enough (sumOf lx 0 (idx 0 t.nw)) (allOf 0 lx) := by
  obtain ⟨h0, h1, h2, h3, h4, h5, h6, h7⟩ := hb
  have hs : sumOf lx 0 [] = 0 := rfl
  have hen := enough_none (allOf 0 lx) (all_range lx 0 (by omega))
  have hm : mx 0 2 = 2 := by unfold mx; omega
  unfold pullOf
  rw [if_neg (by omega), h7, idx_none, hs, hen, he, hm]
  cases enough (sumOf lx 0 (idx 0 t.nw)) (allOf 0 lx) <;> simp [next, h3, h4]
/-- A vote of some for epoch 2's checkpoint may be, if there are any. -/
theorem most_right (lx : List Int) (P : Nat → Bool) (sl a2 p tr : Int) (hl : lx.length ≤ 4096) (hs : 1 ≤ sl) (hs2 : sl ≤ 64) :
    Ev (fun k => vote_Right.f k lx sl a2 (startOf 2 sl) 0 0 p 2 tr (someL P lx.length)) (decide (someL P lx.length ≠ [])) := by
  have hst : startOf 2 sl = 2 * sl := by
    unfold startOf
    rw [mx1 hs, show mx 0 2 = 2 by unfold mx; omega]
    unfold wrap64
    omega
  have hlen := someL_len P lx.length
  by_cases e : someL P lx.length = []
  · rw [decide_eq_false (by simp [e])]
    refine right_false _ lx sl a2 _ 0 0 p 2 tr (by omega) (by omega) (fun hg => hg.1 (by rw [e]; rfl))
  · rw [decide_eq_true e]
    refine right_true _ lx sl a2 _ 0 0 p 2 tr (by omega) (by omega) ⟨fun h => e (List.eq_nil_of_length_eq_zero h), by omega, by omega, by omega, ?_, ok_of_rises (someL_rises P _) (fun x hx => ?_)⟩
    · rw [hst, show max 0 (2 * sl) = 2 * sl by omega, show max 1 sl = sl by omega, Int.mul_ediv_cancel 2 (by omega)]
    · obtain ⟨j, h1, h2, _⟩ := (someL_mem P x _).1 hx
      omega
theorem most_start (lx : List Int) (sl : Int) (f : Int → Int) (s : LS) (k : Nat) (hk : k ≤ 8) (h0 : 0 ≤ s.ep) (he : s.ep ≤ 8) (hs : 1 ≤ sl) (hs2 : sl ≤ 64) : advTo lx sl f s (startOf (k : Int) sl) = (epochs s.ep ((k : Int) - s.ep).toNat).foldl (advStep lx sl f) s := by
  have h1 : 0 ≤ (k : Int) * sl := Int.mul_nonneg (by omega) (by omega)
  have h2 : (k : Int) * sl ≤ 8 * 64 := Int.mul_le_mul (by omega) hs2 (by omega) (by omega)
  have h3 : startOf (k : Int) sl = (k : Int) * sl := by
    unfold startOf
    rw [mx1 hs, show mx 0 (k : Int) = (k : Int) by unfold mx; omega]
    generalize (k : Int) * sl = q at h1 h2 ⊢
    unfold wrap64
    omega
  rw [h3, adv_small lx sl f s _ h0 (by omega) hs hs2 h1 (by omega), Int.mul_ediv_cancel _ (by omega)]
end Go.Proofs.Ytiklbldanidfiaa.QL
