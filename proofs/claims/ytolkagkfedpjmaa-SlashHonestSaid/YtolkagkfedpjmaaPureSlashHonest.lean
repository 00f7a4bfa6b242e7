/- Whoever votes once an epoch, from where it voted to, is never shown: the printed law answers true, for every list of numbers below 256. -/
import Derived.Test.YtolkagkfedpjmaaPSlashHonestx3
namespace Go.Proofs.Ytolkagkfedpjmaa.Pure
open Go.RowKit Go.Proofs.Ytolkagkfedpjmaa.PSlashHonest Go.Proofs.YtolkagkfedpjmaaW.PrintWords Go.Proofs.YtolkagkfedpjmaaW.PrintLast

theorem awake_true : psephoslaw06_awake.f = some true := by decide

/-- What stands in the list: each span rises, each begins where the ones ahead have ended. -/
def Good (xs : List S27) (at0 : Int) : Prop :=
  (∀ i : Nat, i < xs.length → (xs.getD i z27).f2.f0 < (xs.getD i z27).f3.f0 ∧ (xs.getD i z27).f3.f0 ≤ at0) ∧ (∀ i j : Nat, i < j → j < xs.length → (xs.getD i z27).f3.f0 ≤ (xs.getD j z27).f2.f0)

theorem good_more {xs : List S27} {a b : Int} (h : Good xs a) (hab : a < b) (v : S27) (h2 : v.f2.f0 = a) (h3 : v.f3.f0 = b) : Good (xs ++ [v]) b := by
  have old : ∀ i : Nat, i < xs.length → (xs ++ [v]).getD i z27 = xs.getD i z27 := fun i hi => by
    simp [List.getD_eq_getElem?_getD, List.getElem?_append_left hi]
  have new : (xs ++ [v]).getD xs.length z27 = v := by simp [List.getD_eq_getElem?_getD]
  refine ⟨fun i hi => ?_, fun i j hij hj => ?_⟩
  · rw [List.length_append] at hi
    by_cases e : i < xs.length
    · rw [old i e]
      have := h.1 i e
      omega
    · obtain rfl : i = xs.length := by simp at hi; omega
      rw [new]
      omega
  · rw [List.length_append] at hj
    by_cases e : j < xs.length
    · rw [old i (by omega), old j e]
      exact h.2 i j hij e
    · obtain rfl : j = xs.length := by simp at hj; omega
      rw [new, old i hij, h2]
      exact (h.1 i hij).2

theorem bad_false {xs : List S27} {a : Int} (h : Good xs a) (i j : Nat) (hij : i < j) (hj : j < xs.length) (l l' : List Int) :
    slash_Bad.f (xs.getD j z27).f0 (xs.getD j z27).f1 (xs.getD j z27).f2.f0 (xs.getD j z27).f2.f1 (xs.getD j z27).f3.f0 (xs.getD j z27).f3.f1 l (xs.getD i z27).f0 (xs.getD i z27).f1 (xs.getD i z27).f2.f0 (xs.getD i z27).f2.f1 (xs.getD i z27).f3.f0 (xs.getD i z27).f3.f1 l' = some false := by
  have h1 := h.1 i (by omega)
  have h2 := h.1 j hj
  have h3 := h.2 i j hij hj
  unfold slash_Bad.f slash_Double.f slash_Around.f
  rw [if_neg (by omega)]
  simp only [Option.bind_some, Bool.false_eq_true, if_false]
  rw [if_neg (by omega)]
  simp only [Option.bind_some, Bool.false_eq_true, if_false]
  rw [if_pos (by omega)]
  simp only [Option.bind_some, Option.some.injEq, decide_eq_false_iff_not]
  omega

theorem wrap_up {i : Int} (h0 : -9223372036854775808 ≤ i) (h : i < 9223372036854775807) : wrap64 (i + 1) = i + 1 := by
  unfold wrap64
  omega

theorem l2_tells {xs : List S27} {a : Int} (hg : Good xs a) (hn : xs.length ≤ 40) (j : Nat) (hj : j < xs.length) (K : Nat) (hK : ∀ k, K ≤ k → psephoslaw06_SlashHonest.l1 k xs xs.length (((j : Nat) : Int) + 1) = some true) (d : Nat) :
    ∀ i : Nat, i + d = j → ∀ k, K + d + 1 ≤ k → psephoslaw06_SlashHonest.l2 k xs j xs.length j ((j : Nat) : Int) i = some true := by
  induction d with
  | zero =>
    intro i hi k hk
    obtain ⟨k, rfl⟩ : ∃ m, k = m + 1 := ⟨k - 1, by omega⟩
    simp only [psephoslaw06_SlashHonest.l2]
    rw [if_neg (by omega), wrap_up (by omega) (by omega)]
    exact hK k (by omega)
  | succ d ih =>
    intro i hi k hk
    obtain ⟨k, rfl⟩ : ∃ m, k = m + 1 := ⟨k - 1, by omega⟩
    simp only [psephoslaw06_SlashHonest.l2]
    rw [if_pos (by omega), if_pos (by omega), if_pos (by omega), if_pos (by omega), if_pos (by omega)]
    have hb := bad_false hg i j (by omega) hj
    unfold rd_T27
    simp only [Int.toNat_natCast]
    rw [hb]
    simp only [Option.bind_some, Bool.false_eq_true, if_false]
    rw [wrap_up (by omega) (by omega)]
    have := ih (i + 1) (by omega) k (by omega)
    rwa [show ((i : Nat) : Int) + 1 = ((i + 1 : Nat) : Int) by omega]

theorem l1_tells {xs : List S27} {a : Int} (hg : Good xs a) (hn : xs.length ≤ 40) (d : Nat) :
    ∀ j : Nat, j + d = xs.length → ∃ K, ∀ k, K ≤ k → psephoslaw06_SlashHonest.l1 k xs xs.length j = some true := by
  induction d with
  | zero =>
    intro j hj
    refine ⟨1, fun k hk => ?_⟩
    obtain ⟨k, rfl⟩ : ∃ m, k = m + 1 := ⟨k - 1, by omega⟩
    simp only [psephoslaw06_SlashHonest.l1]
    rw [if_neg (by omega)]
  | succ d ih =>
    intro j hj
    obtain ⟨K, hK⟩ := ih (j + 1) (by omega)
    refine ⟨K + j + 2, fun k hk => ?_⟩
    obtain ⟨k, rfl⟩ : ∃ m, k = m + 1 := ⟨k - 1, by omega⟩
    simp only [psephoslaw06_SlashHonest.l1]
    rw [if_pos (by omega), if_pos (by omega), if_pos (by omega)]
    have hl : ((xs.take ((j : Nat) : Int).toNat).length : Int) = j := by simp; omega
    rw [hl]
    exact l2_tells hg hn j (by omega) K (fun k hk => by simpa using hK k hk) j 0 (by omega) k (by omega)

theorem j1_tells {xs : List S27} {a : Int} (hg : Good xs a) (hn : xs.length ≤ 40) : ∃ K, ∀ k, K ≤ k → psephoslaw06_SlashHonest.j1 k xs = some true := by
  obtain ⟨K, hK⟩ := l1_tells hg hn xs.length 0 (by omega)
  refine ⟨K + 1, fun k hk => ?_⟩
  obtain ⟨k, rfl⟩ : ∃ m, k = m + 1 := ⟨k - 1, by omega⟩
  simp only [psephoslaw06_SlashHonest.j1]
  exact hK k (by omega)

theorem l0_tells (l : List Int) (hl : l.length * 1 ≤ 140737488351232) (hw : ∀ x ∈ l, (Lit.int .u8 x).wf = true) (d : Nat) :
    ∀ (xs : List S27) (a : Int), Good xs a → xs.length + d = min l.length 40 → 0 ≤ a → a ≤ 6 * xs.length →
      ∃ K, ∀ k, K ≤ k → psephoslaw06_SlashHonest.l0 k xs a l l.length xs.length = some true := by
  induction d with
  | zero =>
    intro xs a hg hx ha0 ha1
    obtain ⟨K, hK⟩ := j1_tells hg (by omega)
    refine ⟨K + 1, fun k hk => ?_⟩
    obtain ⟨k, rfl⟩ : ∃ m, k = m + 1 := ⟨k - 1, by omega⟩
    simp only [psephoslaw06_SlashHonest.l0]
    by_cases e : (xs.length : Int) < (l.length : Int)
    · rw [if_pos e, if_pos (by omega), if_pos e, if_pos (by omega)]
      exact hK k (by omega)
    · rw [if_neg e]
      exact hK k (by omega)
  | succ d ih =>
    intro xs a hg hx ha0 ha1
    have hr : 0 ≤ rd l xs.length ∧ rd l xs.length ≤ 255 := by
      have hm : rd l xs.length ∈ l := by
        unfold rd
        rw [Int.toNat_natCast, List.getD_eq_getElem?_getD, List.getElem?_eq_getElem (by omega), Option.getD_some]
        exact List.getElem_mem _
      have := hw _ hm
      simpa [Lit.wf, IntKind.min, IntKind.max, IntKind.signed, IntKind.bits] using this
    generalize hv : rd l xs.length = v at *
    have ht : Int.tmod v 5 = v % 5 := Int.tmod_eq_emod_of_nonneg hr.1
    have h5 : 0 ≤ v % 5 ∧ v % 5 < 5 := by omega
    obtain ⟨K, hK⟩ := ih (xs ++ [⟨0, 0, ⟨a, 0⟩, ⟨a + 1 + v % 5, IntKind.u64.wrap v⟩, []⟩]) (a + 1 + v % 5) (good_more hg (by omega) _ rfl rfl) (by simp; omega) (by omega) (by simp; omega)
    refine ⟨K + 1, fun k hk => ?_⟩
    obtain ⟨k, rfl⟩ : ∃ m, k = m + 1 := ⟨k - 1, by omega⟩
    simp only [psephoslaw06_SlashHonest.l0]
    rw [if_pos (by omega), if_pos (by omega), if_pos (by omega), if_neg (by omega), if_pos (by omega), hv, ht]
    have w1 : wrap64 (v % 5) = v % 5 := by unfold wrap64; omega
    have w2 : wrap64 (a + 1) = a + 1 := by unfold wrap64; omega
    have w3 : wrap64 (a + 1 + v % 5) = a + 1 + v % 5 := by unfold wrap64; omega
    have w4 : wrap64 ((xs.length : Int) + 1) = (xs.length : Int) + 1 := by unfold wrap64; omega
    rw [w1, w2, w3, w4]
    have := hK k (by omega)
    rw [List.length_append, List.length_singleton, Int.natCast_add] at this
    exact this

theorem SlashHonest : psephoslaw06_SlashHonest.Pure := by
  intro l _ hl hw
  obtain ⟨K, hK⟩ := l0_tells l hl hw (min l.length 40) [] 0 ⟨fun i hi => absurd hi (by simp), fun i j _ hj => absurd hj (by simp)⟩ (by simp) (by omega) (by simp)
  refine ⟨K, ?_⟩
  unfold psephoslaw06_SlashHonest.f
  rw [awake_true]
  simp only [Option.bind_some, if_true]
  exact hK K (Nat.le_refl _)

end Go.Proofs.Ytolkagkfedpjmaa.Pure
