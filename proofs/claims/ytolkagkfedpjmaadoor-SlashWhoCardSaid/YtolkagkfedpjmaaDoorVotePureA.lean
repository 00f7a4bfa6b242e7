/-
  The plain laws of package vote's printed functions: an epoch, a search, who is in both votes, whether a vote may be; with enough rounds.
-/
import Derived.Test.YtolkagkfedpjmaaDoorQTx9
import Derived.Test.YtolkagkfedpjmaaDoorQTx10
import Derived.Test.YtolkagkfedpjmaaDoorQTx12
import Derived.Test.YtolkagkfedpjmaaDoorQTx13
import Derived.Test.YtolkagkfedpjmaaDoorQTx16
import Derived.Test.YtolkagkfedpjmaaDoorQTx17
import Derived.Test.YtolkagkfedpjmaaDoorQTx18
namespace Go.Proofs.YtolkagkfedpjmaaDoor.QT
open Go.RowKit Go.Proofs.YtolkagkfedpjmaaDoorW.PrintWords Go.Proofs.YtolkagkfedpjmaaDoorW.PrintLast Go.Proofs.YtolkagkfedpjmaaDoorW.PrintMore
set_option linter.unusedVariables false

theorem drop_rd (l : List Int) (i : Nat) (h : i < l.length) : l.drop i = rd l i :: l.drop (i + 1) := by
  rw [List.drop_eq_getElem_cons h]
  simp [rd, List.getD_eq_getElem?_getD, h]
theorem wrap_next {i n : Nat} (hi : i < n) (hn : n ≤ 140737488351232) : wrap64 ((i : Int) + 1) = ((i + 1 : Nat) : Int) := by
  unfold wrap64
  omega
theorem wrap_pred {i n : Nat} (h0 : 0 < i) (hi : i < n) (hn : n ≤ 140737488351232) : wrap64 ((i : Int) - 1) = ((i - 1 : Nat) : Int) := by
  unfold wrap64
  omega
theorem rd_mem (l : List Int) (i : Nat) (h : i < l.length) : rd l i ∈ l := by
  simp [rd, List.getD_eq_getElem?_getD, h]
theorem rd_get (l : List Int) (i : Nat) (h : i < l.length) : rd l i = l[i] := by
  simp [rd, List.getD_eq_getElem?_getD, h]

/-- A slot's epoch. -/
theorem epoch_is (s n : Int) (hs : s ≤ 9223372036854775807) : epoch_Of.f s n = some (max 0 s / max 1 n) := by
  have h0 : mx 0 s = max 0 s := by unfold mx; omega
  have h1 : mx 1 n = max 1 n := by unfold mx; omega
  unfold epoch_Of.f
  rw [h0, h1, if_neg (by omega)]
  have h2 : 0 ≤ max 0 s / max 1 n := Int.ediv_nonneg (by omega) (by omega)
  have h3 : max 0 s / max 1 n ≤ max 0 s := Int.ediv_le_self _ (by omega)
  generalize max 0 s / max 1 n = q at h2 h3 ⊢
  congr 1
  unfold wrap64
  omega

theorem has_l0 (l : List Int) (x : Int) (hn : l.length ≤ 140737488351232) (d : Nat) : ∀ i : Nat, i + d = l.length →
    Ev (fun k => psephoslaw05_has.l0 k x l l.length i) (decide (x ∈ l.drop i)) := by
  induction d with
  | zero =>
    intro i hi
    refine Ev.step (f := fun _ => some (decide (x ∈ l.drop i))) (fun k => ?_) (Ev.now _)
    simp only [psephoslaw05_has.l0]
    rw [if_neg (by omega), List.drop_eq_nil_of_le (by omega)]
    rfl
  | succ d ih =>
    intro i hi
    rw [drop_rd l i (by omega)]
    by_cases h : rd l i = x
    · refine Ev.step (f := fun _ => some (decide (x ∈ rd l i :: l.drop (i + 1)))) (fun k => ?_) (Ev.now _)
      simp only [psephoslaw05_has.l0]
      rw [if_pos (by omega), if_pos (by omega), if_pos (by omega), if_pos h]
      simp [h]
    · have e : decide (x ∈ rd l i :: l.drop (i + 1)) = decide (x ∈ l.drop (i + 1)) := by
        have h' : ¬ x = rd l i := fun e => h e.symm
        simp [h']
      rw [e]
      refine Ev.step (f := fun k => psephoslaw05_has.l0 k x l l.length ((i + 1 : Nat) : Int)) (fun k => ?_) (ih (i + 1) (by omega))
      simp only [psephoslaw05_has.l0]
      rw [if_pos (by omega), if_pos (by omega), if_pos (by omega), if_neg h, wrap_next (n := l.length) (by omega) hn]
theorem has_f (l : List Int) (x : Int) (hn : l.length ≤ 140737488351232) : Ev (fun k => psephoslaw05_has.f k l x) (decide (x ∈ l)) := by
  have := has_l0 l x hn l.length 0 (by omega)
  rwa [List.drop_zero] at this

theorem index_l0 (l : List Int) (x : Int) (hn : l.length ≤ 140737488351232) (d : Nat) : ∀ i : Nat, i + d = l.length →
    ∃ r, Ev (fun k => slices_Index_int_int.l0 k l x l.length i) r ∧ (0 ≤ r ↔ x ∈ l.drop i) := by
  induction d with
  | zero =>
    intro i hi
    refine ⟨-1, Ev.step (f := fun _ => some (-1)) (fun k => ?_) (Ev.now _), ?_⟩
    · simp only [slices_Index_int_int.l0]
      rw [if_neg (by omega)]
    · rw [List.drop_eq_nil_of_le (by omega)]
      simp
  | succ d ih =>
    intro i hi
    rw [drop_rd l i (by omega)]
    by_cases h : x = rd l i
    · refine ⟨i, Ev.step (f := fun _ => some (i : Int)) (fun k => ?_) (Ev.now _), ?_⟩
      · simp only [slices_Index_int_int.l0]
        rw [if_pos (by omega), if_pos (by omega), if_pos (by omega), if_pos h]
      · simp [h]
    · obtain ⟨r, hr, hm⟩ := ih (i + 1) (by omega)
      refine ⟨r, Ev.step (f := fun k => slices_Index_int_int.l0 k l x l.length ((i + 1 : Nat) : Int)) (fun k => ?_) hr, ?_⟩
      · simp only [slices_Index_int_int.l0]
        rw [if_pos (by omega), if_pos (by omega), if_pos (by omega), if_neg h, wrap_next (n := l.length) (by omega) hn]
      · rw [hm]
        simp [h]
theorem contains_f (l : List Int) (x : Int) (hn : l.length ≤ 140737488351232) : Ev (fun k => slices_Contains_int_int.f k l x) (decide (x ∈ l)) := by
  obtain ⟨r, hr, hm⟩ := index_l0 l x hn l.length 0 (by omega)
  rw [List.drop_zero] at hm
  have e : decide (x ∈ l) = decide (r ≥ 0) := by simp only [ge_iff_le, hm]
  rw [e]
  exact Ev.bind (g := fun k => slices_Index_int_int.f k l x) (f := fun _ t => some (decide (t ≥ 0))) hr (Ev.now _)

/-- Who is in both, each once, in the order of the first list, behind acc. -/
def inBoth (b : List Int) : List Int → List Int → List Int
  | acc, [] => acc
  | acc, w :: r => inBoth b (if w ∈ b ∧ ¬ w ∈ acc then acc ++ [w] else acc) r
theorem inBoth_mem (b a : List Int) : ∀ acc x, x ∈ inBoth b acc a ↔ x ∈ acc ∨ (x ∈ a ∧ x ∈ b) := by
  induction a with
  | nil => intro acc x; simp [inBoth]
  | cons w r ih =>
    intro acc x
    simp only [inBoth]
    rw [ih]
    by_cases h : w ∈ b ∧ ¬ w ∈ acc
    · rw [if_pos h]
      simp only [List.mem_append, List.mem_cons, List.not_mem_nil, or_false]
      constructor
      · rintro ((h1 | rfl) | h1)
        · exact .inl h1
        · exact .inr ⟨.inl rfl, h.1⟩
        · exact .inr ⟨.inr h1.1, h1.2⟩
      · rintro (h1 | ⟨rfl | h1, h2⟩)
        · exact .inl (.inl h1)
        · exact .inl (.inr rfl)
        · exact .inr ⟨h1, h2⟩
    · rw [if_neg h]
      simp only [List.mem_cons]
      constructor
      · rintro (h1 | h1)
        · exact .inl h1
        · exact .inr ⟨.inr h1.1, h1.2⟩
      · rintro (h1 | ⟨rfl | h1, h2⟩)
        · exact .inl h1
        · exact .inl (Classical.byContradiction fun h3 => h ⟨h2, h3⟩)
        · exact .inr ⟨h1, h2⟩
theorem inBoth_nodup (b a : List Int) : ∀ acc : List Int, acc.Nodup → (inBoth b acc a).Nodup := by
  induction a with
  | nil => intro acc h; exact h
  | cons w r ih =>
    intro acc h
    simp only [inBoth]
    apply ih
    split
    · rename_i hw
      rw [List.nodup_append]
      refine ⟨h, by simp, ?_⟩
      intro x hx y hy
      rw [List.mem_singleton.1 hy]
      rintro rfl
      exact hw.2 hx
    · exact h
theorem inBoth_len (b a : List Int) : ∀ acc : List Int, (inBoth b acc a).length ≤ acc.length + a.length := by
  induction a with
  | nil => intro acc; simp [inBoth]
  | cons w r ih =>
    intro acc
    simp only [inBoth]
    refine Nat.le_trans (ih _) ?_
    split <;> simp <;> omega

def both (a b : List Int) : List Int := (inBoth b [] a).mergeSort fun x y => decide (x ≤ y)
theorem both_mem (a b : List Int) (x : Int) : x ∈ both a b ↔ x ∈ a ∧ x ∈ b := by
  unfold both
  rw [List.mem_mergeSort, inBoth_mem]
  simp
theorem both_rises (a b : List Int) : (both a b).Pairwise (· < ·) := by
  have h1 : (both a b).Pairwise (fun x y => decide (x ≤ y) = true) := List.pairwise_mergeSort (fun a b c h1 h2 => by simp only [decide_eq_true_eq] at *; omega) (fun a b => by simp only [Bool.or_eq_true, decide_eq_true_eq]; omega) _
  have h2 : (both a b).Nodup := (List.mergeSort_perm _ _).nodup_iff.2 (inBoth_nodup b a [] (by simp))
  exact (h1.and h2).imp (fun ⟨h3, h4⟩ => by simp only [decide_eq_true_eq] at h3; omega)
/-- Rising lists of the same are the same. -/
theorem rises_eq {a b : List Int} (ha : a.Pairwise (· < ·)) (hb : b.Pairwise (· < ·)) (h : ∀ x, x ∈ a ↔ x ∈ b) : a = b :=
  List.Perm.eq_of_pairwise (le := (· < ·)) (fun _ _ _ _ h1 h2 => by omega) ha hb
    ((List.perm_ext_iff_of_nodup (ha.imp (fun h => by omega)) (hb.imp (fun h => by omega))).2 h)
theorem both_turn (a b : List Int) : both a b = both b a :=
  rises_eq (both_rises a b) (both_rises b a) (fun x => by rw [both_mem, both_mem, and_comm])
theorem both_len (a b : List Int) : (both a b).length ≤ a.length := by
  unfold both
  rw [List.length_mergeSort]
  have := inBoth_len b a []
  simpa using this

theorem both_l0 (a b : List Int) (s h se sr te tr : Int) (ha : a.length ≤ 17592186043904) (hb : b.length ≤ 140737488351232) (d : Nat) : ∀ (i : Nat) (acc : List Int), i + d = a.length → acc.length ≤ i →
    Ev (fun k => vote_Both.l0 k acc a a.length i s h se sr te tr b) ((inBoth b acc (a.drop i)).mergeSort fun x y => decide (x ≤ y)) := by
  induction d with
  | zero =>
    intro i acc hi hacc
    rw [List.drop_eq_nil_of_le (by omega)]
    refine Ev.step (f := fun _ => some ((inBoth b acc []).mergeSort fun x y => decide (x ≤ y))) (fun k => ?_) (Ev.now _)
    simp only [vote_Both.l0]
    rw [if_neg (by omega)]
    simp only [slices_Sort_int_int.f, inBoth]
    rw [if_pos (by omega)]
    rfl
  | succ d ih =>
    intro i acc hi hacc
    rw [drop_rd a i (by omega)]
    simp only [inBoth]
    by_cases h1 : rd a i ∈ b
    · by_cases h2 : rd a i ∈ acc
      · rw [if_neg (fun h => h.2 h2)]
        refine Ev.step (f := fun k => (slices_Contains_int_int.f k b (rd a i)).bind fun t122 => (if t122 = true then ((slices_Contains_int_int.f k acc (rd a i)).bind fun t123 => (if t123 = true then (vote_Both.l0 k acc a a.length ((i + 1 : Nat) : Int) s h se sr te tr b) else (if acc.length < 17592186044416 then (vote_Both.l0 k (acc ++ [rd a i]) a a.length ((i + 1 : Nat) : Int) s h se sr te tr b) else (none)))) else (vote_Both.l0 k acc a a.length ((i + 1 : Nat) : Int) s h se sr te tr b))) (fun k => ?_) ?_
        · simp only [vote_Both.l0]
          rw [if_pos (by omega), if_pos (by omega), if_pos (by omega), wrap_next (n := a.length) (by omega) (by omega)]
        · refine Ev.bind (contains_f b (rd a i) hb) ?_
          simp only [h1, decide_true, if_true]
          refine Ev.bind (contains_f acc (rd a i) (by omega)) ?_
          simp only [h2, decide_true, if_true]
          exact ih (i + 1) acc (by omega) (by omega)
      · rw [if_pos ⟨h1, h2⟩]
        refine Ev.step (f := fun k => (slices_Contains_int_int.f k b (rd a i)).bind fun t122 => (if t122 = true then ((slices_Contains_int_int.f k acc (rd a i)).bind fun t123 => (if t123 = true then (vote_Both.l0 k acc a a.length ((i + 1 : Nat) : Int) s h se sr te tr b) else (if acc.length < 17592186044416 then (vote_Both.l0 k (acc ++ [rd a i]) a a.length ((i + 1 : Nat) : Int) s h se sr te tr b) else (none)))) else (vote_Both.l0 k acc a a.length ((i + 1 : Nat) : Int) s h se sr te tr b))) (fun k => ?_) ?_
        · simp only [vote_Both.l0]
          rw [if_pos (by omega), if_pos (by omega), if_pos (by omega), wrap_next (n := a.length) (by omega) (by omega)]
        · refine Ev.bind (contains_f b (rd a i) hb) ?_
          simp only [h1, decide_true, if_true]
          refine Ev.bind (contains_f acc (rd a i) (by omega)) ?_
          simp only [h2, decide_false, Bool.false_eq_true, if_false]
          exact Ev.congr (f := fun k => vote_Both.l0 k (acc ++ [rd a i]) a a.length ((i + 1 : Nat) : Int) s h se sr te tr b) (fun k => if_pos (by omega)) (ih (i + 1) _ (by omega) (by simp; omega))
    · rw [if_neg (fun h => h1 h.1)]
      refine Ev.step (f := fun k => (slices_Contains_int_int.f k b (rd a i)).bind fun t122 => (if t122 = true then ((slices_Contains_int_int.f k acc (rd a i)).bind fun t123 => (if t123 = true then (vote_Both.l0 k acc a a.length ((i + 1 : Nat) : Int) s h se sr te tr b) else (if acc.length < 17592186044416 then (vote_Both.l0 k (acc ++ [rd a i]) a a.length ((i + 1 : Nat) : Int) s h se sr te tr b) else (none)))) else (vote_Both.l0 k acc a a.length ((i + 1 : Nat) : Int) s h se sr te tr b))) (fun k => ?_) ?_
      · simp only [vote_Both.l0]
        rw [if_pos (by omega), if_pos (by omega), if_pos (by omega), wrap_next (n := a.length) (by omega) (by omega)]
      · refine Ev.bind (contains_f b (rd a i) hb) ?_
        simp only [h1, decide_false, Bool.false_eq_true, if_false]
        exact ih (i + 1) acc (by omega) (by omega)
theorem both_f (a b : List Int) (s h se sr te tr s' h' se' sr' te' tr' : Int) (ha : a.length ≤ 17592186043904) (hb : b.length ≤ 140737488351232) :
    Ev (fun k => vote_Both.f k s h se sr te tr a s' h' se' sr' te' tr' b) (both a b) := by
  have := both_l0 a b s' h' se' sr' te' tr' ha hb a.length 0 [] (by omega) (by simp)
  rwa [List.drop_zero] at this

/-- A vote's validator at place i is one that there is, and behind the one ahead of it. -/
def OkAt (l : List Int) (n : Int) (i : Nat) : Prop := 0 ≤ rd l i ∧ rd l i < n ∧ (0 < i → rd l (i - 1 : Nat) < rd l i)
theorem right_l0 (who bal : List Int) (a1 a2 s h se sr te tr : Int) (hn : who.length ≤ 140737488351232) (d : Nat) : ∀ i : Nat, i + d = who.length →
    ((∀ j, i ≤ j → j < who.length → OkAt who bal.length j) → Ev (fun k => vote_Right.l0 k who who.length i bal a1 a2 s h se sr te tr who) true) ∧
    ((¬ ∀ j, i ≤ j → j < who.length → OkAt who bal.length j) → Ev (fun k => vote_Right.l0 k who who.length i bal a1 a2 s h se sr te tr who) false) := by
  induction d with
  | zero =>
    intro i hi
    constructor
    · intro _
      refine Ev.step (f := fun _ => some true) (fun k => ?_) (Ev.now _)
      simp only [vote_Right.l0]
      rw [if_neg (by omega)]
    · intro hno
      exact absurd (fun j h1 h2 => absurd h2 (by omega)) hno
  | succ d ih =>
    intro i hi
    by_cases ho : OkAt who bal.length i
    · have step : ∀ k, vote_Right.l0 (k + 1) who who.length i bal a1 a2 s h se sr te tr who = vote_Right.l0 k who who.length ((i + 1 : Nat) : Int) bal a1 a2 s h se sr te tr who := by
        intro k
        obtain ⟨o1, o2, o3⟩ := ho
        simp only [vote_Right.l0]
        rw [if_pos (by omega), if_pos (by omega), if_pos (by omega), if_neg (by omega), if_neg (by omega), wrap_next (n := who.length) (by omega) hn]
        by_cases h0 : 0 < i
        · have o4 := o3 h0
          rw [if_pos (by omega), wrap_pred (n := who.length) h0 (by omega) hn, if_pos (by omega), if_pos (by omega), if_neg (by omega)]
        · rw [if_neg (by omega)]
      obtain ⟨h1, h2⟩ := ih (i + 1) (by omega)
      constructor
      · intro hall
        exact Ev.step step (h1 (fun j hj hj2 => hall j (by omega) hj2))
      · intro hno
        refine Ev.step step (h2 (fun hall => hno (fun j hj hj2 => ?_)))
        by_cases e : j = i
        · rw [e]; exact ho
        · exact hall j (by omega) hj2
    · constructor
      · intro hall
        exact absurd (hall i (Nat.le_refl _) (by omega)) ho
      · intro _
        refine Ev.step (f := fun _ => some false) (fun k => ?_) (Ev.now _)
        simp only [vote_Right.l0]
        rw [if_pos (by omega), if_pos (by omega), if_pos (by omega)]
        by_cases h1 : rd who i < 0
        · rw [if_pos h1]
        · rw [if_neg h1]
          by_cases h2 : rd who i ≥ (bal.length : Int)
          · rw [if_pos h2]
          · rw [if_neg h2]
            by_cases h0 : 0 < i
            · have h3 : rd who i ≤ rd who (i - 1 : Nat) := by
                by_cases h4 : rd who i ≤ rd who (i - 1 : Nat)
                · exact h4
                · exact absurd ⟨by omega, by omega, fun _ => by omega⟩ ho
              rw [if_pos (by omega), wrap_pred (n := who.length) h0 (by omega) hn, if_pos (by omega), if_pos (by omega), if_pos h3]
            · exact absurd ⟨by omega, by omega, fun h => absurd h h0⟩ ho
/-- A vote that may be, among so many validators, so many slots an epoch. -/
def Good (n : Nat) (slots s se te : Int) (who : List Int) : Prop := who.length ≠ 0 ∧ 0 ≤ s ∧ 0 ≤ se ∧ se ≤ te ∧ te = max 0 s / max 1 slots ∧ ∀ j, j < who.length → OkAt who n j
theorem right_true (who bal : List Int) (slots a2 s h se sr te tr : Int) (hn : who.length ≤ 140737488351232) (hs : s ≤ 9223372036854775807) (hg : Good bal.length slots s se te who) :
    Ev (fun k => vote_Right.f k bal slots a2 s h se sr te tr who) true := by
  obtain ⟨g1, g2, g3, g4, g5, g6⟩ := hg
  have hl := (right_l0 who bal slots a2 s h se sr te tr hn who.length 0 (by omega)).1 (fun j _ hj => g6 j hj)
  refine Ev.congr (f := fun k => vote_Right.j0 k (te != max 0 s / max 1 slots) bal slots a2 s h se sr te tr who) (fun k => ?_) ?_
  · unfold vote_Right.f
    rw [if_neg (by omega), if_neg (by omega), if_neg (by omega), if_neg (by omega), epoch_is s slots hs]
    rfl
  · have e : (te != max 0 s / max 1 slots) = false := by rw [← g5]; exact bne_self_eq_false te
    rw [e]
    refine Ev.step (f := fun k => vote_Right.l0 k who who.length 0 bal slots a2 s h se sr te tr who) (fun k => ?_) hl
    simp [vote_Right.j0]
theorem right_false (who bal : List Int) (slots a2 s h se sr te tr : Int) (hn : who.length ≤ 140737488351232) (hs : s ≤ 9223372036854775807) (hg : ¬ Good bal.length slots s se te who) :
    Ev (fun k => vote_Right.f k bal slots a2 s h se sr te tr who) false := by
  have jt : Ev (fun k => vote_Right.j0 k true bal slots a2 s h se sr te tr who) false :=
    Ev.step (f := fun _ => some false) (fun k => by simp [vote_Right.j0]) (Ev.now _)
  by_cases c1 : (who.length : Int) = 0
  · exact Ev.congr (fun k => by unfold vote_Right.f; rw [if_pos c1]) jt
  by_cases c2 : s < 0
  · exact Ev.congr (fun k => by unfold vote_Right.f; rw [if_neg c1, if_pos c2]) jt
  by_cases c3 : se < 0
  · exact Ev.congr (fun k => by unfold vote_Right.f; rw [if_neg c1, if_neg c2, if_pos c3]) jt
  by_cases c4 : se > te
  · exact Ev.congr (fun k => by unfold vote_Right.f; rw [if_neg c1, if_neg c2, if_neg c3, if_pos c4]) jt
  refine Ev.congr (f := fun k => vote_Right.j0 k (te != max 0 s / max 1 slots) bal slots a2 s h se sr te tr who) (fun k => by unfold vote_Right.f; rw [if_neg c1, if_neg c2, if_neg c3, if_neg c4, epoch_is s slots hs]; rfl) ?_
  by_cases c5 : te = max 0 s / max 1 slots
  · have e : (te != max 0 s / max 1 slots) = false := by rw [← c5]; exact bne_self_eq_false te
    rw [e]
    refine Ev.step (f := fun k => vote_Right.l0 k who who.length 0 bal slots a2 s h se sr te tr who) (fun k => by simp [vote_Right.j0]) ?_
    refine (right_l0 who bal slots a2 s h se sr te tr hn who.length 0 (by omega)).2 (fun hall => hg ⟨by omega, by omega, by omega, by omega, c5, fun j hj => hall j (Nat.zero_le _) hj⟩)
  · have e : (te != max 0 s / max 1 slots) = true := bne_iff_ne.2 c5
    rw [e]
    exact jt
/-- Rising lists of validators that there are. -/
theorem ok_of_rises {who : List Int} {n : Nat} (h1 : who.Pairwise (· < ·)) (h2 : ∀ x ∈ who, 0 ≤ x ∧ x < (n : Int)) : ∀ j, j < who.length → OkAt who n j := by
  intro j hj
  have h3 := h2 _ (rd_mem who j hj)
  refine ⟨h3.1, h3.2, fun h0 => ?_⟩
  rw [rd_get who (j - 1) (by omega), rd_get who j hj]
  exact List.pairwise_iff_getElem.1 h1 _ _ _ _ (by omega)

end Go.Proofs.YtolkagkfedpjmaaDoor.QT
