/-
  The plain law of vote.Right: whether a vote may be; with enough rounds.
-/
import Derived.Test.YtiklbldanidfiaaQLx7
import Derived.Test.YtiklbldanidfiaaQLx10
import Derived.Test.YtiklbldanidfiaaVoteM3
namespace Go.Proofs.Ytiklbldanidfiaa.QLV
open Go.Proofs.Ytiklbldanidfiaa.QL
open Go.RowKit Go.Proofs.YtiklbldanidfiaaW.PrintWords Go.Proofs.YtiklbldanidfiaaW.PrintLast Go.Proofs.YtiklbldanidfiaaW.PrintMore
set_option linter.unusedVariables false

/-- A slot's epoch. -/
theorem epoch_is (s n : Int) (hs : s ≤ 9223372036854775807) : epoch_Of.f s n = some (max 0 s / max 1 n) := by
  have h0 : mx 0 s = max 0 s := by unfold mx; omega
  have h1 : mx 1 n = max 1 n := by unfold mx; omega
  unfold epoch_Of.f
  rw [h0, h1, if_neg (by omega)]
  have h2 : 0 ≤ max 0 s / max 1 n := Int.ediv_nonneg (by omega) (by omega)
  have h3 : max 0 s / max 1 n ≤ max 0 s := Int.ediv_le_self _ (by omega)
  generalize max 0 s / max 1 n = q at h2 h3 ⊢
  congr 1
  unfold wrap64
  omega

/-- A vote's validator at place i is one that there is, and behind the one ahead of it. -/
def OkAt (l : List Int) (n : Int) (i : Nat) : Prop := 0 ≤ rd l i ∧ rd l i < n ∧ (0 < i → rd l (i - 1 : Nat) < rd l i)
theorem right_l0 (who bal : List Int) (a1 a2 s h se sr te tr : Int) (hn : who.length ≤ 140737488351232) (d : Nat) : ∀ i : Nat, i + d = who.length →
    ((∀ j, i ≤ j → j < who.length → OkAt who bal.length j) → Ev (fun k => vote_Right.l0 k who who.length i bal a1 a2 s h se sr te tr who) true) ∧
    ((¬ ∀ j, i ≤ j → j < who.length → OkAt who bal.length j) → Ev (fun k => vote_Right.l0 k who who.length i bal a1 a2 s h se sr te tr who) false) := by
  induction d with
  | zero =>
    intro i hi
    constructor
    · intro _
      refine Ev.step (f := fun _ => some true) (fun k => ?_) (Ev.now _)
      simp only [vote_Right.l0]
      rw [if_neg (by omega)]
    · intro hno
      exact absurd (fun j h1 h2 => absurd h2 (by omega)) hno
  | succ d ih =>
    intro i hi
    by_cases ho : OkAt who bal.length i
    · have step : ∀ k, vote_Right.l0 (k + 1) who who.length i bal a1 a2 s h se sr te tr who = vote_Right.l0 k who who.length ((i + 1 : Nat) : Int) bal a1 a2 s h se sr te tr who := by
        intro k
        obtain ⟨o1, o2, o3⟩ := ho
        simp only [vote_Right.l0]
        rw [if_pos (by omega), if_pos (by omega), if_pos (by omega), if_neg (by omega), if_neg (by omega), wrap_next (n := who.length) (by omega) hn]
        by_cases h0 : 0 < i
        · have o4 := o3 h0
          rw [if_pos (by omega), wrap_pred (n := who.length) h0 (by omega) hn, if_pos (by omega), if_pos (by omega), if_neg (by omega)]
        · rw [if_neg (by omega)]
      obtain ⟨h1, h2⟩ := ih (i + 1) (by omega)
      constructor
      · intro hall
        exact Ev.step step (h1 (fun j hj hj2 => hall j (by omega) hj2))
      · intro hno
        refine Ev.step step (h2 (fun hall => hno (fun j hj hj2 => ?_)))
        by_cases e : j = i
        · rw [e]; exact ho
        · exact hall j (by omega) hj2
    · constructor
      · intro hall
        exact absurd (hall i (Nat.le_refl _) (by omega)) ho
      · intro _
        refine Ev.step (f := fun _ => some false) (fun k => ?_) (Ev.now _)
        simp only [vote_Right.l0]
        rw [if_pos (by omega), if_pos (by omega), if_pos (by omega)]
        by_cases h1 : rd who i < 0
        · rw [if_pos h1]
        · rw [if_neg h1]
          by_cases h2 : rd who i ≥ (bal.length : Int)
          · rw [if_pos h2]
          · rw [if_neg h2]
            by_cases h0 : 0 < i
            · have h3 : rd who i ≤ rd who (i - 1 : Nat) := by
                by_cases h4 : rd who i ≤ rd who (i - 1 : Nat)
                · exact h4
                · exact absurd ⟨by omega, by omega, fun _ => by omega⟩ ho
              rw [if_pos (by omega), wrap_pred (n := who.length) h0 (by omega) hn, if_pos (by omega), if_pos (by omega), if_pos h3]
            · exact absurd ⟨by omega, by omega, fun h => absurd h h0⟩ ho
/-- A vote that may be, among so many validators, so many slots an epoch. -/
def Good (n : Nat) (slots s se te : Int) (who : List Int) : Prop := who.length ≠ 0 ∧ 0 ≤ s ∧ 0 ≤ se ∧ se ≤ te ∧ te = max 0 s / max 1 slots ∧ ∀ j, j < who.length → OkAt who n j
theorem right_true (who bal : List Int) (slots a2 s h se sr te tr : Int) (hn : who.length ≤ 140737488351232) (hs : s ≤ 9223372036854775807) (hg : Good bal.length slots s se te who) :
    Ev (fun k => vote_Right.f k bal slots a2 s h se sr te tr who) true := by
  obtain ⟨g1, g2, g3, g4, g5, g6⟩ := hg
  have hl := (right_l0 who bal slots a2 s h se sr te tr hn who.length 0 (by omega)).1 (fun j _ hj => g6 j hj)
  refine Ev.congr (f := fun k => vote_Right.j0 k (te != max 0 s / max 1 slots) bal slots a2 s h se sr te tr who) (fun k => ?_) ?_
  · unfold vote_Right.f
    rw [if_neg (by omega), if_neg (by omega), if_neg (by omega), if_neg (by omega), epoch_is s slots hs]
    rfl
  · have e : (te != max 0 s / max 1 slots) = false := by rw [← g5]; exact bne_self_eq_false te
    rw [e]
    refine Ev.step (f := fun k => vote_Right.l0 k who who.length 0 bal slots a2 s h se sr te tr who) (fun k => ?_) hl
    simp [vote_Right.j0]
theorem right_false (who bal : List Int) (slots a2 s h se sr te tr : Int) (hn : who.length ≤ 140737488351232) (hs : s ≤ 9223372036854775807) (hg : ¬ Good bal.length slots s se te who) :
    Ev (fun k => vote_Right.f k bal slots a2 s h se sr te tr who) false := by
  have jt : Ev (fun k => vote_Right.j0 k true bal slots a2 s h se sr te tr who) false :=
    Ev.step (f := fun _ => some false) (fun k => by simp [vote_Right.j0]) (Ev.now _)
  by_cases c1 : (who.length : Int) = 0
  · exact Ev.congr (fun k => by unfold vote_Right.f; rw [if_pos c1]) jt
  by_cases c2 : s < 0
  · exact Ev.congr (fun k => by unfold vote_Right.f; rw [if_neg c1, if_pos c2]) jt
  by_cases c3 : se < 0
  · exact Ev.congr (fun k => by unfold vote_Right.f; rw [if_neg c1, if_neg c2, if_pos c3]) jt
  by_cases c4 : se > te
  · exact Ev.congr (fun k => by unfold vote_Right.f; rw [if_neg c1, if_neg c2, if_neg c3, if_pos c4]) jt
  refine Ev.congr (f := fun k => vote_Right.j0 k (te != max 0 s / max 1 slots) bal slots a2 s h se sr te tr who) (fun k => by unfold vote_Right.f; rw [if_neg c1, if_neg c2, if_neg c3, if_neg c4, epoch_is s slots hs]; rfl) ?_
  by_cases c5 : te = max 0 s / max 1 slots
  · have e : (te != max 0 s / max 1 slots) = false := by rw [← c5]; exact bne_self_eq_false te
    rw [e]
    refine Ev.step (f := fun k => vote_Right.l0 k who who.length 0 bal slots a2 s h se sr te tr who) (fun k => by simp [vote_Right.j0]) ?_
    refine (right_l0 who bal slots a2 s h se sr te tr hn who.length 0 (by omega)).2 (fun hall => hg ⟨by omega, by omega, by omega, by omega, c5, fun j hj => hall j (Nat.zero_le _) hj⟩)
  · have e : (te != max 0 s / max 1 slots) = true := bne_iff_ne.2 c5
    rw [e]
    exact jt
/-- Rising lists of validators that there are. -/
theorem ok_of_rises {who : List Int} {n : Nat} (h1 : who.Pairwise (· < ·)) (h2 : ∀ x ∈ who, 0 ≤ x ∧ x < (n : Int)) : ∀ j, j < who.length → OkAt who n j := by
  intro j hj
  have h3 := h2 _ (rd_mem who j hj)
  refine ⟨h3.1, h3.2, fun h0 => ?_⟩
  rw [rd_get who (j - 1) (by omega), rd_get who j hj]
  exact List.pairwise_iff_getElem.1 h1 _ _ _ _ (by omega)

end Go.Proofs.Ytiklbldanidfiaa.QLV
