/-
  The plain law VoteBoth: who is in both votes is told once, rising; whichever vote is first.
-/
import Derived.Test.YtegegnpjdpjgmaaQVx6
import Derived.Test.YtegegnpjdpjgmaaVotePureA
namespace Go.Proofs.Ytegegnpjdpjgmaa.Pure
open Go.RowKit Go.Proofs.Ytegegnpjdpjgmaa.QV Go.Proofs.YtegegnpjdpjgmaaW.PrintWords Go.Proofs.YtegegnpjdpjgmaaW.PrintLast Go.Proofs.YtegegnpjdpjgmaaW.PrintMore

theorem vb_l2 (x : List Int) (hn : x.length ≤ 140737488351232) (d : Nat) : ∀ i : Nat, i + d = x.length → Ev (fun k => psephoslaw05_VoteBoth.l2 k x x x.length i) true := by
  induction d with
  | zero =>
    intro i hi
    refine Ev.step (f := fun _ => some true) (fun k => ?_) (Ev.now _)
    simp only [psephoslaw05_VoteBoth.l2]
    rw [if_neg (by omega)]
  | succ d ih =>
    intro i hi
    refine Ev.step (fun k => ?_) (ih (i + 1) (by omega))
    simp only [psephoslaw05_VoteBoth.l2]
    rw [if_pos (by omega), if_pos (by omega), if_pos (by omega), if_pos (by omega), if_pos trivial, wrap_next (n := x.length) (by omega) hn]

theorem vb_l1 (a b : List Int) (ha : a.length ≤ 17592186043904) (hb : b.length ≤ 17592186043904) (d : Nat) : ∀ i : Nat, i + d = a.length → Ev (fun k => psephoslaw05_VoteBoth.l1 k a b (both a b) a a.length i) true := by
  have hx := both_len a b
  induction d with
  | zero =>
    intro i hi
    refine Ev.step (f := fun k => (vote_Both.f k 0 0 0 0 0 0 b 0 0 0 0 0 0 a).bind fun t157 => (if ((both a b).length : Int) = (t157.length : Int) then (psephoslaw05_VoteBoth.l2 k (both a b) t157 ((both a b).length : Int) 0) else (some false))) (fun k => ?_) ?_
    · simp only [psephoslaw05_VoteBoth.l1]
      rw [if_neg (by omega)]
    · refine Ev.bind (both_f b a _ _ _ _ _ _ _ _ _ _ _ _ (by omega) (by omega)) ?_
      rw [both_turn b a]
      refine Ev.congr (f := fun k => psephoslaw05_VoteBoth.l2 k (both a b) (both a b) (both a b).length ((0 : Nat) : Int)) (fun k => if_pos rfl) ?_
      exact vb_l2 _ (by omega) _ 0 (Nat.zero_add _)
  | succ d ih =>
    intro i hi
    refine Ev.step (f := fun k => (psephoslaw05_has.f k b (rd a i)).bind fun t155 => (if t155 = true then ((psephoslaw05_has.f k (both a b) (rd a i)).bind fun t156 => (if t156 = true then (psephoslaw05_VoteBoth.l1 k a b (both a b) a a.length ((i + 1 : Nat) : Int)) else (some false))) else (psephoslaw05_VoteBoth.l1 k a b (both a b) a a.length ((i + 1 : Nat) : Int)))) (fun k => ?_) ?_
    · simp only [psephoslaw05_VoteBoth.l1]
      rw [if_pos (by omega), if_pos (by omega), if_pos (by omega), wrap_next (n := a.length) (by omega) (by omega)]
    · refine Ev.bind (has_f b (rd a i) (by omega)) ?_
      by_cases h : rd a i ∈ b
      · simp only [h, decide_true, if_true]
        refine Ev.bind (has_f (both a b) (rd a i) (by omega)) ?_
        have h2 : rd a i ∈ both a b := (both_mem a b _).2 ⟨rd_mem a i (by omega), h⟩
        simp only [h2, decide_true, if_true]
        exact ih (i + 1) (by omega)
      · simp only [h, decide_false, Bool.false_eq_true, if_false]
        exact ih (i + 1) (by omega)

theorem vb_l0 (a b : List Int) (ha : a.length ≤ 17592186043904) (hb : b.length ≤ 17592186043904) (d : Nat) : ∀ i : Nat, i + d = (both a b).length → Ev (fun k => psephoslaw05_VoteBoth.l0 k a b (both a b) (both a b) (both a b).length i) true := by
  have hx := both_len a b
  induction d with
  | zero =>
    intro i hi
    refine Ev.step (f := fun k => psephoslaw05_VoteBoth.l1 k a b (both a b) a a.length ((0 : Nat) : Int)) (fun k => ?_) (vb_l1 a b ha hb _ 0 (Nat.zero_add _))
    simp only [psephoslaw05_VoteBoth.l0]
    rw [if_neg (by omega)]
    rfl
  | succ d ih =>
    intro i hi
    have hm := (both_mem a b _).1 (rd_mem (both a b) i (by omega))
    refine Ev.step (f := fun k => (psephoslaw05_has.f k a (rd (both a b) i)).bind fun t151 => (if t151 = true then ((psephoslaw05_has.f k b (rd (both a b) i)).bind fun t152 => (if t152 = true then (psephoslaw05_VoteBoth.l0 k a b (both a b) (both a b) (both a b).length ((i + 1 : Nat) : Int)) else (some false))) else (some false))) (fun k => ?_) ?_
    · simp only [psephoslaw05_VoteBoth.l0]
      rw [if_pos (by omega), if_pos (by omega), if_pos (by omega), wrap_next (n := (both a b).length) (by omega) (by omega)]
      by_cases h0 : 0 < i
      · have h3 : rd (both a b) (i - 1 : Nat) < rd (both a b) i := by
          rw [rd_get _ (i - 1) (by omega), rd_get _ i (by omega)]
          exact List.pairwise_iff_getElem.1 (both_rises a b) _ _ _ _ (by omega)
        rw [if_pos (by omega), wrap_pred (n := (both a b).length) h0 (by omega) (by omega), if_pos (by omega), if_pos (by omega), if_neg (by omega)]
      · rw [if_neg (by omega)]
    · refine Ev.bind (has_f a _ (by omega)) ?_
      simp only [hm.1, decide_true, if_true]
      refine Ev.bind (has_f b _ (by omega)) ?_
      simp only [hm.2, decide_true, if_true]
      exact ih (i + 1) (by omega)

theorem VoteBoth : psephoslaw05_VoteBoth.Pure := by
  intro a b _ ha _ _ hb _
  refine Ev.rounds ?_
  refine Ev.bind awake_f ?_
  simp only [if_true]
  refine Ev.bind (both_f a b _ _ _ _ _ _ _ _ _ _ _ _ (by omega) (by omega)) ?_
  exact vb_l0 a b (by omega) (by omega) _ 0 (Nat.zero_add _)
end Go.Proofs.Ytegegnpjdpjgmaa.Pure
