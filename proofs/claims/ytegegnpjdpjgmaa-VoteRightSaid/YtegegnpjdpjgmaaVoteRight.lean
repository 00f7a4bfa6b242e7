/-
  The law VoteRight: its printed function answers true, so its call does; of any configuration and any vote.
-/
import Derived.Test.YtegegnpjdpjgmaaQVx9
import Derived.Test.YtegegnpjdpjgmaaVotePureB
import Derived.Test.YtegegnpjdpjgmaaOwn
namespace Go.Proofs.Ytegegnpjdpjgmaa.QV
open Go.RowKit Go.Proofs.YtegegnpjdpjgmaaW.PrintWords Go.Proofs.YtegegnpjdpjgmaaW.PrintLast Go.Proofs.YtegegnpjdpjgmaaW.PrintMore Go.Proofs.Ytegegnpjdpjgmaa.Own
set_option linter.unusedVariables false

theorem vr_j1 (bal who : List Int) (sl bo s h se sr te tr : Int) (x : Bool) (hb : bal.length ≤ 17592186043904) (hn : who.length ≤ 17592186043904) (hbo1 : -9223372036854775808 ≤ bo) (hbo2 : bo ≤ 9223372036854775807)
    (hs1 : -9223372036854775808 ≤ s) (hs2 : s ≤ 9223372036854775807) (he1 : -9223372036854775808 ≤ se) (he2 : se ≤ 9223372036854775807)
    (hx : Ev (fun k => vote_Right.f k bal sl bo s h se sr te tr who) x) : Ev (fun k => psephoslaw05_VoteRight.j1 k x bal sl bo s h se sr te tr who) true := by
  refine Ev.step (f := fun k => (psephoslaw03_Make.f k bal sl bo).bind fun bt196 => ((vote_Right.f k bal sl bo s h se sr te tr who).bind fun t202 => (if (t202 == x) = true then ((psephoslaw05_Make.f k bt196.1 bt196.2.1 bt196.2.2 s h se sr te tr who).bind fun bt203 => ((vote_Right.f k bt196.1 bt196.2.1 bt196.2.2 bt203.1 bt203.2.1 bt203.2.2.1 bt203.2.2.2.1 bt203.2.2.2.2.1 bt203.2.2.2.2.2.1 bt203.2.2.2.2.2.2).bind fun t212 => (some t212))) else (some false)))) (fun k => ?_) ?_
  · simp only [psephoslaw05_VoteRight.j1]
  · refine Ev.bind (make3_f bal sl bo hb hbo1 hbo2) ?_
    refine Ev.bind hx ?_
    simp only [beq_self_eq_true, if_true]
    have hm := mkBal_len bal
    have hw := mkWho_len (mkBal bal).length hm.1 who
    have ha := mkAt_in s
    refine Ev.bind (make5_f (mkBal bal) who (mkSlots sl) (mkBoost bo) s h se sr te tr hm.2 (by omega) hs1 hs2 he1 he2) ?_
    refine Ev.bind (right_true (mkWho (mkBal bal).length who) (mkBal bal) (mkSlots sl) (mkBoost bo) (mkAt s) _ _ _ _ _ (by omega) (by omega) (made_good (mkBal bal).length hm.1 (mkSlots sl) s se who)) (Ev.now _)

theorem vr_l0 (bal who : List Int) (sl bo s h se sr te tr : Int) (hb : bal.length ≤ 17592186043904) (hn : who.length ≤ 17592186043904) (hbo1 : -9223372036854775808 ≤ bo) (hbo2 : bo ≤ 9223372036854775807)
    (hs1 : -9223372036854775808 ≤ s) (hs2 : s ≤ 9223372036854775807) (he1 : -9223372036854775808 ≤ se) (he2 : se ≤ 9223372036854775807) (d : Nat) : ∀ (i : Nat) (x : Bool), i + d = who.length →
    (x = true ↔ who.length ≠ 0 ∧ ∀ j, j < i → OkAt who bal.length j) →
    Ev (fun k => psephoslaw05_VoteRight.l0 k x who who.length i bal sl bo s h se sr te tr who) true := by
  induction d with
  | zero =>
    intro i x hi hx
    obtain rfl : i = who.length := by omega
    have hj := fun x hx => vr_j1 bal who sl bo s h se sr te tr x hb hn hbo1 hbo2 hs1 hs2 he1 he2 hx
    have hf := right_false who bal sl bo s h se sr te tr (by omega) hs2
    have h1 : mx 1 sl = max 1 sl := by unfold mx; omega
    by_cases c : x = true
    · subst c
      have c' := hx.1 rfl
      by_cases c1 : s ≥ 0
      · by_cases c2 : se ≥ 0
        · by_cases c3 : se ≤ te
          · refine Ev.step (f := fun k => psephoslaw05_VoteRight.j1 k (te == max 0 s / max 1 sl) bal sl bo s h se sr te tr who) (fun k => ?_) (hj _ ?_)
            · simp only [psephoslaw05_VoteRight.l0]
              rw [if_neg (by omega), if_pos trivial, if_pos c1, if_pos c2, if_pos c3, h1, if_neg (by omega), Int.tdiv_eq_ediv_of_nonneg (by omega), show max 0 s = s by omega]
              have q0 : 0 ≤ s / max 1 sl := Int.ediv_nonneg (by omega) (by omega)
              have q1 : s / max 1 sl ≤ s := Int.ediv_le_self _ (by omega)
              have q2 : wrap64 (s / max 1 sl) = s / max 1 sl := by generalize s / max 1 sl = q at q0 q1 ⊢; unfold wrap64; omega
              rw [q2]
            · by_cases c4 : te = max 0 s / max 1 sl
              · rw [show (te == max 0 s / max 1 sl) = true from beq_iff_eq.2 c4]
                exact right_true who bal sl bo s h se sr te tr (by omega) hs2 ⟨c'.1, c1, c2, c3, c4, c'.2⟩
              · rw [show (te == max 0 s / max 1 sl) = false from beq_eq_false_iff_ne.2 c4]
                exact hf (fun hg => c4 hg.2.2.2.2.1)
          · refine Ev.step (f := fun k => psephoslaw05_VoteRight.j1 k false bal sl bo s h se sr te tr who) (fun k => ?_) (hj _ (hf (fun hg => c3 hg.2.2.2.1)))
            simp only [psephoslaw05_VoteRight.l0]
            rw [if_neg (by omega), if_pos trivial, if_pos c1, if_pos c2, if_neg c3]
        · refine Ev.step (f := fun k => psephoslaw05_VoteRight.j1 k false bal sl bo s h se sr te tr who) (fun k => ?_) (hj _ (hf (fun hg => c2 hg.2.2.1)))
          simp only [psephoslaw05_VoteRight.l0]
          rw [if_neg (by omega), if_pos trivial, if_pos c1, if_neg c2]
      · refine Ev.step (f := fun k => psephoslaw05_VoteRight.j1 k false bal sl bo s h se sr te tr who) (fun k => ?_) (hj _ (hf (fun hg => c1 hg.2.1)))
        simp only [psephoslaw05_VoteRight.l0]
        rw [if_neg (by omega), if_pos trivial, if_neg c1]
    · have c' : x = false := by simpa using c
      subst c'
      refine Ev.step (f := fun k => psephoslaw05_VoteRight.j1 k false bal sl bo s h se sr te tr who) (fun k => ?_) (hj _ (hf (fun hg => c (hx.2 ⟨hg.1, fun j hj => hg.2.2.2.2.2 j hj⟩))))
      simp only [psephoslaw05_VoteRight.l0]
      rw [if_neg (by omega), if_neg Bool.false_ne_true]
  | succ d ih =>
    intro i x hi hx
    have hnext : ∀ (y : Bool), (y = true ↔ x = true ∧ OkAt who bal.length i) → (y = true ↔ who.length ≠ 0 ∧ ∀ j, j < i + 1 → OkAt who bal.length j) := by
      intro y hy
      rw [hy, hx]
      constructor
      · rintro ⟨⟨a, b⟩, c⟩
        refine ⟨a, fun j hj => ?_⟩
        by_cases e : j = i
        · rw [e]; exact c
        · exact b j (by omega)
      · rintro ⟨a, b⟩
        exact ⟨⟨a, fun j hj => b j (by omega)⟩, b i (by omega)⟩
    have hfalse : ¬ OkAt who bal.length i → Ev (fun k => psephoslaw05_VoteRight.l0 k false who who.length ((i + 1 : Nat) : Int) bal sl bo s h se sr te tr who) true :=
      fun hno => ih (i + 1) false (by omega) (hnext false ⟨fun h => absurd h Bool.false_ne_true, fun h => absurd h.2 hno⟩)
    have hn' : who.length ≤ 140737488351232 := by omega
    by_cases h1 : rd who i < 0
    · refine Ev.step (fun k => ?_) (hfalse (fun ho => by have := ho.1; omega))
      simp only [psephoslaw05_VoteRight.l0]
      rw [if_pos (by omega), if_pos (by omega), if_pos (by omega), if_pos h1, wrap_next (n := who.length) (by omega) hn']
    · by_cases h2 : rd who i ≥ (bal.length : Int)
      · refine Ev.step (fun k => ?_) (hfalse (fun ho => by have := ho.2.1; omega))
        simp only [psephoslaw05_VoteRight.l0]
        rw [if_pos (by omega), if_pos (by omega), if_pos (by omega), if_neg h1, if_pos h2, wrap_next (n := who.length) (by omega) hn']
      · by_cases h0 : 0 < i
        · by_cases h3 : rd who i ≤ rd who (i - 1 : Nat)
          · refine Ev.step (fun k => ?_) (hfalse (fun ho => by have := ho.2.2 h0; omega))
            simp only [psephoslaw05_VoteRight.l0]
            rw [if_pos (by omega), if_pos (by omega), if_pos (by omega), if_neg h1, if_neg h2, if_pos (by omega), wrap_pred (n := who.length) h0 (by omega) hn', if_pos (by omega), if_pos (by omega), if_pos h3, wrap_next (n := who.length) (by omega) hn']
          · refine Ev.step (fun k => ?_) (ih (i + 1) x (by omega) (hnext x ⟨fun h => ⟨h, by omega, by omega, fun _ => by omega⟩, fun h => h.1⟩))
            simp only [psephoslaw05_VoteRight.l0]
            rw [if_pos (by omega), if_pos (by omega), if_pos (by omega), if_neg h1, if_neg h2, if_pos (by omega), wrap_pred (n := who.length) h0 (by omega) hn', if_pos (by omega), if_pos (by omega), if_neg h3, wrap_next (n := who.length) (by omega) hn']
        · refine Ev.step (fun k => ?_) (ih (i + 1) x (by omega) (hnext x ⟨fun h => ⟨h, by omega, by omega, fun h' => absurd h' h0⟩, fun h => h.1⟩))
          simp only [psephoslaw05_VoteRight.l0]
          rw [if_pos (by omega), if_pos (by omega), if_pos (by omega), if_neg h1, if_neg h2, if_neg (by omega), wrap_next (n := who.length) (by omega) hn']

theorem voteRight_law (A : Option Addr) (n c : Nat) (bal : List Int) (sl bo : Int) (s h se sr te tr : Int) (A1 : Option Addr) (n1 c1 : Nat) (who : List Int) (w : World) (g : ReadsInt w .u64 A n bal) (hc : n ≤ c) (hs : n * 8 ≤ 140737488351232)
    (g1 : ReadsInt w .i64 A1 n1 who) (hc1 : n1 ≤ c1) (hs1 : n1 * 8 ≤ 140737488351232) (wb : (Lit.int .i64 bo).wf = true) (ws : (Lit.int .i64 s).wf = true) (we : (Lit.int .i64 se).wf = true) :
    Calls Try.prog 3 #[.agg #[.slice A n c, .int .i64 sl, .int .i64 bo], .agg #[.int .i64 s, .int .u64 h, .int .i64 se, .int .u64 sr, .int .i64 te, .int .u64 tr, .slice A1 n1 c1]] w fun e w' => e = .returned (.bool true) ∧ Below w.heap.size w w' := by
  obtain ⟨rfl, hm, hr⟩ := g
  obtain ⟨rfl, hm1, hr1⟩ := g1
  have b1 := bd_i64 wb
  have b2 := bd_i64 ws
  have b3 := bd_i64 we
  have key : Ev (fun k => psephoslaw05_VoteRight.f k bal sl bo s h se sr te tr who) true := by
    refine Ev.bind awake_f ?_
    simp only [if_true]
    exact vr_l0 bal who sl bo s h se sr te tr (by omega) (by omega) b1.1 b1.2 b2.1 b2.2 b3.1 b3.2 who.length 0 _ (Nat.zero_add _) ⟨fun h => ⟨by have := of_decide_eq_true h; omega, fun j hj => absurd hj (Nat.not_lt_zero j)⟩, fun h => decide_eq_true (by have := h.1; omega)⟩
  obtain ⟨k, hk⟩ := Ev.rounds key
  exact psephoslaw05_VoteRight.calls k _ _ bal sl bo s h se sr te tr _ _ who true w (Kd.C_of_reads (d := (0 : Int)) (h1 := fun _ => rfl) ⟨rfl, hm, hr⟩) hc (Kd.C_of_reads (d := (0 : Int)) (h1 := fun _ => rfl) ⟨rfl, hm1, hr1⟩) hc1 hk
end Go.Proofs.Ytegegnpjdpjgmaa.QV
