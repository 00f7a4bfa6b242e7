/-
  A model of a tree, as package psephoslaw12 makes it, and the tree itself: they say the same. No memory, no Go.
-/
import Derived.Test.YtlhpokpdpjlhiaaQIx2
import Derived.Test.YtlhpokpdpjlhiaaQIx3
import Derived.Test.YtlhpokpdpjlhiaaPureW
namespace Go.Proofs.Ytlhpokpdpjlhiaa.QI
open Go.RowKit Go.Proofs.YtlhpokpdpjlhiaaW.PrintWords Go.Proofs.Ytlhpokpdpjlhiaa.Tree
set_option linter.unusedVariables false

/-- What a made tree's blocks are: numbered from 1 on, each but the first one on one ahead of it, at a later slot. -/
structure Chain (ns : List Nd) : Prop where
  pos : 0 < ns.length
  small : ns.length ≤ 31
  root : ∀ i (h : i < ns.length), ns[i].r = i + 1
  zero : ns[0].p = 1 ∧ ns[0].s = 0 ∧ ns[0].h = 0
  up : ∀ i (h : i < ns.length), 0 < i → ∃ j, ∃ hj : j < i, ns[i].p = j + 1 ∧ ns[i].h = (ns[j]'(by omega)).h + 1 ∧ (ns[j]'(by omega)).s < ns[i].s
  high : ∀ i (h : i < ns.length), 0 ≤ ns[i].h ∧ ns[i].h ≤ i
  late : ∀ i (h : i < ns.length), 0 ≤ ns[i].s ∧ ns[i].s ≤ 4 * i
def toS (n : Nd) : S39 := ⟨n.r, n.p, n.s⟩
/-- The tree and its model. -/
structure Rel (t : T) (m : List S39) : Prop where
  first : t.first = 1
  model : m = t.ns.map toS
  chain : Chain t.ns

theorem chain_one : Chain [⟨1, 1, 0, 0⟩] :=
  ⟨by simp, by simp, fun i h => by simp at h; subst h; rfl, ⟨rfl, rfl, rfl⟩, fun i h h0 => by simp at h; omega, fun i h => by simp at h; subst h; simp, fun i h => by simp at h; subst h; simp⟩
theorem rel_one : Rel ⟨1, [⟨1, 1, 0, 0⟩]⟩ [⟨1, 1, 0⟩] := ⟨rfl, rfl, chain_one⟩
theorem Chain.snoc {ns : List Nd} (c : Chain ns) (hs : ns.length < 31) (j : Nat) (hj : j < ns.length) (d : Int) (h0 : 0 ≤ d) (h3 : d ≤ 3) :
    Chain (ns ++ [⟨(ns.length : Int) + 1, (j : Int) + 1, ns[j].s + 1 + d, ns[j].h + 1⟩]) := by
  have hp := c.pos
  have hlow : ∀ i (h : i < ns.length), (ns ++ [(⟨(ns.length : Int) + 1, (j : Int) + 1, ns[j].s + 1 + d, ns[j].h + 1⟩ : Nd)])[i]'(by simp; omega) = ns[i] := fun i h => List.getElem_append_left h
  have htop : (ns ++ [(⟨(ns.length : Int) + 1, (j : Int) + 1, ns[j].s + 1 + d, ns[j].h + 1⟩ : Nd)])[ns.length]'(by simp) = ⟨(ns.length : Int) + 1, (j : Int) + 1, ns[j].s + 1 + d, ns[j].h + 1⟩ := by simp
  have hh := c.high j hj
  have hl := c.late j hj
  refine ⟨by simp, by simp; omega, ?_, ?_, ?_, ?_, ?_⟩
  · intro i h
    by_cases e : i < ns.length
    · rw [hlow i e]
      exact c.root i e
    · obtain rfl : i = ns.length := by simp at h; omega
      rw [htop]
  · rw [hlow 0 hp]
    exact c.zero
  · intro i h hi
    by_cases e : i < ns.length
    · obtain ⟨k, hk, h1, h2, h3⟩ := c.up i e hi
      exact ⟨k, hk, by rw [hlow i e]; exact h1, by rw [hlow i e, hlow k (by omega)]; exact h2, by rw [hlow i e, hlow k (by omega)]; exact h3⟩
    · obtain rfl : i = ns.length := by simp at h; omega
      refine ⟨j, hj, by rw [htop], by rw [htop, hlow j hj], by rw [htop, hlow j hj]; show _ < ns[j].s + 1 + d; omega⟩
  · intro i h
    by_cases e : i < ns.length
    · rw [hlow i e]
      exact c.high i e
    · obtain rfl : i = ns.length := by simp at h; omega
      rw [htop]
      show 0 ≤ ns[j].h + 1 ∧ ns[j].h + 1 ≤ _
      omega
  · intro i h
    by_cases e : i < ns.length
    · rw [hlow i e]
      exact c.late i e
    · obtain rfl : i = ns.length := by simp at h; omega
      rw [htop]
      show 0 ≤ ns[j].s + 1 + d ∧ ns[j].s + 1 + d ≤ _
      omega

theorem find_in {ns : List Nd} (c : Chain ns) (i : Nat) (h : i < ns.length) : find ns (i + 1) = some ns[i] := by
  unfold find
  rw [List.find?_eq_some_iff_getElem]
  refine ⟨by simp [c.root i h], i, h, rfl, fun j hj => ?_⟩
  have := c.root j (by omega)
  simp only [this, Bool.not_eq_true', beq_eq_false_iff_ne]
  omega
theorem find_out {ns : List Nd} (c : Chain ns) (r : Int) (h : r < 1 ∨ (ns.length : Int) < r) : find ns r = none := by
  unfold find
  rw [List.find?_eq_none]
  intro n hn
  obtain ⟨i, hi, rfl⟩ := List.mem_iff_getElem.1 hn
  have := c.root i hi
  simp only [this, beq_iff_eq]
  omega
theorem has_is {ns : List Nd} (c : Chain ns) (r : Int) : Tree.has ns r = decide (1 ≤ r ∧ r ≤ (ns.length : Int)) := by
  unfold Tree.has
  by_cases h : 1 ≤ r ∧ r ≤ (ns.length : Int)
  · obtain ⟨i, rfl⟩ : ∃ i : Nat, r = (i : Int) + 1 := ⟨(r - 1).toNat, by omega⟩
    rw [find_in c i (by omega), decide_eq_true h]
    rfl
  · rw [find_out c r (by omega), decide_eq_false h]
    rfl
theorem getD_in {ns : List Nd} (c : Chain ns) (i : Nat) (h : i < ns.length) : Tree.getD ns (i + 1) = ns[i] := by
  unfold Tree.getD
  rw [find_in c i h]
  rfl
theorem Rel.well {t : T} {m : List S39} (R : Rel t m) : Well t := by
  have c := R.chain
  have f := R.first
  refine ⟨by rw [has_is c, f]; have := c.pos; simp; omega, ?_, ?_, ?_⟩
  · intro r hr hne
    rw [has_is c, decide_eq_true_eq] at hr
    obtain ⟨i, rfl⟩ : ∃ i : Nat, r = (i : Int) + 1 := ⟨(r - 1).toNat, by omega⟩
    have hi : i < t.ns.length := by omega
    obtain ⟨j, hj, h1, h2, h3⟩ := c.up i hi (by rw [f] at hne; omega)
    rw [getD_in c i hi, h1, has_is c, getD_in c j (by omega), h2]
    exact ⟨by simp; omega, rfl⟩
  · intro r hr
    rw [has_is c, decide_eq_true_eq] at hr
    obtain ⟨i, rfl⟩ : ∃ i : Nat, r = (i : Int) + 1 := ⟨(r - 1).toNat, by omega⟩
    have hi : i < t.ns.length := by omega
    rw [getD_in c i hi]
    exact (c.high i hi).1
  · intro r hr
    rw [has_is c, decide_eq_true_eq] at hr
    have := c.small
    omega
theorem Rel.heights {t : T} {m : List S39} (R : Rel t m) : ∀ x, Tree.has t.ns x = true → 0 ≤ (Tree.getD t.ns x).h ∧ (Tree.getD t.ns x).h < 1024 := by
  have c := R.chain
  intro r hr
  rw [has_is c, decide_eq_true_eq] at hr
  obtain ⟨i, rfl⟩ : ∃ i : Nat, r = (i : Int) + 1 := ⟨(r - 1).toNat, by omega⟩
  have hi : i < t.ns.length := by omega
  rw [getD_in c i hi]
  have := c.high i hi
  have := c.small
  omega
/-- A further block is laid, always. -/
theorem add_fits {t : T} {m : List S39} (R : Rel t m) (hs : t.ns.length < 31) (j : Nat) (hj : j < t.ns.length) (d : Int) (h0 : 0 ≤ d) (h3 : d ≤ 3) :
    addErr t ((t.ns.length : Int) + 1) ((j : Int) + 1) (t.ns[j].s + 1 + d) = none ∧ Rel (addOf t ((t.ns.length : Int) + 1) ((j : Int) + 1) (t.ns[j].s + 1 + d)) (m ++ [⟨(t.ns.length : Int) + 1, (j : Int) + 1, t.ns[j].s + 1 + d⟩]) := by
  have c := R.chain
  have e1 : Tree.has t.ns ((t.ns.length : Int) + 1) = false := by rw [has_is c]; simp; omega
  have e2 : Tree.has t.ns ((j : Int) + 1) = true := by rw [has_is c]; simp; omega
  have e : addErr t ((t.ns.length : Int) + 1) ((j : Int) + 1) (t.ns[j].s + 1 + d) = none := by
    unfold addErr
    rw [if_neg (by rw [e1]; simp), if_neg (by rw [e2]; simp), if_neg (by rw [getD_in c j hj]; omega), if_neg (by omega)]
  refine ⟨e, ?_⟩
  unfold addOf
  rw [if_pos e, getD_in c j hj]
  exact ⟨R.first, by simp [R.model, toS], c.snoc hs j hj d h0 h3⟩

/-! ### the model's own functions -/
theorem rd_model {t : T} {m : List S39} (R : Rel t m) (i : Nat) (h : i < t.ns.length) : rd_T39 m i = toS t.ns[i] := by
  rw [R.model]
  unfold rd_T39
  rw [Int.toNat_natCast, List.getD_eq_getElem?_getD, List.getElem?_map, List.getElem?_eq_getElem h]
  rfl
theorem Rel.len {t : T} {m : List S39} (R : Rel t m) : m.length = t.ns.length := by rw [R.model]; simp
def placeOf (n : Nat) (r : Int) : Int := if 1 ≤ r ∧ r ≤ (n : Int) then r - 1 else -1
theorem find_l0 {t : T} {m : List S39} (R : Rel t m) (r : Int) (d : Nat) : ∀ i : Nat, i + d = t.ns.length → (r < 1 ∨ (i : Int) < r) →
    Ev (fun k => psephoslaw09_Model_Find.l0 k r m m.length i) (placeOf t.ns.length r) := by
  have c := R.chain
  have hl := R.len
  have hs := c.small
  induction d with
  | zero =>
    intro i hi hr
    refine Ev.step (f := fun _ => some (placeOf t.ns.length r)) (fun k => ?_) (Ev.now _)
    simp only [psephoslaw09_Model_Find.l0]
    rw [if_neg (by omega)]
    unfold placeOf
    rw [if_neg (by omega)]
  | succ d ih =>
    intro i hi hr
    have hlt : i < t.ns.length := by omega
    by_cases e : r = (i : Int) + 1
    · refine Ev.step (f := fun _ => some (placeOf t.ns.length r)) (fun k => ?_) (Ev.now _)
      simp only [psephoslaw09_Model_Find.l0]
      rw [if_pos (by omega), if_pos (by omega), if_pos (by omega), rd_model R i hlt, if_pos (by show t.ns[i].r = r; rw [c.root i hlt, e])]
      unfold placeOf
      rw [if_pos (by omega)]
      congr 1
      omega
    · refine Ev.step (f := fun k => psephoslaw09_Model_Find.l0 k r m m.length ((i + 1 : Nat) : Int)) (fun k => ?_) (ih (i + 1) (by omega) (by omega))
      simp only [psephoslaw09_Model_Find.l0]
      rw [if_pos (by omega), if_pos (by omega), if_pos (by omega), rd_model R i hlt, if_neg (by show ¬ t.ns[i].r = r; rw [c.root i hlt]; omega), wrap_next (n := t.ns.length) hlt (by omega)]
theorem mfind_f {t : T} {m : List S39} (R : Rel t m) (r : Int) : Ev (fun k => psephoslaw09_Model_Find.f k m r) (placeOf t.ns.length r) :=
  find_l0 R r t.ns.length 0 (by omega) (by omega)

theorem climb_step {t : T} {m : List S39} (R : Rel t m) (s : Int) (i : Nat) (hi : i < t.ns.length) : upTo t s ((i : Int) + 1) = if i ≠ 0 ∧ t.ns[i].s > s then upTo t s (t.ns[i].p) else (i : Int) + 1 := by
  have c := R.chain
  by_cases h : i ≠ 0 ∧ t.ns[i].s > s
  · rw [if_pos h]
    have h2 := upTo_step R.well (s := s) (r := (i : Int) + 1) (by rw [has_is c]; simp; omega) (by rw [R.first]; omega) (by rw [getD_in c i hi]; exact h.2)
    rw [getD_in c i hi] at h2
    exact h2.symm
  · rw [if_neg h]
    refine upTo_stop ?_
    rw [R.first, getD_in c i hi]
    omega
/-- The model's walk down from a block: it meets 'on' just if the tree's walk ends there. -/
theorem down_l0 {t : T} {m : List S39} (R : Rel t m) (o : Nat) (ho : o < t.ns.length) : ∀ (n i : Nat), i ≤ n → (hi : i < t.ns.length) →
    Ev (fun k => psephoslaw09_Model_Below.l0 k m ((o : Int) + 1) i) (decide (upTo t t.ns[o].s ((i : Int) + 1) = (o : Int) + 1)) := by
  have c := R.chain
  have hl := R.len
  intro n
  induction n with
  | zero =>
    intro i hin hi
    obtain rfl : i = 0 := by omega
    refine Ev.step (f := fun _ => some (decide (upTo t t.ns[o].s ((0 : Nat) + 1) = (o : Int) + 1))) (fun k => ?_) (Ev.now _)
    simp only [psephoslaw09_Model_Below.l0]
    have hc : upTo t t.ns[o].s ((0 : Nat) + 1) = ((0 : Nat) : Int) + 1 := by rw [climb_step R _ 0 hi, if_neg (by omega)]
    rw [hc, if_pos (by omega), if_pos (by omega), if_pos (by omega), rd_model R 0 hi]
    have hr := c.root 0 hi
    by_cases e : o = 0
    · subst e
      rw [if_pos (by show t.ns[0].r = _; rw [hr])]
      simp
    · rw [if_neg (by show ¬ t.ns[0].r = _; rw [hr]; omega), if_pos (by omega)]
      congr 1
      symm
      exact decide_eq_false (by omega)
  | succ n ih =>
    intro i hin hi
    have hr := c.root i hi
    by_cases e : i = o
    · subst e
      refine Ev.step (f := fun _ => some (decide (upTo t t.ns[i].s ((i : Nat) + 1) = (i : Int) + 1))) (fun k => ?_) (Ev.now _)
      simp only [psephoslaw09_Model_Below.l0]
      have hc : upTo t t.ns[i].s ((i : Nat) + 1) = ((i : Nat) : Int) + 1 := by rw [climb_step R _ i hi, if_neg (by omega)]
      rw [hc, if_pos (by omega), if_pos (by omega), if_pos (by omega), rd_model R i hi, if_pos (by show t.ns[i].r = _; rw [hr])]
      simp
    · by_cases e0 : i = 0
      · exact ih i (by omega) hi
      · obtain ⟨j, hj, h1, h2, h3⟩ := c.up i hi (by omega)
        have hplace : placeOf t.ns.length ((j : Int) + 1) = j := by unfold placeOf; rw [if_pos (by omega)]; omega
        have hf := mfind_f R ((j : Int) + 1)
        rw [hplace] at hf
        have hd := ih j (by omega) (by omega)
        have key : (decide (upTo t t.ns[o].s ((i : Int) + 1) = (o : Int) + 1)) = decide (upTo t t.ns[o].s ((j : Int) + 1) = (o : Int) + 1) := by
          rw [climb_step R _ i hi]
          by_cases hs : t.ns[i].s > t.ns[o].s
          · rw [if_pos ⟨e0, hs⟩, h1]
          · rw [if_neg (by omega), climb_step R _ j (by omega), if_neg (by omega)]
            have hjo : j ≠ o := by rintro rfl; omega
            rw [decide_eq_false (by omega), decide_eq_false (by omega)]
        rw [key]
        refine Ev.step (f := fun k => (psephoslaw09_Model_Find.f k m ((j : Int) + 1)).bind fun t1 => psephoslaw09_Model_Below.l0 k m ((o : Int) + 1) t1) (fun k => ?_) (Ev.bind hf hd)
        simp only [psephoslaw09_Model_Below.l0]
        rw [if_pos (by omega), if_pos (by omega), if_pos (by omega), rd_model R i hi, if_neg (by show ¬ t.ns[i].r = _; rw [hr]; omega), if_neg (by omega)]
        show ((psephoslaw09_Model_Find.f k m t.ns[i].p).bind _) = _
        rw [h1]
theorem mbelow_f {t : T} {m : List S39} (R : Rel t m) (r on : Int) : Ev (fun k => psephoslaw09_Model_Below.f k m r on) (below t r on) := by
  have c := R.chain
  have hl := R.len
  unfold psephoslaw09_Model_Below.f
  refine Ev.bind (mfind_f R on) ?_
  by_cases ho : 1 ≤ on ∧ on ≤ (t.ns.length : Int)
  · obtain ⟨o, rfl⟩ : ∃ o : Nat, on = (o : Int) + 1 := ⟨(on - 1).toNat, by omega⟩
    have hol : o < t.ns.length := by omega
    have e1 : placeOf t.ns.length ((o : Int) + 1) = o := by unfold placeOf; rw [if_pos ho]; omega
    rw [e1]
    refine Ev.congr (f := fun k => (psephoslaw09_Model_Find.f k m r).bind fun t1 => psephoslaw09_Model_Below.l0 k m ((o : Int) + 1) t1) (fun k => by rw [if_neg (by omega)]) (Ev.bind (mfind_f R r) ?_)
    by_cases hr : 1 ≤ r ∧ r ≤ (t.ns.length : Int)
    · obtain ⟨i, rfl⟩ : ∃ i : Nat, r = (i : Int) + 1 := ⟨(r - 1).toNat, by omega⟩
      have hil : i < t.ns.length := by omega
      have e2 : placeOf t.ns.length ((i : Int) + 1) = i := by unfold placeOf; rw [if_pos hr]; omega
      rw [e2]
      have := down_l0 R o hol i i (Nat.le_refl _) hil
      have e3 : below t ((i : Int) + 1) ((o : Int) + 1) = decide (upTo t t.ns[o].s ((i : Int) + 1) = (o : Int) + 1) := by
        unfold below atOf
        rw [has_is c, has_is c, decide_eq_true ho, decide_eq_true hr, getD_in c o hol]
        simp only [Bool.and_self, Bool.true_and, if_true]
        rfl
      rw [e3]
      exact this
    · have e2 : placeOf t.ns.length r = -1 := by unfold placeOf; rw [if_neg hr]
      have e3 : below t r ((o : Int) + 1) = false := by unfold below; rw [has_is c r, decide_eq_false hr]; simp
      rw [e2, e3]
      refine Ev.step (f := fun _ => some false) (fun k => ?_) (Ev.now _)
      simp only [psephoslaw09_Model_Below.l0]
      rw [if_neg (by omega)]
  · have e1 : placeOf t.ns.length on = -1 := by unfold placeOf; rw [if_neg ho]
    have e3 : below t r on = false := by unfold below; rw [has_is c on, decide_eq_false ho]; simp
    rw [e1, e3]
    exact Ev.congr (f := fun _ => some false) (fun k => by rw [if_pos (by omega)]) (Ev.now _)
end Go.Proofs.Ytlhpokpdpjlhiaa.QI
