/-
  Package psephoslaw09: a model and a tree that say the same (the plain side). No memory, no Go.
-/
import Derived.Test.YtgbhblbfodphfaaDoorQZx14
import Derived.Test.YtgbhblbfodphfaaDoorQZx15
import Derived.Test.YtgbhblbfodphfaaDoorQZx16
import Derived.Test.YtgbhblbfodphfaaDoorQZx18
import Derived.Test.YtgbhblbfodphfaaDoorCutP
namespace Go.Proofs.YtgbhblbfodphfaaDoor.QZ
open Go.RowKit Go.Proofs.YtgbhblbfodphfaaDoorW.PrintWords Go.Proofs.YtgbhblbfodphfaaDoor.Tree
set_option linter.unusedVariables false

abbrev Md := List S37
/-- A model and a tree say the same. -/
structure MRel (t : T) (m : Md) : Prop where
  deeds : Deeds t
  head : ∃ n l, m = n :: l ∧ n.f0 = t.first
  nodup : (m.map (·.f0)).Nodup
  mem : ∀ x, Tree.has t.ns x = true ↔ x ∈ m.map (·.f0)
  slot : ∀ n ∈ m, n.f2 = (Tree.getD t.ns n.f0).s
  par : ∀ n ∈ m, n.f0 ≠ t.first → n.f1 = (Tree.getD t.ns n.f0).p
  ahead : ∀ a n b, m = a ++ n :: b → a ≠ [] → n.f1 ∈ a.map (·.f0)
  own : (Tree.getD t.ns t.first).p = t.first

theorem same_len {a b : List Int} (ha : a.Nodup) (hb : b.Nodup) (h : ∀ x, x ∈ a ↔ x ∈ b) : a.length = b.length :=
  ((List.perm_ext_iff_of_nodup ha hb).2 (fun {x} => h x)).length_eq
theorem has_mem' (ns : List Nd) (r : Int) : Tree.has ns r = true ↔ r ∈ ns.map (·.r) := has_mem ns r
theorem nodup_idx {l : List Int} (h : l.Nodup) {i j : Nat} (hi : i < l.length) (hj : j < l.length) (e : l[i] = l[j]) : i = j := (List.getElem_inj h).1 e
theorem MRel.len {t : T} {m : Md} (R : MRel t m) : m.length = t.ns.length := by
  have := same_len R.nodup R.deeds.fit.uniq (fun x => by rw [← R.mem, has_mem])
  simpa using this
theorem few : ∀ (n : Nat) (l : List Int), l.Nodup → (∀ x ∈ l, 0 ≤ x ∧ x < (n : Int)) → l.length ≤ n
  | 0, l, _, h => by
    cases l with
    | nil => simp
    | cons x l => have := h x (by simp); omega
  | n + 1, l, hn, h => by
    have h1 := few n (l.erase (n : Int)) (hn.erase _) (fun x hx => by
      rw [hn.mem_erase_iff] at hx
      have := h x hx.2
      have := hx.1
      omega)
    rw [List.length_erase] at h1
    split at h1 <;> omega
theorem deeds_few {t : T} (h : Deeds t) : t.ns.length ≤ 24 := by
  have := few 24 (t.ns.map (fun n : Nd => n.r)) h.fit.uniq (fun x hx => by
    have h1 := h.fit.well.wide x ((has_mem' t.ns x).2 hx)
    have h2 := h.root x ((has_mem' t.ns x).2 hx)
    omega)
  simpa using this
theorem MRel.few {t : T} {m : Md} (R : MRel t m) : m.length ≤ 24 := by
  rw [R.len]
  exact deeds_few R.deeds
theorem MRel.pos {t : T} {m : Md} (R : MRel t m) : 0 < m.length := by
  obtain ⟨n, l, rfl, _⟩ := R.head
  simp

/-! ### places -/
def placeM (m : Md) (r : Int) : Int := if r ∈ m.map (·.f0) then ((m.findIdx (fun n => n.f0 == r) : Nat) : Int) else -1
theorem place_out {m : Md} {r : Int} (h : r ∉ m.map (·.f0)) : placeM m r = -1 := if_neg h
theorem place_first {m : Md} {r : Int} (i : Nat) (hi : i < m.length) (h : m[i].f0 = r) (hj : ∀ j (h : j < m.length), j < i → m[j].f0 ≠ r) : placeM m r = i := by
  unfold placeM
  rw [if_pos (by rw [List.mem_map]; exact ⟨_, List.getElem_mem hi, h⟩)]
  have : m.findIdx (fun n => n.f0 == r) = i := by
    rw [List.findIdx_eq hi]
    exact ⟨by simpa using h, fun j hji => by simpa using hj j (by omega) hji⟩
  rw [this]
theorem place_at {m : Md} (hn : (m.map (·.f0)).Nodup) (i : Nat) (hi : i < m.length) : placeM m m[i].f0 = i := by
  refine place_first i hi rfl fun j h hji e => ?_
  have := nodup_idx hn (i := j) (j := i) (by simpa using h) (by simpa using hi) (by simpa using e)
  omega
theorem rd_md (m : Md) (i : Nat) (h : i < m.length) : rd_T37 m i = m[i] := by
  unfold rd_T37
  rw [Int.toNat_natCast, List.getD_eq_getElem?_getD, List.getElem?_eq_getElem h]
  rfl
theorem wrap_up {i n : Nat} (hi : i < n) (hn : n ≤ 140737488351232) : wrap64 ((i : Int) + 1) = ((i + 1 : Nat) : Int) := by
  unfold wrap64
  omega
theorem mfind_l0 (m : Md) (hl : m.length ≤ 17592186043904) (r : Int) (d : Nat) : ∀ i : Nat, i + d = m.length → (∀ j (h : j < m.length), j < i → m[j].f0 ≠ r) →
    Ev (fun k => psephoslaw09_Model_Find.l0 k r m m.length i) (placeM m r) := by
  induction d with
  | zero =>
    intro i hi hr
    refine Ev.step (f := fun _ => some (placeM m r)) (fun k => ?_) (Ev.now _)
    simp only [psephoslaw09_Model_Find.l0]
    rw [if_neg (by omega), place_out]
    intro hm
    rw [List.mem_map] at hm
    obtain ⟨x, hx, e⟩ := hm
    obtain ⟨j, hj, rfl⟩ := List.mem_iff_getElem.1 hx
    exact hr j hj (by omega) e
  | succ d ih =>
    intro i hi hr
    have hlt : i < m.length := by omega
    by_cases e : m[i].f0 = r
    · refine Ev.step (f := fun _ => some (placeM m r)) (fun k => ?_) (Ev.now _)
      simp only [psephoslaw09_Model_Find.l0]
      rw [if_pos (by omega), if_pos (by omega), if_pos (by omega), rd_md m i hlt, if_pos e, place_first i hlt e hr]
    · refine Ev.step (f := fun k => psephoslaw09_Model_Find.l0 k r m m.length ((i + 1 : Nat) : Int)) (fun k => ?_) (ih (i + 1) (by omega) (fun j h hj => ?_))
      · simp only [psephoslaw09_Model_Find.l0]
        rw [if_pos (by omega), if_pos (by omega), if_pos (by omega), rd_md m i hlt, if_neg e, wrap_up (n := m.length) hlt (by omega)]
      · by_cases e2 : j = i
        · subst e2; exact e
        · exact hr j h (by omega)
theorem mfind (m : Md) (hl : m.length ≤ 17592186043904) (r : Int) : Ev (fun k => psephoslaw09_Model_Find.f k m r) (placeM m r) :=
  mfind_l0 m hl r m.length 0 (by omega) (fun j h hj => by omega)
/-- What a block's place is, and what lies there. -/
theorem MRel.place {t : T} {m : Md} (R : MRel t m) {r : Int} (h : Tree.has t.ns r = true) :
    ∃ i : Nat, i < m.length ∧ placeM m r = i ∧ (rd_T37 m i).f0 = r ∧ (rd_T37 m i).f2 = (Tree.getD t.ns r).s ∧ (r ≠ t.first → (rd_T37 m i).f1 = (Tree.getD t.ns r).p) ∧ (i = 0 ↔ r = t.first) := by
  have hm := (R.mem r).1 h
  rw [List.mem_map] at hm
  obtain ⟨x, hx, e⟩ := hm
  obtain ⟨i, hi, rfl⟩ := List.mem_iff_getElem.1 hx
  subst e
  refine ⟨i, hi, place_at R.nodup i hi, by rw [rd_md m i hi], by rw [rd_md m i hi]; exact R.slot _ hx, fun hf => by rw [rd_md m i hi]; exact R.par _ hx hf, ?_⟩
  obtain ⟨n, l, e, e1⟩ := R.head
  have h0 : 0 < m.length := R.pos
  have e2 : m[0].f0 = t.first := by subst e; exact e1
  constructor
  · rintro rfl
    exact e2
  · intro e3
    exact nodup_idx R.nodup (i := i) (j := 0) (by simpa using hi) (by simpa using h0) (by simp [e3, e2])
theorem MRel.no {t : T} {m : Md} (R : MRel t m) {r : Int} (h : Tree.has t.ns r = false) : placeM m r = -1 :=
  place_out (fun e => by rw [← R.mem, h] at e; cases e)
theorem MRel.find {t : T} {m : Md} (R : MRel t m) (r : Int) : Ev (fun k => psephoslaw09_Model_Find.f k m r) (placeM m r) :=
  mfind m (by have := R.few; omega) r
theorem MRel.place_neg {t : T} {m : Md} (R : MRel t m) (r : Int) : (placeM m r < 0) = (Tree.has t.ns r = false) := by
  cases h : Tree.has t.ns r with
  | false => rw [R.no h]; simp
  | true =>
    obtain ⟨i, _, e, _⟩ := R.place h
    rw [e]
    simp

/-! ### the model's own functions -/
theorem MRel.below_l0 {t : T} {m : Md} (R : MRel t m) (on : Int) (ho : Tree.has t.ns on = true) : ∀ (n : Nat) (r : Int), Tree.has t.ns r = true → (Tree.getD t.ns r).h ≤ (n : Int) →
    Ev (fun k => psephoslaw09_Model_Below.l0 k m on (placeM m r)) (below t r on) := by
  have F := R.deeds.fit
  have stay : ∀ r, Tree.has t.ns r = true → r = on ∨ r = t.first → Ev (fun k => psephoslaw09_Model_Below.l0 k m on (placeM m r)) (below t r on) := by
    intro r hr h
    obtain ⟨i, hi, e, f0, f2, f1, z⟩ := R.place hr
    refine Ev.step (f := fun _ => some (below t r on)) (fun k => ?_) (Ev.now _)
    rw [e]
    simp only [psephoslaw09_Model_Below.l0]
    rw [if_pos (by omega), if_pos (by omega), if_pos (by omega), f0]
    by_cases e1 : r = on
    · rw [if_pos e1, ← e1, below_refl hr]
    · have e2 : r = t.first := h.resolve_left e1
      rw [if_neg e1, if_pos (by have := z.2 e2; omega), e2, below_first (by rw [← e2]; exact e1)]
  intro n
  induction n with
  | zero =>
    intro r hr hn
    refine stay r hr (.inr ?_)
    by_cases e : r = t.first
    · exact e
    · have h1 := F.well.up r hr e
      have := F.well.root _ h1.1
      omega
  | succ n ih =>
    intro r hr hn
    by_cases e : r = on ∨ r = t.first
    · exact stay r hr e
    · have e1 : r ≠ on := fun h => e (.inl h)
      have e2 : r ≠ t.first := fun h => e (.inr h)
      have h1 := F.well.up r hr e2
      obtain ⟨i, hi, e3, f0, f2, f1, z⟩ := R.place hr
      rw [F.below_up hr e2 e1]
      refine Ev.step (f := fun k => (psephoslaw09_Model_Find.f k m (Tree.getD t.ns r).p).bind fun x => psephoslaw09_Model_Below.l0 k m on x) (fun k => ?_) (Ev.bind (R.find _) (ih _ h1.1 (by omega)))
      rw [e3]
      simp only [psephoslaw09_Model_Below.l0]
      rw [if_pos (by omega), if_pos (by omega), if_pos (by omega), f0, if_neg e1, if_neg (by have := mt z.1 e2; omega), f1 e2]
theorem MRel.below {t : T} {m : Md} (R : MRel t m) (r on : Int) : Ev (fun k => psephoslaw09_Model_Below.f k m r on) (Tree.below t r on) := by
  unfold psephoslaw09_Model_Below.f
  refine Ev.bind (R.find on) ?_
  cases ho : Tree.has t.ns on with
  | false =>
    rw [R.no ho, below_no (.inr ho)]
    exact Ev.congr (f := fun _ => some false) (fun k => by rw [if_pos (by omega)]) (Ev.now _)
  | true =>
    have hp : ¬ placeM m on < 0 := by rw [R.place_neg, ho]; simp
    refine Ev.congr (f := fun k => (psephoslaw09_Model_Find.f k m r).bind fun x => psephoslaw09_Model_Below.l0 k m on x) (fun k => by rw [if_neg hp]) (Ev.bind (R.find r) ?_)
    cases hr : Tree.has t.ns r with
    | true => exact R.below_l0 on ho (Tree.getD t.ns r).h.toNat r hr (by have := R.deeds.fit.well.root r hr; omega)
    | false =>
      rw [R.no hr, below_no (.inl hr)]
      refine Ev.step (f := fun _ => some false) (fun k => ?_) (Ev.now _)
      simp only [psephoslaw09_Model_Below.l0]
      rw [if_neg (by omega)]
theorem MRel.at_l0 {t : T} {m : Md} (R : MRel t m) (s : Int) : ∀ (n : Nat) (r : Int), Tree.has t.ns r = true → (Tree.getD t.ns r).h ≤ (n : Int) →
    Ev (fun k => psephoslaw09_Model_At.l0 k m s (placeM m r)) (upTo t s r) := by
  have F := R.deeds.fit
  have stay : ∀ r, Tree.has t.ns r = true → ¬ (r ≠ t.first ∧ (Tree.getD t.ns r).s > s) → Ev (fun k => psephoslaw09_Model_At.l0 k m s (placeM m r)) (upTo t s r) := by
    intro r hr h
    obtain ⟨i, hi, e, f0, f2, f1, z⟩ := R.place hr
    refine Ev.step (f := fun _ => some (upTo t s r)) (fun k => ?_) (Ev.now _)
    rw [e, upTo_stop h]
    simp only [psephoslaw09_Model_At.l0]
    by_cases e1 : r = t.first
    · rw [if_neg (by have := z.2 e1; omega), if_pos (by omega), if_pos (by omega), f0]
    · rw [if_pos (by have := mt z.1 e1; omega), if_pos (by omega), if_pos (by omega), f2, if_neg (fun h2 => h ⟨e1, h2⟩), f0]
  intro n
  induction n with
  | zero =>
    intro r hr hn
    refine stay r hr fun h => ?_
    have h1 := F.well.up r hr h.1
    have := F.well.root _ h1.1
    omega
  | succ n ih =>
    intro r hr hn
    by_cases e : r ≠ t.first ∧ (Tree.getD t.ns r).s > s
    · have h1 := F.well.up r hr e.1
      obtain ⟨i, hi, e3, f0, f2, f1, z⟩ := R.place hr
      rw [← upTo_step F.well hr e.1 e.2]
      refine Ev.step (f := fun k => (psephoslaw09_Model_Find.f k m (Tree.getD t.ns r).p).bind fun x => psephoslaw09_Model_At.l0 k m s x) (fun k => ?_) (Ev.bind (R.find _) (ih _ h1.1 (by omega)))
      rw [e3]
      simp only [psephoslaw09_Model_At.l0]
      rw [if_pos (by have := mt z.1 e.1; omega), if_pos (by omega), if_pos (by omega), f2, if_pos e.2, f1 e.1]
    · exact stay r hr e
theorem MRel.at_ {t : T} {m : Md} (R : MRel t m) (r s : Int) : Ev (fun k => psephoslaw09_Model_At.f k m r s) (atOf t r s) := by
  unfold psephoslaw09_Model_At.f
  refine Ev.bind (R.find r) ?_
  unfold atOf
  cases hr : Tree.has t.ns r with
  | true =>
    have hp : ¬ placeM m r < 0 := by rw [R.place_neg, hr]; simp
    rw [if_pos rfl]
    exact Ev.congr (fun k => by rw [if_neg hp]) (R.at_l0 s (Tree.getD t.ns r).h.toNat r hr (by have := R.deeds.fit.well.root r hr; omega))
  | false =>
    rw [R.no hr, if_neg (by simp)]
    exact Ev.congr (f := fun _ => some 0) (fun k => by rw [if_pos (by omega)]) (Ev.now _)
/-- A number of an error. -/
def errN : Option Int → Int
  | none => 0
  | some c => c
theorem MRel.add_f {t : T} {m : Md} (R : MRel t m) (r p s : Int) : Ev (fun k => psephoslaw09_Model_add.f k m r p s) (errN (addErr t r p s)) := by
  unfold psephoslaw09_Model_add.f addErr
  refine Ev.bind (R.find r) ?_
  have hl := deeds_few R.deeds
  cases hr : Tree.has t.ns r with
  | true =>
    have hp : ¬ placeM m r < 0 := by rw [R.place_neg, hr]; simp
    rw [if_pos rfl]
    exact Ev.congr (f := fun _ => some 6) (fun k => by rw [if_pos (by omega)]) (Ev.now _)
  | false =>
    have hp : placeM m r < 0 := by rw [R.place_neg, hr]
    rw [if_neg (by simp)]
    refine Ev.congr (f := fun k => (psephoslaw09_Model_Find.f k m p).bind fun x => _) (fun k => by rw [if_neg (by omega)]) (Ev.bind (R.find p) ?_)
    cases hq : Tree.has t.ns p with
    | false =>
      have hp : placeM m p < 0 := by rw [R.place_neg, hq]
      rw [if_pos rfl]
      exact Ev.congr (f := fun _ => some 5) (fun k => by rw [if_pos (by omega)]) (Ev.now _)
    | true =>
      obtain ⟨i, hi, e3, f0, f2, f1, z⟩ := R.place hq
      rw [if_neg (by simp), if_neg (c := (t.ns.length : Int) ≥ 1024) (by omega)]
      refine Ev.congr (f := fun k => (psephoslaw09_Model_Find.f k m p).bind fun x => _) (fun k => by rw [if_neg (by rw [e3]; omega)]) (Ev.bind (R.find p) ?_)
      rw [e3]
      refine Ev.congr (f := fun _ => some (errN (if s ≤ (Tree.getD t.ns p).s then some 7 else none))) (fun k => ?_) (Ev.now _)
      rw [if_pos (by omega), if_pos (by omega), f2]
      split <;> rfl

/-! ### deeds keep it so -/
theorem MRel.one : MRel ⟨1, [⟨1, 1, 2, 0⟩]⟩ [⟨1, 1, 2⟩] := by
  refine ⟨Deeds.one, ⟨_, _, rfl, rfl⟩, by simp, fun x => by rw [has_mem]; simp, fun n hn => ?_, fun n hn hf => ?_, fun a n b e ha => ?_, rfl⟩
  · simp at hn
    subst hn
    rfl
  · simp at hn
    subst hn
    exact absurd rfl hf
  · have := congrArg List.length e
    simp at this
    have : 0 < a.length := List.length_pos_iff.2 ha
    omega
theorem MRel.add {t : T} {m : Md} (R : MRel t m) (r p s : Int) (hr : 0 ≤ r ∧ r < 24) (hs : s ≤ 39) (h : addErr t r p s = none) : MRel (addOf t r p s) (m ++ [⟨r, p, s⟩]) := by
  obtain ⟨h1, h2, h3, h4⟩ := addErr_none h
  have hno : Tree.has t.ns (Nd.r ⟨r, p, s, (Tree.getD t.ns p).h + 1⟩) = false := h1
  have hd := R.deeds.add r p s hr hs
  have hns : addOf t r p s = ⟨t.first, t.ns ++ [⟨r, p, s, (Tree.getD t.ns p).h + 1⟩]⟩ := by unfold addOf; rw [if_pos h]
  rw [hns] at hd ⊢
  have hm : r ∉ m.map (·.f0) := fun e => by rw [← R.mem, h1] at e; cases e
  have old : ∀ n ∈ m, n.f0 ≠ r := fun n hn e => hm (List.mem_map.2 ⟨n, hn, e⟩)
  refine ⟨hd, ?_, ?_, fun x => ?_, fun n hn => ?_, fun n hn hf => ?_, fun a n b e ha => ?_, ?_⟩
  · obtain ⟨n, l, e, e1⟩ := R.head
    exact ⟨n, l ++ [⟨r, p, s⟩], by rw [e]; rfl, e1⟩
  · rw [List.map_append, List.nodup_append]
    refine ⟨R.nodup, by simp, fun a ha b hb => ?_⟩
    simp at hb
    subst hb
    rintro rfl
    exact hm ha
  · show Tree.has (t.ns ++ _) x = true ↔ _
    rw [has_new hno]
    simp only [Bool.or_eq_true, decide_eq_true_eq, R.mem, List.map_append, List.mem_append, List.map_cons, List.map_nil, List.mem_singleton]
    exact ⟨Or.symm, Or.symm⟩
  · show n.f2 = (Tree.getD (t.ns ++ _) n.f0).s
    rw [getD_new hno]
    rw [List.mem_append] at hn
    rcases hn with hn | hn
    · rw [if_neg (old n hn)]
      exact R.slot n hn
    · simp at hn
      subst hn
      rw [if_pos rfl]
  · show n.f1 = (Tree.getD (t.ns ++ _) n.f0).p
    rw [getD_new hno]
    rw [List.mem_append] at hn
    rcases hn with hn | hn
    · rw [if_neg (old n hn)]
      exact R.par n hn hf
    · simp at hn
      subst hn
      rw [if_pos rfl]
  · rcases List.eq_nil_or_concat b with rfl | ⟨l, y, rfl⟩
    · obtain ⟨e1, e2⟩ := List.append_inj' e rfl
      subst e1
      injection e2 with e2 _
      subst e2
      exact (R.mem p).1 h2
    · rw [List.concat_eq_append, show a ++ n :: (l ++ [y]) = (a ++ n :: l) ++ [y] by simp] at e
      exact R.ahead a n l (List.append_inj' e rfl).1 ha
  · show (Tree.getD (t.ns ++ _) t.first).p = t.first
    rw [getD_new hno, if_neg (fun e => by have h5 := R.deeds.fit.well.first; rw [e] at h5; rw [h1] at h5; cases h5)]
    exact R.own
theorem MRel.same {t : T} {m : Md} (R : MRel t m) (r p s : Int) (h : addErr t r p s ≠ none) : MRel (addOf t r p s) m := by
  unfold addOf
  rw [if_neg h]
  exact R
theorem MRel.cut {t : T} {m : Md} (R : MRel t m) {root : Int} (hr : Tree.has t.ns root = true) : MRel (cutOf t root) (m.filter (fun n => Tree.below t n.f0 root)) := by
  have F := R.deeds.fit
  have up : ∀ n ∈ m, Tree.below t n.f0 root = true → n.f0 ≠ root → n.f0 ≠ t.first ∧ n.f1 = (Tree.getD t.ns n.f0).p ∧ Tree.below t n.f1 root = true := by
    intro n hn hb hne
    have hf : n.f0 ≠ t.first := fun e => by rw [e, below_first (by rw [← e]; exact hne)] at hb; cases hb
    have hp := R.par n hn hf
    refine ⟨hf, hp, ?_⟩
    rw [hp, ← F.below_up (below_has hb).1 hf hne]
    exact hb
  have notfirst : ∀ a n b, m = a ++ n :: b → n.f0 ≠ t.first → a ≠ [] := by
    rintro a n b e hf rfl
    obtain ⟨x, l, e1, e2⟩ := R.head
    rw [e1] at e
    injection e with e _
    subst e
    exact hf e2
  have hnd : ((m.filter (fun n => Tree.below t n.f0 root)).map (·.f0)).Nodup := by
    have h1 : ((m.map (·.f0)).filter (fun x => Tree.below t x root)).Nodup := R.nodup.filter _
    rw [List.filter_map] at h1
    exact h1
  have hmem : ∀ x, Tree.has (cutOf t root).ns x = true ↔ x ∈ (m.filter (fun n => Tree.below t n.f0 root)).map (·.f0) := by
    intro x
    rw [cut_has]
    simp only [List.mem_map, List.mem_filter]
    constructor
    · intro h
      have := (R.mem x).1 (below_has h).1
      rw [List.mem_map] at this
      obtain ⟨n, hn, rfl⟩ := this
      exact ⟨n, ⟨hn, h⟩, rfl⟩
    · rintro ⟨n, ⟨_, h⟩, rfl⟩
      exact h
  have hhead : ∃ n l, m.filter (fun n => Tree.below t n.f0 root) = n :: l ∧ n.f0 = root := by
    cases e : m.filter (fun n => Tree.below t n.f0 root) with
    | nil =>
      have h1 := (hmem root).1 (by rw [cut_has]; exact below_refl hr)
      rw [e] at h1
      simp at h1
    | cons n l =>
      refine ⟨n, l, rfl, ?_⟩
      obtain ⟨a, b, e1, e2, e3, _⟩ := List.filter_eq_cons_iff.1 e
      by_cases hne : n.f0 = root
      · exact hne
      · exfalso
        obtain ⟨hf, hp, hb⟩ := up n (by rw [e1]; simp) e3 hne
        have h1 := R.ahead a n b e1 (notfirst a n b e1 hf)
        rw [List.mem_map] at h1
        obtain ⟨y, hy, e4⟩ := h1
        exact e2 y hy (by rw [e4]; exact hb)
  refine ⟨R.deeds.cut hr, hhead, hnd, hmem, fun n hn => ?_, fun n hn hf => ?_, fun a n b e ha => ?_, ?_⟩
  · rw [List.mem_filter] at hn
    rw [cut_get t root hr _ hn.2]
    split
    · rename_i e
      rw [← e]
      exact R.slot n hn.1
    · exact R.slot n hn.1
  · rw [List.mem_filter] at hn
    replace hf : n.f0 ≠ root := hf
    rw [cut_get t root hr _ hn.2, if_neg hf]
    exact (up n hn.1 hn.2 hf).2.1
  · obtain ⟨a', c, e1, e2, e3⟩ := List.filter_eq_append_iff.1 e
    obtain ⟨b1, b2, e4, e5, e6, e7⟩ := List.filter_eq_cons_iff.1 e3
    obtain ⟨x, l, e8, e9⟩ := hhead
    have hne : n.f0 ≠ root := by
      intro h
      rw [e] at e8 hnd
      cases a with
      | nil => exact ha rfl
      | cons y a =>
        injection e8 with e8 _
        subst e8
        rw [List.cons_append, List.map_cons, List.nodup_cons] at hnd
        exact hnd.1 (by rw [e9, ← h]; simp)
    have hn : n ∈ m := by rw [e1, e4]; simp
    obtain ⟨hf, hp, hb⟩ := up n hn e6 hne
    have e10 : m = (a' ++ b1) ++ n :: b2 := by rw [e1, e4]; simp
    have h1 := R.ahead _ n b2 e10 (notfirst _ n b2 e10 hf)
    rw [List.mem_map] at h1 ⊢
    obtain ⟨y, hy, e11⟩ := h1
    refine ⟨y, ?_, e11⟩
    rw [List.mem_append] at hy
    rcases hy with hy | hy
    · rw [← e2, List.mem_filter]
      exact ⟨hy, by rw [e11]; exact hb⟩
    · exact absurd (by rw [e11]; exact hb) (e5 y hy)
  · show (Tree.getD (cutOf t root).ns root).p = root
    rw [cut_get t root hr root (below_refl hr), if_pos rfl]
/-- How many are cut off. -/
theorem MRel.cut_count {t : T} {m : Md} (R : MRel t m) {root : Int} (hr : Tree.has t.ns root = true) : (goneOf t root).length + (m.filter (fun n => Tree.below t n.f0 root)).length = m.length := by
  rw [(R.cut hr).len, R.len]
  exact cut_sum t root
end Go.Proofs.YtgbhblbfodphfaaDoor.QZ
