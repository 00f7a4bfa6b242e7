/-
  The plain law behind WeightSum: what a block has is what the blocks that stand on it at once have together, and the votes that are for itself. No memory, no Go.
-/
import Derived.Test.YtmdkkojchiiaeaaLawW
import Derived.Test.YtmdkkojchiiaeaaRootsA

namespace Go.Proofs.Ytmdkkojchiiaeaa.QW
open Go.RowKit Go.Proofs.YtmdkkojchiiaeaaW.PrintWords Go.Proofs.Ytmdkkojchiiaeaa.Tree
set_option linter.unusedVariables false

def bi (b : Bool) : Int := if b = true then 1 else 0
/-! ### sums over lists -/
def sumL (f : Int → Int) : List Int → Int
  | [] => 0
  | x :: l => f x + sumL f l
theorem sumL_add (f g : Int → Int) (l : List Int) : sumL (fun x => f x + g x) l = sumL f l + sumL g l := by
  induction l with
  | nil => rfl
  | cons x l ih => simp only [sumL, ih]; omega
theorem sumL_congr {f g : Int → Int} {l : List Int} (h : ∀ x ∈ l, f x = g x) : sumL f l = sumL g l := by
  induction l with
  | nil => rfl
  | cons x l ih => simp only [sumL]; rw [h x (by simp), ih (fun y hy => h y (by simp [hy]))]
theorem sumL_mul (f : Int → Int) (b : Int) (l : List Int) : sumL (fun x => f x * b) l = sumL f l * b := by
  induction l with
  | nil => simp [sumL]
  | cons x l ih => simp only [sumL, ih, Int.add_mul]
theorem sumL_zero (l : List Int) : sumL (fun _ => 0) l = 0 := by
  induction l with
  | nil => rfl
  | cons x l ih => simp only [sumL, ih]; rfl
theorem sumL_one (i : Int) : ∀ l : List Int, l.Nodup → sumL (fun c => bi (decide (i = c))) l = bi (decide (i ∈ l))
  | [], _ => by simp [sumL, bi]
  | x :: l, h => by
    rw [List.nodup_cons] at h
    have ih := sumL_one i l h.2
    simp only [sumL]
    rw [ih]
    by_cases e : i = x
    · subst e
      simp [bi, h.1]
    · simp [bi, e]
theorem sumL_take (f : Int → Int) (l : List Int) (k : Nat) (hk : k < l.length) : sumL f (l.take (k + 1)) = sumL f (l.take k) + f (rd l (k : Int)) := by
  have hr : rd l (k : Int) = l[k] := by simp [rd, List.getD_eq_getElem?_getD, hk]
  rw [hr]
  clear hr
  induction l generalizing k with
  | nil => simp at hk
  | cons x l ih =>
    cases k with
    | zero => simp [sumL]
    | succ k =>
      have := ih k (by simpa using hk)
      simp only [List.take_succ_cons, sumL, List.getElem_cons_succ, this]
      omega

/-! ### who stands on whom -/
section
variable {t : T} {m : List S53} (R : Rel t m)
include R
theorem uniq_of : Uniq t.ns := by
  have c := R.chain
  unfold Uniq
  rw [List.nodup_iff_pairwise_ne, List.pairwise_map, List.pairwise_iff_getElem]
  intro i j hi hj hij
  rw [c.root i hi, c.root j hj]
  omega
theorem ns_ne : t.ns ≠ [] := fun e => by have := R.chain.pos; rw [e] at this; simp at this
theorem low_len : t.ns.length ≤ 4096 := by have := R.chain.small; omega
theorem below_self (i : Nat) (hi : i < t.ns.length) : below t ((i : Int) + 1) ((i : Int) + 1) = true := by
  have c := R.chain
  unfold below atOf
  rw [has_is c, getD_in c i hi, decide_eq_true (by omega)]
  simp only [Bool.and_self, Bool.true_and, if_true, beq_iff_eq]
  rw [climb_step R _ i hi, if_neg (by omega)]
theorem below_zero (o : Nat) (ho : o < t.ns.length) (h : o ≠ 0) : below t 1 ((o : Int) + 1) = false := by
  have c := R.chain
  have hp := c.pos
  unfold below atOf
  rw [has_is c, has_is c, getD_in c o ho, decide_eq_true (by omega), decide_eq_true (by omega)]
  have := climb_step R t.ns[o].s 0 hp
  rw [if_neg (by omega)] at this
  simp only [Bool.and_self, Bool.true_and, if_true, beq_eq_false_iff_ne]
  have h1 : upTo t t.ns[o].s 1 = 1 := by simpa using this
  rw [h1]
  omega
theorem below_up (i o : Nat) (hi : i < t.ns.length) (ho : o < t.ns.length) (h0 : i ≠ 0) (hne : i ≠ o) : below t ((i : Int) + 1) ((o : Int) + 1) = below t t.ns[i].p ((o : Int) + 1) := by
  have c := R.chain
  obtain ⟨j, hj, h1, h2, h3⟩ := c.up i hi (by omega)
  rw [h1]
  unfold below atOf
  rw [has_is c, has_is c, has_is c, getD_in c o ho, decide_eq_true (by omega), decide_eq_true (by omega), decide_eq_true (by omega)]
  simp only [Bool.and_self, Bool.true_and, if_true]
  have key : (decide (upTo t t.ns[o].s ((i : Int) + 1) = (o : Int) + 1)) = decide (upTo t t.ns[o].s ((j : Int) + 1) = (o : Int) + 1) := by
    rw [climb_step R _ i hi]
    by_cases hs : t.ns[i].s > t.ns[o].s
    · rw [if_pos ⟨h0, hs⟩, h1]
    · rw [if_neg (by omega), climb_step R _ j (by omega), if_neg (by omega)]
      have hjo : j ≠ o := by rintro rfl; omega
      rw [decide_eq_false (by omega), decide_eq_false (by omega)]
  exact key
theorem below_high : ∀ (n i o : Nat), i ≤ n → i < t.ns.length → o < t.ns.length → i < o → below t ((i : Int) + 1) ((o : Int) + 1) = false := by
  intro n
  induction n with
  | zero =>
    intro i o hin hi ho h
    obtain rfl : i = 0 := by omega
    exact below_zero R o ho (by omega)
  | succ n ih =>
    intro i o hin hi ho h
    by_cases h0 : i = 0
    · subst h0
      exact below_zero R o ho (by omega)
    · obtain ⟨j, hj, h1, h2, h3⟩ := R.chain.up i hi (by omega)
      rw [below_up R i o hi ho h0 (by omega), h1]
      exact ih j o (by omega) (by omega) ho (by omega)
/-- A block's roots are the numbers from 1 on. -/
theorem kid_mem (o : Nat) (x : Int) : x ∈ kidsOf t ((o : Int) + 1) ↔ ∃ i : Nat, ∃ hi : i < t.ns.length, x = (i : Int) + 1 ∧ i ≠ 0 ∧ t.ns[i].p = (o : Int) + 1 := by
  have c := R.chain
  unfold kidsOf
  rw [List.mem_filter, roots_mem, has_is c]
  simp only [Bool.and_eq_true, decide_eq_true_eq]
  constructor
  · rintro ⟨hx, h1, h2⟩
    obtain ⟨i, rfl⟩ : ∃ i : Nat, x = (i : Int) + 1 := ⟨(x - 1).toNat, by omega⟩
    have hi : i < t.ns.length := by omega
    rw [getD_in c i hi] at h2
    rw [R.first] at h1
    exact ⟨i, hi, rfl, by omega, h2⟩
  · rintro ⟨i, hi, rfl, h0, hp⟩
    rw [getD_in c i hi, R.first]
    exact ⟨by omega, by omega, hp⟩
theorem kids_nodup (root : Int) : (kidsOf t root).Nodup := (roots_nodup (uniq_of R)).filter _
/-- A block's standing is that on one of its kids alone, or it is the block. -/
theorem below_split (o : Nat) (ho : o < t.ns.length) : ∀ (n i : Nat), i ≤ n → i < t.ns.length →
    bi (below t ((i : Int) + 1) ((o : Int) + 1)) = sumL (fun c => bi (below t ((i : Int) + 1) c)) (kidsOf t ((o : Int) + 1)) + bi (decide ((i : Int) + 1 = (o : Int) + 1)) := by
  have zero : ∀ i : Nat, i = 0 → i < t.ns.length → bi (below t ((i : Int) + 1) ((o : Int) + 1)) = sumL (fun c => bi (below t ((i : Int) + 1) c)) (kidsOf t ((o : Int) + 1)) + bi (decide ((i : Int) + 1 = (o : Int) + 1)) := by
    rintro i rfl hi
    have hs : sumL (fun c => bi (below t (((0 : Nat) : Int) + 1) c)) (kidsOf t ((o : Int) + 1)) = 0 := by
      rw [← sumL_zero (kidsOf t ((o : Int) + 1))]
      refine sumL_congr fun x hx => ?_
      obtain ⟨i, hi, rfl, h0, _⟩ := (kid_mem R o x).1 hx
      have := below_zero R i hi h0
      show bi (below t 1 ((i : Int) + 1)) = 0
      rw [this]
      rfl
    rw [hs]
    by_cases h : o = 0
    · subst h
      have := below_self R 0 hi
      rw [this]
      simp [bi]
    · have := below_zero R o ho h
      have h2 : below t (((0 : Nat) : Int) + 1) ((o : Int) + 1) = false := by simpa using this
      rw [h2]
      simp [bi]
      omega
  intro n
  induction n with
  | zero => intro i hin hi; exact zero i (by omega) hi
  | succ n ih =>
    intro i hin hi
    by_cases h0 : i = 0
    · exact zero i h0 hi
    · obtain ⟨j, hj, h1, h2, h3⟩ := R.chain.up i hi (by omega)
      have ihj := ih j (by omega) (by omega)
      have hs : sumL (fun c => bi (below t ((i : Int) + 1) c)) (kidsOf t ((o : Int) + 1)) = sumL (fun c => bi (decide ((i : Int) + 1 = c)) + bi (below t ((j : Int) + 1) c)) (kidsOf t ((o : Int) + 1)) := by
        refine sumL_congr fun x hx => ?_
        obtain ⟨c, hc, rfl, hc0, hcp⟩ := (kid_mem R o x).1 hx
        by_cases e : i = c
        · subst e
          rw [below_self R i hi, below_high R j j i (Nat.le_refl _) (by omega) hi hj]
          simp [bi]
        · rw [below_up R i c hi hc h0 e, h1, decide_eq_false (by omega)]
          simp [bi]
      rw [hs, sumL_add, sumL_one _ _ (kids_nodup R _)]
      by_cases e : i = o
      · subst e
        rw [below_high R j j i (Nat.le_refl _) (by omega) hi hj] at ihj
        have hz : decide ((j : Int) + 1 = (i : Int) + 1) = false := decide_eq_false (by omega)
        rw [hz] at ihj
        have hn : decide ((i : Int) + 1 ∈ kidsOf t ((i : Int) + 1)) = false := by
          refine decide_eq_false fun h => ?_
          obtain ⟨c, hc, e1, _, e2⟩ := (kid_mem R i _).1 h
          obtain rfl : c = i := by omega
          rw [h1] at e2
          omega
        rw [below_self R i hi, hn]
        simp [bi] at ihj ⊢
        omega
      · rw [below_up R i o hi ho h0 e, h1, ihj]
        have hd : decide ((i : Int) + 1 = (o : Int) + 1) = false := decide_eq_false (by omega)
        have hk : decide ((i : Int) + 1 ∈ kidsOf t ((o : Int) + 1)) = decide ((j : Int) + 1 = (o : Int) + 1) := by
          rw [decide_eq_decide, kid_mem R]
          constructor
          · rintro ⟨c, hc, e1, _, e2⟩
            obtain rfl : c = i := by omega
            rw [← h1]
            exact e2
          · intro hjo
            exact ⟨i, hi, rfl, h0, by rw [h1]; exact hjo⟩
        rw [hd, hk]
        simp [bi]
        omega
theorem below_parts (o : Nat) (ho : o < t.ns.length) (r : Int) :
    bi (below t r ((o : Int) + 1)) = sumL (fun c => bi (below t r c)) (kidsOf t ((o : Int) + 1)) + bi (decide (r = (o : Int) + 1)) := by
  have c := R.chain
  by_cases hr : 1 ≤ r ∧ r ≤ (t.ns.length : Int)
  · obtain ⟨i, rfl⟩ : ∃ i : Nat, r = (i : Int) + 1 := ⟨(r - 1).toNat, by omega⟩
    exact below_split R o ho i i (Nat.le_refl _) (by omega)
  · have hb : ∀ on, below t r on = false := fun on => by
      unfold below
      rw [has_is c r, decide_eq_false hr]
      simp
    have hd : decide (r = (o : Int) + 1) = false := decide_eq_false (by omega)
    rw [hb, hd, sumL_congr (g := fun _ => 0) (fun x _ => by show bi (below t r x) = 0; rw [hb]; rfl), sumL_zero]
    rfl
end

/-! ### what a block has, without going round -/
/-- What a validator gives a block. -/
def gives (lx : List Int) (t : T) (lv : List S63) (root : Int) (k : Nat) : Int := match voteOf lv k with
  | some r => bi (below t r root) * balOf lx k
  | none => 0
/-- What a validator's own vote for a block weighs. -/
def own1 (lx : List Int) (lv : List S63) (root : Int) (k : Nat) : Int := match voteOf lv k with
  | some r => bi (decide (r = root)) * balOf lx k
  | none => 0
def upto (f : Nat → Int) : Nat → Int
  | 0 => 0
  | k + 1 => upto f k + f k
theorem u64_add (a b : Int) : IntKind.u64.wrap (IntKind.u64.wrap a + b) = IntKind.u64.wrap (a + b) := by
  simp only [IntKind.wrap_u64]
  rw [Int.emod_add_emod]
theorem u64_add' (a b : Int) : IntKind.u64.wrap (a + IntKind.u64.wrap b) = IntKind.u64.wrap (a + b) := by
  rw [Int.add_comm, u64_add, Int.add_comm]
theorem have_is (lx : List Int) (t : T) (lv : List S63) (root : Int) : ∀ k, haveOf lx t lv root k = IntKind.u64.wrap (upto (gives lx t lv root) k)
  | 0 => by simp [haveOf, upto, IntKind.wrap_u64]
  | k + 1 => by
    have ih := have_is lx t lv root k
    unfold haveOf
    simp only [upto]
    cases hv : voteOf lv k with
    | none =>
      have hg : gives lx t lv root k = 0 := by unfold gives; rw [hv]
      simp only
      rw [hg, ih, Int.add_zero]
    | some r =>
      have hg : gives lx t lv root k = bi (below t r root) * balOf lx k := by unfold gives; rw [hv]
      simp only
      rw [hg]
      by_cases h : below t r root = true
      · rw [if_pos h, ih, u64_add, h]
        simp [bi]
      · rw [if_neg h, ih]
        simp [bi, h]
theorem upto_sum (F : Int → Nat → Int) (l : List Int) : ∀ n, sumL (fun c => upto (F c) n) l = upto (fun k => sumL (fun c => F c k) l) n
  | 0 => by simp [upto, sumL_zero]
  | n + 1 => by
    have ih := upto_sum F l n
    simp only [upto]
    rw [sumL_add, ih]
theorem upto_add (f g : Nat → Int) : ∀ n, upto (fun k => f k + g k) n = upto f n + upto g n
  | 0 => rfl
  | n + 1 => by
    simp only [upto, upto_add f g n]
    omega
theorem upto_congr {f g : Nat → Int} (h : ∀ k, f k = g k) (n : Nat) : upto f n = upto g n := by
  rw [show f = g from funext h]
theorem gives_parts {t : T} {m : List S53} (R : Rel t m) (lx : List Int) (lv : List S63) (o : Nat) (ho : o < t.ns.length) (k : Nat) :
    gives lx t lv ((o : Int) + 1) k = sumL (fun c => gives lx t lv c k) (kidsOf t ((o : Int) + 1)) + own1 lx lv ((o : Int) + 1) k := by
  unfold gives own1
  cases voteOf lv k with
  | none => simp [sumL_zero]
  | some r =>
    simp only
    rw [below_parts R o ho r, Int.add_mul, sumL_mul]
theorem all_parts {t : T} {m : List S53} (R : Rel t m) (lx : List Int) (lv : List S63) (o : Nat) (ho : o < t.ns.length) (n : Nat) :
    upto (gives lx t lv ((o : Int) + 1)) n = sumL (fun c => upto (gives lx t lv c) n) (kidsOf t ((o : Int) + 1)) + upto (own1 lx lv ((o : Int) + 1)) n := by
  rw [upto_sum, ← upto_add]
  exact upto_congr (fun k => gives_parts R lx lv o ho k) n
/-- Nothing is boosted. -/
theorem weight_plain {t : T} {m : List S53} (R : Rel t m) (lx : List Int) (sl bo : Int) (lv : List S63) (root : Int) : weightOf lx sl bo t lv 0 root = IntKind.u64.wrap (upto (gives lx t lv root) lv.length) := by
  unfold weightOf
  rw [if_neg (by rw [below_out R 0 root (by omega)]; simp), have_is]
/-- The kids' weights, added one by one. -/
def kidAcc (lx : List Int) (sl bo : Int) (t : T) (lv : List S63) (kids : List Int) (k : Nat) : Int := IntKind.u64.wrap (sumL (fun c => upto (gives lx t lv c) lv.length) (kids.take k))
theorem kidAcc_next {t : T} {m : List S53} (R : Rel t m) (lx : List Int) (sl bo : Int) (lv : List S63) (kids : List Int) (k : Nat) (hk : k < kids.length) :
    IntKind.u64.wrap (kidAcc lx sl bo t lv kids k + weightOf lx sl bo t lv 0 (rd kids (k : Int))) = kidAcc lx sl bo t lv kids (k + 1) := by
  unfold kidAcc
  rw [weight_plain R, u64_add, u64_add', sumL_take _ _ _ hk]
/-- The own votes' balances behind them. -/
def ownAcc (lx : List Int) (sl bo : Int) (t : T) (lv : List S63) (root : Int) (k : Nat) : Int := IntKind.u64.wrap (sumL (fun c => upto (gives lx t lv c) lv.length) (kidsOf t root) + upto (own1 lx lv root) k)
theorem ownAcc_zero (lx : List Int) (sl bo : Int) (t : T) (lv : List S63) (root : Int) : kidAcc lx sl bo t lv (kidsOf t root) (kidsOf t root).length = ownAcc lx sl bo t lv root 0 := by
  unfold kidAcc ownAcc
  rw [List.take_length]
  simp [upto]
theorem ownAcc_yes (lx : List Int) (sl bo : Int) (t : T) (lv : List S63) (root : Int) (k : Nat) (h : voteOf lv k = some root) : IntKind.u64.wrap (ownAcc lx sl bo t lv root k + balOf lx k) = ownAcc lx sl bo t lv root (k + 1) := by
  unfold ownAcc
  rw [u64_add]
  congr 1
  simp only [upto]
  unfold own1
  rw [h]
  simp [bi]
  omega
theorem ownAcc_no (lx : List Int) (sl bo : Int) (t : T) (lv : List S63) (root : Int) (k : Nat) (h : voteOf lv k ≠ some root) : ownAcc lx sl bo t lv root (k + 1) = ownAcc lx sl bo t lv root k := by
  unfold ownAcc
  congr 1
  simp only [upto]
  have : own1 lx lv root k = 0 := by
    unfold own1
    cases hv : voteOf lv k with
    | none => rfl
    | some r =>
      have : r ≠ root := fun e => h (by rw [hv, e])
      simp [bi, this]
  rw [this]
  omega
theorem ownAcc_all {t : T} {m : List S53} (R : Rel t m) (lx : List Int) (sl bo : Int) (lv : List S63) (o : Nat) (ho : o < t.ns.length) : weightOf lx sl bo t lv 0 ((o : Int) + 1) = ownAcc lx sl bo t lv ((o : Int) + 1) lv.length := by
  rw [weight_plain R, all_parts R lx lv o ho]
  rfl
end Go.Proofs.Ytmdkkojchiiaeaa.QW
