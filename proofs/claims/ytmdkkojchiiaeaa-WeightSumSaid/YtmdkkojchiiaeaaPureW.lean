/-
  The plain laws of package psephoslaw12's functions: a configuration that is made, a model of a tree, what a block has; with enough rounds. No memory, no Go.
-/
import Derived.Test.YtmdkkojchiiaeaaQWx1
import Derived.Test.YtmdkkojchiiaeaaQWx2
import Derived.Test.YtmdkkojchiiaeaaQWx4
import Derived.Test.YtmdkkojchiiaeaaQWx7
import Derived.Test.YtmdkkojchiiaeaaQWx8
import Derived.Test.YtmdkkojchiiaeaaQWCfg
import Derived.Test.YtmdkkojchiiaeaaTreeA
namespace Go.Proofs.Ytmdkkojchiiaeaa.QW
open Go.RowKit Go.Proofs.YtmdkkojchiiaeaaW.PrintWords Go.Proofs.Ytmdkkojchiiaeaa.Tree
set_option linter.unusedVariables false

theorem rd_mem (l : List Int) (i : Nat) (h : i < l.length) : rd l i ∈ l := by
  simp [rd, List.getD_eq_getElem?_getD, h]
theorem rd_get (l : List Int) (i : Nat) (h : i < l.length) : rd l i = l[i] := by
  simp [rd, List.getD_eq_getElem?_getD, h]
theorem rest_eq (n m : Int) (h1 : -9223372036854775808 ≤ n) (h2 : n ≤ 9223372036854775807) (hm : 0 < m) (hm2 : m ≤ 4611686018427387904) : Int.tmod (wrap64 (Int.tmod n m + m)) m = n % m := by
  have h3 : -m < Int.tmod n m := by have := Int.lt_tmod_of_pos n hm; omega
  have h4 : Int.tmod n m < m := Int.tmod_lt_of_pos n hm
  have hw : wrap64 (Int.tmod n m + m) = Int.tmod n m + m := by unfold wrap64; omega
  have h5 := Int.tmod_add_mul_tdiv n m
  rw [hw, Int.tmod_eq_emod_of_nonneg (by omega), Int.add_emod_right]
  conv => rhs; rw [← h5, Int.add_mul_emod_self_left]
theorem rest03_is (n m : Int) (h1 : -9223372036854775808 ≤ n) (h2 : n ≤ 9223372036854775807) (hm : 0 < m) (hm2 : m ≤ 4611686018427387904) : psephoslaw03_rest.f n m = some (n % m) := by
  unfold psephoslaw03_rest.f
  rw [if_neg (by omega), rest_eq n m h1 h2 hm hm2]
theorem wrap_range (n : Int) : -9223372036854775808 ≤ wrap64 n ∧ wrap64 n ≤ 9223372036854775807 := by
  unfold wrap64
  omega

/-! ### a made configuration -/
def mkBal (l : List Int) : List Int := if l = [] then [7] else (l.take 4096).map (fun b => Int.tmod b 4294967297)
def mkSlots (s : Int) : Int := 1 + wrap64 (s - 1) % 64
def mkBoost (b : Int) : Int := b % 101
theorem mkBal_len (l : List Int) : 1 ≤ (mkBal l).length ∧ (mkBal l).length ≤ 4096 := by
  unfold mkBal
  split
  · simp
  · rename_i h
    have : l.length ≠ 0 := fun e => h (List.eq_nil_of_length_eq_zero e)
    simp
    omega
theorem mkSlots_in (s : Int) : 1 ≤ mkSlots s ∧ mkSlots s ≤ 64 := by
  unfold mkSlots
  have := Int.emod_nonneg (wrap64 (s - 1)) (show (64 : Int) ≠ 0 by decide)
  have := Int.emod_lt_of_pos (wrap64 (s - 1)) (show (0 : Int) < 64 by decide)
  omega
theorem make3_l0 (l : List Int) (s b : Int) (hn : l.length ≤ 17592186043904) (d : Nat) : ∀ (i : Nat), i + d = l.length →
    Ev (fun k => psephoslaw03_Make.l0 k l l.length i ((l.take (min i 4096)).map fun b => Int.tmod b 4294967297) s b) (mkBal l, s, b) := by
  induction d with
  | zero =>
    intro i hi
    refine Ev.step (f := fun _ => some (mkBal l, s, b)) (fun k => ?_) (Ev.now _)
    simp only [psephoslaw03_Make.l0]
    rw [if_neg (by omega)]
    by_cases h : l = []
    · subst h
      rw [if_pos (by simp)]
      rfl
    · have h0 : l.length ≠ 0 := fun e => h (List.eq_nil_of_length_eq_zero e)
      have hlen : ((l.take (min i 4096)).map fun b => Int.tmod b 4294967297).length = min i 4096 := by rw [List.length_map, List.length_take]; omega
      rw [if_neg (by omega)]
      unfold mkBal
      rw [if_neg h]
      have : l.take (min i 4096) = l.take 4096 := by
        have hi' : i = l.length := by omega
        subst hi'
        rw [List.take_eq_take_iff]
        omega
      rw [this]
  | succ d ih =>
    intro i hi
    have hg : i < l.length := by omega
    by_cases h : i < 4096
    · refine Ev.step (f := fun k => psephoslaw03_Make.l0 k l l.length ((i + 1 : Nat) : Int) ((l.take (min (i + 1) 4096)).map fun b => Int.tmod b 4294967297) s b) (fun k => ?_) (ih (i + 1) (by omega))
      simp only [psephoslaw03_Make.l0]
      rw [if_pos (by omega), if_pos (by omega), if_pos (by omega), if_pos (by omega), if_pos (by simp; omega), wrap_next (n := l.length) hg (by omega)]
      have : (l.take (min i 4096)).map (fun b => Int.tmod b 4294967297) ++ [Int.tmod (rd l i) 4294967297] = (l.take (min (i + 1) 4096)).map fun b => Int.tmod b 4294967297 := by
        rw [show min i 4096 = i by omega, show min (i + 1) 4096 = i + 1 by omega, List.take_succ_eq_append_getElem hg, List.map_append, rd_get l i hg]
        rfl
      rw [this]
    · refine Ev.step (f := fun k => psephoslaw03_Make.l0 k l l.length ((i + 1 : Nat) : Int) ((l.take (min (i + 1) 4096)).map fun b => Int.tmod b 4294967297) s b) (fun k => ?_) (ih (i + 1) (by omega))
      simp only [psephoslaw03_Make.l0]
      rw [if_pos (by omega), if_pos (by omega), if_pos (by omega), if_neg (by omega), wrap_next (n := l.length) hg (by omega), show min (i + 1) 4096 = min i 4096 by omega]
theorem make3_f (l : List Int) (s b : Int) (hn : l.length ≤ 17592186043904) (hb1 : -9223372036854775808 ≤ b) (hb2 : b ≤ 9223372036854775807) :
    Ev (fun k => psephoslaw03_Make.f k l s b) (mkBal l, mkSlots s, mkBoost b) := by
  have h1 := rest03_is (wrap64 (s - 1)) 64 (wrap_range _).1 (wrap_range _).2 (by decide) (by decide)
  have h2 := rest03_is b 101 hb1 hb2 (by decide) (by decide)
  have h3 : wrap64 (1 + wrap64 (s - 1) % 64) = mkSlots s := by have := mkSlots_in s; unfold mkSlots at this ⊢; generalize wrap64 (s - 1) % 64 = t at *; unfold wrap64; omega
  have := make3_l0 l (mkSlots s) (mkBoost b) hn l.length 0 (by omega)
  refine Ev.congr (fun k => ?_) this
  unfold psephoslaw03_Make.f
  rw [h1, h2]
  simp only [Option.bind_some]
  rw [h3]
  rfl

/-! ### a boost, one balance -/
def boostOf (bs : List Int) (s b : Int) : Int := IntKind.u64.wrap (Int.tdiv (IntKind.u64.wrap ((IntKind.u64.wrap (Int.tdiv (allOf 0 bs) (IntKind.u64.wrap (mx 1 s)))) * (IntKind.u64.wrap (mx 0 b)))) 100)
theorem u64_in (n : Int) (h0 : 0 ≤ n) (h1 : n ≤ 18446744073709551615) : IntKind.u64.wrap n = n := by
  simp only [IntKind.wrap, IntKind.bits, IntKind.signed]
  simp
  omega
theorem u64_range (n : Int) : 0 ≤ IntKind.u64.wrap n ∧ IntKind.u64.wrap n ≤ 18446744073709551615 := by
  simp only [IntKind.wrap, IntKind.bits, IntKind.signed]
  simp
  omega
theorem boost_f (bs : List Int) (s b : Int) (hn : bs.length ≤ 35184372088832) (hs : s ≤ 9223372036854775807) : Ev (fun k => config_Boost.f k bs s b) (boostOf bs s b) := by
  unfold config_Boost.f
  refine Ev.bind (total_f bs s b hn) ?_
  refine Ev.congr (f := fun _ => some (boostOf bs s b)) (fun k => ?_) (Ev.now _)
  have : IntKind.u64.wrap (mx 1 s) ≠ 0 := by
    rw [u64_in _ (by unfold mx; omega) (by unfold mx; omega)]
    unfold mx
    omega
  rw [if_neg this]
  rfl
/-- One validator's balance. -/
def balOf (bs : List Int) (k : Int) : Int := if 0 ≤ k ∧ k < (bs.length : Int) then IntKind.u64.wrap (0 + rd bs k) else 0
theorem sum_one (bs : List Int) (s b : Int) (k : Int) : Ev (fun r => config_Sum.f r bs s b [k]) (balOf bs k) := by
  have h := sum_f bs [k] s b (by simp)
  simpa [sumOf, balOf] using h

/-! ### what a block has -/
/-- The block of a validator's vote that counts. -/
def voteOf (lv : List S63) (k : Nat) : Option Int := if (rd_T63 lv k).f0 = true ∧ (rd_T63 lv k).f3 = false then some (rd_T63 lv k).f2 else none
theorem get_f (lv : List S63) (k : Nat) (hk : k < lv.length) : latest_Votes_Get.f lv k = some (match voteOf lv k with | some r => (r, true) | none => (0, false)) := by
  unfold latest_Votes_Get.f voteOf
  rw [if_neg (by omega), if_neg (by omega), if_pos (by omega), if_pos (by omega)]
  cases (rd_T63 lv k).f0 <;> cases (rd_T63 lv k).f3 <;> simp
/-- What the first k validators give a block. -/
def haveOf (bs : List Int) (t : T) (lv : List S63) (root : Int) : Nat → Int
  | 0 => 0
  | k + 1 => match voteOf lv k with
    | some r => if below t r root = true then IntKind.u64.wrap (haveOf bs t lv root k + balOf bs k) else haveOf bs t lv root k
    | none => haveOf bs t lv root k
def weightOf (bs : List Int) (s b : Int) (t : T) (lv : List S63) (boosted root : Int) : Int :=
  if below t boosted root = true then IntKind.u64.wrap (haveOf bs t lv root lv.length + boostOf bs s b) else haveOf bs t lv root lv.length
theorem have_range (bs : List Int) (t : T) (lv : List S63) (root : Int) : ∀ k, 0 ≤ haveOf bs t lv root k ∧ haveOf bs t lv root k ≤ 18446744073709551615
  | 0 => by simp [haveOf]
  | k + 1 => by
    have ih := have_range bs t lv root k
    unfold haveOf
    split
    · split
      · exact u64_range _
      · exact ih
    · exact ih
end Go.Proofs.Ytmdkkojchiiaeaa.QW
