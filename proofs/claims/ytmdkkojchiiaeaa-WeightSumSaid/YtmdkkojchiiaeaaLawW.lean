/-
  The walks of the laws of package psephoslaw12: what is laid ahead of the votes' loop. No condition but that the arguments are of their kinds.
-/
import Derived.Test.YtmdkkojchiiaeaaWOf
import Derived.Test.YtmdkkojchiiaeaaLaw12a
import Derived.Test.YtmdkkojchiiaeaaQWx9
import Derived.Test.YtmdkkojchiiaeaaQWx10
namespace Go.Proofs.Ytmdkkojchiiaeaa.QW
open Go.RowKit Go.Maps Go.ChangeMaps Go.Proofs.YtmdkkojchiiaeaaW.PrintWords Go.Proofs.Ytmdkkojchiiaeaa.Tree Go.Proofs.Ytmdkkojchiiaeaa.Own
set_option linter.unusedVariables false

/-- What lies in memory ahead of the votes: a made configuration in its block, a tree and its model. -/
structure Laid (w : World) (g : Nat) (AX : Option Addr) (cX : Nat) (lx : List Int) (sl bo : Int) (p B : Nat) (t : T) (AM : Option Addr) (cM : Nat) (m : List S53) : Prop where
  box : w.heap[g]? = some (.cells #[.slice AX lx.length cX, .int .i64 sl, .int .i64 bo] 31 (0, 0))
  hx : Kd.C (Kd.int .u64) w AX lx.length lx
  hcx : lx.length ≤ cX
  len : 1 ≤ lx.length ∧ lx.length ≤ 4096
  hsl : sl ≤ 9223372036854775807
  pos : ∀ b ∈ lx, 0 ≤ b ∧ b ≤ 4294967296
  hM : Mem w p B t
  R : Rel t m
  hm : Kd.C k53 w AM m.length m
  hcm : m.length ≤ cM
theorem Laid.below {w w' : World} {g : Nat} {AX : Option Addr} {cX : Nat} {lx : List Int} {sl bo : Int} {p B : Nat} {t : T} {AM : Option Addr} {cM : Nat} {m : List S53} (h : Laid w g AX cX lx sl bo p B t AM cM m) (hb : Below w.heap.size w w') : Laid w' g AX cX lx sl bo p B t AM cM m :=
  ⟨blk_below h.box hb, Kd.C_below h.hx hb, h.hcx, h.len, h.hsl, h.pos, h.hM.below hb, h.R, Kd.C_below h.hm hb, h.hcm⟩
theorem Laid.args {w : World} {g : Nat} {AX : Option Addr} {cX : Nat} {lx : List Int} {sl bo : Int} {p B : Nat} {t : T} {AM : Option Addr} {cM : Nat} {m : List S53} (h : Laid w g AX cX lx sl bo p B t AM cM m) {AV : Option Addr} {cV : Nat} {lv : List S63} (hv : Kd.C k63 w AV lv.length lv) (hcv : lv.length ≤ cV) (hl : lv.length ≤ 4096) (hw : ∀ k r, k < lv.length → voteOf lv k = some r → 0 ≤ r ∧ r ≤ 18446744073709551615) :
    OfArgs w AX cX lx sl p B t AV cV lv :=
  ⟨h.hx, h.hcx, h.hM, h.R.well, hv, hcv, hl, by have := h.len; omega, h.hsl, hw⟩

/-! ### votes, one by one -/
/-- The votes behind k rounds: validator j's is for vt j, if j is below both. -/
def votesAt (vt : Nat → Int) (k n : Nat) : List S63 := (List.range n).map fun j => if j < k then ⟨true, 1, vt j, false⟩ else ⟨false, 0, 0, false⟩
theorem votesAt_len (vt : Nat → Int) (k n : Nat) : (votesAt vt k n).length = n := by simp [votesAt]
theorem votesAt_zero (vt : Nat → Int) (n : Nat) : votesAt vt 0 n = List.replicate n ⟨false, 0, 0, false⟩ := by
  apply List.ext_getElem
  · simp [votesAt]
  · intro i h1 h2
    simp [votesAt]
theorem votesAt_get (vt : Nat → Int) (k n i : Nat) (h : i < n) : rd_T63 (votesAt vt k n) i = if i < k then ⟨true, 1, vt i, false⟩ else ⟨false, 0, 0, false⟩ := by
  simp [rd_T63, votesAt, List.getD_eq_getElem?_getD, h]
theorem votesAt_next (vt : Nat → Int) (k n : Nat) (h : k < n) : (votesAt vt k n).set k ⟨true, 1, vt k, false⟩ = votesAt vt (k + 1) n := by
  apply List.ext_getElem
  · simp [votesAt]
  · intro i h1 h2
    rw [List.getElem_set]
    simp only [votesAt, List.getElem_map, List.getElem_range]
    by_cases e : k = i
    · subst e
      rw [if_pos rfl, if_pos (by omega)]
    · rw [if_neg e]
      by_cases e2 : i < k
      · rw [if_pos e2, if_pos (by omega)]
      · rw [if_neg e2, if_neg (by omega)]
theorem votesAt_full (vt : Nat → Int) (k n : Nat) (h : n ≤ k) : votesAt vt (k + 1) n = votesAt vt k n := by
  apply List.ext_getElem
  · simp [votesAt]
  · intro i h1 h2
    have : i < n := by simpa [votesAt] using h2
    simp only [votesAt, List.getElem_map, List.getElem_range]
    rw [if_pos (by omega), if_pos (by omega)]
theorem take_f (vt : Nat → Int) (k n : Nat) (h : k < n) : latest_Votes_Take.f (votesAt vt k n) k 1 (vt k) = some (true, votesAt vt (k + 1) n) := by
  have hl := votesAt_len vt k n
  unfold latest_Votes_Take.f
  rw [if_neg (by omega), if_neg (by omega), if_pos (by omega), if_pos (by omega), votesAt_get vt k n k h, if_neg (Nat.lt_irrefl k)]
  simp only [Bool.false_eq_true, if_false, Int.toNat_natCast]
  rw [votesAt_next vt k n h]
theorem of_f (n : Nat) (h : n ≤ 4096) : latest_Of.f (n : Int) = some (votesAt (fun _ => 0) 0 n) := by
  unfold latest_Of.f
  have e : mx 0 (mn (n : Int) 4096) = (n : Int) := by unfold mx mn; omega
  rw [e, if_pos (by omega), if_pos (by omega), votesAt_zero]
  rfl
theorem voteOf_at (vt : Nat → Int) (k n i : Nat) (h : i < n) : voteOf (votesAt vt k n) i = if i < k then some (vt i) else none := by
  unfold voteOf
  rw [votesAt_get vt k n i h]
  by_cases e : i < k <;> simp [e]
theorem votesAt_any (vt vu : Nat → Int) (n : Nat) : votesAt vt 0 n = votesAt vu 0 n := by rw [votesAt_zero, votesAt_zero]
theorem votesAt_wide (vt : Nat → Int) (k n : Nat) (h : ∀ j, 0 ≤ vt j ∧ vt j ≤ 18446744073709551615) : ∀ i r, i < (votesAt vt k n).length → voteOf (votesAt vt k n) i = some r → 0 ≤ r ∧ r ≤ 18446744073709551615 := by
  intro i r hi hr
  rw [votesAt_len] at hi
  rw [voteOf_at vt k n i hi] at hr
  split at hr
  · injection hr with hr
    rw [← hr]
    exact h i
  · cases hr

/-! ### what the statements say of it -/
theorem mkBal_mem (l : List Int) (hw : ∀ x ∈ l, 0 ≤ x) : ∀ b ∈ mkBal l, 0 ≤ b ∧ b ≤ 4294967296 := by
  intro b hb
  unfold mkBal at hb
  split at hb
  · simp at hb
    omega
  · simp only [List.mem_map] at hb
    obtain ⟨x, hx, rfl⟩ := hb
    have h0 := hw x (List.mem_of_mem_take hx)
    rw [Int.tmod_eq_emod_of_nonneg h0]
    have := Int.emod_nonneg x (show (4294967297 : Int) ≠ 0 by decide)
    have := Int.emod_lt_of_pos x (show (0 : Int) < 4294967297 by decide)
    omega
theorem bal_is (lx : List Int) (h : ∀ b ∈ lx, 0 ≤ b ∧ b ≤ 4294967296) (i : Nat) (hi : i < lx.length) : balOf lx i = rd lx i := by
  unfold balOf
  have := h _ (rd_mem lx i hi)
  rw [if_pos (by omega), Int.zero_add, u64_in _ this.1 (by omega)]
theorem up_first {t : T} {m : List S53} (R : Rel t m) : ∀ (n i : Nat), i ≤ n → i < t.ns.length → upTo t 0 ((i : Int) + 1) = 1 := by
  intro n
  induction n with
  | zero =>
    intro i hi hl
    obtain rfl : i = 0 := by omega
    rw [climb_step R 0 0 hl, if_neg (by omega)]
    rfl
  | succ n ih =>
    intro i hi hl
    by_cases e : i = 0
    · subst e
      exact ih 0 (by omega) hl
    · obtain ⟨j, hj, h1, h2, h3⟩ := R.chain.up i hl (by omega)
      have h4 := (R.chain.late j (by omega)).1
      rw [climb_step R 0 i hl, if_pos ⟨e, by omega⟩, h1]
      exact ih j (by omega) (by omega)
theorem below_first {t : T} {m : List S53} (R : Rel t m) (r : Int) : below t r 1 = Tree.has t.ns r := by
  have c := R.chain
  have hp := c.pos
  have h1 : Tree.has t.ns 1 = true := by rw [has_is c]; simp; omega
  have hs : (Tree.getD t.ns 1).s = 0 := by have := getD_in c 0 hp; simp at this; rw [this]; exact c.zero.2.1
  unfold below atOf
  rw [h1, hs]
  by_cases hr : 1 ≤ r ∧ r ≤ (t.ns.length : Int)
  · obtain ⟨i, rfl⟩ : ∃ i : Nat, r = (i : Int) + 1 := ⟨(r - 1).toNat, by omega⟩
    have h2 : Tree.has t.ns ((i : Int) + 1) = true := by rw [has_is c]; simp; omega
    rw [h2]
    simp [up_first R i i (Nat.le_refl _) (by omega)]
  · have h2 : Tree.has t.ns r = false := by rw [has_is c, decide_eq_false hr]
    rw [h2]
    simp
theorem below_out {t : T} {m : List S53} (R : Rel t m) (r on : Int) (h : on < 1 ∨ 31 < on ∨ r < 1) : below t r on = false := by
  have c := R.chain
  have hs := c.small
  unfold below
  rcases h with h | h | h
  · rw [has_is c on, decide_eq_false (by omega)]
    rfl
  · rw [has_is c on, decide_eq_false (by omega)]
    rfl
  · rw [has_is c r, decide_eq_false (by omega)]
    simp
theorem have_none (lx : List Int) (t : T) (lv : List S63) (root : Int) (h : ∀ r, below t r root = false) : ∀ k, haveOf lx t lv root k = 0
  | 0 => rfl
  | k + 1 => by
    have ih := have_none lx t lv root h k
    unfold haveOf
    split
    · rename_i r _
      rw [h r, ih]
      simp
    · exact ih
theorem have_empty (lx : List Int) (t : T) (n : Nat) (root : Int) : ∀ k, k ≤ n → haveOf lx t (votesAt (fun _ => 0) 0 n) root k = 0
  | 0, _ => rfl
  | k + 1, h => by
    have ih := have_empty lx t n root k (by omega)
    unfold haveOf
    rw [voteOf_at _ 0 n k (by omega)]
    exact ih

/-- What the statement WeightFirst adds up. -/
def firstSum (lx : List Int) (d : Nat) (vt : Nat → Int) (n : Nat) : Nat → Int
  | 0 => 0
  | k + 1 => if k < n ∧ placeOf d (vt k) ≥ 0 then IntKind.u64.wrap (firstSum lx d vt n k + rd lx k) else firstSum lx d vt n k
theorem first_have {t : T} {m : List S53} (R : Rel t m) (lx : List Int) (hp : ∀ b ∈ lx, 0 ≤ b ∧ b ≤ 4294967296) (vt : Nat → Int) (K : Nat) : ∀ i, i ≤ lx.length → haveOf lx t (votesAt vt K lx.length) 1 i = firstSum lx t.ns.length vt lx.length (min i K)
  | 0, _ => by rw [Nat.zero_min]; rfl
  | i + 1, h => by
    have ih := first_have R lx hp vt K i (by omega)
    unfold haveOf
    rw [voteOf_at vt K lx.length i (by omega)]
    by_cases e : i < K
    · rw [if_pos e, show min (i + 1) K = i + 1 by omega]
      rw [show min i K = i by omega] at ih
      simp only
      rw [below_first R, has_is R.chain, ih, bal_is lx hp i (by omega)]
      rw [firstSum.eq_2]
      unfold placeOf
      by_cases hr : 1 ≤ vt i ∧ vt i ≤ (t.ns.length : Int)
      · rw [if_pos (by simpa using hr), if_pos hr, if_pos (by omega)]
      · rw [if_neg (by simpa using hr), if_neg hr, if_neg (by omega)]
    · rw [if_neg e, show min (i + 1) K = K by omega]
      rw [show min i K = K by omega] at ih
      exact ih
theorem firstSum_stay (lx : List Int) (d : Nat) (vt : Nat → Int) (n : Nat) : ∀ k, firstSum lx d vt n (n + k) = firstSum lx d vt n n
  | 0 => rfl
  | k + 1 => by
    rw [show n + (k + 1) = (n + k) + 1 by omega, firstSum, if_neg (by omega)]
    exact firstSum_stay lx d vt n k
theorem first_law {t : T} {m : List S53} (R : Rel t m) (lx : List Int) (sl bo : Int) (hp : ∀ b ∈ lx, 0 ≤ b ∧ b ≤ 4294967296) (vt : Nat → Int) (K : Nat) :
    weightOf lx sl bo t (votesAt vt K lx.length) 0 1 = firstSum lx t.ns.length vt lx.length K ∧ weightOf lx sl bo t (votesAt vt K lx.length) 999 999 = 0 := by
  constructor
  · unfold weightOf
    rw [if_neg (by rw [below_out R 0 1 (by omega)]; simp), votesAt_len, first_have R lx hp vt K lx.length (Nat.le_refl _)]
    by_cases h : lx.length ≤ K
    · rw [show min lx.length K = lx.length by omega]
      have := firstSum_stay lx t.ns.length vt lx.length (K - lx.length)
      rw [show lx.length + (K - lx.length) = K by omega] at this
      exact this.symm
    · rw [show min lx.length K = K by omega]
  · unfold weightOf
    rw [if_neg (by rw [below_out R 999 999 (by omega)]; simp)]
    exact have_none lx t _ 999 (fun r => below_out R r 999 (by omega)) _

/-- weight.Of at votes that are the call's own row. -/
theorem weight_at {w : World} {g : Nat} {AX : Option Addr} {cX : Nat} {lx : List Int} {sl bo : Int} {p B : Nat} {t : T} {AM : Option Addr} {cM : Nat} {m : List S53} (L : Laid w g AX cX lx sl bo p B t AM cM m) {base : Nat} {ok : Nat → Prop} {AV : Option Addr} {n cV : Nat} {lv : List S63} (hR : Kd.R k63 63 w base ok (.slice AV n cV) lv)
    (hl : lv.length ≤ 4096) (hw : ∀ k r, k < lv.length → voteOf lv k = some r → 0 ≤ r ∧ r ≤ 18446744073709551615) (boosted root : Int) (hb : 0 ≤ boosted ∧ boosted ≤ 18446744073709551615) (hr : 0 ≤ root ∧ root ≤ 18446744073709551615) :
    Calls Try.prog 14 #[.agg #[.slice AX lx.length cX, .int .i64 sl, .int .i64 bo], .pointer (some ⟨p, 0, none⟩), .slice AV n cV, .int .u64 boosted, .int .u64 root] w fun e w' => e = .returned (.int .u64 (weightOf lx sl bo t lv boosted root)) ∧ Below w.heap.size w w' := by
  obtain ⟨hn, hc, hC⟩ := Kd.R_reads' hR
  subst hn
  exact weight_calls AX cX lx sl bo p B t AV cV lv boosted root w (L.args hC hc hl hw) hb hr
end Go.Proofs.Ytmdkkojchiiaeaa.QW
