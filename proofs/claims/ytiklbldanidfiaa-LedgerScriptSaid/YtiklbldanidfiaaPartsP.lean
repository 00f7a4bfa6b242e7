/-
  The plain side of the law LedgerParts of package psephoslaw10: advanced in two parts a state is as if it were advanced at once.
-/
import Derived.Test.YtiklbldanidfiaaSame
namespace Go.Proofs.Ytiklbldanidfiaa.QL
open Go.RowKit Go.Proofs.YtiklbldanidfiaaW.PrintWords Go.Proofs.YtiklbldanidfiaaW.PrintLast Go.Proofs.YtiklbldanidfiaaW.PrintMore Go.Proofs.Ytiklbldanidfiaa.Own Go.Proofs.Ytiklbldanidfiaa.Justify
set_option linter.unusedVariables false

theorem epochs_split (m : Nat) : ∀ (e : Int) (n : Nat), epochs e (m + n) = epochs e m ++ epochs (e + m) n := by
  induction m with
  | zero => intro e n; simp [epochs]
  | succ m ih =>
    intro e n
    rw [show m + 1 + n = (m + n) + 1 by omega]
    show e :: epochs (e + 1) (m + n) = e :: (epochs (e + 1) m ++ _)
    rw [ih, show e + 1 + (m : Int) = e + ((m + 1 : Nat) : Int) by omega]
theorem mx1 {sl : Int} (h : 1 ≤ sl) : mx 1 sl = sl := by unfold mx; omega
theorem ep_start {e sl : Int} (h0 : 0 ≤ e) (he : e ≤ 1000) (hs : 1 ≤ sl) (hs2 : sl ≤ 64) : epOf (wrap64 (e * mx 1 sl)) sl = e := by
  have h1 : 0 ≤ e * sl := Int.mul_nonneg h0 (by omega)
  have h2 : e * sl ≤ 1000 * 64 := Int.mul_le_mul he hs2 (by omega) (by omega)
  have h3 : wrap64 (e * sl) = e * sl := by generalize e * sl = q at h1 h2 ⊢; unfold wrap64; omega
  have h4 : mx 0 (e * sl) = e * sl := by generalize e * sl = q at h1 h2 ⊢; unfold mx; omega
  unfold epOf
  rw [mx1 hs, h3, h4, Int.mul_ediv_cancel e (by omega)]
theorem ep_small {s sl : Int} (h0 : 0 ≤ s) (hs : 1 ≤ sl) : epOf s sl = s / sl ∧ 0 ≤ s / sl ∧ s / sl ≤ s := by
  have h4 : mx 0 s = s := by unfold mx; omega
  unfold epOf
  rw [mx1 hs, h4]
  exact ⟨rfl, Int.ediv_nonneg h0 (by omega), Int.ediv_le_self sl h0⟩
/-- A state of a small epoch, advanced to a small slot. -/
theorem adv_small (lx : List Int) (sl : Int) (f : Int → Int) (s : LS) (slot : Int) (h0 : 0 ≤ s.ep) (he : s.ep ≤ 1000) (hs : 1 ≤ sl) (hs2 : sl ≤ 64) (hsl : 0 ≤ slot) (hs3 : slot ≤ 4000) :
    advTo lx sl f s slot = (epochs s.ep (slot / sl - s.ep).toNat).foldl (advStep lx sl f) s := by
  unfold advTo endsOf howMany
  have h := ep_small hsl hs
  rw [ep_start h0 he hs hs2, h.1]
  congr 2
  omega
theorem adv_small_ep (lx : List Int) (sl : Int) (f : Int → Int) (s : LS) (slot : Int) (h0 : 0 ≤ s.ep) (he : s.ep ≤ 1000) (hs : 1 ≤ sl) (hs2 : sl ≤ 64) (hsl : 0 ≤ slot) (hs3 : slot ≤ 4000) :
    (advTo lx sl f s slot).ep = max s.ep (slot / sl) := by
  rw [adv_small lx sl f s slot h0 he hs hs2 hsl hs3, ep_fold _ _ _ rfl]
  omega
theorem adv_twice (lx : List Int) (sl : Int) (f : Int → Int) (s : LS) (a b : Int) (h0 : s.ep = 0) (hs : 1 ≤ sl) (hs2 : sl ≤ 64) (ha : 0 ≤ a ∧ a ≤ 255) (hb : 0 ≤ b ∧ b ≤ 255) :
    advTo lx sl f (advTo lx sl f s a) (a + b) = advTo lx sl f s (a + b) := by
  have e1 := ep_small ha.1 hs
  have e2 := ep_small (show 0 ≤ a + b by omega) hs
  have hm : a / sl ≤ (a + b) / sl := Int.ediv_le_ediv (by omega) (by omega)
  have hp := adv_small_ep lx sl f s a (by omega) (by omega) hs hs2 ha.1 (by omega)
  rw [adv_small lx sl f (advTo lx sl f s a) (a + b) (by omega) (by omega) hs hs2 (by omega) (by omega), hp, adv_small lx sl f s a (by omega) (by omega) hs hs2 ha.1 (by omega), adv_small lx sl f s (a + b) (by omega) (by omega) hs hs2 (by omega) (by omega), h0, ← List.foldl_append]
  congr 1
  have hk : ((a + b) / sl - 0).toNat = (a / sl - 0).toNat + ((a + b) / sl - max 0 (a / sl)).toNat := by omega
  rw [hk, epochs_split]
  congr 2
  omega
theorem adv_none (lx : List Int) (sl : Int) (f : Int → Int) (s : LS) (h0 : s.ep = 0) (hs : 1 ≤ sl) (hs2 : sl ≤ 64) : advTo lx sl f s 0 = s := by
  rw [adv_small lx sl f s 0 (by omega) (by omega) hs hs2 (by omega) (by omega), h0, Int.zero_ediv]
  rfl
/-- Of three validators two have voted: so far. -/
def thirds (k n : Nat) : List Bool := (List.range n).map fun j => decide (j < k) && ((j : Int) % 3 != 1)
theorem thirds_len (k n : Nat) : (thirds k n).length = n := by simp [thirds]
theorem thirds_zero (n : Nat) : thirds 0 n = List.replicate n false := by
  refine List.ext_getElem (by simp [thirds]) fun i h1 h2 => ?_
  simp [thirds]
theorem thirds_next (k n : Nat) (hk : k < n) : thirds (k + 1) n = (thirds k n).set k ((k : Int) % 3 != 1) := by
  refine List.ext_getElem (by simp [thirds]) fun i h1 h2 => ?_
  rw [List.getElem_set]
  by_cases e : k = i
  · subst e
    rw [if_pos rfl]
    simp [thirds]
  · rw [if_neg e]
    simp only [thirds, List.getElem_map, List.getElem_range]
    congr 1
    exact decide_eq_decide.2 (by omega)
/-- The state with those votes. -/
def partS (k n : Nat) : LS := ⟨⟨false, false, false, false, 0, 7, 0, 7, 0, 7⟩, 0, List.replicate n false, thirds k n⟩
theorem partS_zero (n : Nat) : partS 0 n = openS 7 n := by unfold partS openS; rw [thirds_zero]
end Go.Proofs.Ytiklbldanidfiaa.QL
