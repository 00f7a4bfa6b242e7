/-
  The sort of Go's library at numbers of 64 bits, first part: the plain side; less, the insertion sort, a range turned round, the heap sort, the partitions, the insertion sort that gives up: each by its contract.
-/
import Derived.Sort.Walk13a
import Derived.Sort.AssemblyPlain
import Derived.Sort.LotD4
import Derived.Sort.LotD5
import Derived.Test.YtgbhblbfodphfaaDoorWWords
import Derived.Test.YtgbhblbfodphfaaDoorProg
import Derived.WalkKit
import Derived.BigGuard
import Derived.BigCall
import Derived.CellFam
import Derived.Deep.Draws
import Derived.Deep.QuietTactic
import Derived.BigQuiet
import Derived.RegionTactic
import Derived.LoopTactic
import Derived.Deep.LoopGhost
import Derived.Deep.Cut
import Derived.Deep.CutRange
import Derived.KernelRfl
import Derived.RowKitTokens
import Derived.Deep.CutBlock
namespace Go.Proofs.YtgbhblbfodphfaaDoor.SortU
open Go.Sort Go.RowKit Go.Proofs.YtgbhblbfodphfaaDoorW.PrintWords
set_option linter.unusedVariables false

abbrev encU : Int → Value := fun x => Value.int .u64 x

/-! ### one step of each loop -/
section
variable {α : Type} [Inhabited α] (lt : α → α → Bool)
theorem inner_next {a j : Nat} {d : Array α} (hj : a < j) (hl : lt d[j]! d[j - 1]! = true) : insInner lt a j d = insInner lt a (j - 1) (swp d j (j - 1)) := by
  cases j with
  | zero => omega
  | succ k =>
    have hl' : lt d[k + 1]! d[k]! = true := hl
    show (if k + 1 > a && lt d[k + 1]! d[k]! then _ else _) = _
    rw [hl', if_pos (by simpa using hj)]
    rfl
theorem inner_last {a j : Nat} {d : Array α} (h : j ≤ a ∨ lt d[j]! d[j - 1]! = false) : insInner lt a j d = d := by
  cases j with
  | zero => rfl
  | succ k =>
    show (if k + 1 > a && lt d[k + 1]! d[k]! then _ else _) = _
    refine if_neg fun hc => ?_
    simp only [Bool.and_eq_true, decide_eq_true_eq] at hc
    rcases h with h | h
    · omega
    · have h' : lt d[k + 1]! d[k]! = false := h
      rw [hc.2] at h'
      cases h'
theorem outer_next {a b i : Nat} {d : Array α} (h : i < b) : insOuter lt a b i d = insOuter lt a b (i + 1) (insInner lt a i d) := by rw [insOuter, if_pos h]
theorem outer_last {a b i : Nat} {d : Array α} (h : ¬ i < b) : insOuter lt a b i d = d := by rw [insOuter, if_neg h]

/-- The greater child of a place, or the only one. -/
def child (hi F root : Nat) (d : Array α) : Nat := if 2 * root + 2 < hi ∧ lt d[F + 2 * root + 1]! d[F + 2 * root + 2]! = true then 2 * root + 2 else 2 * root + 1
theorem child_le {hi F root : Nat} {d : Array α} (h : 2 * root + 1 < hi) : root < child lt hi F root d ∧ child lt hi F root d < hi := by
  unfold child
  split
  · rename_i hc; omega
  · omega
theorem sift_none {hi F root : Nat} {d : Array α} (h : hi ≤ 2 * root + 1) : siftDown lt hi F root d = d := by rw [siftDown, dif_pos h]
theorem sift_some {hi F root : Nat} {d : Array α} (h : 2 * root + 1 < hi) :
    siftDown lt hi F root d = if lt d[F + root]! d[F + child lt hi F root d]! = true then siftDown lt hi F (child lt hi F root d) (swp d (F + root) (F + child lt hi F root d)) else d := by
  rw [siftDown, dif_neg (by omega)]
  unfold child
  have g1 : (2 * root + 1 + 1 < hi) = (2 * root + 2 < hi) := by rw [show 2 * root + 1 + 1 = 2 * root + 2 by omega]
  simp only [show F + (2 * root + 1) = F + 2 * root + 1 by omega, show F + (2 * root + 2) = F + 2 * root + 2 by omega, g1]
  by_cases h1 : 2 * root + 2 < hi
  · cases h2 : lt d[F + 2 * root + 1]! d[F + 2 * root + 2]!
    · simp only [h1, decide_true, Bool.true_and, Bool.false_eq_true, if_false, and_false, show F + (2 * root + 1) = F + 2 * root + 1 by omega]
      cases h3 : lt d[F + root]! d[F + 2 * root + 1]! <;> simp
    · simp only [h1, decide_true, Bool.true_and, if_true, and_true, dif_pos, show F + (2 * root + 2) = F + 2 * root + 2 by omega]
      cases h3 : lt d[F + root]! d[F + 2 * root + 2]! <;> simp
  · simp only [h1, decide_false, Bool.false_and, Bool.false_eq_true, if_false, false_and, show F + (2 * root + 1) = F + 2 * root + 1 by omega]
    cases h3 : lt d[F + root]! d[F + 2 * root + 1]! <;> simp
theorem sift_size {hi F : Nat} : ∀ (n root : Nat) (d : Array α), hi - root ≤ n → (siftDown lt hi F root d).size = d.size := by
  intro n
  induction n with
  | zero => intro root d h; rw [sift_none lt (by omega)]
  | succ n ih =>
    intro root d h
    by_cases h0 : 2 * root + 1 < hi
    · have hc := child_le lt (F := F) (d := d) h0
      rw [sift_some lt h0]
      split
      · rw [ih _ _ (by omega), size_swp]
      · rfl
    · rw [sift_none lt (by omega)]

theorem up_next {p : α → Bool} {d : Array α} {j i : Nat} (h : i ≤ j) (hp : p d[i]! = true) : scanUp p d j i = scanUp p d j (i + 1) := by rw [scanUp, if_pos (by simp [h, hp])]
theorem up_last {p : α → Bool} {d : Array α} {j i : Nat} (h : ¬ i ≤ j ∨ p d[i]! = false) : scanUp p d j i = i := by rw [scanUp, if_neg (by rcases h with h | h <;> simp [h])]
theorem down_next {p : α → Bool} {d : Array α} {i j : Nat} (h : i ≤ j) (h0 : 0 < j) (hp : p d[j]! = true) : scanDown p d i j = scanDown p d i (j - 1) := by
  cases j with
  | zero => omega
  | succ k =>
    show (if i ≤ k + 1 && p d[k + 1]! then _ else _) = _
    rw [if_pos (by simp [h, hp])]
    rfl
theorem down_last {p : α → Bool} {d : Array α} {i j : Nat} (h : ¬ i ≤ j ∨ p d[j]! = false) : scanDown p d i j = j := by
  cases j with
  | zero => rfl
  | succ k =>
    show (if i ≤ k + 1 && p d[k + 1]! then _ else _) = _
    rw [if_neg (by rcases h with h | h <;> simp [h])]
theorem sorted_next {d : Array α} {b i : Nat} (h : i < b) (hl : lt d[i]! d[i - 1]! = false) : scanSorted lt d b i = scanSorted lt d b (i + 1) := by rw [scanSorted]; simp [h, hl]
theorem sorted_last {d : Array α} {b i : Nat} (h : ¬ i < b ∨ lt d[i]! d[i - 1]! = true) : scanSorted lt d b i = i := by
  rw [scanSorted]
  rcases h with h | h <;> simp [h]
theorem shd_next {j : Nat} {d : Array α} (hj : 1 ≤ j) (hl : lt d[j]! d[j - 1]! = true) : shiftDown lt j d = shiftDown lt (j - 1) (swp d j (j - 1)) := by
  cases j with
  | zero => omega
  | succ k =>
    have hl' : lt d[k + 1]! d[k]! = true := hl
    show (if !lt d[k + 1]! d[k]! then _ else _) = _
    rw [hl']
    rfl
theorem shd_last {j : Nat} {d : Array α} (h : j < 1 ∨ lt d[j]! d[j - 1]! = false) : shiftDown lt j d = d := by
  cases j with
  | zero => rfl
  | succ k =>
    show (if !lt d[k + 1]! d[k]! then _ else _) = _
    rcases h with h | h
    · omega
    · have h' : lt d[k + 1]! d[k]! = false := h
      rw [h']
      rfl
theorem shu_next {b j : Nat} {d : Array α} (hj : j < b) (hl : lt d[j]! d[j - 1]! = true) : shiftUp lt b j d = shiftUp lt b (j + 1) (swp d j (j - 1)) := by rw [shiftUp]; simp [hj, hl]
theorem shu_last {b j : Nat} {d : Array α} (h : ¬ j < b ∨ lt d[j]! d[j - 1]! = false) : shiftUp lt b j d = d := by
  rw [shiftUp]
  rcases h with h | h
  · simp [h]
  · by_cases hj : j < b <;> simp [hj, h]
end

/-! ### the row while it is sorted -/
/-- The world with the row's numbers laid anew; nothing else but draws. -/
def RowAt (w : World) (blk off : Nat) (d dk : Array Int) (wr : World) : Prop := dk.size = d.size ∧ ∃ n, wr = putRow encU (Sort.ahead w n) blk off dk
section
variable {w wr w1 : World} {blk off : Nat} {d dk d' : Array Int}
theorem RowAt.refl (h : Holds encU w blk off d) : RowAt w blk off d d w := ⟨rfl, 0, (putRow_self encU w blk off d h).symm⟩
theorem RowAt.holds (h : RowAt w blk off d dk wr) (h0 : Holds encU w blk off d) : Holds encU wr blk off dk := by
  obtain ⟨hs, n, rfl⟩ := h
  exact holds_putRow encU _ blk off d dk (holds_ahead encU w n blk off d h0) hs
theorem RowAt.cell (h : RowAt w blk off d dk wr) (h0 : Holds encU w blk off d) (t : Nat) (ht : t < d.size) : wr.cell? ⟨blk, off + t, none⟩ = some (.int .u64 dk[t]!) := (h.holds h0 t (by rw [h.1]; exact ht)).1
theorem RowAt.froz (h : RowAt w blk off d dk wr) (h0 : Holds encU w blk off d) (t : Nat) (ht : t < d.size) : wr.frozen? ⟨blk, off + t, none⟩ = false := (h.holds h0 t (by rw [h.1]; exact ht)).2
theorem RowAt.draws (h : RowAt w blk off d dk wr) (q : Nat) : RowAt w blk off d dk (wr.drewN q) := by
  obtain ⟨hs, n, rfl⟩ := h
  refine ⟨hs, n + q, ?_⟩
  rw [← ahead_ahead]
  rfl
theorem RowAt.swap (h : RowAt w blk off d dk wr) {i j : Nat} (hi : i < d.size) (hj : j < d.size) {x y : Value} (hx : x = encU dk[j]!) (hy : y = encU dk[i]!) :
    RowAt w blk off d (swp dk i j) ((wr.setCell ⟨blk, off + i, none⟩ x).setCell ⟨blk, off + j, none⟩ y).drew := by
  obtain ⟨hs, n, rfl⟩ := h
  subst hx hy
  refine ⟨by rw [size_swp]; exact hs, n + 1, ?_⟩
  rw [putRow_swp encU _ blk off dk i j (by omega) (by omega), ← ahead_drew]
  rfl
theorem RowAt.call (h : RowAt w blk off d dk wr) (h1 : RowAt wr blk off dk d' w1) : RowAt w blk off d d' w1 := by
  obtain ⟨hs, n, rfl⟩ := h
  obtain ⟨hs1, m, rfl⟩ := h1
  exact ⟨hs1.trans hs, n + m, putRow_ahead_putRow encU w n m blk off dk d' hs1⟩
end
end Go.Proofs.YtgbhblbfodphfaaDoor.SortU
namespace Go.Proofs.YtgbhblbfodphfaaDoor.SortU
open Go.Sort Go.RowKit Go.Proofs.YtgbhblbfodphfaaDoorW.PrintWords
set_option linter.unusedVariables false

set_option maxHeartbeats 1000000 in
theorem isNaN_u (x : Int) (w : World) : Calls Tryd.prog 55 #[.int .u64 x] w fun e w' => e = .returned (.bool false) ∧ w' = w := by
  go_enter Tryd.func55, Tryd.ntmps55
  go_wp2
  go_ret
  exact ⟨by simp, rfl⟩
set_option maxHeartbeats 1000000 in
theorem less_u (x y : Int) (w : World) : Calls Tryd.prog 45 #[.int .u64 x, .int .u64 y] w fun e w' => e = .returned (.bool (ltInt x y)) ∧ w' = w := by
  go_enter Tryd.func45, Tryd.ntmps45
  go_wp2_with (go_at_call 55; refine (isNaN_u _ _).mono ?_; rintro e w' ⟨rfl, rfl⟩)
  go_ret
  exact ⟨rfl, rfl⟩

set_option maxHeartbeats 4000000 in
set_option maxRecDepth 100000 in
theorem insertion_u (blk off cap a b : Nat) (d : Array Int) (w : World) (hH : Holds encU w blk off d) (hab : a ≤ b) (hb : b ≤ d.size) (hsz : d.size < 4611686018427387904) :
    Calls Tryd.prog 39 #[.slice (some ⟨blk, off, none⟩) d.size cap, .int .i64 a, .int .i64 b] w fun e w' => e = .returned (.tuple #[]) ∧ RowAt w blk off d (Sort.insertionSort ltInt d a b) w' := by
  have HH := Aside0.mk hH
  clear hH
  go_enter Tryd.func39, Tryd.ntmps39
  go_wp2
  go_loopw [6] (fun vi wr => ∃ (i : Nat) (dk : Array Int), vi = .int .i64 i ∧ a < i ∧ i ≤ b + 1 ∧ Aside0 (RowAt w blk off d dk wr) ∧ Aside0 (insOuter ltInt a b i dk = insOuter ltInt a b (a + 1) d)) (fun vi _ => b + 1 - (intOf vi).toNat)
  case atStart => exact ⟨a + 1, d, by go_num, by omega, by omega, ⟨RowAt.refl HH.out⟩, ⟨rfl⟩⟩
  case round =>
    obtain ⟨i, dk, rfl, hai, hib, HR, HO⟩ := hrel
    by_cases hlt : i < b
    · go_wp2
      go_loopw [7] (fun vj wr2 => ∃ (j : Nat) (dj : Array Int), vj = .int .i64 j ∧ a ≤ j ∧ j ≤ i ∧ Aside0 (RowAt w blk off d dj wr2) ∧ Aside0 (insInner ltInt a j dj = insInner ltInt a i dk)) (fun vj _ => (intOf vj).toNat)
      case atStart => exact ⟨i, dk, rfl, by omega, Nat.le_refl _, HR, ⟨rfl⟩⟩
      case round =>
        obtain ⟨j, dj, rfl, haj, hji, HJ, HI⟩ := hrel
        obtain ⟨G, hG⟩ : ∃ G : Nat → Int, ∀ t, G t = dj[t]! := ⟨fun t => dj[t]!, fun _ => rfl⟩
        have hcw : ∀ t, t < d.size → wr.cell? ⟨blk, off + t, none⟩ = some (.int .u64 (G t)) := fun t ht => by rw [hG]; exact HJ.out.cell HH.out t ht
        have hfw : ∀ t, t < d.size → wr.frozen? ⟨blk, off + t, none⟩ = false := HJ.out.froz HH.out
        have HG := Aside0.mk hG
        clear hG
        have OUT : (j ≤ a ∨ ltInt dj[j]! dj[j - 1]! = false) → Aside0 (insOuter ltInt a b (i + 1) dj = insOuter ltInt a b (a + 1) d) := fun hs => ⟨by rw [← HO.out, outer_next ltInt hlt, ← HI.out, inner_last ltInt hs]⟩
        have OUT2 := Aside0.mk OUT
        clear OUT
        go_wp2
        by_cases hja : a < j
        · go_quiet (first | (go_at_call 45; refine Calls.quiet_of_same (less_u _ _ _)))
          have HJ2 := Aside0.mk (HJ.out.draws nq)
          have hcw2 : ∀ t, t < d.size → (wr.drewN nq).cell? ⟨blk, off + t, none⟩ = some (.int .u64 (G t)) := hcw
          have hfw2 : ∀ t, t < d.size → (wr.drewN nq).frozen? ⟨blk, off + t, none⟩ = false := hfw
          clear hcw hfw
          generalize wr.drewN nq = wr2 at hcw2 hfw2 HJ2 ⊢
          go_wp2
          · have hl : ltInt (G j) (G (j - 1)) = true := by assumption
            go_region
            all_goals go_wp2
            go_roundw
            case rel =>
              refine ⟨j - 1, swp dj j (j - 1), by congr 1; omega, by omega, by omega, ⟨HJ2.out.swap (by omega) (by omega) ?_ ?_⟩, ⟨?_⟩⟩
              · rw [HG.out]
              · rw [HG.out]
              · rw [← HI.out, inner_next ltInt hja (by rw [← HG.out, ← HG.out]; exact hl)]
            case measure => simp [intOf]; omega
          · have hl : ltInt (G j) (G (j - 1)) = false := by assumption
            go_roundw
            case rel => exact ⟨i + 1, dj, by go_num, by omega, by omega, HJ2, OUT2.out (Or.inr (by rw [← HG.out, ← HG.out]; exact hl))⟩
            case measure => simp [intOf]; omega
        · go_quiet (first | (go_at_call 45; refine Calls.quiet_of_same (less_u _ _ _)))
          have HJ2 := Aside0.mk (HJ.out.draws nq)
          clear hcw hfw
          generalize wr.drewN nq = wr2 at HJ2 ⊢
          go_wp2
          go_roundw
          case rel => exact ⟨i + 1, dj, by go_num, by omega, by omega, HJ2, OUT2.out (Or.inl (by omega))⟩
          case measure => simp [intOf]; omega
    · go_wp2
      go_end0
      refine ⟨rfl, ?_⟩
      unfold Sort.insertionSort
      rw [← HO.out, outer_last ltInt hlt]
      exact HR.out

set_option maxHeartbeats 4000000 in
set_option maxRecDepth 100000 in
theorem reverse_u (blk off cap a b : Nat) (d : Array Int) (w : World) (hH : Holds encU w blk off d) (hab : a ≤ b) (hb : b ≤ d.size) (hsz : d.size < 4611686018427387904) :
    Calls Tryd.prog 43 #[.slice (some ⟨blk, off, none⟩) d.size cap, .int .i64 a, .int .i64 b] w fun e w' => e = .returned (.tuple #[]) ∧ RowAt w blk off d (Sort.reverseRange d a b) w' := by
  have HH := Aside0.mk hH
  clear hH
  go_enter Tryd.func43, Tryd.ntmps43
  go_wp2
  go_loopg [6, 7] (b - a) (fun k s6 s7 wr => ∃ (i : Nat) (z : Int) (dk : Array Int), s6 = .int .i64 i ∧ s7 = .int .i64 z ∧ a ≤ i ∧ z < b ∧ -1 ≤ z ∧ (z - i).toNat ≤ k ∧ Aside0 (RowAt w blk off d dk wr) ∧ Aside0 (reverseLoop i z.toNat dk = reverseLoop a (b - 1) d))
  case atStart => exact ⟨a, (b : Int) - 1, d, rfl, rfl, by omega, by omega, by omega, by omega, ⟨RowAt.refl HH.out⟩, ⟨by rw [show ((b : Int) - 1).toNat = b - 1 by omega]⟩⟩
  case round =>
    obtain ⟨i, z, dk, rfl, rfl, hai, hzb, hz0, hk, HR, HE⟩ := hrel
    by_cases hlt : (i : Int) < z
    · obtain ⟨j, rfl⟩ : ∃ j : Nat, z = j := ⟨z.toNat, by omega⟩
      have hij : i < j := by omega
      obtain ⟨G, hG⟩ : ∃ G : Nat → Int, ∀ t, G t = dk[t]! := ⟨fun t => dk[t]!, fun _ => rfl⟩
      have hcw : ∀ t, t < d.size → wr.cell? ⟨blk, off + t, none⟩ = some (.int .u64 (G t)) := fun t ht => by rw [hG]; exact HR.out.cell HH.out t ht
      have hfw : ∀ t, t < d.size → wr.frozen? ⟨blk, off + t, none⟩ = false := HR.out.froz HH.out
      have HG := Aside0.mk hG
      clear hG
      go_wp2_with fail
      go_region
      go_wp2
      go_roundg (j - 1 - (i + 1))
      case measure => omega
      case rel =>
        refine ⟨i + 1, (j : Int) - 1, swp dk i j, by simp, rfl, by omega, by omega, by omega, by omega, ⟨HR.out.swap (by omega) (by omega) (by rw [HG.out]) (by rw [HG.out])⟩, ⟨?_⟩⟩
        rw [← HE.out, Int.toNat_natCast, show ((j : Int) - 1).toNat = j - 1 by omega, reverseLoop.eq_1 i j, if_pos hij]
    · go_wp2
      go_end0
      refine ⟨rfl, ?_⟩
      unfold Sort.reverseRange
      rw [← HE.out, reverseLoop, if_neg (by omega)]
      exact HR.out
end Go.Proofs.YtgbhblbfodphfaaDoor.SortU
namespace Go.Proofs.YtgbhblbfodphfaaDoor.SortU
open Go.Sort Go.RowKit Go.Proofs.YtgbhblbfodphfaaDoorW.PrintWords
set_option linter.unusedVariables false

set_option maxHeartbeats 4000000 in
set_option maxRecDepth 100000 in
theorem sift_u (blk off len cap : Nat) (d : Array Int) (hlen : d.size = len) (lo hi first : Nat) (w : World) (hH : Holds encU w blk off d) (hlo : lo ≤ hi) (hb : first + hi ≤ d.size) (hsz : d.size < 4611686018427387904) :
    Calls Tryd.prog 50 #[.slice (some ⟨blk, off, none⟩) len cap, .int .i64 lo, .int .i64 hi, .int .i64 first] w fun e w' => e = .returned (.tuple #[]) ∧ RowAt w blk off d (Sort.siftDown ltInt hi first lo d) w' := by
  subst hlen
  have HH := Aside0.mk hH
  clear hH
  go_enter Tryd.func50, Tryd.ntmps50
  go_wp2
  go_loopg [8] (hi - lo) (fun k s8 wr => ∃ (root : Nat) (dk : Array Int), s8 = .int .i64 root ∧ root ≤ hi ∧ hi - root ≤ k ∧ Aside0 (RowAt w blk off d dk wr) ∧ Aside0 (Sort.siftDown ltInt hi first root dk = Sort.siftDown ltInt hi first lo d))
  case atStart => exact ⟨lo, d, rfl, hlo, Nat.le_refl _, ⟨RowAt.refl HH.out⟩, ⟨rfl⟩⟩
  case round =>
    obtain ⟨root, dk, rfl, hr, hk, HR, HE⟩ := hrel
    by_cases h0 : hi ≤ 2 * root + 1
    · have h0z : (hi : Int) ≤ 2 * (root : Int) + 1 := by omega
      go_wp2
      go_end0
      refine ⟨rfl, ?_⟩
      rw [← HE.out, sift_none ltInt h0]
      exact HR.out
    · have h0z : ¬ ((hi : Int) ≤ 2 * (root : Int) + 1) := by omega
      obtain ⟨G, hG⟩ : ∃ G : Nat → Int, ∀ t, G t = dk[t]! := ⟨fun t => dk[t]!, fun _ => rfl⟩
      obtain ⟨c, hc⟩ : ∃ c, c = child ltInt hi first root dk := ⟨_, rfl⟩
      have hcr := child_le ltInt (F := first) (d := dk) (show 2 * root + 1 < hi by omega)
      rw [← hc] at hcr
      have HG := Aside0.mk hG
      have HC := Aside0.mk hc
      clear hc hG
      go_upto_region 3 with fail
      go_cut [36] from 11 to 75 (fun s36 wx => s36 = .bool (decide (2 * root + 2 < hi) && ltInt (G (first + 2 * root + 1)) (G (first + 2 * root + 2))) ∧ Aside0 (RowAt w blk off d dk wx))
      case first =>
        have hcw : ∀ t, t < d.size → wr.cell? ⟨blk, off + t, none⟩ = some (.int .u64 (G t)) := fun t ht => by rw [HG.out]; exact HR.out.cell HH.out t ht
        by_cases h1 : 2 * root + 2 < hi
        · have h1z : 2 * (root : Int) + 1 + 1 < (hi : Int) := by omega
          go_big_quiet (first | (go_at_call 45; refine Calls.quiet_of_same (less_u _ _ _)))
          go_wp2_with fail
          go_meet
          case rel => exact ⟨by rw [decide_eq_true h1, Bool.true_and], ⟨HR.out.draws nq⟩⟩
        · have h1z : decide (2 * (root : Int) + 1 + 1 < (hi : Int)) = false := decide_eq_false (by omega)
          go_big_quiet (first | (go_at_call 45; refine Calls.quiet_of_same (less_u _ _ _)))
          go_wp2_with fail
          go_meet
          case rel => exact ⟨by rw [decide_eq_false h1, Bool.false_and], ⟨HR.out.draws nq⟩⟩
      case rest =>
        obtain ⟨rfl, HR1⟩ := hcut
        go_upto_if 36 with fail
        go_cut [9] from 11 to 75 (fun s9 wx => s9 = .int .i64 c ∧ wx = wc)
        case first =>
          cases hB : (decide (2 * root + 2 < hi) && ltInt (G (first + 2 * root + 1)) (G (first + 2 * root + 2)))
          · have hc2 : Aside0 (c = 2 * root + 1) := ⟨by
              rw [HC.out]
              unfold child
              rw [if_neg (fun h => by rw [HG.out, HG.out, h.2, decide_eq_true h.1] at hB; cases hB)]⟩
            go_wp2_with fail
            go_meet
            case rel => exact ⟨by rw [hc2.out]; congr 1, rfl⟩
          · have hc2 : Aside0 (c = 2 * root + 2) := ⟨by
              rw [HC.out]
              unfold child
              simp only [Bool.and_eq_true, decide_eq_true_eq, HG.out] at hB
              rw [if_pos hB]⟩
            go_wp2_with fail
            go_meet
            case rel => exact ⟨by rw [hc2.out]; congr 1, rfl⟩
        case rest =>
          obtain ⟨rfl, rfl⟩ := hcut
          have hcw : ∀ t, t < d.size → wc.cell? ⟨blk, off + t, none⟩ = some (.int .u64 (G t)) := fun t ht => by rw [HG.out]; exact HR1.out.cell HH.out t ht
          have hS := sift_some ltInt (F := first) (d := dk) (show 2 * root + 1 < hi by omega)
          rw [← HC.out, HE.out] at hS
          have HS := Aside0.mk hS
          clear hS
          go_wp2_with fail
          go_big_quiet (first | (go_at_call 45; refine Calls.quiet_of_same (less_u _ _ _)))
          have HR2 := Aside0.mk (HR1.out.draws nq)
          clear hcw
          generalize wc.drewN nq = wr2 at HR2 ⊢
          go_wp2_with fail
          · have hl : ltInt (G (first + root)) (G (first + c)) = false := by
              have : (!ltInt (G (first + root)) (G (first + c))) = true := by assumption
              simpa using this
            (try simp only [Exit.inBlock, Exit.then]); refine bodyPost_ret (results_none rfl _ _ _) rfl ?_
            refine ⟨rfl, ?_⟩
            rw [HS.out, ← HG.out, ← HG.out, hl, if_neg Bool.false_ne_true]
            exact HR2.out
          · have hl : ltInt (G (first + root)) (G (first + c)) = true := by
              have : (!ltInt (G (first + root)) (G (first + c))) = false := by assumption
              simpa using this
            have hcw : ∀ t, t < d.size → wr2.cell? ⟨blk, off + t, none⟩ = some (.int .u64 (G t)) := fun t ht => by rw [HG.out]; exact HR2.out.cell HH.out t ht
            have hfw : ∀ t, t < d.size → wr2.frozen? ⟨blk, off + t, none⟩ = false := HR2.out.froz HH.out
            go_region
            go_wp2_with fail
            go_roundg (hi - c)
            case measure => omega
            case rel =>
              refine ⟨c, swp dk (first + root) (first + c), rfl, by omega, Nat.le_refl _, ⟨HR2.out.swap (by omega) (by omega) (by rw [HG.out]) (by rw [HG.out])⟩, ⟨?_⟩⟩
              rw [HS.out, ← HG.out, ← HG.out, hl, if_pos rfl]

/-- Half of a number, toward nothing. -/
theorem half_of {a b : Nat} (hab : a ≤ b) : ((b : Int) - (a : Int) - 1).tdiv 2 = (((b - a - 1) / 2 + 1 : Nat) : Int) - 1 := by
  rcases Nat.eq_or_lt_of_le hab with h | h
  · subst h
    rw [show ((a : Int) - (a : Int) - 1) = -1 by omega]
    simp
  · rw [Int.tdiv_eq_ediv_of_nonneg (by omega)]
    omega

set_option maxHeartbeats 4000000 in
set_option maxRecDepth 100000 in
theorem heap_u (blk off cap a b : Nat) (d : Array Int) (w : World) (hH : Holds encU w blk off d) (hab : a ≤ b) (hb : b ≤ d.size) (hsz : d.size < 4611686018427387904) :
    Calls Tryd.prog 40 #[.slice (some ⟨blk, off, none⟩) d.size cap, .int .i64 a, .int .i64 b] w fun e w' => e = .returned (.tuple #[]) ∧ RowAt w blk off d (Sort.heapSort ltInt d a b) w' := by
  have HH := Aside0.mk hH
  clear hH
  have HC := Aside0.mk (show ((b - a : Nat) : Int) = (b : Int) - (a : Int) by omega)
  have HF := Aside0.mk (half_of hab)
  go_enter Tryd.func40, Tryd.ntmps40
  go_wp2
  go_loopg [9] ((b - a - 1) / 2 + 1) (fun k s9 wr => s9 = .int .i64 ((k : Int) - 1) ∧ k ≤ (b - a - 1) / 2 + 1 ∧ ∃ dk : Array Int, Aside0 (RowAt w blk off d dk wr) ∧ Aside0 (heapBuild ltInt (b - a) a k dk = heapBuild ltInt (b - a) a ((b - a - 1) / 2 + 1) d))
  case atStart => exact ⟨by rw [HF.out], Nat.le_refl _, d, ⟨RowAt.refl HH.out⟩, ⟨rfl⟩⟩
  case round =>
    obtain ⟨rfl, hkk, dk, HR, HE⟩ := hrel
    cases gk with
    | zero =>
      have HB : Aside0 (dk = heapBuild ltInt (b - a) a ((b - a - 1) / 2 + 1) d) := ⟨HE.out⟩
      clear hkk
      go_wp2
      go_loopg [10] (b - a) (fun k s10 wr2 => s10 = .int .i64 ((k : Int) - 1) ∧ k ≤ b - a ∧ ∃ dj : Array Int, Aside0 (RowAt w blk off d dj wr2) ∧ Aside0 (heapPop ltInt a k dj = heapPop ltInt a (b - a) dk))
      case atStart => exact ⟨by rw [HC.out], Nat.le_refl _, dk, HR, ⟨rfl⟩⟩
      case round =>
        obtain ⟨rfl, hkk, dj, HJ, HP⟩ := hrel
        cases gk with
        | zero =>
          go_wp2
          go_end0
          refine ⟨rfl, ?_⟩
          have e : dj = Sort.heapSort ltInt d a b := by
            unfold Sort.heapSort
            rw [← HB.out, ← HP.out]
            rfl
          rw [← e]
          exact HJ.out
        | succ k =>
          obtain ⟨G, hG⟩ : ∃ G : Nat → Int, ∀ t, G t = dj[t]! := ⟨fun t => dj[t]!, fun _ => rfl⟩
          have hcw : ∀ t, t < d.size → wr.cell? ⟨blk, off + t, none⟩ = some (.int .u64 (G t)) := fun t ht => by rw [hG]; exact HJ.out.cell HH.out t ht
          have hfw : ∀ t, t < d.size → wr.frozen? ⟨blk, off + t, none⟩ = false := HJ.out.froz HH.out
          have HG := Aside0.mk hG
          clear hG
          rcases Nat.eq_zero_or_pos k with hk0 | hkp
          all_goals
            (try subst hk0)
            go_wp2_with fail
            go_region
            go_wp2_with fail
            clear hcw hfw
            first
              | (have HS := Aside0.mk (HJ.out.swap (i := a) (j := a + k) (by omega) (by omega) rfl rfl)
                 rw [← HG.out, ← HG.out] at HS
                 generalize ((wr.setCell ⟨blk, off + a, none⟩ (encU (G (a + k)))).setCell ⟨blk, off + (a + k), none⟩ (encU (G a))).drew = wr2 at HS ⊢
                 refine (sift_u blk off d.size cap (swp dj a (a + k)) HS.out.1 0 k a _ (HS.out.holds HH.out) (Nat.zero_le _) (by have := HS.out.1; omega) (by have := HS.out.1; omega)).mono ?_
                 rintro e w1 ⟨rfl, hw1⟩
                 have HT := Aside0.mk (HS.out.call hw1)
                 clear hw1
                 go_wp2
                 go_roundg k
                 case measure => omega
                 case rel => exact ⟨by simp, by omega, _, HT, HP⟩)
              | (have HS := Aside0.mk (HJ.out.swap (i := a) (j := a) (by omega) (by omega) rfl rfl)
                 rw [← HG.out] at HS
                 generalize ((wr.setCell ⟨blk, off + a, none⟩ (encU (G a))).setCell ⟨blk, off + a, none⟩ (encU (G a))).drew = wr2 at HS ⊢
                 refine (sift_u blk off d.size cap (swp dj a a) HS.out.1 0 0 a _ (HS.out.holds HH.out) (Nat.zero_le _) (by have := HS.out.1; omega) (by have := HS.out.1; omega)).mono ?_
                 rintro e w1 ⟨rfl, hw1⟩
                 have HT := Aside0.mk (HS.out.call hw1)
                 clear hw1
                 go_wp2
                 go_roundg 0
                 case measure => omega
                 case rel => exact ⟨by simp, by omega, _, HT, HP⟩)
    | succ k =>
      have hcall := sift_u blk off d.size cap dk HR.out.1 k (b - a) a wr (HR.out.holds HH.out) (by omega) (by have := HR.out.1; omega) (by have := HR.out.1; omega)
      rw [HC.out] at hcall
      have HCA := Aside0.mk hcall
      clear hcall
      go_wp2_with (go_at_call 50; refine HCA.out.mono ?_; rintro e w1 ⟨rfl, hw1⟩; have HT := Aside0.mk (HR.out.call hw1); clear hw1)
      go_roundg k
      case measure => omega
      case rel => exact ⟨by simp, by omega, _, HT, HE⟩
end Go.Proofs.YtgbhblbfodphfaaDoor.SortU
namespace Go.Proofs.YtgbhblbfodphfaaDoor.SortU
open Go.Sort Go.RowKit Go.Proofs.YtgbhblbfodphfaaDoorW.PrintWords
set_option linter.unusedVariables false

/-! ### outside the walk: what the two scans and the exchanges come to -/
section
variable {α : Type} [Inhabited α] (lt : α → α → Bool)
theorem scans_in {p q : α → Bool} (hq : ∀ x, q x = !p x) {d : Array α} {i j I J : Nat} (h0 : 0 < i) (hij : i ≤ j + 1) (hI : I = scanUp p d j i) (hJ : J = scanDown q d I j) : i ≤ I ∧ I ≤ j + 1 ∧ J ≤ j ∧ I ≤ J + 1 ∧ (¬ I > J → I < J) := by
  subst hI hJ
  obtain ⟨r1, r2, r3, r4, _, _, r7⟩ := round_facts p q hq d (i - 1) (j + 1) i j (by omega) hij (fun t _ _ => by omega) (fun t _ _ => by omega)
  exact ⟨r1, r2, r3, r4, fun h => (r7 h).2.2⟩
theorem loop_stop {a i j I J : Nat} {d : Array α} (hI : I = scanUp (fun x => lt x d[a]!) d j i) (hJ : J = scanDown (fun x => !lt x d[a]!) d I j) (h : I > J) : partLoop lt a i j d = (J, d) := by
  subst hI hJ
  rw [partLoop_eq, if_pos h]
theorem loop_next {a i j I J : Nat} {d : Array α} (hI : I = scanUp (fun x => lt x d[a]!) d j i) (hJ : J = scanDown (fun x => !lt x d[a]!) d I j) (h : ¬ I > J) : partLoop lt a i j d = partLoop lt a (I + 1) (J - 1) (swp d I J) := by
  subst hI hJ
  rw [partLoop_eq, if_neg h]
theorem part_stop {d d1 : Array α} {a b pivot I J : Nat} (h1 : d1 = swp d a pivot) (hI : I = scanUp (fun x => lt x d1[a]!) d1 b (a + 1)) (hJ : J = scanDown (fun x => !lt x d1[a]!) d1 I b) (h : I > J) : partition lt d a (b + 1) pivot = (J, true, swp d1 J a) := by
  subst h1 hI hJ
  unfold partition
  simp only [Nat.add_sub_cancel]
  rw [if_pos h]
theorem part_next {d d1 d2 : Array α} {a b pivot I J m : Nat} (h1 : d1 = swp d a pivot) (hI : I = scanUp (fun x => lt x d1[a]!) d1 b (a + 1)) (hJ : J = scanDown (fun x => !lt x d1[a]!) d1 I b) (h : ¬ I > J) (hr : partLoop lt a (I + 1) (J - 1) (swp d1 I J) = (m, d2)) : partition lt d a (b + 1) pivot = (m, false, swp d2 m a) := by
  subst h1 hI hJ
  unfold partition
  simp only [Nat.add_sub_cancel]
  rw [if_neg h, hr]
theorem eq_stop {a i j I J : Nat} {d : Array α} (hI : I = scanUp (fun x => !lt d[a]! x) d j i) (hJ : J = scanDown (fun x => lt d[a]! x) d I j) (h : I > J) : partEqLoop lt a i j d = (I, d) := by
  subst hI hJ
  rw [partEqLoop_eq, if_pos h]
theorem eq_next {a i j I J : Nat} {d : Array α} (hI : I = scanUp (fun x => !lt d[a]! x) d j i) (hJ : J = scanDown (fun x => lt d[a]! x) d I j) (h : ¬ I > J) : partEqLoop lt a i j d = partEqLoop lt a (I + 1) (J - 1) (swp d I J) := by
  subst hI hJ
  rw [partEqLoop_eq, if_neg h]
end

set_option maxHeartbeats 16000000 in
set_option maxRecDepth 100000 in
theorem partition_u (blk off cap a B pivot : Nat) (d : Array Int) (w : World) (hH : Holds encU w blk off d) (hap : a ≤ pivot) (hpb : pivot < B) (hb : B ≤ d.size) (hsz : d.size < 4611686018427387904) :
    Calls Tryd.prog 47 #[.slice (some ⟨blk, off, none⟩) d.size cap, .int .i64 a, .int .i64 B, .int .i64 pivot] w fun e w' => e = .returned (.tuple #[.int .i64 (Sort.partition ltInt d a B pivot).1, .bool (Sort.partition ltInt d a B pivot).2.1]) ∧ RowAt w blk off d (Sort.partition ltInt d a B pivot).2.2 w' := by
  obtain ⟨b, rfl⟩ : ∃ b, B = b + 1 := ⟨B - 1, by omega⟩
  have hab : a ≤ b := by omega
  have HH := Aside0.mk hH
  clear hH
  obtain ⟨d1, hd1⟩ : ∃ d1, d1 = swp d a pivot := ⟨_, rfl⟩
  obtain ⟨I, hI⟩ : ∃ I, I = scanUp (fun x => ltInt x d1[a]!) d1 b (a + 1) := ⟨_, rfl⟩
  obtain ⟨J, hJ⟩ : ∃ J, J = scanDown (fun x => !ltInt x d1[a]!) d1 I b := ⟨_, rfl⟩
  obtain ⟨hi1, hi2, hi3, hi4, hi5⟩ := scans_in (p := fun x => ltInt x d1[a]!) (q := fun x => !ltInt x d1[a]!) (fun _ => rfl) (show 0 < a + 1 by omega) (show a + 1 ≤ b + 1 by omega) hI hJ
  have HD1 := Aside0.mk hd1
  have HI := Aside0.mk hI
  have HJ := Aside0.mk hJ
  clear hd1 hI hJ
  obtain ⟨G, hG⟩ : ∃ G : Nat → Int, ∀ t, G t = (d)[t]! := ⟨fun t => (d)[t]!, fun _ => rfl⟩
  have HG := Aside0.mk hG
  clear hG
  have hcw : ∀ t, t < d.size → w.cell? ⟨blk, off + t, none⟩ = some (.int .u64 (G t)) := fun t ht => by rw [HG.out]; exact (Aside0.mk (RowAt.refl HH.out)).out.cell HH.out t ht
  have hfw : ∀ t, t < d.size → w.frozen? ⟨blk, off + t, none⟩ = false := (Aside0.mk (RowAt.refl HH.out)).out.froz HH.out
  obtain ⟨v0, hy0⟩ := cell?_setCell_some (w := w) (p := ⟨blk, off + a, none⟩) (x := .int .u64 (G pivot)) (q := ⟨blk, off + pivot, none⟩) (hcw pivot (by omega))
  go_enter Tryd.func47, Tryd.ntmps47
  go_wp2_with fail
  go_region
  have HR1 := Aside0.mk ((RowAt.refl HH.out).swap (i := a) (j := pivot) (by omega) (by omega) rfl rfl)
  rw [← HG.out, ← HG.out, ← HD1.out] at HR1
  generalize ((w.setCell ⟨blk, off + a, none⟩ (encU (G pivot))).setCell ⟨blk, off + pivot, none⟩ (encU (G a))).drew = w1 at HR1 ⊢
  clear hcw hfw hy0 HG
  obtain ⟨G, hG⟩ : ∃ G : Nat → Int, ∀ t, G t = (d1)[t]! := ⟨fun t => (d1)[t]!, fun _ => rfl⟩
  have HG := Aside0.mk hG
  clear hG
  go_upto_block 0 with fail
  go_cut [10] from 12 to 167 (fun s wx => s = .int .i64 (I : Nat) ∧ Aside0 (RowAt w blk off d d1 wx))
  case first =>
    go_wp2_with fail
    go_loopg [10] (b + 1 - (a + 1)) (fun k s wr => ∃ x : Nat, s = .int .i64 x ∧ (a + 1) ≤ x ∧ x ≤ b + 1 ∧ b + 1 - x ≤ k ∧ Aside0 (RowAt w blk off d d1 wr) ∧ Aside0 (scanUp (fun x => ltInt x d1[a]!) d1 b x = I))
    case atStart => exact ⟨(a + 1), by go_num, Nat.le_refl _, by omega, Nat.le_refl _, HR1, ⟨HI.out.symm⟩⟩
    case round =>
      obtain ⟨x, rfl, h1, h2, hk, HQ, HE⟩ := hrel
      by_cases hle : x ≤ b
      · have hcw : ∀ t, t < d.size → wr.cell? ⟨blk, off + t, none⟩ = some (.int .u64 (G t)) := fun t ht => by rw [HG.out]; exact HQ.out.cell HH.out t ht
        cases hl : ltInt (G x) (G a)
        · go_wp2_with fail
          go_big_quiet (first | (go_at_call 45; refine Calls.quiet_of_same (less_u _ _ _)))
          have HQ2 := Aside0.mk (HQ.out.draws nq)
          clear hcw
          generalize wr.drewN nq = wr2 at HQ2 ⊢
          go_wp2_with fail
          go_meet
          case rel => exact ⟨by rw [← HE.out, up_last (p := (fun x => ltInt x d1[a]!)) (d := d1) (Or.inr (by show (ltInt d1[x]! d1[a]!) = false; rw [← HG.out, ← HG.out, hl]))], HQ2⟩
        · go_wp2_with fail
          go_big_quiet (first | (go_at_call 45; refine Calls.quiet_of_same (less_u _ _ _)))
          have HQ2 := Aside0.mk (HQ.out.draws nq)
          clear hcw
          generalize wr.drewN nq = wr2 at HQ2 ⊢
          go_wp2_with fail
          go_roundg (b + 1 - (x + 1))
          case measure => omega
          case rel => exact ⟨x + 1, by go_num, by omega, by omega, Nat.le_refl _, HQ2, ⟨by rw [← HE.out]; exact (up_next (p := (fun x => ltInt x d1[a]!)) (d := d1) hle (by show (ltInt d1[x]! d1[a]!) = true; rw [← HG.out, ← HG.out, hl])).symm⟩⟩
      · have hf : decide ((x : Int) ≤ (b : Int)) = false := decide_eq_false (by omega)
        go_wp2_with fail
        go_big_quiet (first | (go_at_call 45; refine Calls.quiet_of_same (less_u _ _ _)))
        have HQ2 := Aside0.mk (HQ.out.draws nq)
        generalize wr.drewN nq = wr2 at HQ2 ⊢
        go_wp2_with fail
        go_meet
        case rel => exact ⟨by rw [← HE.out, up_last (Or.inl hle)], HQ2⟩
  case rest =>
    obtain ⟨rfl, HU1⟩ := hcut
    go_upto_block 2 with fail
    go_cut [11] from 12 to 167 (fun s wx => s = .int .i64 (J : Nat) ∧ Aside0 (RowAt w blk off d d1 wx))
    case first =>
      go_wp2_with fail
      go_loopg [11] b (fun k s wr => ∃ x : Nat, s = .int .i64 x ∧ I ≤ x + 1 ∧ x ≤ b ∧ x ≤ k ∧ Aside0 (RowAt w blk off d d1 wr) ∧ Aside0 (scanDown (fun x => !ltInt x d1[a]!) d1 I x = J))
      case atStart => exact ⟨b, by go_num, by omega, Nat.le_refl _, Nat.le_refl _, HU1, ⟨HJ.out.symm⟩⟩
      case round =>
        obtain ⟨x, rfl, h1, h2, hk, HQ, HE⟩ := hrel
        by_cases hle : I ≤ x
        · have hcw : ∀ t, t < d.size → wr.cell? ⟨blk, off + t, none⟩ = some (.int .u64 (G t)) := fun t ht => by rw [HG.out]; exact HQ.out.cell HH.out t ht
          cases hl : ltInt (G x) (G a)
          · go_wp2_with fail
            go_big_quiet (first | (go_at_call 45; refine Calls.quiet_of_same (less_u _ _ _)))
            have HQ2 := Aside0.mk (HQ.out.draws nq)
            clear hcw
            generalize wr.drewN nq = wr2 at HQ2 ⊢
            go_wp2_with fail
            go_roundg (x - 1)
            case measure => omega
            case rel => exact ⟨x - 1, by congr 1; omega, by omega, by omega, Nat.le_refl _, HQ2, ⟨by rw [← HE.out]; exact (down_next (p := (fun x => !ltInt x d1[a]!)) (d := d1) hle (by omega) (by show (!ltInt d1[x]! d1[a]!) = true; rw [← HG.out, ← HG.out, hl]; rfl)).symm⟩⟩
          · go_wp2_with fail
            go_big_quiet (first | (go_at_call 45; refine Calls.quiet_of_same (less_u _ _ _)))
            have HQ2 := Aside0.mk (HQ.out.draws nq)
            clear hcw
            generalize wr.drewN nq = wr2 at HQ2 ⊢
            go_wp2_with fail
            go_meet
            case rel => exact ⟨by rw [← HE.out, down_last (p := (fun x => !ltInt x d1[a]!)) (d := d1) (Or.inr (by show (!ltInt d1[x]! d1[a]!) = false; rw [← HG.out, ← HG.out, hl]; rfl))], HQ2⟩
        · have hf : decide ((I : Int) ≤ (x : Int)) = false := decide_eq_false (by omega)
          go_wp2_with fail
          go_big_quiet (first | (go_at_call 45; refine Calls.quiet_of_same (less_u _ _ _)))
          have HQ2 := Aside0.mk (HQ.out.draws nq)
          generalize wr.drewN nq = wr2 at HQ2 ⊢
          go_wp2_with fail
          go_meet
          case rel => exact ⟨by rw [← HE.out, down_last (Or.inl hle)], HQ2⟩
    case rest =>
      obtain ⟨rfl, HV1⟩ := hcut
      by_cases hIJ : J < I
      · have hcw : ∀ t, t < d.size → wc.cell? ⟨blk, off + t, none⟩ = some (.int .u64 (G t)) := fun t ht => by rw [HG.out]; exact HV1.out.cell HH.out t ht
        have hfw : ∀ t, t < d.size → wc.frozen? ⟨blk, off + t, none⟩ = false := HV1.out.froz HH.out
        have hlj : J < d.size := by omega
        obtain ⟨v0, hy0⟩ := cell?_setCell_some (w := wc) (p := ⟨blk, off + J, none⟩) (x := .int .u64 (G a)) (q := ⟨blk, off + a, none⟩) (hcw a (by omega))
        go_wp2_with fail
        go_region
        have HS := Aside0.mk (HV1.out.swap (i := J) (j := a) (by omega) (by omega) rfl rfl)
        rw [← HG.out, ← HG.out] at HS
        generalize ((wc.setCell ⟨blk, off + J, none⟩ (encU (G a))).setCell ⟨blk, off + a, none⟩ (encU (G J))).drew = w2 at HS ⊢
        clear hcw hfw hy0
        go_wp2_with fail
        go_ret2
        rw [part_stop ltInt HD1.out HI.out HJ.out hIJ]
        exact ⟨rfl, HS.out⟩
      · have hIJ2 : I < J := hi5 (by omega)
        have hcw : ∀ t, t < d.size → wc.cell? ⟨blk, off + t, none⟩ = some (.int .u64 (G t)) := fun t ht => by rw [HG.out]; exact HV1.out.cell HH.out t ht
        have hfw : ∀ t, t < d.size → wc.frozen? ⟨blk, off + t, none⟩ = false := HV1.out.froz HH.out
        go_wp2_with fail
        go_region
        have HS := Aside0.mk (HV1.out.swap (i := I) (j := J) (by omega) (by omega) rfl rfl)
        rw [← HG.out, ← HG.out] at HS
        generalize ((wc.setCell ⟨blk, off + I, none⟩ (encU (G J))).setCell ⟨blk, off + J, none⟩ (encU (G I))).drew = w2 at HS ⊢
        clear hcw hfw HG
        have HNX := fun m d2 => part_next (d2 := d2) (m := m) ltInt HD1.out HI.out HJ.out (show ¬ I > J by omega)
        have HNX := Aside0.mk HNX
        clear HI HJ HD1 hi5
        go_wp2_with fail
        go_loopg [10, 11] (J - 1 + 1 - (I + 1)) (fun k s10 s11 wr => ∃ (i j : Nat) (dk : Array Int), s10 = .int .i64 i ∧ s11 = .int .i64 j ∧ a < i ∧ i ≤ j + 1 ∧ j ≤ b ∧ j + 1 - i ≤ k ∧ Aside0 (RowAt w blk off d dk wr) ∧ Aside0 (partLoop ltInt a i j dk = partLoop ltInt a (I + 1) (J - 1) (swp d1 I J)))
        case atStart => exact ⟨I + 1, J - 1, _, by go_num, by congr 1; omega, by omega, by omega, by omega, Nat.le_refl _, HS, ⟨rfl⟩⟩
        case round =>
          obtain ⟨i, j, dk, rfl, rfl, hai, hij, hjb, hk, HRk, HE⟩ := hrel
          obtain ⟨G, hG⟩ : ∃ G : Nat → Int, ∀ t, G t = (dk)[t]! := ⟨fun t => (dk)[t]!, fun _ => rfl⟩
          have HG := Aside0.mk hG
          clear hG
          obtain ⟨I2, hI⟩ : ∃ I, I = scanUp (fun x => ltInt x dk[a]!) dk j i := ⟨_, rfl⟩
          obtain ⟨J2, hJ⟩ : ∃ J, J = scanDown (fun x => !ltInt x dk[a]!) dk I2 j := ⟨_, rfl⟩
          obtain ⟨hi1, hi2, hi3, hi4, hi5⟩ := scans_in (p := fun x => ltInt x dk[a]!) (q := fun x => !ltInt x dk[a]!) (fun _ => rfl) (show 0 < i by omega) hij hI hJ
          have HI := Aside0.mk hI
          have HJ := Aside0.mk hJ
          clear hI hJ
          go_upto_block 6 with fail
          go_cut [10] from 99 to 152 (fun s wx => s = .int .i64 (I2 : Nat) ∧ Aside0 (RowAt w blk off d dk wx))
          case first =>
            go_wp2_with fail
            go_loopg [10] (j + 1 - i) (fun k s wr => ∃ x : Nat, s = .int .i64 x ∧ i ≤ x ∧ x ≤ j + 1 ∧ j + 1 - x ≤ k ∧ Aside0 (RowAt w blk off d dk wr) ∧ Aside0 (scanUp (fun x => ltInt x dk[a]!) dk j x = I2))
            case atStart => exact ⟨i, by go_num, Nat.le_refl _, by omega, Nat.le_refl _, HRk, ⟨HI.out.symm⟩⟩
            case round =>
              obtain ⟨x, rfl, h1, h2, hk, HQ, HE⟩ := hrel
              by_cases hle : x ≤ j
              · have hcw : ∀ t, t < d.size → wr.cell? ⟨blk, off + t, none⟩ = some (.int .u64 (G t)) := fun t ht => by rw [HG.out]; exact HQ.out.cell HH.out t ht
                cases hl : ltInt (G x) (G a)
                · go_wp2_with fail
                  go_big_quiet (first | (go_at_call 45; refine Calls.quiet_of_same (less_u _ _ _)))
                  have HQ2 := Aside0.mk (HQ.out.draws nq)
                  clear hcw
                  generalize wr.drewN nq = wr2 at HQ2 ⊢
                  go_wp2_with fail
                  go_meet
                  case rel => exact ⟨by rw [← HE.out, up_last (p := (fun x => ltInt x dk[a]!)) (d := dk) (Or.inr (by show (ltInt dk[x]! dk[a]!) = false; rw [← HG.out, ← HG.out, hl]))], HQ2⟩
                · go_wp2_with fail
                  go_big_quiet (first | (go_at_call 45; refine Calls.quiet_of_same (less_u _ _ _)))
                  have HQ2 := Aside0.mk (HQ.out.draws nq)
                  clear hcw
                  generalize wr.drewN nq = wr2 at HQ2 ⊢
                  go_wp2_with fail
                  go_roundg (j + 1 - (x + 1))
                  case measure => omega
                  case rel => exact ⟨x + 1, by go_num, by omega, by omega, Nat.le_refl _, HQ2, ⟨by rw [← HE.out]; exact (up_next (p := (fun x => ltInt x dk[a]!)) (d := dk) hle (by show (ltInt dk[x]! dk[a]!) = true; rw [← HG.out, ← HG.out, hl])).symm⟩⟩
              · have hf : decide ((x : Int) ≤ (j : Int)) = false := decide_eq_false (by omega)
                go_wp2_with fail
                go_big_quiet (first | (go_at_call 45; refine Calls.quiet_of_same (less_u _ _ _)))
                have HQ2 := Aside0.mk (HQ.out.draws nq)
                generalize wr.drewN nq = wr2 at HQ2 ⊢
                go_wp2_with fail
                go_meet
                case rel => exact ⟨by rw [← HE.out, up_last (Or.inl hle)], HQ2⟩
          case rest =>
            obtain ⟨rfl, HU2⟩ := hcut
            go_upto_block 8 with fail
            go_cut [11] from 99 to 152 (fun s wx => s = .int .i64 (J2 : Nat) ∧ Aside0 (RowAt w blk off d dk wx))
            case first =>
              go_wp2_with fail
              go_loopg [11] j (fun k s wr => ∃ x : Nat, s = .int .i64 x ∧ I2 ≤ x + 1 ∧ x ≤ j ∧ x ≤ k ∧ Aside0 (RowAt w blk off d dk wr) ∧ Aside0 (scanDown (fun x => !ltInt x dk[a]!) dk I2 x = J2))
              case atStart => exact ⟨j, by go_num, by omega, Nat.le_refl _, Nat.le_refl _, HU2, ⟨HJ.out.symm⟩⟩
              case round =>
                obtain ⟨x, rfl, h1, h2, hk, HQ, HE⟩ := hrel
                by_cases hle : I2 ≤ x
                · have hcw : ∀ t, t < d.size → wr.cell? ⟨blk, off + t, none⟩ = some (.int .u64 (G t)) := fun t ht => by rw [HG.out]; exact HQ.out.cell HH.out t ht
                  cases hl : ltInt (G x) (G a)
                  · go_wp2_with fail
                    go_big_quiet (first | (go_at_call 45; refine Calls.quiet_of_same (less_u _ _ _)))
                    have HQ2 := Aside0.mk (HQ.out.draws nq)
                    clear hcw
                    generalize wr.drewN nq = wr2 at HQ2 ⊢
                    go_wp2_with fail
                    go_roundg (x - 1)
                    case measure => omega
                    case rel => exact ⟨x - 1, by congr 1; omega, by omega, by omega, Nat.le_refl _, HQ2, ⟨by rw [← HE.out]; exact (down_next (p := (fun x => !ltInt x dk[a]!)) (d := dk) hle (by omega) (by show (!ltInt dk[x]! dk[a]!) = true; rw [← HG.out, ← HG.out, hl]; rfl)).symm⟩⟩
                  · go_wp2_with fail
                    go_big_quiet (first | (go_at_call 45; refine Calls.quiet_of_same (less_u _ _ _)))
                    have HQ2 := Aside0.mk (HQ.out.draws nq)
                    clear hcw
                    generalize wr.drewN nq = wr2 at HQ2 ⊢
                    go_wp2_with fail
                    go_meet
                    case rel => exact ⟨by rw [← HE.out, down_last (p := (fun x => !ltInt x dk[a]!)) (d := dk) (Or.inr (by show (!ltInt dk[x]! dk[a]!) = false; rw [← HG.out, ← HG.out, hl]; rfl))], HQ2⟩
                · have hf : decide ((I2 : Int) ≤ (x : Int)) = false := decide_eq_false (by omega)
                  go_wp2_with fail
                  go_big_quiet (first | (go_at_call 45; refine Calls.quiet_of_same (less_u _ _ _)))
                  have HQ2 := Aside0.mk (HQ.out.draws nq)
                  generalize wr.drewN nq = wr2 at HQ2 ⊢
                  go_wp2_with fail
                  go_meet
                  case rel => exact ⟨by rw [← HE.out, down_last (Or.inl hle)], HQ2⟩
            case rest =>
              obtain ⟨rfl, HV2⟩ := hcut
              by_cases hIJ : J2 < I2
              · have hcw : ∀ t, t < d.size → wc.cell? ⟨blk, off + t, none⟩ = some (.int .u64 (G t)) := fun t ht => by rw [HG.out]; exact HV2.out.cell HH.out t ht
                have hfw : ∀ t, t < d.size → wc.frozen? ⟨blk, off + t, none⟩ = false := HV2.out.froz HH.out
                have hlj : J2 < d.size := by omega
                obtain ⟨v0, hy0⟩ := cell?_setCell_some (w := wc) (p := ⟨blk, off + J2, none⟩) (x := .int .u64 (G a)) (q := ⟨blk, off + a, none⟩) (hcw a (by omega))
                go_wp2_with fail
                go_region
                have HS := Aside0.mk (HV2.out.swap (i := J2) (j := a) (by omega) (by omega) rfl rfl)
                rw [← HG.out, ← HG.out] at HS
                generalize ((wc.setCell ⟨blk, off + J2, none⟩ (encU (G a))).setCell ⟨blk, off + a, none⟩ (encU (G J2))).drew = w2 at HS ⊢
                clear hcw hfw hy0
                go_wp2_with fail
                go_ret2
                rw [HNX.out J2 dk (HE.out.symm.trans (loop_stop ltInt HI.out HJ.out hIJ))]
                exact ⟨rfl, HS.out⟩
              · have hIJ2 : I2 < J2 := hi5 (by omega)
                have hcw : ∀ t, t < d.size → wc.cell? ⟨blk, off + t, none⟩ = some (.int .u64 (G t)) := fun t ht => by rw [HG.out]; exact HV2.out.cell HH.out t ht
                have hfw : ∀ t, t < d.size → wc.frozen? ⟨blk, off + t, none⟩ = false := HV2.out.froz HH.out
                go_wp2_with fail
                go_region
                have HS := Aside0.mk (HV2.out.swap (i := I2) (j := J2) (by omega) (by omega) rfl rfl)
                rw [← HG.out, ← HG.out] at HS
                generalize ((wc.setCell ⟨blk, off + I2, none⟩ (encU (G J2))).setCell ⟨blk, off + J2, none⟩ (encU (G I2))).drew = w2 at HS ⊢
                clear hcw hfw
                go_wp2_with fail
                go_roundg (J2 - 1 + 1 - (I2 + 1))
                case measure => omega
                case rel => exact ⟨I2 + 1, J2 - 1, _, by go_num, by congr 1; omega, by omega, by omega, by omega, Nat.le_refl _, HS, ⟨(loop_next ltInt HI.out HJ.out (by omega)).symm.trans HE.out⟩⟩

set_option maxHeartbeats 16000000 in
set_option maxRecDepth 100000 in
theorem partEq_u (blk off cap a B pivot : Nat) (d : Array Int) (w : World) (hH : Holds encU w blk off d) (hap : a ≤ pivot) (hpb : pivot < B) (hb : B ≤ d.size) (hsz : d.size < 4611686018427387904) :
    Calls Tryd.prog 46 #[.slice (some ⟨blk, off, none⟩) d.size cap, .int .i64 a, .int .i64 B, .int .i64 pivot] w fun e w' => e = .returned (.int .i64 (Sort.partitionEqual ltInt d a B pivot).1) ∧ RowAt w blk off d (Sort.partitionEqual ltInt d a B pivot).2 w' := by
  obtain ⟨b, rfl⟩ : ∃ b, B = b + 1 := ⟨B - 1, by omega⟩
  have hab : a ≤ b := by omega
  have HH := Aside0.mk hH
  clear hH
  obtain ⟨G, hG⟩ : ∃ G : Nat → Int, ∀ t, G t = (d)[t]! := ⟨fun t => (d)[t]!, fun _ => rfl⟩
  have HG := Aside0.mk hG
  clear hG
  have hcw : ∀ t, t < d.size → w.cell? ⟨blk, off + t, none⟩ = some (.int .u64 (G t)) := fun t ht => by rw [HG.out]; exact (Aside0.mk (RowAt.refl HH.out)).out.cell HH.out t ht
  have hfw : ∀ t, t < d.size → w.frozen? ⟨blk, off + t, none⟩ = false := (Aside0.mk (RowAt.refl HH.out)).out.froz HH.out
  obtain ⟨v0, hy0⟩ := cell?_setCell_some (w := w) (p := ⟨blk, off + a, none⟩) (x := .int .u64 (G pivot)) (q := ⟨blk, off + pivot, none⟩) (hcw pivot (by omega))
  go_enter Tryd.func46, Tryd.ntmps46
  go_wp2_with fail
  go_region
  have HR1 := Aside0.mk ((RowAt.refl HH.out).swap (i := a) (j := pivot) (by omega) (by omega) rfl rfl)
  rw [← HG.out, ← HG.out] at HR1
  generalize ((w.setCell ⟨blk, off + a, none⟩ (encU (G pivot))).setCell ⟨blk, off + pivot, none⟩ (encU (G a))).drew = w1 at HR1 ⊢
  clear hcw hfw hy0 HG
  go_wp2_with fail
  go_loopg [9, 10] (b + 1 - (a + 1)) (fun k s9 s10 wr => ∃ (i j : Nat) (dk : Array Int), s9 = .int .i64 i ∧ s10 = .int .i64 j ∧ a < i ∧ i ≤ j + 1 ∧ j ≤ b ∧ j + 1 - i ≤ k ∧ Aside0 (RowAt w blk off d dk wr) ∧ Aside0 (partEqLoop ltInt a i j dk = Sort.partitionEqual ltInt d a (b + 1) pivot))
  case atStart => exact ⟨a + 1, b, _, by go_num, by go_num, by omega, by omega, by omega, Nat.le_refl _, HR1, ⟨by unfold Sort.partitionEqual; rw [Nat.add_sub_cancel]⟩⟩
  case round =>
    obtain ⟨i, j, dk, rfl, rfl, hai, hij, hjb, hk, HRk, HE⟩ := hrel
    obtain ⟨G, hG⟩ : ∃ G : Nat → Int, ∀ t, G t = (dk)[t]! := ⟨fun t => (dk)[t]!, fun _ => rfl⟩
    have HG := Aside0.mk hG
    clear hG
    obtain ⟨I2, hI⟩ : ∃ I, I = scanUp (fun x => !ltInt dk[a]! x) dk j i := ⟨_, rfl⟩
    obtain ⟨J2, hJ⟩ : ∃ J, J = scanDown (fun x => ltInt dk[a]! x) dk I2 j := ⟨_, rfl⟩
    obtain ⟨hi1, hi2, hi3, hi4, hi5⟩ := scans_in (p := fun x => !ltInt dk[a]! x) (q := fun x => ltInt dk[a]! x) (fun x => by simp) (show 0 < i by omega) hij hI hJ
    have HI := Aside0.mk hI
    have HJ := Aside0.mk hJ
    clear hI hJ
    go_upto_block 2 with fail
    go_cut [9] from 29 to 82 (fun s wx => s = .int .i64 (I2 : Nat) ∧ Aside0 (RowAt w blk off d dk wx))
    case first =>
      go_wp2_with fail
      go_loopg [9] (j + 1 - i) (fun k s wr => ∃ x : Nat, s = .int .i64 x ∧ i ≤ x ∧ x ≤ j + 1 ∧ j + 1 - x ≤ k ∧ Aside0 (RowAt w blk off d dk wr) ∧ Aside0 (scanUp (fun x => !ltInt dk[a]! x) dk j x = I2))
      case atStart => exact ⟨i, by go_num, Nat.le_refl _, by omega, Nat.le_refl _, HRk, ⟨HI.out.symm⟩⟩
      case round =>
        obtain ⟨x, rfl, h1, h2, hk, HQ, HE⟩ := hrel
        by_cases hle : x ≤ j
        · have hcw : ∀ t, t < d.size → wr.cell? ⟨blk, off + t, none⟩ = some (.int .u64 (G t)) := fun t ht => by rw [HG.out]; exact HQ.out.cell HH.out t ht
          cases hl : ltInt (G a) (G x)
          · go_wp2_with fail
            go_big_quiet (first | (go_at_call 45; refine Calls.quiet_of_same (less_u _ _ _)))
            have HQ2 := Aside0.mk (HQ.out.draws nq)
            clear hcw
            generalize wr.drewN nq = wr2 at HQ2 ⊢
            go_wp2_with fail
            go_roundg (j + 1 - (x + 1))
            case measure => omega
            case rel => exact ⟨x + 1, by go_num, by omega, by omega, Nat.le_refl _, HQ2, ⟨by rw [← HE.out]; exact (up_next (p := (fun x => !ltInt dk[a]! x)) (d := dk) hle (by show (!ltInt dk[a]! dk[x]!) = true; rw [← HG.out, ← HG.out, hl]; rfl)).symm⟩⟩
          · go_wp2_with fail
            go_big_quiet (first | (go_at_call 45; refine Calls.quiet_of_same (less_u _ _ _)))
            have HQ2 := Aside0.mk (HQ.out.draws nq)
            clear hcw
            generalize wr.drewN nq = wr2 at HQ2 ⊢
            go_wp2_with fail
            go_meet
            case rel => exact ⟨by rw [← HE.out, up_last (p := (fun x => !ltInt dk[a]! x)) (d := dk) (Or.inr (by show (!ltInt dk[a]! dk[x]!) = false; rw [← HG.out, ← HG.out, hl]; rfl))], HQ2⟩
        · have hf : decide ((x : Int) ≤ (j : Int)) = false := decide_eq_false (by omega)
          go_wp2_with fail
          go_big_quiet (first | (go_at_call 45; refine Calls.quiet_of_same (less_u _ _ _)))
          have HQ2 := Aside0.mk (HQ.out.draws nq)
          generalize wr.drewN nq = wr2 at HQ2 ⊢
          go_wp2_with fail
          go_meet
          case rel => exact ⟨by rw [← HE.out, up_last (Or.inl hle)], HQ2⟩
    case rest =>
      obtain ⟨rfl, HU2⟩ := hcut
      go_upto_block 4 with fail
      go_cut [10] from 29 to 82 (fun s wx => s = .int .i64 (J2 : Nat) ∧ Aside0 (RowAt w blk off d dk wx))
      case first =>
        go_wp2_with fail
        go_loopg [10] j (fun k s wr => ∃ x : Nat, s = .int .i64 x ∧ I2 ≤ x + 1 ∧ x ≤ j ∧ x ≤ k ∧ Aside0 (RowAt w blk off d dk wr) ∧ Aside0 (scanDown (fun x => ltInt dk[a]! x) dk I2 x = J2))
        case atStart => exact ⟨j, by go_num, by omega, Nat.le_refl _, Nat.le_refl _, HU2, ⟨HJ.out.symm⟩⟩
        case round =>
          obtain ⟨x, rfl, h1, h2, hk, HQ, HE⟩ := hrel
          by_cases hle : I2 ≤ x
          · have hcw : ∀ t, t < d.size → wr.cell? ⟨blk, off + t, none⟩ = some (.int .u64 (G t)) := fun t ht => by rw [HG.out]; exact HQ.out.cell HH.out t ht
            cases hl : ltInt (G a) (G x)
            · go_wp2_with fail
              go_big_quiet (first | (go_at_call 45; refine Calls.quiet_of_same (less_u _ _ _)))
              have HQ2 := Aside0.mk (HQ.out.draws nq)
              clear hcw
              generalize wr.drewN nq = wr2 at HQ2 ⊢
              go_wp2_with fail
              go_meet
              case rel => exact ⟨by rw [← HE.out, down_last (p := (fun x => ltInt dk[a]! x)) (d := dk) (Or.inr (by show (ltInt dk[a]! dk[x]!) = false; rw [← HG.out, ← HG.out, hl]))], HQ2⟩
            · go_wp2_with fail
              go_big_quiet (first | (go_at_call 45; refine Calls.quiet_of_same (less_u _ _ _)))
              have HQ2 := Aside0.mk (HQ.out.draws nq)
              clear hcw
              generalize wr.drewN nq = wr2 at HQ2 ⊢
              go_wp2_with fail
              go_roundg (x - 1)
              case measure => omega
              case rel => exact ⟨x - 1, by congr 1; omega, by omega, by omega, Nat.le_refl _, HQ2, ⟨by rw [← HE.out]; exact (down_next (p := (fun x => ltInt dk[a]! x)) (d := dk) hle (by omega) (by show (ltInt dk[a]! dk[x]!) = true; rw [← HG.out, ← HG.out, hl])).symm⟩⟩
          · have hf : decide ((I2 : Int) ≤ (x : Int)) = false := decide_eq_false (by omega)
            go_wp2_with fail
            go_big_quiet (first | (go_at_call 45; refine Calls.quiet_of_same (less_u _ _ _)))
            have HQ2 := Aside0.mk (HQ.out.draws nq)
            generalize wr.drewN nq = wr2 at HQ2 ⊢
            go_wp2_with fail
            go_meet
            case rel => exact ⟨by rw [← HE.out, down_last (Or.inl hle)], HQ2⟩
      case rest =>
        obtain ⟨rfl, HV2⟩ := hcut
        by_cases hIJ : J2 < I2
        · go_wp2_with fail
          go_ret
          have e := HE.out.symm.trans (eq_stop ltInt HI.out HJ.out hIJ)
          rw [e]
          exact ⟨rfl, HV2.out⟩
        · have hIJ2 : I2 < J2 := hi5 (by omega)
          have hcw : ∀ t, t < d.size → wc.cell? ⟨blk, off + t, none⟩ = some (.int .u64 (G t)) := fun t ht => by rw [HG.out]; exact HV2.out.cell HH.out t ht
          have hfw : ∀ t, t < d.size → wc.frozen? ⟨blk, off + t, none⟩ = false := HV2.out.froz HH.out
          go_wp2_with fail
          go_region
          have HS := Aside0.mk (HV2.out.swap (i := I2) (j := J2) (by omega) (by omega) rfl rfl)
          rw [← HG.out, ← HG.out] at HS
          generalize ((wc.setCell ⟨blk, off + I2, none⟩ (encU (G J2))).setCell ⟨blk, off + J2, none⟩ (encU (G I2))).drew = w2 at HS ⊢
          clear hcw hfw
          go_wp2_with fail
          go_roundg (J2 - 1 + 1 - (I2 + 1))
          case measure => omega
          case rel => exact ⟨I2 + 1, J2 - 1, _, by go_num, by congr 1; omega, by omega, by omega, by omega, Nat.le_refl _, HS, ⟨(eq_next ltInt HI.out HJ.out (by omega)).symm.trans HE.out⟩⟩
end Go.Proofs.YtgbhblbfodphfaaDoor.SortU
namespace Go.Proofs.YtgbhblbfodphfaaDoor.SortU
open Go.Sort Go.RowKit Go.Proofs.YtgbhblbfodphfaaDoorW.PrintWords
set_option linter.unusedVariables false

section
variable {α : Type} [Inhabited α] (lt : α → α → Bool)
def downFix (a k : Nat) (d : Array α) : Array α := if k - a ≥ 2 then shiftDown lt (k - 1) d else d
def upFix (b k : Nat) (d : Array α) : Array α := if b - k ≥ 2 then shiftUp lt b (k + 1) d else d
theorem ins_step (a b s i : Nat) (d : Array α) : partialIns lt a b (s + 1) i d = if scanSorted lt d b i = b then (d, true) else if b - a < 50 then (d, false) else partialIns lt a b s (scanSorted lt d b i) (upFix lt b (scanSorted lt d b i) (downFix lt a (scanSorted lt d b i) (swp d (scanSorted lt d b i) (scanSorted lt d b i - 1)))) := rfl
end

set_option maxHeartbeats 16000000 in
set_option maxRecDepth 100000 in
theorem partIns_u (blk off cap a b : Nat) (d : Array Int) (w : World) (hH : Holds encU w blk off d) (hab : a < b) (hb : b ≤ d.size) (hsz : d.size < 4611686018427387904) :
    Calls Tryd.prog 44 #[.slice (some ⟨blk, off, none⟩) d.size cap, .int .i64 a, .int .i64 b] w fun e w' => e = .returned (.bool (Sort.partialInsertionSort ltInt d a b).2) ∧ RowAt w blk off d (Sort.partialInsertionSort ltInt d a b).1 w' := by
  have HH := Aside0.mk hH
  clear hH
  go_enter Tryd.func44, Tryd.ntmps44
  go_wp2
  go_loopg [7, 8] 5 (fun g s7 s8 wr => ∃ (i s : Nat) (dk : Array Int), s7 = .int .i64 i ∧ s8 = .int .i64 s ∧ s + g = 5 ∧ a < i ∧ i ≤ b ∧ Aside0 (RowAt w blk off d dk wr) ∧ Aside0 (partialIns ltInt a b g i dk = Sort.partialInsertionSort ltInt d a b))
  case atStart => exact ⟨a + 1, 0, d, by go_num, rfl, by omega, by omega, by omega, ⟨RowAt.refl HH.out⟩, ⟨rfl⟩⟩
  case round =>
    obtain ⟨i, s, dk, rfl, rfl, hs, hai, hib, HR, HE⟩ := hrel
    cases gk with
    | zero =>
      have hs5 : ¬ ((s : Int) < 5) := by omega
      have hv : partialIns ltInt a b 0 i dk = (dk, false) := rfl
      have HV := Aside0.mk (hv.symm.trans HE.out)
      clear hv
      go_wp2
      go_ret
      rw [← HV.out]
      exact ⟨rfl, HR.out⟩
    | succ g =>
      have hs5 : (s : Int) < 5 := by omega
      obtain ⟨G, hG⟩ : ∃ G : Nat → Int, ∀ t, G t = dk[t]! := ⟨fun t => dk[t]!, fun _ => rfl⟩
      obtain ⟨K, hK⟩ : ∃ K, scanSorted ltInt dk b i = K := ⟨_, rfl⟩
      have hst := ins_step ltInt a b g i dk
      rw [hK] at hst
      have HST := Aside0.mk (HE.out.symm.trans hst)
      have HG := Aside0.mk hG
      have HK := Aside0.mk hK
      clear hG hst hK
      go_upto_block 2 with fail
      go_cut [7] from 13 to 132 (fun s7 wx => s7 = .int .i64 (K : Nat) ∧ Aside0 (i ≤ K ∧ K ≤ b) ∧ Aside0 (RowAt w blk off d dk wx))
      case first =>
        go_wp2_with fail
        go_loopg [7] (b - i) (fun k s7 wr => ∃ x : Nat, s7 = .int .i64 x ∧ i ≤ x ∧ x ≤ b ∧ b - x ≤ k ∧ Aside0 (RowAt w blk off d dk wr) ∧ Aside0 (scanSorted ltInt dk b x = K))
        case atStart => exact ⟨i, rfl, Nat.le_refl _, hib, Nat.le_refl _, HR, HK⟩
        case round =>
          obtain ⟨x, rfl, h1, h2, hk, HQ, HX⟩ := hrel
          by_cases hle : x < b
          · have hcw : ∀ t, t < d.size → wr.cell? ⟨blk, off + t, none⟩ = some (.int .u64 (G t)) := fun t ht => by rw [HG.out]; exact HQ.out.cell HH.out t ht
            cases hl : ltInt (G x) (G (x - 1))
            · go_wp2_with fail
              go_big_quiet (first | (go_at_call 45; refine Calls.quiet_of_same (less_u _ _ _)))
              have HQ2 := Aside0.mk (HQ.out.draws nq)
              clear hcw
              generalize wr.drewN nq = wr2 at HQ2 ⊢
              go_wp2_with fail
              go_roundg (b - (x + 1))
              case measure => omega
              case rel => exact ⟨x + 1, by go_num, by omega, by omega, Nat.le_refl _, HQ2, ⟨by rw [← HX.out, sorted_next ltInt hle (by rw [← HG.out, ← HG.out]; exact hl)]⟩⟩
            · go_wp2_with fail
              go_big_quiet (first | (go_at_call 45; refine Calls.quiet_of_same (less_u _ _ _)))
              have HQ2 := Aside0.mk (HQ.out.draws nq)
              clear hcw
              generalize wr.drewN nq = wr2 at HQ2 ⊢
              go_wp2_with fail
              go_meet
              have e : x = K := by rw [← HX.out, sorted_last ltInt (Or.inr (by rw [← HG.out, ← HG.out]; exact hl))]
              case rel => exact ⟨by rw [e], ⟨by omega⟩, HQ2⟩
          · have hf : decide ((x : Int) < (b : Int)) = false := decide_eq_false (by omega)
            go_wp2_with fail
            go_big_quiet (first | (go_at_call 45; refine Calls.quiet_of_same (less_u _ _ _)))
            have HQ2 := Aside0.mk (HQ.out.draws nq)
            generalize wr.drewN nq = wr2 at HQ2 ⊢
            go_wp2_with fail
            go_meet
            have e : x = K := by rw [← HX.out, sorted_last ltInt (Or.inl hle)]
            case rel => exact ⟨by rw [e], ⟨by omega⟩, HQ2⟩
      case rest =>
        obtain ⟨rfl, HKb, HR1⟩ := hcut
        obtain ⟨hiK, hKb⟩ := HKb.out
        by_cases hKe : K = b
        · have hz : ((K : Int) == (b : Int)) = true := by simp [hKe]
          have hv := HST.out
          rw [if_pos hKe] at hv
          have HV := Aside0.mk hv
          clear hv hKe
          go_wp2_with fail
          go_ret
          rw [HV.out]
          exact ⟨rfl, HR1.out⟩
        · have hz : ((K : Int) == (b : Int)) = false := by simp; omega
          by_cases h50 : b - a < 50
          · have h50z : decide ((b : Int) - (a : Int) < 50) = true := decide_eq_true (by omega)
            have hv := HST.out
            rw [if_neg hKe, if_pos h50] at hv
            have HV := Aside0.mk hv
            clear hv
            go_wp2_with fail
            go_ret
            rw [HV.out]
            exact ⟨rfl, HR1.out⟩
          · have h50z : decide ((b : Int) - (a : Int) < 50) = false := decide_eq_false (by omega)
            have hv := HST.out
            rw [if_neg hKe, if_neg h50] at hv
            have HV := Aside0.mk hv
            clear hv HST
            have hcw : ∀ t, t < d.size → wc.cell? ⟨blk, off + t, none⟩ = some (.int .u64 (G t)) := fun t ht => by rw [HG.out]; exact HR1.out.cell HH.out t ht
            have hfw : ∀ t, t < d.size → wc.frozen? ⟨blk, off + t, none⟩ = false := HR1.out.froz HH.out
            obtain ⟨d2, hd2⟩ : ∃ d2, d2 = swp dk K (K - 1) := ⟨_, rfl⟩
            obtain ⟨d3, hd3⟩ : ∃ d3, d3 = downFix ltInt a K d2 := ⟨_, rfl⟩
            obtain ⟨d4, hd4⟩ : ∃ d4, d4 = upFix ltInt b K d3 := ⟨_, rfl⟩
            rw [← hd2, ← hd3, ← hd4] at HV
            have HD3 := Aside0.mk hd3
            have HD4 := Aside0.mk hd4
            have HD2 := Aside0.mk hd2
            clear hd2 hd3 hd4
            go_wp2_with fail
            go_region
            have HS := Aside0.mk (HR1.out.swap (i := K) (j := K - 1) (by omega) (by omega) rfl rfl)
            rw [← HG.out, ← HG.out, ← HD2.out] at HS
            generalize ((wc.setCell ⟨blk, off + K, none⟩ (encU (G (K - 1)))).setCell ⟨blk, off + (K - 1), none⟩ (encU (G K))).drew = w2 at HS ⊢
            clear hcw hfw HG
            go_upto_if 61 with fail
            go_cut [] from 13 to 132 (fun wx => Aside0 (RowAt w blk off d d3 wx))
            case first =>
              by_cases h2 : K - a ≥ 2
              · have h2z : decide ((K : Int) - (a : Int) ≥ 2) = true := decide_eq_true (by omega)
                have hd3 := HD3.out
                unfold downFix at hd3
                rw [if_pos h2] at hd3
                have HD := Aside0.mk hd3.symm
                clear hd3
                go_wp2_with fail
                go_loopg [9] (K - 1) (fun k s9 wr => ∃ (j : Nat) (dj : Array Int), s9 = .int .i64 j ∧ j ≤ K - 1 ∧ j ≤ k ∧ Aside0 (RowAt w blk off d dj wr) ∧ Aside0 (shiftDown ltInt j dj = d3))
                case atStart => exact ⟨K - 1, d2, by congr 1; omega, Nat.le_refl _, Nat.le_refl _, HS, HD⟩
                case round =>
                  obtain ⟨j, dj, rfl, hjK, hk, HJ, HX⟩ := hrel
                  by_cases h1 : 1 ≤ j
                  · have h1z : decide ((j : Int) ≥ 1) = true := decide_eq_true (by omega)
                    obtain ⟨G, hG⟩ : ∃ G : Nat → Int, ∀ t, G t = dj[t]! := ⟨fun t => dj[t]!, fun _ => rfl⟩
                    have hcw : ∀ t, t < d.size → wr.cell? ⟨blk, off + t, none⟩ = some (.int .u64 (G t)) := fun t ht => by rw [hG]; exact HJ.out.cell HH.out t ht
                    have HG := Aside0.mk hG
                    clear hG
                    cases hl : ltInt (G j) (G (j - 1))
                    · go_wp2_with fail
                      go_big_quiet (first | (go_at_call 45; refine Calls.quiet_of_same (less_u _ _ _)))
                      have HQ2 := Aside0.mk (HJ.out.draws nq)
                      clear hcw
                      generalize wr.drewN nq = wr2 at HQ2 ⊢
                      go_wp2_with fail
                      go_meet
                      have e : dj = d3 := by rw [← HX.out, shd_last ltInt (Or.inr (by rw [← HG.out, ← HG.out]; exact hl))]
                      case rel => exact ⟨by rw [← e]; exact HQ2.out⟩
                    · go_wp2_with fail
                      go_big_quiet (first | (go_at_call 45; refine Calls.quiet_of_same (less_u _ _ _)))
                      have HQ2 := Aside0.mk (HJ.out.draws nq)
                      clear hcw
                      generalize wr.drewN nq = wr2 at HQ2 ⊢
                      have hcw : ∀ t, t < d.size → wr2.cell? ⟨blk, off + t, none⟩ = some (.int .u64 (G t)) := fun t ht => by rw [HG.out]; exact HQ2.out.cell HH.out t ht
                      have hfw : ∀ t, t < d.size → wr2.frozen? ⟨blk, off + t, none⟩ = false := HQ2.out.froz HH.out
                      go_wp2_with fail
                      go_region
                      have HT := Aside0.mk (HQ2.out.swap (i := j) (j := j - 1) (by omega) (by omega) rfl rfl)
                      rw [← HG.out, ← HG.out] at HT
                      generalize ((wr2.setCell ⟨blk, off + j, none⟩ (encU (G (j - 1)))).setCell ⟨blk, off + (j - 1), none⟩ (encU (G j))).drew = w3 at HT ⊢
                      clear hcw hfw
                      go_wp2_with fail
                      go_roundg (j - 1)
                      case measure => omega
                      case rel => exact ⟨j - 1, _, by congr 1; omega, by omega, Nat.le_refl _, HT, ⟨by rw [← HX.out]; exact (shd_next ltInt h1 (by rw [← HG.out, ← HG.out]; exact hl)).symm⟩⟩
                  · have h1z : decide ((j : Int) ≥ 1) = false := decide_eq_false (by omega)
                    go_wp2_with fail
                    go_meet
                    have e : dj = d3 := by rw [← HX.out, shd_last ltInt (Or.inl (by omega))]
                    case rel => exact ⟨by rw [← e]; exact HJ.out⟩
              · have h2z : decide ((K : Int) - (a : Int) ≥ 2) = false := decide_eq_false (by omega)
                have hd3 := HD3.out
                unfold downFix at hd3
                rw [if_neg h2] at hd3
                have HD := Aside0.mk hd3
                clear hd3
                go_wp2_with fail
                go_meet
                case rel => exact ⟨by rw [HD.out]; exact HS.out⟩
            case rest =>
              have HR3 := hcut
              clear hcut HS HD3 HD2
              by_cases h2 : b - K ≥ 2
              · have h2z : decide ((b : Int) - (K : Int) ≥ 2) = true := decide_eq_true (by omega)
                have hd4 := HD4.out
                unfold upFix at hd4
                rw [if_pos h2] at hd4
                have HD := Aside0.mk hd4.symm
                clear hd4
                go_wp2_with fail
                go_loopg [10] (b - (K + 1)) (fun k s10 wr => ∃ (j : Nat) (dj : Array Int), s10 = .int .i64 j ∧ K + 1 ≤ j ∧ j ≤ b ∧ b - j ≤ k ∧ Aside0 (RowAt w blk off d dj wr) ∧ Aside0 (shiftUp ltInt b j dj = d4))
                case atStart => exact ⟨K + 1, d3, by go_num, Nat.le_refl _, by omega, Nat.le_refl _, HR3, HD⟩
                case round =>
                  obtain ⟨j, dj, rfl, hjK, hjb, hk, HJ, HX⟩ := hrel
                  by_cases h1 : j < b
                  · have h1z : decide ((j : Int) < (b : Int)) = true := decide_eq_true (by omega)
                    obtain ⟨G, hG⟩ : ∃ G : Nat → Int, ∀ t, G t = dj[t]! := ⟨fun t => dj[t]!, fun _ => rfl⟩
                    have hcw : ∀ t, t < d.size → wr.cell? ⟨blk, off + t, none⟩ = some (.int .u64 (G t)) := fun t ht => by rw [hG]; exact HJ.out.cell HH.out t ht
                    have HG := Aside0.mk hG
                    clear hG
                    cases hl : ltInt (G j) (G (j - 1))
                    · go_wp2_with fail
                      go_big_quiet (first | (go_at_call 45; refine Calls.quiet_of_same (less_u _ _ _)))
                      have HQ2 := Aside0.mk (HJ.out.draws nq)
                      clear hcw
                      generalize wr.drewN nq = wr2 at HQ2 ⊢
                      go_wp2_with fail
                      have e : dj = d4 := by rw [← HX.out, shu_last ltInt (Or.inr (by rw [← HG.out, ← HG.out]; exact hl))]
                      go_roundg g
                      case measure => omega
                      case rel => exact ⟨K, s + 1, d4, rfl, by go_num, by omega, by omega, hKb, ⟨by rw [← e]; exact HQ2.out⟩, ⟨HV.out.symm⟩⟩
                    · go_wp2_with fail
                      go_big_quiet (first | (go_at_call 45; refine Calls.quiet_of_same (less_u _ _ _)))
                      have HQ2 := Aside0.mk (HJ.out.draws nq)
                      clear hcw
                      generalize wr.drewN nq = wr2 at HQ2 ⊢
                      have hcw : ∀ t, t < d.size → wr2.cell? ⟨blk, off + t, none⟩ = some (.int .u64 (G t)) := fun t ht => by rw [HG.out]; exact HQ2.out.cell HH.out t ht
                      have hfw : ∀ t, t < d.size → wr2.frozen? ⟨blk, off + t, none⟩ = false := HQ2.out.froz HH.out
                      go_wp2_with fail
                      go_region
                      have HT := Aside0.mk (HQ2.out.swap (i := j) (j := j - 1) (by omega) (by omega) rfl rfl)
                      rw [← HG.out, ← HG.out] at HT
                      generalize ((wr2.setCell ⟨blk, off + j, none⟩ (encU (G (j - 1)))).setCell ⟨blk, off + (j - 1), none⟩ (encU (G j))).drew = w3 at HT ⊢
                      clear hcw hfw
                      go_wp2_with fail
                      go_roundg (b - (j + 1))
                      case measure => omega
                      case rel => exact ⟨j + 1, _, by go_num, by omega, by omega, Nat.le_refl _, HT, ⟨by rw [← HX.out]; exact (shu_next ltInt h1 (by rw [← HG.out, ← HG.out]; exact hl)).symm⟩⟩
                  · have h1z : decide ((j : Int) < (b : Int)) = false := decide_eq_false (by omega)
                    go_wp2_with fail
                    have e : dj = d4 := by rw [← HX.out, shu_last ltInt (Or.inl (by omega))]
                    go_roundg g
                    case measure => omega
                    case rel => exact ⟨K, s + 1, d4, rfl, by go_num, by omega, by omega, hKb, ⟨by rw [← e]; exact HJ.out⟩, ⟨HV.out.symm⟩⟩
              · have h2z : decide ((b : Int) - (K : Int) ≥ 2) = false := decide_eq_false (by omega)
                have hd4 := HD4.out
                unfold upFix at hd4
                rw [if_neg h2] at hd4
                have HD := Aside0.mk hd4
                clear hd4
                go_wp2_with fail
                go_roundg g
                case measure => omega
                case rel => exact ⟨K, s + 1, d4, rfl, by go_num, by omega, by omega, hKb, ⟨by rw [HD.out]; exact HR3.out⟩, ⟨HV.out.symm⟩⟩
end Go.Proofs.YtgbhblbfodphfaaDoor.SortU
