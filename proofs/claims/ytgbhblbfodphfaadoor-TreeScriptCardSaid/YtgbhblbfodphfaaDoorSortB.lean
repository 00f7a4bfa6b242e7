/-
  The sort of Go's library at numbers of 64 bits, second part: a pivot's choice, patterns broken, the loop and its recursion: slices.Sort leaves the row rising.
-/
import Derived.Test.YtgbhblbfodphfaaDoorSortA
import Derived.Test.YtgbhblbfodphfaaDoorShelfL
import Derived.Laws.Bits64
import Derived.Laws.Bits64b
namespace Go.Proofs.YtgbhblbfodphfaaDoor.SortU
open Go.Sort Go.RowKit Go.Proofs.YtgbhblbfodphfaaDoorW.PrintWords
set_option linter.unusedVariables false

/-! ### a counter in a block of its own -/
abbrev cnt (s : Nat) : Array Int := #[(s : Int)]
/-- The world with the counter's number laid anew; nothing else but draws. -/
def Cnt (w : World) (g s : Nat) (wr : World) : Prop := ∃ n, wr = putRow (Value.int .i64) (Sort.ahead w n) g 0 (cnt s)
section
variable {w wr w1 : World} {g s t : Nat}
theorem Cnt.refl (h : Holds (Value.int .i64) w g 0 (cnt s)) : Cnt w g s w := ⟨0, (putRow_self _ w g 0 _ h).symm⟩
theorem Cnt.holds (h : Cnt w g s wr) (h0 : Holds (Value.int .i64) w g 0 (cnt t)) : Holds (Value.int .i64) wr g 0 (cnt s) := by
  obtain ⟨n, rfl⟩ := h
  exact holds_putRow _ _ g 0 (cnt t) (cnt s) (holds_ahead _ w n g 0 _ h0) rfl
theorem Cnt.row {blk off : Nat} {d : Array Int} (h : Cnt w g s wr) (hne : g ≠ blk) (h0 : Holds encU w blk off d) : Holds encU wr blk off d := by
  obtain ⟨n, rfl⟩ := h
  exact fun j hj => ⟨by rw [cell?_putRow_other _ _ _ _ _ _ (Or.inl (Ne.symm hne))]; exact (h0 j hj).1, by rw [frozen?_putRow]; exact (h0 j hj).2⟩
theorem Cnt.trans (h : Cnt w g s w1) (h1 : Cnt w1 g t wr) : Cnt w g t wr := by
  obtain ⟨n, rfl⟩ := h
  obtain ⟨m, rfl⟩ := h1
  exact ⟨n + m, putRow_ahead_putRow _ w n m g 0 (cnt s) (cnt t) rfl⟩
theorem Cnt.draws (h : Cnt w g s wr) (q : Nat) : Cnt w g s (wr.drewN q) := by
  obtain ⟨n, rfl⟩ := h
  refine ⟨n + q, ?_⟩
  rw [← ahead_ahead]
  rfl
theorem Cnt.store (h : Cnt w g s wr) (t : Nat) : Cnt w g t (wr.setCell ⟨g, 0, none⟩ (.int .i64 t)) := by
  obtain ⟨n, rfl⟩ := h
  refine ⟨n, ?_⟩
  have := putRow_set (Value.int .i64) (Sort.ahead w n) g 0 (cnt s) 0 (t : Int) (by simp)
  simpa using this
theorem cnt_cell (h : Holds (Value.int .i64) w g 0 (cnt s)) : w.cell? ⟨g, 0, none⟩ = some (.int .i64 s) ∧ w.frozen? ⟨g, 0, none⟩ = false := by simpa using h 0 (by simp)
end

set_option maxHeartbeats 2000000 in
set_option maxRecDepth 100000 in
theorem order2_u (d : Array Int) (len : Nat) (hlen : d.size = len) (blk off cap a b g s : Nat) (w0 w : World) (hH : Holds encU w0 blk off d) (hne : g ≠ blk) (t : Nat) (hT : Holds (Value.int .i64) w0 g 0 (cnt t)) (hC : Cnt w0 g s w) (ha : a < d.size) (hb : b < d.size) (hs : s < 4611686018427387904) :
    Calls Tryd.prog 56 #[.slice (some ⟨blk, off, none⟩) len cap, .int .i64 a, .int .i64 b, .pointer (some ⟨g, 0, none⟩)] w fun e w' => e = .returned (.tuple #[.int .i64 (order2 ltInt d a b s).1, .int .i64 (order2 ltInt d a b s).2.1]) ∧ Cnt w0 g (order2 ltInt d a b s).2.2 w' := by
  subst hlen
  have HC := Aside0.mk hC
  have HT := Aside0.mk hT
  obtain ⟨x, hx⟩ : ∃ x, d[a]! = x := ⟨_, rfl⟩
  obtain ⟨y, hy⟩ : ∃ y, d[b]! = y := ⟨_, rfl⟩
  have hr := hC.row hne hH
  have ca : w.cell? ⟨blk, off + a, none⟩ = some (.int .u64 x) := by rw [← hx]; exact (hr a ha).1
  have cb : w.cell? ⟨blk, off + b, none⟩ = some (.int .u64 y) := by rw [← hy]; exact (hr b hb).1
  have HX := Aside0.mk hx
  have HY := Aside0.mk hy
  clear hx hy hr hC hH hT
  go_enter Tryd.func56, Tryd.ntmps56
  go_wp2_with fail
  go_big_quiet (first | (go_at_call 45; refine Calls.quiet_of_same (less_u _ _ _)))
  have HC2 := Aside0.mk (HC.out.draws nq)
  clear ca cb
  generalize w.drewN nq = w2 at HC2 ⊢
  obtain ⟨cs, fs⟩ := cnt_cell (HC2.out.holds HT.out)
  go_wp2_with fail
  · have hl : ltInt y x = true := by assumption
    have HO : order2 ltInt d a b s = (b, a, s + 1) := by unfold order2; rw [HX.out, HY.out, hl]; rfl
    go_ret2
    rw [HO]
    exact ⟨rfl, by have := HC2.out.store (s + 1); simpa using this⟩
  · have hl : ltInt y x = false := by assumption
    have HO : order2 ltInt d a b s = (a, b, s) := by unfold order2; rw [HX.out, HY.out, hl]; rfl
    go_ret2
    rw [HO]
    exact ⟨rfl, HC2.out⟩

theorem order2_in (d : Array Int) {a b n : Nat} (s : Nat) (ha : a < n) (hb : b < n) : (order2 ltInt d a b s).1 < n ∧ (order2 ltInt d a b s).2.1 < n ∧ (order2 ltInt d a b s).2.2 ≤ s + 1 := by
  have h1 := order2_mem ltInt d a b s
  have h2 := order2_count ltInt d a b s
  omega

set_option maxHeartbeats 2000000 in
set_option maxRecDepth 100000 in
theorem median_u (d : Array Int) (len : Nat) (hlen : d.size = len) (blk off cap a b c g s : Nat) (w0 w : World) (hH : Holds encU w0 blk off d) (hne : g ≠ blk) (t : Nat) (hT : Holds (Value.int .i64) w0 g 0 (cnt t)) (hC : Cnt w0 g s w) (ha : a < d.size) (hb : b < d.size) (hc : c < d.size) (hs : s + 3 < 4611686018427387904) :
    Calls Tryd.prog 54 #[.slice (some ⟨blk, off, none⟩) len cap, .int .i64 a, .int .i64 b, .int .i64 c, .pointer (some ⟨g, 0, none⟩)] w fun e w' => e = .returned (.int .i64 (median ltInt d a b c s).1) ∧ Cnt w0 g (median ltInt d a b c s).2 w' := by
  subst hlen
  obtain ⟨r1, h1⟩ : ∃ r, r = order2 ltInt d a b s := ⟨_, rfl⟩
  obtain ⟨r2, h2⟩ : ∃ r, r = order2 ltInt d r1.2.1 c r1.2.2 := ⟨_, rfl⟩
  obtain ⟨r3, h3⟩ : ∃ r, r = order2 ltInt d r1.1 r2.1 r2.2.2 := ⟨_, rfl⟩
  have hm : median ltInt d a b c s = (r3.2.1, r3.2.2) := by unfold median; simp only []; rw [← h1, ← h2, ← h3]
  have i1 := order2_in d s ha hb
  rw [← h1] at i1
  have i2 := order2_in d r1.2.2 i1.2.1 hc
  rw [← h2] at i2
  have c1 := order2_u d d.size rfl blk off cap a b g s w0 w hH hne t hT hC ha hb (by omega)
  rw [← h1] at c1
  have c2 := fun w1 (hC1 : Cnt w0 g r1.2.2 w1) => order2_u d d.size rfl blk off cap r1.2.1 c g r1.2.2 w0 w1 hH hne t hT hC1 i1.2.1 hc (by omega)
  rw [← h2] at c2
  have c3 := fun w1 (hC1 : Cnt w0 g r2.2.2 w1) => order2_u d d.size rfl blk off cap r1.1 r2.1 g r2.2.2 w0 w1 hH hne t hT hC1 i1.1 i2.1 (by omega)
  rw [← h3] at c3
  rw [hm]
  have C1 := Aside0.mk c1
  have C2 := Aside0.mk c2
  have C3 := Aside0.mk c3
  clear c1 c2 c3 h1 h2 h3 hm i1 i2 hH hT hC
  obtain ⟨x1, y1, s1⟩ := r1
  obtain ⟨x2, y2, s2⟩ := r2
  obtain ⟨x3, y3, s3⟩ := r3
  simp only [] at C1 C2 C3
  go_enter Tryd.func54, Tryd.ntmps54
  go_wp2_with fail
  refine C1.out.mono ?_
  rintro e w1 ⟨rfl, hk1⟩
  have K1 := Aside0.mk hk1
  clear hk1
  go_wp2_with fail
  refine (C2.out _ K1.out).mono ?_
  rintro e w2 ⟨rfl, hk2⟩
  have K2 := Aside0.mk hk2
  clear hk2
  go_wp2_with fail
  refine (C3.out _ K2.out).mono ?_
  rintro e w3 ⟨rfl, hk3⟩
  have K3 := Aside0.mk hk3
  clear hk3
  go_wp2_with fail
  go_ret
  exact ⟨rfl, K3.out⟩

set_option maxHeartbeats 2000000 in
set_option maxRecDepth 100000 in
theorem medAdj_u (d : Array Int) (len : Nat) (hlen : d.size = len) (blk off cap a g s : Nat) (w0 w : World) (hH : Holds encU w0 blk off d) (hne : g ≠ blk) (t : Nat) (hT : Holds (Value.int .i64) w0 g 0 (cnt t)) (hC : Cnt w0 g s w) (ha : 1 ≤ a) (hb : a + 1 < d.size) (hsz : d.size < 4611686018427387904) (hs : s + 3 < 4611686018427387904) :
    Calls Tryd.prog 53 #[.slice (some ⟨blk, off, none⟩) len cap, .int .i64 a, .pointer (some ⟨g, 0, none⟩)] w fun e w' => e = .returned (.int .i64 (medianAdjacent ltInt d a s).1) ∧ Cnt w0 g (medianAdjacent ltInt d a s).2 w' := by
  have c1 := median_u d len hlen blk off cap (a - 1) a (a + 1) g s w0 w hH hne t hT hC (by omega) (by omega) hb hs
  have e1 : ((a - 1 : Nat) : Int) = (a : Int) - 1 := by omega
  have e2 : ((a + 1 : Nat) : Int) = (a : Int) + 1 := by omega
  rw [e1, e2] at c1
  have C1 := Aside0.mk c1
  clear c1 e1 e2 hH hT hC
  go_enter Tryd.func53, Tryd.ntmps53
  go_wp2_with fail
  refine C1.out.mono ?_
  rintro e w1 ⟨rfl, hk1⟩
  have K1 := Aside0.mk hk1
  clear hk1
  go_wp2_with fail
  go_ret
  exact ⟨rfl, K1.out⟩

/-! ### a pivot -/
theorem cnt_grow {w wr : World} {e s : Nat} (h : Cnt (w.alloc (.cells #[.int .i64 0] e)) w.heap.size s wr) : ∃ n os, wr = grow (Sort.ahead w n) os := by
  obtain ⟨n, rfl⟩ := h
  rw [alloc_eq_grow, ahead_grow]
  obtain ⟨os, _, h⟩ := putRow_grow_new (Value.int .i64) (Sort.ahead w n) #[.cells #[.int .i64 0] e] w.heap.size 0 (cnt s) (Nat.le_refl _)
  exact ⟨n, os, h⟩
theorem cnt_new (w : World) (e : Nat) : Holds (Value.int .i64) (w.alloc (.cells #[.int .i64 0] e)) w.heap.size 0 (cnt 0) := fun j hj => by
  obtain rfl : j = 0 := by simpa using hj
  simp

set_option maxHeartbeats 4000000 in
set_option maxRecDepth 100000 in
theorem pivot_u (blk off cap a b : Nat) (d : Array Int) (w : World) (hH : Holds encU w blk off d) (hblk : blk < w.heap.size) (hab : a < b) (hb : b ≤ d.size) (hsz : d.size < 4611686018427387904) :
    Calls Tryd.prog 42 #[.slice (some ⟨blk, off, none⟩) d.size cap, .int .i64 a, .int .i64 b] w fun e w' => e = .returned (.tuple #[.int .i64 (choosePivot ltInt d a b).1, .int .i64 (hintCode (choosePivot ltInt d a b).2)]) ∧ ∃ n os, w' = grow (Sort.ahead w n) os := by
  rw [choosePivot_eq]
  have hne : w.heap.size ≠ blk := by omega
  have hH1 : Holds encU (w.alloc (.cells #[.int .i64 0] 3)) blk off d := by rw [alloc_eq_grow]; exact holds_grow _ _ _ _ _ _ hblk hH
  have hT := cnt_new w 3
  obtain ⟨I, hI⟩ : ∃ I : Nat, I = a + (b - a) / 4 * 1 := ⟨_, rfl⟩
  obtain ⟨J, hJ⟩ : ∃ J : Nat, J = a + (b - a) / 4 * 2 := ⟨_, rfl⟩
  obtain ⟨K, hK⟩ : ∃ K : Nat, K = a + (b - a) / 4 * 3 := ⟨_, rfl⟩
  have eI : ((a : Int) + ((b : Int) - (a : Int)) / 4) = (I : Int) := by omega
  have eJ : ((a : Int) + ((b : Int) - (a : Int)) / 4 * 2) = (J : Int) := by omega
  have eK : ((a : Int) + ((b : Int) - (a : Int)) / 4 * 3) = (K : Int) := by omega
  obtain ⟨p, s, hps⟩ : ∃ p s, rawPivot ltInt d a b = (p, s) := ⟨_, _, rfl⟩
  rw [hps]
  have HPS := Aside0.mk hps
  have H1 := Aside0.mk hH1
  have HT := Aside0.mk hT
  have HIJ := Aside0.mk (And.intro hI (And.intro hJ hK))
  have HNE := Aside0.mk hne
  clear hps hH1 hT hI hJ hK hH hne
  go_enter Tryd.func42, Tryd.ntmps42
  go_upto_if 32 with fail
  clear eI eJ eK
  go_cut [11] from 13 (fun s11 wx => s11 = .int .i64 (p : Nat) ∧ Aside0 (Cnt (w.alloc (.cells #[.int .i64 0] 3)) w.heap.size s wx))
  case first =>
    by_cases h8 : b - a ≥ 8
    · have h8z : decide ((b : Int) - (a : Int) ≥ 8) = true := decide_eq_true (by omega)
      obtain ⟨hI, hJ, hK⟩ := HIJ.out
      by_cases h50 : b - a ≥ 50
      · have h50z : decide ((b : Int) - (a : Int) ≥ 50) = true := decide_eq_true (by omega)
        obtain ⟨r1, h1⟩ : ∃ r, r = medianAdjacent ltInt d I 0 := ⟨_, rfl⟩
        obtain ⟨r2, h2⟩ : ∃ r, r = medianAdjacent ltInt d J r1.2 := ⟨_, rfl⟩
        obtain ⟨r3, h3⟩ : ∃ r, r = medianAdjacent ltInt d K r2.2 := ⟨_, rfl⟩
        obtain ⟨r4, h4⟩ : ∃ r, r = median ltInt d r1.1 r2.1 r3.1 r3.2 := ⟨_, rfl⟩
        have hraw : rawPivot ltInt d a b = r4 := by simp only [rawPivot, if_pos h8, if_pos h50, ← hI, ← hJ, ← hK, ← h1, ← h2, ← h3, ← h4]
        have e4 : r4 = (p, s) := hraw.symm.trans HPS.out
        have m1 := medianAdjacent_mem ltInt d I 0
        have m2 := medianAdjacent_mem ltInt d J r1.2
        have m3 := medianAdjacent_mem ltInt d K r2.2
        have n1 := medianAdjacent_count ltInt d I 0
        have n2 := medianAdjacent_count ltInt d J r1.2
        have n3 := medianAdjacent_count ltInt d K r2.2
        rw [← h1] at m1 n1
        rw [← h2] at m2 n2
        rw [← h3] at m3 n3
        have c1 := medAdj_u d d.size rfl blk off cap I w.heap.size 0 _ _ H1.out HNE.out 0 HT.out (Cnt.refl HT.out) (by omega) (by omega) hsz (by omega)
        rw [← h1] at c1
        have c2 := fun w1 (hC : Cnt _ w.heap.size r1.2 w1) => medAdj_u d d.size rfl blk off cap J w.heap.size r1.2 _ w1 H1.out HNE.out 0 HT.out hC (by omega) (by omega) hsz (by omega)
        rw [← h2] at c2
        have c3 := fun w1 (hC : Cnt _ w.heap.size r2.2 w1) => medAdj_u d d.size rfl blk off cap K w.heap.size r2.2 _ w1 H1.out HNE.out 0 HT.out hC (by omega) (by omega) hsz (by omega)
        rw [← h3] at c3
        have c4 := fun w1 (hC : Cnt _ w.heap.size r3.2 w1) => median_u d d.size rfl blk off cap r1.1 r2.1 r3.1 w.heap.size r3.2 _ w1 H1.out HNE.out 0 HT.out hC (by omega) (by omega) (by omega) (by omega)
        rw [← h4, e4] at c4
        have C1 := Aside0.mk c1
        have C2 := Aside0.mk c2
        have C3 := Aside0.mk c3
        have C4 := Aside0.mk c4
        clear c1 c2 c3 c4 h1 h2 h3 h4 m1 m2 m3 n1 n2 n3 hraw e4 hI hJ hK
        obtain ⟨x1, s1⟩ := r1
        obtain ⟨x2, s2⟩ := r2
        obtain ⟨x3, s3⟩ := r3
        simp only [] at C1 C2 C3 C4
        go_wp2_with fail
        refine C1.out.mono ?_
        rintro e w1 ⟨rfl, hk1⟩
        have K1 := Aside0.mk hk1
        clear hk1
        go_wp2_with fail
        refine (C2.out _ K1.out).mono ?_
        rintro e w2 ⟨rfl, hk2⟩
        have K2 := Aside0.mk hk2
        clear hk2
        go_wp2_with fail
        refine (C3.out _ K2.out).mono ?_
        rintro e w3 ⟨rfl, hk3⟩
        have K3 := Aside0.mk hk3
        clear hk3
        go_wp2_with fail
        refine (C4.out _ K3.out).mono ?_
        rintro e w4 ⟨rfl, hk4⟩
        have K4 := Aside0.mk hk4
        clear hk4
        go_wp2_with fail
        go_meet
        case rel => exact ⟨rfl, K4⟩
      · have h50z : decide ((b : Int) - (a : Int) ≥ 50) = false := decide_eq_false (by omega)
        have c4 := median_u d d.size rfl blk off cap I J K w.heap.size 0 _ _ H1.out HNE.out 0 HT.out (Cnt.refl HT.out) (by omega) (by omega) (by omega) (by omega)
        have hraw : rawPivot ltInt d a b = median ltInt d I J K 0 := by simp only [rawPivot, if_pos h8, if_neg h50, ← hI, ← hJ, ← hK]
        rw [← hraw, HPS.out] at c4
        have C4 := Aside0.mk c4
        clear c4 hraw hI hJ hK
        go_wp2_with fail
        refine C4.out.mono ?_
        rintro e w4 ⟨rfl, hk4⟩
        have K4 := Aside0.mk hk4
        clear hk4
        go_wp2_with fail
        go_meet
        case rel => exact ⟨rfl, K4⟩
    · have h8z : decide ((b : Int) - (a : Int) ≥ 8) = false := decide_eq_false (by omega)
      have hraw : rawPivot ltInt d a b = (J, 0) := by simp only [rawPivot, if_neg h8, ← HIJ.out.2.1]
      have hp := hraw.symm.trans HPS.out
      injection hp with hp1 hp2
      subst hp1 hp2
      have K4 := Aside0.mk (Cnt.refl HT.out)
      clear hraw
      go_wp2_with fail
      go_meet
      case rel => exact ⟨rfl, K4⟩
  case rest =>
    obtain ⟨rfl, K4⟩ := hcut
    obtain ⟨cs, fs⟩ := cnt_cell (K4.out.holds HT.out)
    have HG := Aside0.mk (cnt_grow K4.out)
    clear K4
    by_cases h0 : s = 0
    · have e1 : hintCode (hintOf s) = 1 := by rw [h0]; rfl
      have E1 := Aside0.mk e1
      have hz : ((s : Int) == 0) = true := by simp [h0]
      clear e1
      clear h0
      go_wp2_with fail
      go_ret2
      rw [E1.out]
      exact ⟨rfl, HG.out⟩
    · have hz : ((s : Int) == 0) = false := by simp; omega
      by_cases h12 : s = 12
      · have e1 : hintCode (hintOf s) = 2 := by rw [h12]; rfl
        have E1 := Aside0.mk e1
        have hy : ((s : Int) == 12) = true := by simp [h12]
        clear e1
        clear h12
        go_wp2_with fail
        go_ret2
        rw [E1.out]
        exact ⟨rfl, HG.out⟩
      · have hy : ((s : Int) == 12) = false := by simp; omega
        have e1 : hintCode (hintOf s) = 0 := by unfold hintOf; rw [if_neg h0, if_neg h12]; rfl
        have E1 := Aside0.mk e1
        clear e1
        go_wp2_with fail
        go_ret2
        rw [E1.out]
        exact ⟨rfl, HG.out⟩
end Go.Proofs.YtgbhblbfodphfaaDoor.SortU
namespace Go.Proofs.YtgbhblbfodphfaaDoor.SortU
open Go.Sort Go.RowKit Go.Proofs.YtgbhblbfodphfaaDoorW.PrintWords
set_option linter.unusedVariables false

/-- The library's count of bits, in the two words for it. -/
theorem bits_len (x : Nat) (h : x < 2 ^ 64) : Lib.bitLen x = bitsLen x := by
  induction x using Nat.strongRecOn with
  | _ x ih =>
    by_cases h0 : x = 0
    · subst h0; rfl
    · rw [Lib.bitLen_half x h0 h, ih (x / 2) (by omega) (by omega)]
      unfold bitsLen
      rw [if_neg h0, Nat.log2_def x]
      by_cases h2 : 2 ≤ x
      · rw [if_pos h2, if_neg (by omega)]
        omega
      · obtain rfl : x = 1 := by omega
        simp
theorem len_u (n : Nat) (hn : n < 4611686018427387904) (w : World) : Calls Tryd.prog 38 #[.int .u64 (n : Int)] w fun e w' => e = .returned (.int .i64 (bitsLen n : Nat)) ∧ w' = w := by
  have h := Tryd.bits_Len (n : Int) w (by omega) (by omega)
  rwa [Int.toNat_natCast, bits_len _ (by omega)] at h
theorem pow_wrap (k : Nat) (hk : k ≤ 62) : IntKind.u64.wrap ((2 : Int) ^ k) = ((1 <<< k : Nat) : Int) := by
  have h : (2 : Nat) ^ k ≤ 2 ^ 62 := Nat.pow_le_pow_right (by decide) hk
  rw [IntKind.wrap_u64, Nat.one_shiftLeft, show ((2 : Int) ^ k) = ((2 ^ k : Nat) : Int) by push_cast; rfl]
  generalize (2 : Nat) ^ k = p at h
  omega
set_option maxHeartbeats 2000000 in
theorem nextPow_u (n : Nat) (hn : n < 4611686018427387904) (w : World) : Calls Tryd.prog 51 #[.int .i64 n] w fun e w' => e = .returned (.int .u64 ((1 <<< bitsLen n : Nat) : Int)) ∧ w' = w := by
  have hk : bitsLen n ≤ 62 := (bitsLen_le_iff n 62).2 (by omega)
  have hp := pow_wrap (bitsLen n) hk
  go_enter Tryd.func51, Tryd.ntmps51
  go_wp2_with (go_at_call 38; refine (len_u n hn _).mono ?_; rintro e w' ⟨rfl, rfl⟩)
  go_ret
  exact ⟨rfl, rfl⟩

theorem set_set (w : World) (blk off : Nat) (v v' : Value) : (w.setCell ⟨blk, off, none⟩ v).setCell ⟨blk, off, none⟩ v' = w.setCell ⟨blk, off, none⟩ v' := by
  rw [setCell_eq, setCell_eq, mapBlock_mapBlock, setCell_eq]
  congr 1
  funext c
  simp
set_option maxHeartbeats 4000000 in
set_option maxRecDepth 100000 in
theorem next_u (g X : Nat) (hX : X < 18446744073709551616) (w : World) (hc : w.cell? ⟨g, 0, none⟩ = some (.int .u64 X)) (hf : w.frozen? ⟨g, 0, none⟩ = false) :
    Calls Tryd.prog 52 #[.pointer (some ⟨g, 0, none⟩)] w fun e w' => e = .returned (.int .u64 (xorNextN X : Nat)) ∧ w' = (w.setCell ⟨g, 0, none⟩ (.int .u64 (xorNextN X : Nat))).drewN 3 := by
  obtain ⟨A, hA⟩ : ∃ A : Nat, A = X ^^^ (X * 8192 % 18446744073709551616) := ⟨_, rfl⟩
  obtain ⟨B, hB⟩ : ∃ B : Nat, B = A ^^^ (A / 128) := ⟨_, rfl⟩
  obtain ⟨C, hC⟩ : ∃ C : Nat, C = B ^^^ (B * 131072 % 18446744073709551616) := ⟨_, rfl⟩
  have lA : A < 18446744073709551616 := by rw [hA]; exact Nat.xor_lt_two_pow (n := 64) (by omega) (by omega)
  have lB : B < 18446744073709551616 := by rw [hB]; exact Nat.xor_lt_two_pow (n := 64) (by omega) (by omega)
  have e1 : bits .xor .u64 (X : Int) (IntKind.u64.wrap ((X : Int) * 8192)) = (A : Int) := by
    rw [IntKind.wrap_u64, show ((X : Int) * 8192 % 18446744073709551616) = ((X * 8192 % 18446744073709551616 : Nat) : Int) by omega, bits_xor_u64_nat _ _ hX (by omega), hA]
  have e2 : bits .xor .u64 (A : Int) ((A : Int) / 128) = (B : Int) := by
    rw [show ((A : Int) / 128) = ((A / 128 : Nat) : Int) by omega, bits_xor_u64_nat _ _ lA (by omega), hB]
  have e3 : bits .xor .u64 (B : Int) (IntKind.u64.wrap ((B : Int) * 131072)) = (C : Int) := by
    rw [IntKind.wrap_u64, show ((B : Int) * 131072 % 18446744073709551616) = ((B * 131072 % 18446744073709551616 : Nat) : Int) by omega, bits_xor_u64_nat _ _ lB (by omega), hC]
  have hv : xorNextN X = C := by unfold xorNextN; simp only []; rw [← hA, ← hB, ← hC]
  rw [hv]
  clear hA hB hC hv
  have hss : ∀ v v', (w.setCell ⟨g, 0, none⟩ v).setCell ⟨g, 0, none⟩ v' = w.setCell ⟨g, 0, none⟩ v' := set_set w g 0
  go_enter Tryd.func52, Tryd.ntmps52
  go_wp2
  go_region
  all_goals go_wp2
  all_goals go_region
  all_goals go_wp2
  all_goals go_region
  all_goals go_wp2
  go_ret
  exact ⟨rfl, rfl⟩

/-! ### the rounds that are left, and the world between them -/
section
variable {α : Type} [Inhabited α]
def brRest (a L M i0 : Nat) : Nat → Nat → UInt64 × Array α → Array α
  | 0, _, st => st.2
  | k + 1, t, st => brRest a L M i0 k (t + 1) (breakStep a L M st (i0 + t))
theorem br_open (d : Array α) (a L : Nat) (h8 : 8 ≤ L) : breakPatterns d a (a + L) = brRest a L (1 <<< bitsLen L) (a + L / 4 * 2 - 1) 3 0 (UInt64.ofNat L, d) := by
  unfold breakPatterns
  simp only [Nat.add_sub_cancel_left]
  rw [if_pos h8]
  rfl
theorem br_next {a L M i0 k t : Nat} {r : UInt64} {d : Array α} {o : Nat} (ho : (if (xorNext r).toNat &&& (M - 1) ≥ L then ((xorNext r).toNat &&& (M - 1)) - L else (xorNext r).toNat &&& (M - 1)) = o) :
    brRest a L M i0 (k + 1) t (r, d) = brRest a L M i0 k (t + 1) (xorNext r, swp d (i0 + t) (a + o)) := by
  rw [brRest]
  unfold breakStep
  simp only [ho]
end
/-- The world with the row's numbers laid anew, and one new block that holds a number. -/
def BrAt (w : World) (blk off : Nat) (d dk : Array Int) (e X : Nat) (wr : World) : Prop := dk.size = d.size ∧ ∃ n, wr = grow (putRow encU (Sort.ahead w n) blk off dk) #[Obj.cells #[.int .u64 (X : Int)] e]
section
variable {w wr : World} {blk off e X : Nat} {d dk : Array Int}
theorem BrAt.start (h : Holds encU w blk off d) (e X : Nat) : BrAt w blk off d d e X (w.alloc (.cells #[.int .u64 (X : Int)] e)) :=
  ⟨rfl, 0, by rw [show Sort.ahead w 0 = w from rfl, putRow_self encU w blk off d h, alloc_eq_grow]⟩
theorem BrAt.at_ (h : BrAt w blk off d dk e X wr) : At encU w blk off dk wr := by
  obtain ⟨_, n, rfl⟩ := h
  exact ⟨n, _, rfl⟩
theorem BrAt.own (h : BrAt w blk off d dk e X wr) : wr.cell? ⟨w.heap.size, 0, none⟩ = some (.int .u64 X) ∧ wr.frozen? ⟨w.heap.size, 0, none⟩ = false := by
  obtain ⟨_, n, rfl⟩ := h
  have hz : (putRow encU (Sort.ahead w n) blk off dk).heap.size = w.heap.size := by simp
  rw [← alloc_eq_grow]
  exact ⟨by rw [← hz, World.cell?_alloc_at _ _ _ _ rfl]; rfl, by rw [← hz, World.frozen?_alloc_at _ _ _ _ rfl]⟩
theorem BrAt.row (h : BrAt w blk off d dk e X wr) (h0 : Holds encU w blk off d) (hb : blk < w.heap.size) : Holds encU wr blk off dk := (h.at_.holds h0 h.1 hb).1
theorem BrAt.turn (h : BrAt w blk off d dk e X wr) (Y q : Nat) : BrAt w blk off d dk e Y ((wr.setCell ⟨w.heap.size, 0, none⟩ (.int .u64 (Y : Int))).drewN q) := by
  obtain ⟨hs, n, rfl⟩ := h
  refine ⟨hs, n + q, ?_⟩
  have hz : (putRow encU (Sort.ahead w n) blk off dk).heap.size = w.heap.size := by simp
  rw [← hz, setCell_eq, mapBlock_grow_new _ _ _ _ (Nat.le_refl _), ← ahead_ahead]
  simp [onCells]
  rfl
theorem BrAt.swap (h : BrAt w blk off d dk e X wr) (hb : blk < w.heap.size) {i j : Nat} (hi : i < d.size) (hj : j < d.size) {x y : Value} (hx : x = encU dk[j]!) (hy : y = encU dk[i]!) :
    BrAt w blk off d (swp dk i j) e X ((wr.setCell ⟨blk, off + i, none⟩ x).setCell ⟨blk, off + j, none⟩ y).drew := by
  obtain ⟨hs, n, rfl⟩ := h
  subst hx hy
  refine ⟨by rw [size_swp]; exact hs, n + 1, ?_⟩
  rw [← ahead_drew, ← putRow_drew, ← putRow_swp encU _ blk off dk i j (by omega) (by omega)]
  rw [setCell_eq, setCell_eq, mapBlock_grow _ _ _ _ (by simpa using hb), mapBlock_grow _ _ _ _ (by simpa [mapBlock] using hb), ← setCell_eq, ← setCell_eq]
  rfl
end

set_option maxHeartbeats 8000000 in
set_option maxRecDepth 100000 in
theorem break_go (blk off cap a L : Nat) (d : Array Int) (w : World) (hH : Holds encU w blk off d) (hblk : blk < w.heap.size) (hb : a + L ≤ d.size) (hsz : d.size < 4611686018427387904) (h8 : 8 ≤ L) :
    Calls Tryd.prog 41 #[.slice (some ⟨blk, off, none⟩) d.size cap, .int .i64 a, .int .i64 ((a + L : Nat) : Int)] w fun e w' => e = .returned (.tuple #[]) ∧ At encU w blk off (breakPatterns d a (a + L)) w' := by
  rw [br_open d a L h8]
  obtain ⟨M, hM⟩ : ∃ M : Nat, M = 1 <<< bitsLen L := ⟨_, rfl⟩
  have hM1 : 1 ≤ M := by rw [hM, Nat.one_shiftLeft]; exact Nat.two_pow_pos _
  have hM2 : M ≤ 2 * L := by rw [hM, Nat.one_shiftLeft]; exact two_pow_bitsLen_le (by omega)
  have hNP := fun w => nextPow_u L (by omega) w
  rw [← hM] at hNP ⊢
  have HNP := Aside0.mk hNP
  have HH := Aside0.mk hH
  have HST := Aside0.mk (BrAt.start hH 106 L)
  have HL := Aside0.mk (show ((UInt64.ofNat L).toNat = L) by simp; omega)
  clear hM hNP hH
  go_enter Tryd.func41, Tryd.ntmps41
  go_wp2_with (go_at_call 51; rw [show ((a : Int) + (L : Int) - (a : Int)) = (L : Int) by omega]; refine (HNP.out _).mono ?_; rintro e w' ⟨rfl, rfl⟩)
  generalize hW : w.alloc (Obj.cells #[.int .u64 (L : Int)] 106) = W1
  rw [hW] at HST
  clear hW
  go_loopg [9] 3 (fun k vi wr => ∃ (t : Nat) (r : UInt64) (dk : Array Int), vi = .int .i64 ((a + L / 4 * 2 - 1 + t : Nat) : Int) ∧ t + k = 3 ∧ Aside0 (BrAt w blk off d dk 106 r.toNat wr) ∧ Aside0 (brRest a L M (a + L / 4 * 2 - 1) k t (r, dk) = brRest a L M (a + L / 4 * 2 - 1) 3 0 (UInt64.ofNat L, d)))
  case atStart => exact ⟨0, UInt64.ofNat L, d, by congr 1; omega, by omega, ⟨by rw [HL.out]; exact HST.out⟩, ⟨rfl⟩⟩
  case round =>
    obtain ⟨t, r, dk, rfl, ht, HB, HE⟩ := hrel
    cases gk with
    | zero =>
      obtain rfl : t = 3 := by omega
      go_wp2_with fail
      go_end0
      exact ⟨rfl, by rw [← HE.out]; exact HB.out.at_⟩
    | succ k =>
      have ht3 : t < 3 := by omega
      obtain ⟨R, hR⟩ : ∃ R : Nat, R = r.toNat := ⟨_, rfl⟩
      have lR : R < 18446744073709551616 := by rw [hR]; exact r.toNat_lt
      obtain ⟨R', hR'⟩ : ∃ R' : Nat, R' = xorNextN R := ⟨_, rfl⟩
      have lR' : R' < 18446744073709551616 := by rw [hR']; exact xorNextN_lt R lR
      obtain ⟨O, hO⟩ : ∃ O : Nat, O = R' &&& (M - 1) := ⟨_, rfl⟩
      have lO : O ≤ M - 1 := by rw [hO]; exact Nat.and_le_right
      have eAnd : bits .and .u64 (R' : Int) ((M : Int) - 1) = (O : Int) := by
        rw [show ((M : Int) - 1) = ((M - 1 : Nat) : Int) by omega, bits_and_u64_nat _ _ lR' (by omega), hO]
      obtain ⟨o, ho⟩ : ∃ o, o = if O ≥ L then O - L else O := ⟨_, rfl⟩
      have lo : o < L := by rw [ho]; split <;> omega
      have HRX : Aside0 (R' = (xorNext r).toNat) := ⟨by rw [hR', hR, xorNext_toNat]⟩
      have HN := Aside0.mk (br_next (a := a) (L := L) (M := M) (i0 := a + L / 4 * 2 - 1) (k := k) (t := t) (r := r) (d := dk) (o := o) (by rw [← HRX.out, ← hO, ho]))
      rw [HE.out] at HN
      have hw := HB.out.own
      rw [← hR] at hw
      have hNext := next_u w.heap.size R lR wr hw.1 hw.2
      rw [← hR'] at hNext
      have HNX := Aside0.mk hNext
      have HO := Aside0.mk ho
      have HT := Aside0.mk (HB.out.turn R' 3)
      obtain ⟨G, hG⟩ : ∃ G : Nat → Int, ∀ t, G t = dk[t]! := ⟨fun t => dk[t]!, fun _ => rfl⟩
      have HG := Aside0.mk hG
      clear hw hNext hR hR' hO ho HE HB hG
      go_upto_if 43 with (go_at_call 52; refine HNX.out.mono ?_; rintro e w1 ⟨rfl, hw1⟩; rw [← hw1] at HT; clear hw1)
      go_cut [10] from 26 to 64 (fun s10 wx => s10 = .int .i64 (o : Nat) ∧ wx = w1)
      case first =>
        by_cases hLO : L ≤ O
        · have hz : decide ((O : Int) ≥ (L : Int)) = true := decide_eq_true (by omega)
          have HO2 : Aside0 (o = O - L) := ⟨by rw [HO.out, if_pos hLO]⟩
          go_wp2_with fail
          go_meet
          case rel => exact ⟨by rw [HO2.out]; congr 1; omega, rfl⟩
        · have hz : decide ((O : Int) ≥ (L : Int)) = false := decide_eq_false (by omega)
          have HO2 : Aside0 (o = O) := ⟨by rw [HO.out, if_neg hLO]⟩
          go_wp2_with fail
          go_meet
          case rel => exact ⟨by rw [HO2.out], rfl⟩
      case rest =>
        obtain ⟨rfl, rfl⟩ := hcut
        have hrow := HT.out.row HH.out hblk
        have hcw : ∀ t, t < d.size → wc.cell? ⟨blk, off + t, none⟩ = some (.int .u64 (G t)) := fun t ht => by rw [HG.out]; exact (hrow t (by have := HT.out.1; omega)).1
        have hfw : ∀ t, t < d.size → wc.frozen? ⟨blk, off + t, none⟩ = false := fun t ht => (hrow t (by have := HT.out.1; omega)).2
        have HS := Aside0.mk (HT.out.swap hblk (i := a + L / 4 * 2 - 1 + t) (j := a + o) (by omega) (by omega) rfl rfl)
        rw [← HG.out, ← HG.out] at HS
        clear hrow
        by_cases hEq : a + L / 4 * 2 - 1 + t = a + o
        all_goals
          go_wp2_with fail
          go_region
          (try rw [hEq] at HS)
          (generalize World.drew _ = w2 at HS ⊢)
          clear hcw hfw
          go_wp2_with fail
          go_roundg k
          case measure => omega
          case rel => exact ⟨t + 1, xorNext r, _, by congr 1 <;> omega, by omega, ⟨by rw [← HRX.out]; exact HS.out⟩, ⟨by have h := HN.out.symm; (try rw [hEq] at h); exact h⟩⟩
theorem break_u (blk off cap a b : Nat) (d : Array Int) (w : World) (hH : Holds encU w blk off d) (hblk : blk < w.heap.size) (hab : a ≤ b) (hb : b ≤ d.size) (hsz : d.size < 4611686018427387904) :
    Calls Tryd.prog 41 #[.slice (some ⟨blk, off, none⟩) d.size cap, .int .i64 a, .int .i64 b] w fun e w' => e = .returned (.tuple #[]) ∧ At encU w blk off (breakPatterns d a b) w' := by
  obtain ⟨L, rfl⟩ : ∃ L, b = a + L := ⟨b - a, by omega⟩
  by_cases h8 : 8 ≤ L
  · exact break_go blk off cap a L d w hH hblk hb hsz h8
  · have hv : breakPatterns d a (a + L) = d := by unfold breakPatterns; simp only [Nat.add_sub_cancel_left]; rw [if_neg h8]
    rw [hv]
    have HA := Aside0.mk (At.refl hH)
    clear hH hv
    go_enter Tryd.func41, Tryd.ntmps41
    go_wp2
    go_end0
    exact ⟨rfl, HA.out⟩
end Go.Proofs.YtgbhblbfodphfaaDoor.SortU
namespace Go.Proofs.YtgbhblbfodphfaaDoor.SortU
open Go.Sort Go.RowKit Go.Proofs.YtgbhblbfodphfaaDoorW.PrintWords
set_option linter.unusedVariables false

theorem hint_two {h : Hint} (e : hintCode h = 2) : h = .decreasing := by cases h <;> simp [hintCode] at e ⊢
theorem eighth_of {x y p q : Nat} (h1 : q ≤ p) (h2 : y ≤ x) : decide (((x : Int) - (y : Int)) / 8 ≤ (p : Int) - (q : Int)) = decide (p - q ≥ (x - y) / 8) :=
  decide_eq_decide.2 ⟨fun h => by omega, fun h => by omega⟩

set_option maxHeartbeats 16000000 in
set_option maxRecDepth 1000000 in
theorem pdq_u : ∀ (N blk off cap a b limit : Nat) (d : Array Int) (w : World), b - a < N → Holds encU w blk off d → blk < w.heap.size → a ≤ b → b ≤ d.size → d.size < 4611686018427387904 → limit < 4611686018427387904 → Sort.Below ltInt a b d →
    Calls Tryd.prog 37 #[.slice (some ⟨blk, off, none⟩) d.size cap, .int .i64 a, .int .i64 b, .int .i64 limit] w fun e w' => e = .returned (.tuple #[]) ∧ At encU w blk off (pdq ltInt d a b limit true true) w' := by
  intro N
  induction N with
  | zero => intro _ _ _ _ _ _ _ _ h; exact absurd h (Nat.not_lt_zero _)
  | succ N ih =>
    intro blk off cap a b limit d w hN hH hblk hab hb hsz hlimit hBel0
    go_enter Tryd.func37, Tryd.ntmps37
    go_wp2
    go_loopg [1, 2, 3, 8, 9] (b - a) (fun k s1 s2 s3 s8 s9 wr => ∃ (a' b' lim : Nat) (wb wp : Bool) (dk : Array Int), s1 = .int .i64 a' ∧ s2 = .int .i64 b' ∧ s3 = .int .i64 lim ∧ s8 = .bool wb ∧ s9 = .bool wp ∧
      a' ≤ b' ∧ b' ≤ d.size ∧ b' - a' ≤ k ∧ k ≤ b - a ∧ lim ≤ limit ∧ dk.size = d.size ∧ Sort.Below ltInt a' b' dk ∧ At encU w blk off dk wr ∧ pdq ltInt dk a' b' lim wb wp = pdq ltInt d a b limit true true)
    case atStart => exact ⟨a, b, limit, true, true, d, rfl, rfl, rfl, rfl, rfl, hab, hb, Nat.le_refl _, Nat.le_refl _, Nat.le_refl _, rfl, hBel0, At.refl hH, rfl⟩
    case round =>
      obtain ⟨a', b', lim, wb, wp, dk, rfl, rfl, rfl, rfl, rfl, hab', hb', hk, hkN, hlim, hds, hBel, hAt, heq⟩ := hrel
      obtain ⟨hHk, hblk'⟩ := hAt.holds hH hds hblk
      have A := Aside0.mk heq
      clear heq
      by_cases h12 : b' - a' ≤ 12
      · have h12z : (b' : Int) - (a' : Int) ≤ 12 := by omega
        have hc := insertion_u blk off cap a' b' dk wr hHk hab' (by omega) (by omega)
        rw [hds] at hc
        go_wp2_with (go_at_call 39; refine hc.mono ?_; rintro e w1 ⟨rfl, hw1⟩)
        (try simp only [Exit.inBlock, Exit.then]); refine bodyPost_ret (results_none rfl _ _ _) rfl ?_
        refine ⟨rfl, ?_⟩
        rw [← A.out, pdq_small h12]
        exact hAt.step hblk hw1.1 hw1.2
      · have h12z : ¬ ((b' : Int) - (a' : Int) ≤ 12) := by omega
        by_cases hl0 : lim = 0
        · subst hl0
          have hc := heap_u blk off cap a' b' dk wr hHk hab' (by omega) (by omega)
          rw [hds] at hc
          go_wp2_with (go_at_call 40; refine hc.mono ?_; rintro e w1 ⟨rfl, hw1⟩)
          (try simp only [Exit.inBlock, Exit.then]); refine bodyPost_ret (results_none rfl _ _ _) rfl ?_
          refine ⟨rfl, ?_⟩
          rw [← A.out, pdq_heap h12 rfl]
          exact hAt.step hblk hw1.1 hw1.2
        · have hl0z : ¬ ((lim : Int) = 0) := by omega
          obtain ⟨s1, B1, hc1, s2, B2, hpv, s3, B3⟩ := rd_facts (limit := lim) (wb := wb) (wp := wp) swo_ltInt partialInsertionSort_holds reverseRange_holds (show a' < b' by omega) (show b' ≤ dk.size by omega) hBel
          go_upto_if 35 with fail
          go_cut [3] from 19 (fun s3 wc => s3 = .int .i64 (Sort.rd ltInt dk a' b' lim wb wp).lim ∧ At encU w blk off (Sort.rd ltInt dk a' b' lim wb wp).d1 wc)
          case first =>
            cases wb
            · have hc := break_u blk off cap a' b' dk wr hHk hblk' hab' (by omega) (by omega)
              rw [hds] at hc
              go_wp2_with (go_at_call 41; refine hc.mono ?_; rintro e w1 ⟨rfl, hw1⟩)
              go_meet
              case rel =>
                refine ⟨?_, hAt.stepG hblk s1 hw1⟩
                show Value.int .i64 ((lim : Int) - 1) = Value.int .i64 ((lim - 1 : Nat) : Int)
                congr 1
                omega
            · go_wp2_with fail
              go_meet
              case rel => exact ⟨rfl, hAt⟩
          case rest =>
            obtain ⟨rfl, hAt1⟩ := hcut
            obtain ⟨hH1, hblk1⟩ := hAt1.holds hH (s1.trans hds) hblk
            have hc17 := pivot_u blk off cap a' b' (Sort.rd ltInt dk a' b' lim wb wp).d1 wc hH1 hblk1 (by omega) (by omega) (by omega)
            rw [s1, hds] at hc17
            have hc17' : Calls Tryd.prog 42 #[.slice (some ⟨blk, off, none⟩) d.size cap, .int .i64 a', .int .i64 b'] wc fun e w' => e = .returned (.tuple #[.int .i64 (Sort.rd ltInt dk a' b' lim wb wp).c.1, .int .i64 (hintCode (Sort.rd ltInt dk a' b' lim wb wp).c.2)]) ∧ ∃ n os, w' = grow (Sort.ahead wc n) os := hc17
            clear hc17
            go_upto_if 50 with (go_at_call 42; refine hc17'.mono ?_; rintro e w2 ⟨rfl, hw2⟩)
            have hAt2 : At encU w blk off (Sort.rd ltInt dk a' b' lim wb wp).d1 w2 := hAt1.same hH (s1.trans hds) hblk hw2
            obtain ⟨hH2, hblk2⟩ := hAt2.holds hH (s1.trans hds) hblk
            go_cut [11, 12] from 19 (fun s11 s12 wc => s11 = .int .i64 (Sort.rd ltInt dk a' b' lim wb wp).pivot ∧ s12 = .int .i64 (hintCode (Sort.rd ltInt dk a' b' lim wb wp).hint) ∧ At encU w blk off (Sort.rd ltInt dk a' b' lim wb wp).d2 wc)
            case first =>
              by_cases hh : (Sort.rd ltInt dk a' b' lim wb wp).c.2 = .decreasing
              · have hcode : hintCode (Sort.rd ltInt dk a' b' lim wb wp).c.2 = 2 := by rw [hh]; rfl
                obtain ⟨e2, epv, eht⟩ := rd_dec hh
                have hc18 := reverse_u blk off cap a' b' (Sort.rd ltInt dk a' b' lim wb wp).d1 w2 hH2 hab' (by omega) (by omega)
                rw [s1, hds] at hc18
                go_wp2_with (go_at_call 43; refine hc18.mono ?_; rintro e w3 ⟨rfl, hw3⟩)
                go_meet
                case rel =>
                  refine ⟨?_, by rw [eht]; rfl, by rw [e2]; exact hAt2.step hblk hw3.1 hw3.2⟩
                  rw [epv]
                  congr 1
                  omega
              · have hcode : ¬ (hintCode (Sort.rd ltInt dk a' b' lim wb wp).c.2 = 2) := fun h => hh (hint_two h)
                obtain ⟨e2, epv, eht⟩ := rd_not hh
                go_wp2_with fail
                go_meet
                case rel => exact ⟨by rw [epv], by rw [eht], by rw [e2]; exact hAt2⟩
            case rest =>
              obtain ⟨rfl, rfl, hAt3⟩ := hcut
              obtain ⟨hH3, hblk3⟩ := hAt3.holds hH (s2.trans hds) hblk
              go_upto_region 15 with fail
              go_cut [12, 68] from 19 (fun s12 s68 wx => s12 = .int .i64 (hintCode (Sort.rd ltInt dk a' b' lim wb wp).hint) ∧ s68 = .bool (wb && wp && decide ((Sort.rd ltInt dk a' b' lim wb wp).hint = .increasing)) ∧ wx = wc)
              case first =>
                cases wb <;> cases wp <;> cases hh3 : (Sort.rd ltInt dk a' b' lim _ _).hint <;>
                  (have hcode3 := congrArg hintCode hh3
                   simp only [hintCode] at hcode3
                   go_wp2_with fail
                   go_meet
                   exact ⟨by simp [hh3, hintCode], by simp [hh3, hintCode], rfl⟩)
              case rest =>
                obtain ⟨rfl, rfl, rfl⟩ := hcut
                go_upto_if 68 with fail
                go_cut [] from 19 (fun wx => (Sort.rd ltInt dk a' b' lim wb wp).pi.2 = false ∧ At encU w blk off (Sort.rd ltInt dk a' b' lim wb wp).pi.1 wx)
                case first =>
                  cases h68 : (wb && wp && decide ((Sort.rd ltInt dk a' b' lim wb wp).hint = .increasing))
                  · have epi := rd_pi_no h68
                    go_wp2_with fail
                    go_meet
                    case rel => exact ⟨by rw [epi], by rw [epi]; exact hAt3⟩
                  · have epi := rd_pi_yes h68
                    have hc19 := partIns_u blk off cap a' b' (Sort.rd ltInt dk a' b' lim wb wp).d2 wc hH3 (by omega) (by omega) (by omega)
                    rw [s2, hds, ← epi] at hc19
                    go_wp2_with (go_at_call 44; refine hc19.mono ?_; rintro e w4 ⟨rfl, hw4⟩)
                    all_goals first
                      | (have hp2 : (Sort.rd ltInt dk a' b' lim wb wp).pi.2 = false := by first | assumption | (rw [epi]; assumption)
                         go_meet
                         exact ⟨hp2, hAt3.step hblk hw4.1 hw4.2⟩)
                      | (have hp2 : (Sort.rd ltInt dk a' b' lim wb wp).pi.2 = true := by first | assumption | (rw [epi]; assumption)
                         (try simp only [Exit.inBlock, Exit.then]); refine bodyPost_ret (results_none rfl _ _ _) rfl ?_
                         refine ⟨rfl, ?_⟩
                         rw [← A.out, pdq_done h12 hl0 hp2]
                         exact hAt3.step hblk hw4.1 hw4.2)
                case rest =>
                  obtain ⟨hp2, hAt5⟩ := hcut
                  obtain ⟨hH5, hblk5⟩ := hAt5.holds hH (s3.trans hds) hblk
                  have hcw : ∀ t, t < d.size → wc.cell? ⟨blk, off + t, none⟩ = some (.int .u64 (Sort.rd ltInt dk a' b' lim wb wp).pi.1[t]!) := fun t ht => (hH5 t (by omega)).1
                  have hfw : ∀ t, t < d.size → wc.frozen? ⟨blk, off + t, none⟩ = false := fun t ht => (hH5 t (by omega)).2
                  go_upto_region 17 with fail
                  go_cut [87] from 19 (fun s87 wx => s87 = .bool (decide (a' > 0) && !ltInt (Sort.rd ltInt dk a' b' lim wb wp).pi.1[a' - 1]! (Sort.rd ltInt dk a' b' lim wb wp).pi.1[(Sort.rd ltInt dk a' b' lim wb wp).pivot]!) ∧ At encU w blk off (Sort.rd ltInt dk a' b' lim wb wp).pi.1 wx)
                  case first =>
                    rcases Nat.eq_zero_or_pos a' with ha0 | ha0
                    · have ha0z : decide ((a' : Int) > 0) = false := decide_eq_false (by omega)
                      go_big_quiet (first | (go_at_call 45; refine Calls.quiet_of_same (less_u _ _ _)))
                      go_wp2_with fail
                      go_meet
                      case rel => exact ⟨by simp [ha0], hAt5.ahead nq⟩
                    · have ha0z : (a' : Int) > 0 := by omega
                      go_big_quiet (first | (go_at_call 45; refine Calls.quiet_of_same (less_u _ _ _)))
                      go_wp2_with fail
                      go_meet
                      case rel => exact ⟨by simp [ha0], hAt5.ahead nq⟩
                  case rest =>
                    obtain ⟨rfl, hAt6⟩ := hcut
                    obtain ⟨hH6, hblk6⟩ := hAt6.holds hH (s3.trans hds) hblk
                    clear hcw hfw
                    cases h87 : (decide (a' > 0) && !ltInt (Sort.rd ltInt dk a' b' lim wb wp).pi.1[a' - 1]! (Sort.rd ltInt dk a' b' lim wb wp).pi.1[(Sort.rd ltInt dk a' b' lim wb wp).pivot]!)
                    · obtain ⟨mid, ap, d4, hx⟩ : ∃ mid ap d4, Sort.partition ltInt (Sort.rd ltInt dk a' b' lim wb wp).pi.1 a' b' (Sort.rd ltInt dk a' b' lim wb wp).pivot = (mid, ap, d4) := ⟨_, _, _, rfl⟩
                      obtain ⟨r1, r2, r3, r4, r5, r6, r7⟩ := round_part swo_ltInt (partition_holds _) hpv.1 hpv.2 (show b' ≤ (Sort.rd ltInt dk a' b' lim wb wp).pi.1.size by omega) B3 hx
                      have hc22 := partition_u blk off cap a' b' (Sort.rd ltInt dk a' b' lim wb wp).pivot (Sort.rd ltInt dk a' b' lim wb wp).pi.1 wc hH6 hpv.1 hpv.2 (by omega) (by omega)
                      rw [s3, hds, hx] at hc22
                      have X := Aside0.mk hx
                      clear hx
                      go_upto_if 113 with (go_at_call 47; refine hc22.mono ?_; rintro e w7 ⟨rfl, hw7⟩)
                      have hx := X.out
                      have hAt7 : At encU w blk off d4 w7 := hAt6.step hblk r3 hw7.2
                      obtain ⟨hH7, hblk7⟩ := hAt7.holds hH (r3.trans (s3.trans hds)) hblk
                      by_cases h4 : mid - a' < b' - mid
                      · have h4z : (mid : Int) - (a' : Int) < (b' : Int) - (mid : Int) := by omega
                        have hih := ih blk off cap a' mid (Sort.rd ltInt dk a' b' lim wb wp).lim d4 w7 (by omega) hH7 hblk7 (by omega) (by omega) (by omega) (Nat.lt_of_le_of_lt (Nat.le_trans rd_lim_le hlim) hlimit) r4
                        rw [r3, s3, hds] at hih
                        obtain ⟨pL, sL⟩ := pdq_sorts ltInt swo_ltInt d4 a' mid (Sort.rd ltInt dk a' b' lim wb wp).lim true true (by omega) (by omega) r4
                        go_wp2_with (go_at_call 37; refine hih.mono ?_; rintro e w8 ⟨rfl, hw8⟩)
                        go_roundg (b' - (mid + 1))
                        case measure => omega
                        case rel =>
                          refine ⟨mid + 1, b', (Sort.rd ltInt dk a' b' lim wb wp).lim, decide (mid - a' ≥ (b' - a') / 8), ap, pdq ltInt d4 a' mid (Sort.rd ltInt dk a' b' lim wb wp).lim true true, by simp, rfl, rfl, ?_, rfl, by omega, by omega, Nat.le_refl _, by omega, Nat.le_trans rd_lim_le hlim, by rw [pL.1, r3, s3, hds], (r6 _ pL sL).1, hAt7.stepG hblk pL.1 hw8, ?_⟩
                          · exact congrArg Value.bool (eighth_of (by omega) (by omega))
                          · rw [← A.out, pdq_left h12 hl0 hp2 h87 (by rw [hx]; exact ⟨r1, r2⟩) (by rw [hx]; exact h4), hx]
                      · have h4z : ¬ ((mid : Int) - (a' : Int) < (b' : Int) - (mid : Int)) := by omega
                        have hih := ih blk off cap (mid + 1) b' (Sort.rd ltInt dk a' b' lim wb wp).lim d4 w7 (by omega) hH7 hblk7 (by omega) (by omega) (by omega) (Nat.lt_of_le_of_lt (Nat.le_trans rd_lim_le hlim) hlimit) r5
                        rw [r3, s3, hds] at hih
                        obtain ⟨pL, sL⟩ := pdq_sorts ltInt swo_ltInt d4 (mid + 1) b' (Sort.rd ltInt dk a' b' lim wb wp).lim true true (by omega) (by omega) r5
                        go_wp2_with (go_at_call 37; refine hih.mono ?_; rintro e w8 ⟨rfl, hw8⟩)
                        go_roundg (mid - a')
                        case measure => omega
                        case rel =>
                          refine ⟨a', mid, (Sort.rd ltInt dk a' b' lim wb wp).lim, decide (b' - mid ≥ (b' - a') / 8), ap, pdq ltInt d4 (mid + 1) b' (Sort.rd ltInt dk a' b' lim wb wp).lim true true, rfl, rfl, rfl, ?_, rfl, by omega, by omega, Nat.le_refl _, by omega, Nat.le_trans rd_lim_le hlim, by rw [pL.1, r3, s3, hds], (r7 _ pL sL).1, hAt7.stepG hblk pL.1 hw8, ?_⟩
                          · exact congrArg Value.bool (eighth_of (by omega) (by omega))
                          · rw [← A.out, pdq_right h12 hl0 hp2 h87 (by rw [hx]; exact ⟨r1, r2⟩) (by rw [hx]; exact h4), hx]
                    · have h87' := h87
                      simp only [Bool.and_eq_true, decide_eq_true_eq, Bool.not_eq_true'] at h87'
                      obtain ⟨mid, d4, hx⟩ : ∃ mid d4, Sort.partitionEqual ltInt (Sort.rd ltInt dk a' b' lim wb wp).pi.1 a' b' (Sort.rd ltInt dk a' b' lim wb wp).pivot = (mid, d4) := ⟨_, _, rfl⟩
                      obtain ⟨r1, r2, r3, r4, _⟩ := round_eq swo_ltInt (partitionEqual_holds _) h87'.1 hpv.1 hpv.2 (show b' ≤ (Sort.rd ltInt dk a' b' lim wb wp).pi.1.size by omega) B3 h87'.2 hx
                      have hc21 := partEq_u blk off cap a' b' (Sort.rd ltInt dk a' b' lim wb wp).pivot (Sort.rd ltInt dk a' b' lim wb wp).pi.1 wc hH6 hpv.1 hpv.2 (by omega) (by omega)
                      rw [s3, hds, hx] at hc21
                      have X := Aside0.mk hx
                      clear hx
                      go_wp2_with (go_at_call 46; refine hc21.mono ?_; rintro e w7 ⟨rfl, hw7⟩)
                      go_roundg (b' - mid)
                      case measure => omega
                      case rel =>
                        have hx := X.out
                        exact ⟨mid, b', (Sort.rd ltInt dk a' b' lim wb wp).lim, wb, wp, d4, rfl, rfl, rfl, rfl, rfl, r2, hb', Nat.le_refl _, by omega, Nat.le_trans rd_lim_le hlim, by rw [r3, s3, hds], r4, hAt6.step hblk r3 hw7.2, by rw [← A.out, pdq_eq h12 hl0 hp2 h87 (by rw [hx]; exact ⟨r1, r2⟩), hx]⟩

set_option maxHeartbeats 2000000 in
set_option maxRecDepth 100000 in
/-- slices.Sort at numbers of 64 bits: the row's numbers, rising. -/
theorem sort_u (blk off cap : Nat) (zs : List Int) (w : World) (hH : Holds encU w blk off zs.toArray) (hblk : blk < w.heap.size) (hsz : zs.length < 4611686018427387904) :
    Calls Tryd.prog 34 #[.slice (some ⟨blk, off, none⟩) zs.length cap] w fun e w' => e = .returned (.tuple #[]) ∧ At encU w blk off (zs.mergeSort fun x y => decide (x ≤ y)).toArray w' := by
  have hk : bitsLen zs.length ≤ 62 := (bitsLen_le_iff zs.length 62).2 (by omega)
  have hp := pdq_u (zs.length + 1) blk off cap 0 zs.length (bitsLen zs.length) zs.toArray w (by omega) hH hblk (Nat.zero_le _) (by simp) (by simpa using hsz) (by omega) (Or.inl rfl)
  have he : pdq ltInt zs.toArray 0 zs.length (bitsLen zs.length) true true = (zs.mergeSort fun x y => decide (x ≤ y)).toArray := by
    have h := sortInt zs
    rw [← h]
    unfold Sort.sort
    simp
  rw [he] at hp
  have hp2 : Calls Tryd.prog 37 #[.slice (some ⟨blk, off, none⟩) zs.length cap, .int .i64 0, .int .i64 zs.length, .int .i64 (bitsLen zs.length : Nat)] w fun e w' => e = .returned (.tuple #[]) ∧ At encU w blk off (zs.mergeSort fun x y => decide (x ≤ y)).toArray w' := by simpa using hp
  have HP := Aside0.mk hp2
  clear hp hp2 he hH
  go_enter Tryd.func34, Tryd.ntmps34
  go_wp2_with (first
    | (go_at_call 38; refine (len_u zs.length hsz _).mono ?_; rintro e w' ⟨rfl, rfl⟩)
    | (go_at_call 37; refine HP.out.mono ?_; rintro e w' ⟨rfl, hw⟩))
  go_end0
  exact ⟨rfl, hw⟩
end Go.Proofs.YtgbhblbfodphfaaDoor.SortU
