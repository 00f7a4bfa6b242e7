/-
  The walk of the law VoteTwice of package psephoslaw05: its call answers true, and writes nothing that was there; of any configuration and any vote.
-/
import Derived.Test.YtegegnpjdpjgmaaQVx3
import Derived.Test.YtegegnpjdpjgmaaQVx10
import Derived.Test.YtegegnpjdpjgmaaQVx14
import Derived.Test.YtegegnpjdpjgmaaQVx16
import Derived.Test.YtegegnpjdpjgmaaVoteAwake
import Derived.Test.YtegegnpjdpjgmaaVotePureB
import Derived.Test.YtegegnpjdpjgmaaOwn
import Derived.Test.YtegegnpjdpjgmaaOpenStruct
import Derived.Deep.RegionHeld3
import Derived.Deep.DeepCutAuto
namespace Go.Proofs.Ytegegnpjdpjgmaa.QV
open Go.RowKit Go.Proofs.YtegegnpjdpjgmaaW.PrintWords Go.Proofs.YtegegnpjdpjgmaaW.PrintLast Go.Proofs.YtegegnpjdpjgmaaW.PrintMore Go.Proofs.Ytegegnpjdpjgmaa.Own
set_option linter.unusedVariables false
set_option linter.unusedSimpArgs false

/-! ### what the two turned votes are -/
theorem twice_bad (n : Nat) (slots s se te : Int) (W : List Int) (h : W.length ≠ 0) : ¬ Good n slots s se te (W ++ [rd W ((W.length : Int) - 1)]) := by
  intro hg
  have h1 := (hg.2.2.2.2.2 W.length (by simp)).2.2 (by omega)
  have e1 : rd (W ++ [rd W ((W.length : Int) - 1)]) ((W.length : Nat) : Int) = rd W ((W.length : Int) - 1) := by
    simp [rd, List.getD_eq_getElem?_getD]
  have e2 : rd (W ++ [rd W ((W.length : Int) - 1)]) ((W.length - 1 : Nat) : Int) = rd W ((W.length : Int) - 1) := by
    have : ((W.length : Int) - 1).toNat = W.length - 1 := by omega
    simp only [rd, List.getD_eq_getElem?_getD, this, Int.toNat_natCast]
    rw [List.getElem?_append_left (by omega)]
  rw [e1, e2] at h1
  omega
theorem back_bad (n : Nat) (slots s se te : Int) (W : List Int) (h : 2 ≤ W.length) (hw : W.Pairwise (· < ·)) : ¬ Good n slots s se te W.reverse := by
  intro hg
  have h1 := (hg.2.2.2.2.2 1 (by simp; omega)).2.2 (by omega)
  have e1 : rd W.reverse ((1 : Nat) : Int) = W[W.length - 2] := by
    simp only [rd, List.getD_eq_getElem?_getD, Int.toNat_natCast]
    rw [List.getElem?_reverse (by omega), List.getElem?_eq_getElem (by omega)]
    simp
    rfl
  have e2 : rd W.reverse ((1 - 1 : Nat) : Int) = W[W.length - 1] := by
    simp only [rd, List.getD_eq_getElem?_getD, Int.toNat_natCast]
    rw [List.getElem?_reverse (by omega), List.getElem?_eq_getElem (by omega)]
    simp
  rw [e1, e2] at h1
  have := List.pairwise_iff_getElem.1 hw (W.length - 2) (W.length - 1) (by omega) (by omega) (by omega)
  omega
theorem rev_next (W : List Int) (k : Nat) (h : k < W.length) : (W.drop (k + 1)).reverse ++ [rd W k] = (W.drop k).reverse := by
  rw [drop_rd W k h]
  simp

/-- A literal of one element is a row of the call's own. -/
theorem lit_one {α : Type} (d : Kd α) (e : Nat) (w : World) (base : Nat) (hb : base ≤ w.heap.size) (x : α) (cs : List Value) (ok : Nat → Prop) (hM : d.M w base (fun _ => False) x cs) (hok : ok w.heap.size) :
    d.R e (w.alloc (.cells cs.toArray e)) base ok (.slice (some ⟨w.heap.size, 0, none⟩) 1 1) [x] := by
  have hl := d.K_len (d.K_of_M hM)
  refine ⟨fun k hk => ?_, cs, ?_, ?_⟩
  · have : w.heap.size = k := by simpa [Value.ownBlock] using hk
    subst this
    exact hok
  · have h2 := World.ownsRow_lit (base := base) (e := e) (size := d.sz) w cs.toArray 1 hb (by simp [maxLen]) (by simp [hl])
    simpa using h2
  · have h3 : Reps (d.M (w.alloc (.cells cs.toArray e)) base (fun k => ok k ∧ some k ≠ (Value.slice (some ⟨w.heap.size, 0, none⟩) 1 1).ownBlock)) d.sz ([] ++ [x]) ([] ++ cs) :=
      Reps.snoc (Reps.none _ _) (d.M_mono (fun k hk => hk.elim) (Kd.M_below hM (below_alloc (Below.refl _ _) _))) hl
    simpa using h3

/-- A cell of another block stays where a cell is stored. -/
theorem cell_set {w : World} {a : Addr} {v : Value} (h : w.cell? a = some v) {b : Nat} (hne : a.block ≠ b) (i : Nat) (u : Value) : (w.setCell ⟨b, i, none⟩ u).cell? a = some v := by
  have e := Below.heap_setCell w ⟨b, i, none⟩ u a.block hne
  rw [← h]
  unfold World.cell?
  rw [e]
/-- What region 6 leaves: the vote, the vote with one validator twice. -/
structure TwiceAt (w5 wx : World) (f0 f1 f2 f3 f4 f5 : Int) (AW : Option Addr) (cW : Nat) (W : List Int) (v : Value) (wc : World) : Prop where
  x : wc.heap[w5.heap.size]? = some (.cells #[.int .i64 f0, .int .u64 f1, .int .i64 f2, .int .u64 f3, .int .i64 f4, .int .u64 f5, .slice AW W.length cW] 30 (0, 0))
  y : wc.heap[w5.heap.size + 1]? = some (.cells #[.int .i64 f0, .int .u64 f1, .int .i64 f2, .int .u64 f3, .int .i64 f4, .int .u64 f5, v] 30 (0, 0))
  row : Kd.R (Kd.int .i64) 3 wc wx.heap.size (fun _ => True) v (W ++ [rd W ((W.length : Int) - 1)])
  bel : Below w5.heap.size w5 wc

/-- What holds at the head of the loop that turns the validators round. -/
def LoopAt (w5 wc : World) (f0 f1 f2 f3 f4 f5 : Int) (AW : Option Addr) (cW : Nat) (W : List Int) (a8 : Option Addr) (c8 : Nat) (k : Nat) (wr : World) : Prop := ∃ v : Value,
  wr.heap[w5.heap.size]? = some (.cells #[.int .i64 f0, .int .u64 f1, .int .i64 f2, .int .u64 f3, .int .i64 f4, .int .u64 f5, .slice AW W.length cW] 30 (0, 0)) ∧
  wr.heap[w5.heap.size + 1]? = some (.cells #[.int .i64 f0, .int .u64 f1, .int .i64 f2, .int .u64 f3, .int .i64 f4, .int .u64 f5, .slice a8 (W.length + 1) c8] 30 (0, 0)) ∧
  wr.heap[wc.heap.size]? = some (.cells #[.int .i64 f0, .int .u64 f1, .int .i64 f2, .int .u64 f3, .int .i64 f4, .int .u64 f5, v] 30 (0, 0)) ∧
  Kd.R (Kd.int .i64) 3 wr w5.heap.size (fun b => b < wc.heap.size) (.slice a8 (W.length + 1) c8) (W ++ [rd W ((W.length : Int) - 1)]) ∧
  Kd.R (Kd.int .i64) 3 wr w5.heap.size (fun b => wc.heap.size < b) v (W.drop k).reverse ∧
  Below w5.heap.size w5 wr

/-- vote.Right at a slice of so many. -/
theorem right_at {k n0 n1 : Nat} {A0 A1 : Option Addr} {c0 c1 : Nat} {l0 l1 : List Int} {a1 a2 f0 f1 f2 f3 f4 f5 : Int} {r : Bool} {w : World} (h0 : l0.length = n0 ∧ l0.length ≤ c0 ∧ Kd.C (Kd.int .u64) w A0 l0.length l0) (h1 : l1.length = n1 ∧ l1.length ≤ c1 ∧ Kd.C (Kd.int .i64) w A1 l1.length l1) (h : vote_Right.f k l0 a1 a2 f0 f1 f2 f3 f4 f5 l1 = some r) :
    Calls Try.prog 11 #[.agg #[.slice A0 n0 c0, .int .i64 a1, .int .i64 a2], .agg #[.int .i64 f0, .int .u64 f1, .int .i64 f2, .int .u64 f3, .int .i64 f4, .int .u64 f5, .slice A1 n1 c1]] w fun e w' => e = .returned (.bool r) ∧ Below w.heap.size w w' := by
  obtain ⟨rfl, hc0, hC0⟩ := h0
  obtain ⟨rfl, hc1, hC1⟩ := h1
  exact vote_Right.calls k A0 c0 l0 a1 a2 f0 f1 f2 f3 f4 f5 A1 c1 l1 r w hC0 hc0 hC1 hc1 h
theorem row_arg {w : World} {base : Nat} {ok : Nat → Prop} {A : Option Addr} {n c : Nat} {xs : List Int} (h : Kd.R (Kd.int .i64) 3 w base ok (.slice A n c) xs) : xs.length = n ∧ xs.length ≤ c ∧ Kd.C (Kd.int .i64) w A xs.length xs := by
  obtain ⟨h1, h2, h3⟩ := Kd.R_reads' h
  subst h1
  exact ⟨rfl, h2, h3⟩
/-- All cells that the last statement reads. -/
theorem keep13 {w w' : World} {gm gx gy gb tm tv : Nat} {m0 m1 m2 x0 x1 x2 x3 x4 x5 x6 y0 y1 y2 y3 y4 y5 y6 b0 b1 b2 b3 b4 b5 b6 : Value} (hb : Below w.heap.size w w') (h1 : w.heap[gm]? = some (.cells #[m0, m1, m2] tm (0, 0))) (h2 : w.heap[gx]? = some (.cells #[x0, x1, x2, x3, x4, x5, x6] tv (0, 0))) (h3 : w.heap[gy]? = some (.cells #[y0, y1, y2, y3, y4, y5, y6] tv (0, 0))) (h4 : w.heap[gb]? = some (.cells #[b0, b1, b2, b3, b4, b5, b6] tv (0, 0))) :
    w'.cell? ⟨gm, 0, none⟩ = some m0 ∧ w'.cell? ⟨gm, 1, none⟩ = some m1 ∧ w'.cell? ⟨gm, 2, none⟩ = some m2 ∧ w'.cell? ⟨gx, 6, none⟩ = some x6 ∧
    w'.cell? ⟨gy, 0, none⟩ = some y0 ∧ w'.cell? ⟨gy, 1, none⟩ = some y1 ∧ w'.cell? ⟨gy, 2, none⟩ = some y2 ∧ w'.cell? ⟨gy, 3, none⟩ = some y3 ∧ w'.cell? ⟨gy, 4, none⟩ = some y4 ∧ w'.cell? ⟨gy, 5, none⟩ = some y5 ∧ w'.cell? ⟨gy, 6, none⟩ = some y6 ∧
    w'.cell? ⟨gb, 0, none⟩ = some b0 ∧ w'.cell? ⟨gb, 1, none⟩ = some b1 ∧ w'.cell? ⟨gb, 2, none⟩ = some b2 ∧ w'.cell? ⟨gb, 3, none⟩ = some b3 ∧ w'.cell? ⟨gb, 4, none⟩ = some b4 ∧ w'.cell? ⟨gb, 5, none⟩ = some b5 ∧ w'.cell? ⟨gb, 6, none⟩ = some b6 := by
  have h1' := blk_below h1 hb
  have h2' := blk_below h2 hb
  have h3' := blk_below h3 hb
  have h4' := blk_below h4 hb
  exact ⟨blk_cell h1' 0, blk_cell h1' 1, blk_cell h1' 2, blk_cell h2' 6, blk_cell h3' 0, blk_cell h3' 1, blk_cell h3' 2, blk_cell h3' 3, blk_cell h3' 4, blk_cell h3' 5, blk_cell h3' 6, blk_cell h4' 0, blk_cell h4' 1, blk_cell h4' 2, blk_cell h4' 3, blk_cell h4' 4, blk_cell h4' 5, blk_cell h4' 6⟩

set_option maxHeartbeats 8000000 in
set_option maxRecDepth 100000 in
theorem voteTwice_law (A0 : Option Addr) (c0 : Nat) (bal : List Int) (sl bo s h se sr te tr : Int) (A1 : Option Addr) (c1 : Nat) (who : List Int) (w : World)
    (h0 : Kd.C (Kd.int .u64) w A0 bal.length bal) (hc0 : bal.length ≤ c0) (hn0 : bal.length ≤ 17592186043904) (hb : -9223372036854775808 ≤ bo ∧ bo ≤ 9223372036854775807)
    (h1 : Kd.C (Kd.int .i64) w A1 who.length who) (hc1 : who.length ≤ c1) (hn1 : who.length ≤ 17592186043904) (hs : -9223372036854775808 ≤ s ∧ s ≤ 9223372036854775807) (he : -9223372036854775808 ≤ se ∧ se ≤ 9223372036854775807) :
    Calls Try.prog 5 #[.agg #[.slice A0 bal.length c0, .int .i64 sl, .int .i64 bo], .agg #[.int .i64 s, .int .u64 h, .int .i64 se, .int .u64 sr, .int .i64 te, .int .u64 tr, .slice A1 who.length c1]] w fun x w' => x = .returned (.bool true) ∧ Below w.heap.size w w' := by
  have hml := mkBal_len bal
  obtain ⟨ka, hka⟩ := awake_f.rounds
  obtain ⟨k3, hk3⟩ := (make3_f bal sl bo hn0 hb.1 hb.2).rounds
  obtain ⟨k5, hk5⟩ := (make5_f (mkBal bal) who (mkSlots sl) (mkBoost bo) s h se sr te tr hml.2 (by omega) hs.1 hs.2 he.1 he.2).rounds
  have HKA := Aside0.mk hka
  have HK3 := Aside0.mk hk3
  have HK5 := Aside0.mk hk5
  have H0 := Aside0.mk h0
  have H1 := Aside0.mk h1
  have HG := Aside0.mk (made_good (mkBal bal).length hml.1 (mkSlots sl) s se who)
  have HWL := Aside0.mk (mkWho_len (mkBal bal).length hml.1 who)
  have HWR := Aside0.mk (mkWho_rises (mkBal bal).length who)
  have hat := mkAt_in s
  obtain ⟨W, hW⟩ : ∃ W, mkWho (mkBal bal).length who = W := ⟨_, rfl⟩
  rw [hW] at HK5 HG HWL HWR
  have HML := Aside0.mk hml
  clear hka hk3 hk5 h0 h1 hs he hb hW hml
  go_enter Try.func5, Try.ntmps5
  go_wp2_with (first
    | (go_at_call 9; refine (psephoslaw05_awake.calls ka _ _ HKA.out).mono ?_; rintro x w1 ⟨rfl, hb⟩; have HB1 := Aside0.mk (below_then (below_alloc (below_alloc (Below.refl w.heap.size w) _) _) (by simp; omega) hb); have BK0 : Aside0 (w1.heap[w.heap.size]? = some (.cells #[.slice A0 bal.length c0, .int .i64 sl, .int .i64 bo] 24 (0, 0))) := ⟨blk_below (blk_alloc (heap_alloc_new w _) _) hb⟩; have BK1 : Aside0 (w1.heap[w.heap.size + 1]? = some (.cells #[.int .i64 s, .int .u64 h, .int .i64 se, .int .u64 sr, .int .i64 te, .int .u64 tr, .slice A1 who.length c1] 30 (0, 0))) := ⟨blk_below (by have h := heap_alloc_new (w.alloc (.cells #[.slice A0 bal.length c0, .int .i64 sl, .int .i64 bo] 24)) (.cells #[.int .i64 s, .int .u64 h, .int .i64 se, .int .u64 sr, .int .i64 te, .int .u64 tr, .slice A1 who.length c1] 30); simpa using h) hb⟩; have hcg0 := blk_cell BK0.out; have hcg1 := blk_cell BK1.out; clear hb)
    | (go_at_call 10; refine (psephoslaw03_Make.calls k3 A0 c0 bal sl bo _ _ _ _ (Kd.C_below H0.out HB1.out) hc0 HK3.out).mono ?_; rintro x w2 ⟨v0, rfl, hR, hb⟩; have HB2 := Aside0.mk (below_then HB1.out HB1.out.size hb); obtain ⟨AX, cX, rfl, hcx, hC⟩ := Kd.R_reads hR; have HX := Aside0.mk (Kd.C_below hC (below_alloc (Below.refl _ _) (.cells #[.slice AX (mkBal bal).length cX, .int .i64 (mkSlots sl), .int .i64 (mkBoost bo)] 24 (0, 0)))); have HCX := Aside0.mk hcx; have BK1' := Aside0.mk (blk_alloc (blk_below BK1.out hb) (.cells #[.slice AX (mkBal bal).length cX, .int .i64 (mkSlots sl), .int .i64 (mkBoost bo)] 24 (0, 0))); have hcg1' := blk_cell BK1'.out; have BK5 := Aside0.mk (heap_alloc_new w2 (.cells #[.slice AX (mkBal bal).length cX, .int .i64 (mkSlots sl), .int .i64 (mkBoost bo)] 24 (0, 0))); have HB2' := Aside0.mk (below_alloc HB2.out (.cells #[.slice AX (mkBal bal).length cX, .int .i64 (mkSlots sl), .int .i64 (mkBoost bo)] 24 (0, 0))); clear hb hR hC hcx hcg0 hcg1)
    | (go_at_call 12; refine (psephoslaw05_Make.calls k5 AX cX (mkBal bal) (mkSlots sl) (mkBoost bo) s h se sr te tr A1 c1 who _ _ _ _ _ _ _ _ HX.out HCX.out (Kd.C_below H1.out HB2'.out) hc1 HK5.out).mono ?_; rintro x w5 ⟨v6, rfl, hR, hb⟩; obtain ⟨AW, cW, rfl, hcw, hC⟩ := Kd.R_reads hR; have HW := Aside0.mk hC; have HCW := Aside0.mk hcw; have HX5 := Aside0.mk (Kd.C_below HX.out hb); have BM := Aside0.mk (blk_below BK5.out hb); have HB5 := Aside0.mk (below_then HB2'.out HB2'.out.size hb); clear hb hR hC hcw hcg1'))
  obtain ⟨wx, hwx⟩ : ∃ wx, wx = (w5.alloc (.cells #[.int .i64 (mkAt s), .int .u64 (Int.tmod h 8), .int .i64 (mkSe (mkSlots sl) s se), .int .u64 (Int.tmod sr 8), .int .i64 (mkTe (mkSlots sl) s), .int .u64 (Int.tmod tr 8), .slice AW W.length cW] 30)).alloc (.cells #[.int .i64 (mkAt s), .int .u64 (Int.tmod h 8), .int .i64 (mkSe (mkSlots sl) s se), .int .u64 (Int.tmod sr 8), .int .i64 (mkTe (mkSlots sl) s), .int .u64 (Int.tmod tr 8), .slice AW W.length cW] 30) := ⟨_, rfl⟩
  have BK6 : Aside0 (wx.heap[w5.heap.size]? = some (.cells #[.int .i64 (mkAt s), .int .u64 (Int.tmod h 8), .int .i64 (mkSe (mkSlots sl) s se), .int .u64 (Int.tmod sr 8), .int .i64 (mkTe (mkSlots sl) s), .int .u64 (Int.tmod tr 8), .slice AW W.length cW] 30 (0, 0))) := ⟨by rw [hwx]; exact blk_alloc (heap_alloc_new w5 _) _⟩
  have BK7 : Aside0 (wx.heap[w5.heap.size + 1]? = some (.cells #[.int .i64 (mkAt s), .int .u64 (Int.tmod h 8), .int .i64 (mkSe (mkSlots sl) s se), .int .u64 (Int.tmod sr 8), .int .i64 (mkTe (mkSlots sl) s), .int .u64 (Int.tmod tr 8), .slice AW W.length cW] 30 (0, 0))) := ⟨by rw [hwx]; have h := heap_alloc_new (w5.alloc (.cells #[.int .i64 (mkAt s), .int .u64 (Int.tmod h 8), .int .i64 (mkSe (mkSlots sl) s se), .int .u64 (Int.tmod sr 8), .int .i64 (mkTe (mkSlots sl) s), .int .u64 (Int.tmod tr 8), .slice AW W.length cW] 30)) (.cells #[.int .i64 (mkAt s), .int .u64 (Int.tmod h 8), .int .i64 (mkSe (mkSlots sl) s se), .int .u64 (Int.tmod sr 8), .int .i64 (mkTe (mkSlots sl) s), .int .u64 (Int.tmod tr 8), .slice AW W.length cW] 30); simpa using h⟩
  have HBX : Aside0 (Below w5.heap.size w5 wx) := ⟨by rw [hwx]; exact below_alloc (below_alloc (Below.refl _ _) _) _⟩
  have HSX : Aside0 (wx.heap.size = w5.heap.size + 2) := ⟨by rw [hwx]; simp⟩
  rw [← hwx]
  clear hwx
  have hL0 : 0 < W.length := by have := HWL.out.1; omega
  have hL1 : W.length ≤ 4096 := by have := HWL.out.2; have := HML.out.2; omega
  have HCWx := Aside0.mk (Kd.C_below HW.out HBX.out)
  obtain ⟨aw, rfl, haw⟩ := Kd.at_int HW.out ((W.length : Int) - 1) (by omega) (by omega)
  rw [show ((W.length : Int) - 1).toNat = W.length - 1 by omega] at haw
  have HAW := Aside0.mk (World.block_lt_of_cell? w5 _ haw)
  have HEL := Aside0.mk (pw_cell_below HBX.out haw)
  clear haw
  have hq6 := blk_cell BK6.out 6
  have hq0 : wx.cell? ⟨w5.heap.size, 6, none⟩ = some (.slice (some aw) W.length cW) := hq6
  clear hq6
  have e0 : IntKind.i64.wrap ((W.length : Int) - 1) = (W.length : Int) - 1 := IntWalk.i64_in _ (by omega)
  have e1 : (0 : Int) ≤ (W.length : Int) - 1 := by omega
  have e2 : (W.length : Int) - 1 < (W.length : Int) := by omega
  have e3 : (1 : Int) ≤ (W.length : Int) := by omega
  have e4 : ((W.length : Int) - 1).toNat = W.length - 1 := by omega
  have e5 : 1 ≤ W.length := hL0
  go_upto_region 6 with fail
  go_cut [4] (fun v wc => v = .bool false ∧ Aside0 (∃ v8, TwiceAt w5 wx (mkAt s) (Int.tmod h 8) (mkSe (mkSlots sl) s se) (Int.tmod sr 8) (mkTe (mkSlots sl) s) (Int.tmod tr 8) (some aw) cW W v8 wc))
  case first =>
    go_region_held3 (fun w' => w'.cell? ⟨w5.heap.size, 6, none⟩ = some (.slice (some aw) W.length cW) ∧ w'.cell? (aw.add (W.length - 1)) = some (.int .i64 (rd W ((W.length : Int) - 1))))
      (first | exact ⟨pw_cell_below HB8.out hq0, pw_cell_below HB8.out HEL.out⟩ | exact ⟨pw_cell_below HB7.out hq0, pw_cell_below HB7.out HEL.out⟩ | exact ⟨pw_cell_below (below_alloc HB7.out _) hq0, pw_cell_below (below_alloc HB7.out _) HEL.out⟩ | exact ⟨hq0, HEL.out⟩ | exact ⟨pw_cell_below (below_alloc (Below.refl _ _) _) hq0, pw_cell_below (below_alloc (Below.refl _ _) _) HEL.out⟩ | exact ⟨cell_set (pw_cell_below HB8.out hq0) (Nat.ne_of_lt (Nat.lt_succ_self _)) _ _, cell_set (pw_cell_below HB8.out HEL.out) (Nat.ne_of_lt (Nat.lt_succ_of_lt HAW.out)) _ _⟩)
      (first
        | ((refine Kd.R_append_rows_step (Kd.int .i64) (Rr := fun x cs => cs = [Value.int .i64 x]) (w0 := wx) wx.heap.size (by rfl) (.tmp 20) (.tmp 29) 28 3 (.int .i64 0) 8 (by rfl) Try.underlying28 (by kernel_rfl) rfl (by decide) (by omega) v7 W [rd W ((W.length : Int) - 1)] (some ⟨wx.heap.size, 0, none⟩) 1 1 (fun _ => True) (fun _ => False) (by rfl) (by rfl) R7.out (Kd.R_reads' RL7.out).2.2 (fun _ _ h => h) (fun _ hk => hk.elim) (fun _ _ => trivial) HB7.out HB7.out.size (by omega) ?_); intro v8 w8 ho hb hg hat8; obtain ⟨a8, c8, hv8⟩ := Kd.R_slice ho; rw [show (W ++ [rd W ((W.length : Int) - 1)]).length = W.length + 1 from by simp] at hv8; subst hv8; have R8 := Aside0.mk ho; have HB8 := Aside0.mk hb; have BK78 := Aside0.mk (blk_below BK7.out hb); have hc7 := blk_cell BK78.out; have hf7 := blk_frozen BK78.out; clear ho hb hg hat8)
        | ((refine Kd.R_append_step (Kd.int .i64) (w0 := wx) wx.heap.size (by rfl) (.tmp 20) (.tmp 29) 28 3 (.int .i64 0) 8 (by rfl) Try.underlying28 (by kernel_rfl) rfl (by decide) (by omega) v7 W (rd W ((W.length : Int) - 1)) [.int .i64 (rd W ((W.length : Int) - 1))] (fun _ => True) (fun _ => False) (by rfl) (by rfl) rfl (fun _ hk => hk.elim) (fun _ _ => trivial) R7.out HB7.out HB7.out.size (by omega) ?_); intro v8 w8 ho hb hg hat8; obtain ⟨a8, c8, hv8⟩ := Kd.R_slice ho; rw [show (W ++ [rd W ((W.length : Int) - 1)]).length = W.length + 1 from by simp] at hv8; subst hv8; have R8 := Aside0.mk ho; have HB8 := Aside0.mk hb; have BK78 := Aside0.mk (blk_below BK7.out hb); have hc7 := blk_cell BK78.out; have hf7 := blk_frozen BK78.out; clear ho hb hg hat8)
        | ((refine Kd.R_append_rows_step (Kd.int .i64) (Rr := fun x cs => cs = [Value.int .i64 x]) (w0 := wx) wx.heap.size (by rfl) (.const (.slice none 0 0)) (.tmp 19) 28 3 (.int .i64 0) 8 (by rfl) Try.underlying28 (by kernel_rfl) rfl (by decide) (by omega) (.slice none 0 0) [] W (some aw) W.length cW (fun _ => True) (fun _ => False) (by rfl) (by rfl) (Kd.R_nil _ _ _ _ _) (Kd.C_below HCWx.out (by with_reducible repeat (first | exact Below.refl _ _ | apply below_drew | apply below_alloc))) (fun _ _ h => h) (fun _ hk => hk.elim) (fun _ _ => trivial) (by with_reducible repeat (first | exact Below.refl _ _ | apply below_drew | apply below_alloc)) (by simp) (by simp; omega) ?_); intro v7 w7 ho hb hg hat7; rw [List.nil_append] at ho; have R7 := Aside0.mk ho; have HB7 := Aside0.mk hb; (try (have RL7 := Aside0.mk (Kd.R_grown (lit_one (Kd.int .i64) 3 wx.drew wx.heap.size (Nat.le_refl _) (rd W ((W.length : Int) - 1)) [.int .i64 (rd W ((W.length : Int) - 1))] (fun _ => True) rfl trivial) hg (fun k _ e => by cases e)))); clear ho hb hg hat7))
    all_goals
      go_wp2_with fail
      go_meet
      exact ⟨rfl, ⟨_, ⟨blk_far (blk_below BK6.out HB8.out) (Nat.ne_of_lt (Nat.lt_succ_self _)) _, blk_put BK78.out 6 _ rfl, Kd.R_set R8.out BK78.out (by decide) 6 _, below_set (below_then HBX.out HBX.out.size HB8.out) (Nat.le_succ _)⟩⟩⟩
  case rest =>
    obtain ⟨rfl, H6⟩ := hcut
    obtain ⟨v8, T6⟩ := H6.out
    have T6 := Aside0.mk T6
    clear H6 hq0
    obtain ⟨a8, c8, hv8⟩ := Kd.R_slice T6.out.row
    rw [show (W ++ [rd W ((W.length : Int) - 1)]).length = W.length + 1 from by simp] at hv8
    subst hv8
    have hcx6 := blk_cell T6.out.x
    have hlx6 := blk_lt T6.out.x
    have HNE : Aside0 (w5.heap.size + 1 ≠ wc.heap.size) := ⟨Nat.ne_of_lt (blk_lt T6.out.y)⟩
    go_wp2_with fail
    obtain ⟨wl, hwl⟩ : ∃ wl, wl = wc.alloc (.cells #[.int .i64 (mkAt s), .int .u64 (Int.tmod h 8), .int .i64 (mkSe (mkSlots sl) s se), .int .u64 (Int.tmod sr 8), .int .i64 (mkTe (mkSlots sl) s), .int .u64 (Int.tmod tr 8), .slice none 0 0] 30) := ⟨_, rfl⟩
    have HWL2 : Aside0 (LoopAt w5 wc (mkAt s) (Int.tmod h 8) (mkSe (mkSlots sl) s se) (Int.tmod sr 8) (mkTe (mkSlots sl) s) (Int.tmod tr 8) (some aw) cW W a8 c8 W.length wl) := ⟨⟨.slice none 0 0, by rw [hwl]; exact blk_alloc T6.out.x _, by rw [hwl]; exact blk_alloc T6.out.y _, by rw [hwl]; exact heap_alloc_new _ _, by rw [hwl]; exact Kd.R_mono (Kd.R_below (Kd.R_bound (Kd.R_lower T6.out.row (show w5.heap.size ≤ wx.heap.size by rw [HSX.out]; omega))) (below_alloc (Below.refl _ _) _)) (fun k hk => hk.2.2.1), by rw [hwl, List.drop_length]; exact Kd.R_nil _ _ _ _ _, by rw [hwl]; exact below_alloc T6.out.bel _⟩⟩
    rw [← hwl]
    clear hwl
    go_loopw [9] (fun c wr => ∃ k : Nat, k ≤ W.length ∧ c = .int .i64 ((k : Int) - 1) ∧ Aside0 (LoopAt w5 wc (mkAt s) (Int.tmod h 8) (mkSe (mkSlots sl) s se) (Int.tmod sr 8) (mkTe (mkSlots sl) s) (Int.tmod tr 8) (some aw) cW W a8 c8 k wr)) (fun c _ => (intOf c + 1).toNat)
    case atStart => exact ⟨W.length, Nat.le_refl _, rfl, HWL2⟩
    case round =>
      obtain ⟨k, hk, rfl, HLA⟩ := hrel
      obtain ⟨v, b6, b7, b8, rt, rb, hbl⟩ := HLA.out
      have B6 := Aside0.mk b6
      have B7 := Aside0.mk b7
      have B8 := Aside0.mk b8
      have RT := Aside0.mk rt
      have RB := Aside0.mk rb
      have HBL := Aside0.mk hbl
      have hl8 := blk_lt b8
      clear b6 b7 b8 rt rb hbl HLA
      cases k with
      | zero =>
        have t0 : decide ((((0 : Nat) : Int) - 1) ≥ 0) = false := by decide
        rw [show (((0 : Nat) : Int) - 1) = -1 by rfl]
        rw [List.drop_zero] at RB
        obtain ⟨av, cv, hv⟩ := Kd.R_slice RB.out
        rw [show W.reverse.length = W.length from by simp] at hv
        subst hv
        obtain ⟨kt, hkt⟩ := (right_false (W ++ [rd W ((W.length : Int) - 1)]) (mkBal bal) (mkSlots sl) (mkBoost bo) (mkAt s) (Int.tmod h 8) (mkSe (mkSlots sl) s se) (Int.tmod sr 8) (mkTe (mkSlots sl) s) (Int.tmod tr 8) (by simp; omega) (by omega) (twice_bad _ _ _ _ _ W (by omega))).rounds
        have HKT := Aside0.mk hkt
        have HX2 := Aside0.mk (Kd.C_below HX5.out HBL.out)
        have BM2 := Aside0.mk (blk_below BM.out HBL.out)
        clear hkt
        by_cases hone : W.length = 1
        · have t1 : ((W.length : Int) == 1) = true := by simp; omega
          have hrev : W.reverse = W := by
            match W, hone with
            | [x], _ => rfl
          obtain ⟨kb, hkb⟩ := (right_true W (mkBal bal) (mkSlots sl) (mkBoost bo) (mkAt s) (Int.tmod h 8) (mkSe (mkSlots sl) s se) (Int.tmod sr 8) (mkTe (mkSlots sl) s) (Int.tmod tr 8) (by omega) (by omega) HG.out).rounds
          rw [hrev] at RB
          have HKB := Aside0.mk hkb
          clear hkb hrev hone
          go_wp2_with fail
          go_region_held3 (fun w' => w'.cell? ⟨w2.heap.size, 0, none⟩ = some (.slice AX (mkBal bal).length cX) ∧ w'.cell? ⟨w2.heap.size, 1, none⟩ = some (.int .i64 (mkSlots sl)) ∧ w'.cell? ⟨w2.heap.size, 2, none⟩ = some (.int .i64 (mkBoost bo)) ∧ w'.cell? ⟨w5.heap.size, 6, none⟩ = some (.slice (some aw) W.length cW) ∧ w'.cell? ⟨w5.heap.size + 1, 0, none⟩ = some (.int .i64 (mkAt s)) ∧ w'.cell? ⟨w5.heap.size + 1, 1, none⟩ = some (.int .u64 (Int.tmod h 8)) ∧ w'.cell? ⟨w5.heap.size + 1, 2, none⟩ = some (.int .i64 (mkSe (mkSlots sl) s se)) ∧ w'.cell? ⟨w5.heap.size + 1, 3, none⟩ = some (.int .u64 (Int.tmod sr 8)) ∧ w'.cell? ⟨w5.heap.size + 1, 4, none⟩ = some (.int .i64 (mkTe (mkSlots sl) s)) ∧ w'.cell? ⟨w5.heap.size + 1, 5, none⟩ = some (.int .u64 (Int.tmod tr 8)) ∧ w'.cell? ⟨w5.heap.size + 1, 6, none⟩ = some (.slice a8 (W.length + 1) c8) ∧ w'.cell? ⟨wc.heap.size, 0, none⟩ = some (.int .i64 (mkAt s)) ∧ w'.cell? ⟨wc.heap.size, 1, none⟩ = some (.int .u64 (Int.tmod h 8)) ∧ w'.cell? ⟨wc.heap.size, 2, none⟩ = some (.int .i64 (mkSe (mkSlots sl) s se)) ∧ w'.cell? ⟨wc.heap.size, 3, none⟩ = some (.int .u64 (Int.tmod sr 8)) ∧ w'.cell? ⟨wc.heap.size, 4, none⟩ = some (.int .i64 (mkTe (mkSlots sl) s)) ∧ w'.cell? ⟨wc.heap.size, 5, none⟩ = some (.int .u64 (Int.tmod tr 8)) ∧ w'.cell? ⟨wc.heap.size, 6, none⟩ = some (.slice av W.length cv))
            (first | exact keep13 HBd.out BM2.out B6.out B7.out B8.out | exact keep13 HBc.out BM2.out B6.out B7.out B8.out | (refine keep13 ?_ BM2.out B6.out B7.out B8.out; with_reducible repeat (first | exact Below.refl _ _ | apply below_drew | apply below_alloc)))
            (first
              | ((go_at_call 11; refine (right_at ⟨rfl, HCX.out, Kd.C_below HX2.out HBc.out⟩ (row_arg (Kd.R_below RB.out HBc.out)) HKB.out).mono ?_; rintro x wd ⟨rfl, hb⟩; have HBd := Aside0.mk (below_then HBc.out HBc.out.size hb); clear hb))
              | ((go_at_call 11; refine (right_at ⟨rfl, HCX.out, Kd.C_below HX2.out (by with_reducible repeat (first | exact Below.refl _ _ | apply below_drew | apply below_alloc))⟩ (row_arg (Kd.R_below RT.out (by with_reducible repeat (first | exact Below.refl _ _ | apply below_drew | apply below_alloc)))) HKT.out).mono ?_; rintro x wc' ⟨rfl, hb⟩; have HBc := Aside0.mk (show Below wr.heap.size wr wc' from below_then (by with_reducible repeat (first | exact Below.refl _ _ | apply below_drew | apply below_alloc)) (by simp) hb); clear hb)))
          all_goals
            go_wp2_with fail
            go_ret
            exact ⟨by first | rfl | simp, below_then (below_then HB5.out HB5.out.size HBL.out) (below_then HB5.out HB5.out.size HBL.out).size HBd.out⟩
        · have t1 : ((W.length : Int) == 1) = false := by simp; omega
          obtain ⟨kb, hkb⟩ := (right_false W.reverse (mkBal bal) (mkSlots sl) (mkBoost bo) (mkAt s) (Int.tmod h 8) (mkSe (mkSlots sl) s se) (Int.tmod sr 8) (mkTe (mkSlots sl) s) (Int.tmod tr 8) (by simp; omega) (by omega) (back_bad _ _ _ _ _ W (by omega) HWR.out)).rounds
          have HKB := Aside0.mk hkb
          clear hkb hone
          go_wp2_with fail
          go_region_held3 (fun w' => w'.cell? ⟨w2.heap.size, 0, none⟩ = some (.slice AX (mkBal bal).length cX) ∧ w'.cell? ⟨w2.heap.size, 1, none⟩ = some (.int .i64 (mkSlots sl)) ∧ w'.cell? ⟨w2.heap.size, 2, none⟩ = some (.int .i64 (mkBoost bo)) ∧ w'.cell? ⟨w5.heap.size, 6, none⟩ = some (.slice (some aw) W.length cW) ∧ w'.cell? ⟨w5.heap.size + 1, 0, none⟩ = some (.int .i64 (mkAt s)) ∧ w'.cell? ⟨w5.heap.size + 1, 1, none⟩ = some (.int .u64 (Int.tmod h 8)) ∧ w'.cell? ⟨w5.heap.size + 1, 2, none⟩ = some (.int .i64 (mkSe (mkSlots sl) s se)) ∧ w'.cell? ⟨w5.heap.size + 1, 3, none⟩ = some (.int .u64 (Int.tmod sr 8)) ∧ w'.cell? ⟨w5.heap.size + 1, 4, none⟩ = some (.int .i64 (mkTe (mkSlots sl) s)) ∧ w'.cell? ⟨w5.heap.size + 1, 5, none⟩ = some (.int .u64 (Int.tmod tr 8)) ∧ w'.cell? ⟨w5.heap.size + 1, 6, none⟩ = some (.slice a8 (W.length + 1) c8) ∧ w'.cell? ⟨wc.heap.size, 0, none⟩ = some (.int .i64 (mkAt s)) ∧ w'.cell? ⟨wc.heap.size, 1, none⟩ = some (.int .u64 (Int.tmod h 8)) ∧ w'.cell? ⟨wc.heap.size, 2, none⟩ = some (.int .i64 (mkSe (mkSlots sl) s se)) ∧ w'.cell? ⟨wc.heap.size, 3, none⟩ = some (.int .u64 (Int.tmod sr 8)) ∧ w'.cell? ⟨wc.heap.size, 4, none⟩ = some (.int .i64 (mkTe (mkSlots sl) s)) ∧ w'.cell? ⟨wc.heap.size, 5, none⟩ = some (.int .u64 (Int.tmod tr 8)) ∧ w'.cell? ⟨wc.heap.size, 6, none⟩ = some (.slice av W.length cv))
            (first | exact keep13 HBd.out BM2.out B6.out B7.out B8.out | exact keep13 HBc.out BM2.out B6.out B7.out B8.out | (refine keep13 ?_ BM2.out B6.out B7.out B8.out; with_reducible repeat (first | exact Below.refl _ _ | apply below_drew | apply below_alloc)))
            (first
              | ((go_at_call 11; refine (right_at ⟨rfl, HCX.out, Kd.C_below HX2.out HBc.out⟩ (row_arg (Kd.R_below RB.out HBc.out)) HKB.out).mono ?_; rintro x wd ⟨rfl, hb⟩; have HBd := Aside0.mk (below_then HBc.out HBc.out.size hb); clear hb))
              | ((go_at_call 11; refine (right_at ⟨rfl, HCX.out, Kd.C_below HX2.out (by with_reducible repeat (first | exact Below.refl _ _ | apply below_drew | apply below_alloc))⟩ (row_arg (Kd.R_below RT.out (by with_reducible repeat (first | exact Below.refl _ _ | apply below_drew | apply below_alloc)))) HKT.out).mono ?_; rintro x wc' ⟨rfl, hb⟩; have HBc := Aside0.mk (show Below wr.heap.size wr wc' from below_then (by with_reducible repeat (first | exact Below.refl _ _ | apply below_drew | apply below_alloc)) (by simp) hb); clear hb)))
          all_goals
            go_wp2_with fail
            go_ret
            exact ⟨by first | rfl | simp, below_then (below_then HB5.out HB5.out.size HBL.out) (below_then HB5.out HB5.out.size HBL.out).size HBd.out⟩
      | succ j =>
        rw [show (((j + 1 : Nat) : Int) - 1) = (j : Int) by omega]
        have t0 : decide ((j : Int) ≥ 0) = true := decide_eq_true (by omega)
        have t0' : decide ((0 : Int) ≤ (j : Int)) = true := decide_eq_true (by omega)
        have hjw : (j : Int) < (W.length : Int) := by omega
        have hj0 : (0 : Int) ≤ (j : Int) := by omega
        obtain ⟨av, cv, hv⟩ := Kd.R_slice RB.out
        obtain ⟨nv, hnv⟩ : ∃ nv, (W.drop (j + 1)).reverse.length = nv := ⟨_, rfl⟩
        rw [hnv] at hv
        subst hv
        have HNV := Aside0.mk hnv
        clear hnv
        obtain ⟨aw', haw', hel⟩ := Kd.at_int HW.out (j : Int) hj0 hjw
        injection haw' with haw'
        subst haw'
        rw [Int.toNat_natCast] at hel
        have HEJ := Aside0.mk hel
        have HAJ := Aside0.mk (World.block_lt_of_cell? w5 _ hel)
        have hqe := pw_cell_below HBL.out hel
        have hq6 : wr.cell? ⟨w5.heap.size, 6, none⟩ = some (.slice (some aw) W.length cW) := blk_cell B6.out 6
        have hq8 : wr.cell? ⟨wc.heap.size, 6, none⟩ = some (.slice av nv cv) := blk_cell B8.out 6
        clear hel
        go_upto_region 12 with fail
        refine start_ (n := 11) (S := fun w' => w'.cell? ⟨w5.heap.size, 6, none⟩ = some (.slice (some aw) W.length cW) ∧ w'.cell? (aw.add j) = some (.int .i64 (rd W j)) ∧ w'.cell? ⟨wc.heap.size, 6, none⟩ = some (.slice av nv cv)) (ds := [10]) #[false, false, false, false, false, false, false, false, false, false, false] (by kernel_rfl) rfl rfl ⟨hq6, hqe, hq8⟩ (fun hHeld => ?_)
        refine pure_ (i := 0) (N := some 42) (v := ?_) (a' := ?_) #[true, false, false, false, false, false, false, false, false, false, false] rfl rfl (by kernel_rfl) (fun _ _ _ h => h) (Or.inl ⟨by rfl, ?_⟩) ?_ ?_
        rotate_left
        · intro w'
          go_simp
          with_reducible rfl
        rotate_left
        · simp only [Act.put, List.setIfInBounds_toArray, List.set_cons_zero, List.set_cons_succ, i64_w, i32_w]
          rfl
        refine pure_ (i := 2) (N := some 44) (v := ?_) (a' := ?_) #[true, false, true, false, false, false, false, false, false, false, false] rfl rfl (by kernel_rfl) (fun _ _ _ h => h) (Or.inl ⟨by rfl, ?_⟩) ?_ ?_
        rotate_left
        · intro w'
          go_simp
          with_reducible rfl
        rotate_left
        · simp only [Act.put, List.setIfInBounds_toArray, List.set_cons_zero, List.set_cons_succ, i64_w, i32_w]
          rfl
        refine pure_ (i := 4) (N := some 46) (v := ?_) (a' := ?_) #[true, false, true, false, true, false, false, false, false, false, false] rfl rfl (by kernel_rfl) (fun _ _ _ h => h) (Or.inl ⟨by rfl, ?_⟩) ?_ ?_
        rotate_left
        · intro w'
          go_simp
          with_reducible rfl
        rotate_left
        · simp only [Act.put, List.setIfInBounds_toArray, List.set_cons_zero, List.set_cons_succ, i64_w, i32_w]
          rfl
        refine take_ (i := 1) (N := some 43) (v := ?_) (a' := ?_) #[true, true, true, false, true, false, false, false, false, false, false] rfl rfl (by kernel_rfl) (fun _ _ _ h => h) (Or.inl ⟨by rfl, ?_⟩) hHeld ?_ ?_
        rotate_left
        · rintro w' ⟨s0, s1, s2⟩
          go_simp
          with_reducible rfl
        rotate_left
        · simp only [Act.put, List.setIfInBounds_toArray, List.set_cons_zero, List.set_cons_succ, i64_w, i32_w]
          rfl
        refine take_ (i := 3) (N := some 45) (v := ?_) (a' := ?_) #[true, true, true, true, true, false, false, false, false, false, false] rfl rfl (by kernel_rfl) (fun _ _ _ h => h) (Or.inl ⟨by rfl, ?_⟩) hHeld ?_ ?_
        rotate_left
        · rintro w' ⟨s0, s1, s2⟩
          go_simp
          with_reducible rfl
        rotate_left
        · simp only [Act.put, List.setIfInBounds_toArray, List.set_cons_zero, List.set_cons_succ, i64_w, i32_w]
          rfl
        refine pure_ (i := 5) (N := some 47) (v := ?_) (a' := ?_) #[true, true, true, true, true, true, false, false, false, false, false] rfl rfl (by kernel_rfl) (fun _ _ _ h => h) (Or.inl ⟨by rfl, ?_⟩) ?_ ?_
        rotate_left
        · intro w'
          go_simp
          with_reducible rfl
        rotate_left
        · simp only [Act.put, List.setIfInBounds_toArray, List.set_cons_zero, List.set_cons_succ, i64_w, i32_w]
          rfl
        refine take_ (i := 6) (N := some 48) (v := ?_) (a' := ?_) #[true, true, true, true, true, true, true, false, false, false, false] rfl rfl (by kernel_rfl) (fun _ _ _ h => h) (Or.inl ⟨by rfl, ?_⟩) hHeld ?_ ?_
        rotate_left
        · rintro w' ⟨s0, s1, s2⟩
          go_simp
          with_reducible rfl
        rotate_left
        · simp only [Act.put, List.setIfInBounds_toArray, List.set_cons_zero, List.set_cons_succ, i64_w, i32_w]
          rfl
        refine one_ (i := 7) (N := some 49) #[true, true, true, true, true, true, true, true, false, false, false] rfl rfl (by kernel_rfl) (by decide) (fun K hK => ?_)
        refine value_ (w1 := ?_) (v := ?_) (by rfl) rfl ?_ ?_
        rotate_left 2
        · go_simp
          constructor
          · rfl
          · rfl
        refine hK.out _ _ ⟨(pw_cell_below (below_alloc (below_drew (Below.refl _ _)) _) hq6), (pw_cell_below (below_alloc (below_drew (Below.refl _ _)) _) hqe), (pw_cell_below (below_alloc (below_drew (Below.refl _ _)) _) hq8)⟩ (fun hHeld => ?_)
        clear hK K
        refine norm_ (a' := ?_) ?_ ?_
        rotate_left
        · show Act.put _ (some 49) _ = _
          simp only [Act.put, List.setIfInBounds_toArray, List.set_cons_zero, List.set_cons_succ, i64_w, i32_w]
          rfl
        refine one_ (i := 8) (N := some 50) #[true, true, true, true, true, true, true, true, true, false, false] rfl rfl (by kernel_rfl) (by decide) (fun K hK => ?_)
        refine Kd.R_append_step (Kd.int .i64) (W := wr.drew) (w0 := w5) w5.heap.size (by rfl) (.tmp 43) (.tmp 49) 28 3 (.int .i64 0) 8 (by rfl) Try.underlying28 (by kernel_rfl) rfl (by decide) (by omega) (.slice av nv cv) (W.drop (j + 1)).reverse (rd W j) [.int .i64 (rd W j)] (fun b => wc.heap.size < b) (fun _ => False) (by rfl) (by rfl) rfl (fun _ hk => hk.elim) (fun k hk => Nat.lt_of_lt_of_le hl8 hk) (Kd.R_below RB.out (below_drew (Below.refl _ _))) (below_drew HBL.out) HBL.out.size (by rw [List.length_reverse, List.length_drop]; omega) ?_
        intro v9 w9 ho hb hg hat9; rw [rev_next W j (by omega)] at ho; obtain ⟨a9, c9, hv9⟩ := Kd.R_slice ho; rw [show (W.drop j).reverse.length = W.length - j from by simp] at hv9; subst hv9; have R9 := Aside0.mk ho; have HB9 := Aside0.mk hb; have B69 := Aside0.mk (blk_grown (blk_drew B6.out) hg (fun e => Nat.lt_asymm hlx6 (RB.out.1 _ e.symm))); have B79 := Aside0.mk (blk_grown (blk_drew B7.out) hg (fun e => Nat.not_lt_of_le (Nat.succ_le_of_lt hlx6) (RB.out.1 _ e.symm))); have B89 := Aside0.mk (blk_grown (blk_drew B8.out) hg (fun e => Nat.lt_irrefl _ (RB.out.1 _ e.symm))); have RT9 := Aside0.mk (Kd.R_grown (Kd.R_below RT.out (below_drew (Below.refl _ _))) hg (fun k hk e => Nat.lt_asymm hk (RB.out.1 _ e.symm))); have hq6b : w9.cell? ⟨w5.heap.size, 6, none⟩ = some (.slice (some aw) W.length cW) := blk_cell B69.out 6; have hqeb := pw_cell_below HB9.out HEJ.out; have hc89 := blk_cell B89.out; have hf89 := blk_frozen B89.out; clear ho hb hg hat9; have hq8b : w9.cell? ⟨wc.heap.size, 6, none⟩ = some (.slice av nv cv) := blk_cell B89.out 6
        refine hK.out _ _ ⟨hq6b, hqeb, hq8b⟩ (fun hHeld => ?_)
        clear hK K
        refine norm_ (a' := ?_) ?_ ?_
        rotate_left
        · show Act.put _ (some 50) _ = _
          simp only [Act.put, List.setIfInBounds_toArray, List.set_cons_zero, List.set_cons_succ, i64_w, i32_w]
          rfl
        refine pure_ (i := 9) (N := some 51) (v := ?_) (a' := ?_) #[true, true, true, true, true, true, true, true, true, true, false] rfl rfl (by kernel_rfl) (fun _ _ _ h => h) (Or.inl ⟨by rfl, ?_⟩) ?_ ?_
        rotate_left
        · intro w'
          go_simp
          with_reducible rfl
        rotate_left
        · simp only [Act.put, List.setIfInBounds_toArray, List.set_cons_zero, List.set_cons_succ, i64_w, i32_w]
          rfl
        refine last_ (i := 10) (N := none) #[true, true, true, true, true, true, true, true, true, true, true] rfl rfl (by kernel_rfl) (by decide) (fun K hK => ?_)
        with_reducible refine skip_ (w1 := ?_) ?ax1 ?ax2 ?_ ?_
        case ax1 => kernel_rfl
        case ax2 => kernel_rfl
        rotate_left
        · go_simp
          rfl
        refine hK.out _ _ ?_
        clear hK K
        refine done_ (by kernel_rfl) ?_

        all_goals
          go_wp2_with fail
          go_roundw
          case rel => exact ⟨j, by omega, rfl, ⟨⟨_, blk_far B69.out (Nat.ne_of_lt hlx6) _, blk_far B79.out (Nat.ne_of_lt (Nat.lt_of_le_of_ne (Nat.succ_le_of_lt hlx6) HNE.out)) _, blk_put B89.out 6 _ rfl, Kd.R_set RT9.out B89.out (by decide) 6 _, Kd.R_set R9.out B89.out (by decide) 6 _, below_set HB9.out (Nat.le_of_lt hlx6)⟩⟩⟩
          case measure => simp [intOf] <;> omega

/-- The same, of arguments as they are opened. -/
theorem voteTwice_args {A0 A1 : Option Addr} {n0 c0 n1 c1 : Nat} {z0 z1 : List Int} {sl bo s h se sr te tr : Int} {w : World} (g0 : Open.ConfigArg w A0 n0 c0 z0 sl bo) (g1 : Open.VoteArg w s h se sr te tr A1 n1 c1 z1) :
    Calls Try.prog 5 #[.agg #[.slice A0 n0 c0, .int .i64 sl, .int .i64 bo], .agg #[.int .i64 s, .int .u64 h, .int .i64 se, .int .u64 sr, .int .i64 te, .int .u64 tr, .slice A1 n1 c1]] w fun x w' => x = .returned (.bool true) ∧ Below w.heap.size w w' := by
  have h0 := Kd.C_of_reads (d := (0 : Int)) (h1 := fun _ => rfl) g0.row.reads
  have h1 := Kd.C_of_reads (d := (0 : Int)) (h1 := fun _ => rfl) g1.row.reads
  have e0 : z0.length = n0 := h0.1
  have e1 : z1.length = n1 := h1.1
  have l0 := g0.row.le
  have l1 := g1.row.le
  have s0 := g0.row.size
  have s1 := g1.row.size
  subst e0 e1
  exact voteTwice_law A0 c0 z0 sl bo s h se sr te tr A1 c1 z1 w h0 l0 (by omega) (bd_i64 g0.wb) h1 l1 (by omega) (bd_i64 g1.ws) (bd_i64 g1.s.1)
end Go.Proofs.Ytegegnpjdpjgmaa.QV
