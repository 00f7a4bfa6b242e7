/-
  The walk of the law JustifyNext of package psephoslaw08: the law's call answers true, and writes nothing that was there; no condition but that epochs are of 64 bits.
-/
import Derived.Test.YtlofdhhpfhmkhaaLaw08c
import Derived.Deep.Cut
namespace Go.Proofs.Ytlofdhhpfhmkhaa.Law08
open Go.RowKit Go.Proofs.YtlofdhhpfhmkhaaW.PrintWords Go.Proofs.Ytlofdhhpfhmkhaa.Own Go.Proofs.Ytlofdhhpfhmkhaa.Justify

set_option maxHeartbeats 8000000 in
set_option maxRecDepth 100000 in
theorem justifyNext_law (s0 s1 s2 s3 : Bool) (pe pr ce cr fe fr e : Int) (before now : Bool) (p q p' q' : Int) (w : World) (he : -9223372036854775808 ≤ e ∧ e ≤ 9223372036854775807) (hc : -9223372036854775808 ≤ ce ∧ ce ≤ 9223372036854775807) (hp : -9223372036854775808 ≤ pe ∧ pe ≤ 9223372036854775807) :
    Calls Try.prog 3 #[.agg #[.bool s0, .bool s1, .bool s2, .bool s3, .int .i64 pe, .int .u64 pr, .int .i64 ce, .int .u64 cr, .int .i64 fe, .int .u64 fr], .int .i64 e, .bool before, .bool now, .agg #[.int .i64 p, .int .u64 q], .agg #[.int .i64 p', .int .u64 q']] w fun x w' => x = .returned (.bool true) ∧ Below w.heap.size w w' := by
  have HQ := Aside0.mk EqBools.eq_bools'
  have HE := Aside0.mk he
  have HC := Aside0.mk hc
  have HP := Aside0.mk hp
  clear he hc hp
  go_enter Try.func3, Try.ntmps3
  go_wp2_with (go_at_call 9; refine (awake_calls _).mono ?_; rintro x w1 ⟨rfl, hb⟩; have HB := Aside0.mk (below_then (below_alloc (below_alloc (below_alloc (Below.refl w.heap.size w) _) _) _) (by simp; omega) hb); obtain ⟨x0, x1, x2⟩ := Block.box3 w #[.bool s0, .bool s1, .bool s2, .bool s3, .int .i64 pe, .int .u64 pr, .int .i64 ce, .int .u64 cr, .int .i64 fe, .int .u64 fr] #[.int .i64 p, .int .u64 q] #[.int .i64 p', .int .u64 q'] 27 25 25; have X0 := Aside0.mk (Block.stays x0 hb (by simp; omega)); have X1 := Aside0.mk (Block.stays x1 hb (by simp)); have X2 := Aside0.mk (Block.stays x2 hb (by simp)); have c0 := blk_cell X0.out; have c1 := blk_cell X1.out; have c2 := blk_cell X2.out; clear x0 x1 x2 hb)
  refine (next_some _ _ _ _ _ _ _ _ _ _ _ _ _ _ _ _ _ _).mono ?_
  rintro x w2 ⟨m0, b1, m2, m3, mpe, mpr, mce, mcr, mfe, mfr, rfl, hm, hb⟩
  obtain ⟨h0, h1, h2, h3, h4, h5, h6, h7⟩ := next_is HE.out HC.out HP.out hm
  rw [← h1] at h7
  replace h0 := h0.symm
  replace h2 := h2.symm
  replace h3 := h3.symm
  replace h4 := h4.symm
  replace h5 := h5.symm
  subst h0 h2 h3 h4 h5
  have HB1 := Aside0.mk h1
  have H6 := Aside0.mk h6
  have HF := Aside0.mk h7
  have HB2 := Aside0.mk (below_then HB.out HB.out.size hb)
  clear c0 c1 c2
  have X0 := Aside0.mk (Block.stays X0.out hb (blk_lt X0.out))
  have X1 := Aside0.mk (Block.stays X1.out hb (blk_lt X1.out))
  have X2 := Aside0.mk (Block.stays X2.out hb (blk_lt X2.out))
  have c0 := blk_cell X0.out
  have c1 := blk_cell X1.out
  have c2 := blk_cell X2.out
  have z0 := blk_lt X0.out
  have z1 := blk_lt X1.out
  have z2 := blk_lt X2.out
  clear hb hm HB h7 h1 h6
  dsimp only
  go_upto_region 4 with fail
  go_cut [14] from 26 (fun p w' => p = .pointer (some ⟨w2.heap.size + 1, 0, none⟩) ∧ w' = (w2.alloc (.cells #[.bool now, .bool b1, .bool s1, .bool s2, .int .i64 ce, .int .u64 cr, .int .i64 mce, .int .u64 mcr, .int .i64 mfe, .int .u64 mfr] 27)).alloc (.cells #[.bool now, .bool b1, .bool s1, .bool s2] 22))
  case first =>
    have h1 := HB1.out
    cases s0
    · replace h1 : before = b1 := by rw [h1]; rfl
      subst h1
      go_wp2_with fail
      go_meet
      exact ⟨by simp, rfl⟩
    · replace h1 : b1 = true := by rw [h1]; rfl
      subst h1
      go_wp2_with fail
      go_meet
      exact ⟨by simp, rfl⟩
  case rest =>
  obtain ⟨rfl, rfl⟩ := hcut
  go_upto_region 6 with fail
  clear c0 c1 c2
  obtain ⟨w3, hw3⟩ : ∃ w3, w3 = (((w2.alloc (.cells #[.bool now, .bool b1, .bool s1, .bool s2, .int .i64 ce, .int .u64 cr, .int .i64 mce, .int .u64 mcr, .int .i64 mfe, .int .u64 mfr] 27)).alloc (.cells #[.bool now, .bool b1, .bool s1, .bool s2] 22)).alloc (.cells #[.int .i64 ce, .int .u64 cr] 25)) := ⟨_, rfl⟩
  rw [← hw3]
  have hb3 : Below w2.heap.size w2 w3 := by rw [hw3]; exact below_alloc (below_alloc (below_alloc (Below.refl _ _) _) _) _
  obtain ⟨x3, x4, x5⟩ := Block.box3 w2 #[.bool now, .bool b1, .bool s1, .bool s2, .int .i64 ce, .int .u64 cr, .int .i64 mce, .int .u64 mcr, .int .i64 mfe, .int .u64 mfr] #[.bool now, .bool b1, .bool s1, .bool s2] #[.int .i64 ce, .int .u64 cr] 27 22 25
  rw [← hw3] at x3 x4 x5
  clear hw3
  have HB := Aside0.mk (below_then HB2.out HB2.out.size hb3)
  have X0 := Aside0.mk (Block.stays X0.out hb3 z0)
  have X1 := Aside0.mk (Block.stays X1.out hb3 z1)
  have X2 := Aside0.mk (Block.stays X2.out hb3 z2)
  have X3 := Aside0.mk x3
  have X4 := Aside0.mk x4
  have HBC := Aside0.mk x5
  clear hb3 x3 x4 x5 HB2
  have HO : Aside0 (w.heap.size < w2.heap.size + 1 + 1 ∧ w.heap.size + 1 < w2.heap.size + 1 + 1 ∧ w.heap.size + 1 + 1 < w2.heap.size + 1 + 1 ∧ w2.heap.size < w2.heap.size + 1 + 1 ∧ w2.heap.size + 1 < w2.heap.size + 1 + 1 ∧ w.heap.size ≤ w2.heap.size + 1 + 1) := ⟨by omega⟩
  clear z0 z1 z2
  generalize w2.heap.size + 1 + 1 = gc at *
  generalize w2.heap.size + 1 = gb at *
  generalize w2.heap.size = gn at *
  generalize hg2 : w.heap.size + 1 + 1 = g2 at *
  generalize hg1 : w.heap.size + 1 = g1 at *
  clear hg1 hg2
  have BX := Aside0.mk (Below.refl gc w3)
  have c1 := blk_cell (Block.stays X1.out BX.out HO.out.2.1)
  have z1 := blk_lt (Block.stays X1.out BX.out HO.out.2.1)
  go_upto_if 42 with fail
  go_cut [] from 42 (fun wx => ∃ x y : Int, Aside0 ((x, y) = if before = true then (p, q) else (ce, cr)) ∧ Aside0 (wx.heap[gc]? = some (.cells #[.int .i64 x, .int .u64 y] 25 (0, 0))) ∧ Aside0 (Below gc w3 wx))
  case first =>
    cases before
    · go_wp2_with fail
      go_meet
      exact ⟨_, _, ⟨rfl⟩, HBC, BX⟩
    · go_wp2_with (refine Block.store_block rfl rfl 25 (.tmp 15) (.tmp 43) rfl gc 25 _ _ rfl rfl HBC.out rfl (by kernel_rfl) (by simp [Value.oneCell']) ?_; intro w4 hbk hgr; have BX := Aside0.mk (BX.out.grown hgr (Nat.le_of_lt (blk_lt HBC.out)) (fun k hk => by cases hk; exact Nat.le_refl _)); have HBC := Aside0.mk hbk; clear hgr hbk)
      go_meet
      exact ⟨_, _, ⟨rfl⟩, HBC, BX⟩
  case rest =>
  obtain ⟨x1, y1, Hx1, HBC, BX⟩ := hcut
  clear c1 z1
  have c2 := blk_cell (Block.stays X2.out BX.out HO.out.2.2.1)
  have z2 := blk_lt (Block.stays X2.out BX.out HO.out.2.2.1)
  go_upto_if 44 with fail
  go_cut [] from 44 (fun wx => ∃ x y : Int, Aside0 ((x, y) = if now = true then (p', q') else (x1, y1)) ∧ Aside0 (wx.heap[gc]? = some (.cells #[.int .i64 x, .int .u64 y] 25 (0, 0))) ∧ Aside0 (Below gc w3 wx))
  case first =>
    cases now
    · go_wp2_with fail
      go_meet
      exact ⟨_, _, ⟨rfl⟩, HBC, BX⟩
    · go_wp2_with (refine Block.store_block rfl rfl 25 (.tmp 15) (.tmp 45) rfl gc 25 _ _ rfl rfl HBC.out rfl (by kernel_rfl) (by simp [Value.oneCell']) ?_; intro w4 hbk hgr; have BX := Aside0.mk (BX.out.grown hgr (Nat.le_of_lt (blk_lt HBC.out)) (fun k hk => by cases hk; exact Nat.le_refl _)); have HBC := Aside0.mk hbk; clear hgr hbk)
      go_meet
      exact ⟨_, _, ⟨rfl⟩, HBC, BX⟩
  case rest =>
  obtain ⟨x2, y2, Hx2, HBC, BX⟩ := hcut
  clear c2 z2
  obtain ⟨rfl, rfl⟩ : x2 = mce ∧ y2 = mcr := by
    have h1 := Hx1.out; have h2 := Hx2.out; have h3 := H6.out
    cases before <;> cases now <;> simp at h1 h2 h3 <;> simp [h1, h2, h3]
  clear Hx1 Hx2 H6
  have c0 := blk_cell (Block.stays X0.out BX.out HO.out.1)
  have z0 := blk_lt (Block.stays X0.out BX.out HO.out.1)
  have zc := blk_lt HBC.out
  go_upto_region 11 with fail
  obtain ⟨w5, hw5⟩ : ∃ w5, w5 = wc.alloc (.cells #[.int .i64 fe, .int .u64 fr] 25) := ⟨_, rfl⟩
  rw [← hw5]
  have hb5 : Below wc.heap.size wc w5 := by rw [hw5]; exact below_alloc (Below.refl _ _) _
  have hf : w5.heap[wc.heap.size]? = some (.cells #[.int .i64 fe, .int .u64 fr] 25 (0, 0)) := by rw [hw5]; exact heap_alloc_new wc _
  clear hw5
  have HBW := Aside0.mk ((HB.out.trans (below_le BX.out HO.out.2.2.2.2.2)).trans (below_le hb5 (Nat.le_trans HO.out.2.2.2.2.2 (Nat.le_of_lt zc))))
  have X0 := Aside0.mk (Block.stays (Block.stays X0.out BX.out HO.out.1) hb5 (Nat.lt_trans HO.out.1 zc))
  have X3 := Aside0.mk (Block.stays (Block.stays X3.out BX.out HO.out.2.2.2.1) hb5 (Nat.lt_trans HO.out.2.2.2.1 zc))
  have X4 := Aside0.mk (Block.stays (Block.stays X4.out BX.out HO.out.2.2.2.2.1) hb5 (Nat.lt_trans HO.out.2.2.2.2.1 zc))
  have X5 := Aside0.mk (Block.stays HBC.out hb5 zc)
  have HBF := Aside0.mk hf
  have HO2 : Aside0 (w.heap.size < wc.heap.size ∧ gn < wc.heap.size ∧ gb < wc.heap.size ∧ gc < wc.heap.size) := ⟨Nat.lt_trans HO.out.1 zc, Nat.lt_trans HO.out.2.2.2.1 zc, Nat.lt_trans HO.out.2.2.2.2.1 zc, zc⟩
  clear HBC BX HB HO hb5 hf c0 z0 zc X1 X2
  generalize wc.heap.size = gf at *
  have BY := Aside0.mk (Below.refl gf w5)
  have c0 := blk_cell (Block.stays X0.out BY.out HO2.out.1)
  have c4 := blk_cell (Block.stays X4.out BY.out HO2.out.2.2.1)
  go_upto_region 11 with fail
  go_cut [65] from 48 (fun v wx => v = .bool (b1 && s1 && s2 && decide (pe = wrap64 (e - 3))) ∧ w5 = wx)
  case first => cases b1 <;> cases s1 <;> cases s2 <;> (go_wp2_with fail; go_meet; exact ⟨by simp <;> rfl, rfl⟩)
  case rest =>
  obtain ⟨rfl, rfl⟩ := hcut
  obtain ⟨t1, ht⟩ : ∃ t, t = (b1 && s1 && s2 && decide (pe = wrap64 (e - 3))) := ⟨_, rfl⟩
  rw [← ht]
  have T1 := Aside0.mk ht
  clear ht
  go_upto_if 65 with fail
  go_cut [] from 48 (fun wx => ∃ x y : Int, Aside0 ((x, y) = if t1 = true then (pe, pr) else (fe, fr)) ∧ Aside0 (wx.heap[gf]? = some (.cells #[.int .i64 x, .int .u64 y] 25 (0, 0))) ∧ Aside0 (Below gf w5 wx))
  case first =>
    cases t1
    · go_wp2_with fail
      go_meet
      exact ⟨_, _, ⟨rfl⟩, HBF, BY⟩
    · go_wp2_with (refine Block.store_block rfl rfl 25 (.tmp 16) (.tmp 67) rfl gf 25 _ _ rfl rfl HBF.out rfl (by kernel_rfl) (by simp [Value.oneCell']) ?_; intro w4 hbk hgr; have BY := Aside0.mk (BY.out.grown hgr (Nat.le_of_lt (blk_lt HBF.out)) (fun k hk => by cases hk; exact Nat.le_refl _)); have HBF := Aside0.mk hbk; clear hgr hbk)
      go_meet
      exact ⟨_, _, ⟨rfl⟩, HBF, BY⟩
  case rest =>
  clear c0 c4
  obtain ⟨x1, y1, H1, HBF, BY⟩ := hcut
  have c0 := blk_cell (Block.stays X0.out BY.out HO2.out.1)
  have c4 := blk_cell (Block.stays X4.out BY.out HO2.out.2.2.1)
  go_upto_region 13 with fail
  go_cut [81] from 48 (fun v wx => v = .bool (b1 && s1 && decide (pe = wrap64 (e - 2))) ∧ wx = wc)
  case first => cases b1 <;> cases s1 <;> (go_wp2_with fail; go_meet; exact ⟨by simp <;> rfl, rfl⟩)
  case rest =>
  obtain ⟨rfl, rfl⟩ := hcut
  obtain ⟨t2, ht⟩ : ∃ t, t = (b1 && s1 && decide (pe = wrap64 (e - 2))) := ⟨_, rfl⟩
  rw [← ht]
  have T2 := Aside0.mk ht
  clear ht
  go_upto_if 81 with fail
  go_cut [] from 48 (fun wx => ∃ x y : Int, Aside0 ((x, y) = if t2 = true then (pe, pr) else (x1, y1)) ∧ Aside0 (wx.heap[gf]? = some (.cells #[.int .i64 x, .int .u64 y] 25 (0, 0))) ∧ Aside0 (Below gf w5 wx))
  case first =>
    cases t2
    · go_wp2_with fail
      go_meet
      exact ⟨_, _, ⟨rfl⟩, HBF, BY⟩
    · go_wp2_with (refine Block.store_block rfl rfl 25 (.tmp 16) (.tmp 83) rfl gf 25 _ _ rfl rfl HBF.out rfl (by kernel_rfl) (by simp [Value.oneCell']) ?_; intro w4 hbk hgr; have BY := Aside0.mk (BY.out.grown hgr (Nat.le_of_lt (blk_lt HBF.out)) (fun k hk => by cases hk; exact Nat.le_refl _)); have HBF := Aside0.mk hbk; clear hgr hbk)
      go_meet
      exact ⟨_, _, ⟨rfl⟩, HBF, BY⟩
  case rest =>
  clear c0 c4
  obtain ⟨x2, y2, H2, HBF, BY⟩ := hcut
  have c0 := blk_cell (Block.stays X0.out BY.out HO2.out.1)
  have c4 := blk_cell (Block.stays X4.out BY.out HO2.out.2.2.1)
  go_upto_region 15 with fail
  go_cut [101] from 48 (fun v wx => v = .bool (now && b1 && s1 && decide (ce = wrap64 (e - 2))) ∧ wx = wc)
  case first => cases now <;> cases b1 <;> cases s1 <;> (go_wp2_with fail; go_meet; exact ⟨by simp <;> rfl, rfl⟩)
  case rest =>
  obtain ⟨rfl, rfl⟩ := hcut
  obtain ⟨t3, ht⟩ : ∃ t, t = (now && b1 && s1 && decide (ce = wrap64 (e - 2))) := ⟨_, rfl⟩
  rw [← ht]
  have T3 := Aside0.mk ht
  clear ht
  go_upto_if 101 with fail
  go_cut [] from 48 (fun wx => ∃ x y : Int, Aside0 ((x, y) = if t3 = true then (ce, cr) else (x2, y2)) ∧ Aside0 (wx.heap[gf]? = some (.cells #[.int .i64 x, .int .u64 y] 25 (0, 0))) ∧ Aside0 (Below gf w5 wx))
  case first =>
    cases t3
    · go_wp2_with fail
      go_meet
      exact ⟨_, _, ⟨rfl⟩, HBF, BY⟩
    · go_wp2_with (refine Block.store_block rfl rfl 25 (.tmp 16) (.tmp 103) rfl gf 25 _ _ rfl rfl HBF.out rfl (by kernel_rfl) (by simp [Value.oneCell']) ?_; intro w4 hbk hgr; have BY := Aside0.mk (BY.out.grown hgr (Nat.le_of_lt (blk_lt HBF.out)) (fun k hk => by cases hk; exact Nat.le_refl _)); have HBF := Aside0.mk hbk; clear hgr hbk)
      go_meet
      exact ⟨_, _, ⟨rfl⟩, HBF, BY⟩
  case rest =>
  clear c0 c4
  obtain ⟨x3, y3, H3, HBF, BY⟩ := hcut
  have c0 := blk_cell (Block.stays X0.out BY.out HO2.out.1)
  have c4 := blk_cell (Block.stays X4.out BY.out HO2.out.2.2.1)
  go_upto_region 17 with fail
  go_cut [117] from 48 (fun v wx => v = .bool (now && b1 && decide (ce = wrap64 (e - 1))) ∧ wx = wc)
  case first => cases now <;> cases b1 <;> (go_wp2_with fail; go_meet; exact ⟨by simp <;> rfl, rfl⟩)
  case rest =>
  obtain ⟨rfl, rfl⟩ := hcut
  obtain ⟨t4, ht⟩ : ∃ t, t = (now && b1 && decide (ce = wrap64 (e - 1))) := ⟨_, rfl⟩
  rw [← ht]
  have T4 := Aside0.mk ht
  clear ht
  go_upto_if 117 with fail
  go_cut [] from 48 (fun wx => ∃ x y : Int, Aside0 ((x, y) = if t4 = true then (ce, cr) else (x3, y3)) ∧ Aside0 (wx.heap[gf]? = some (.cells #[.int .i64 x, .int .u64 y] 25 (0, 0))) ∧ Aside0 (Below gf w5 wx))
  case first =>
    cases t4
    · go_wp2_with fail
      go_meet
      exact ⟨_, _, ⟨rfl⟩, HBF, BY⟩
    · go_wp2_with (refine Block.store_block rfl rfl 25 (.tmp 16) (.tmp 119) rfl gf 25 _ _ rfl rfl HBF.out rfl (by kernel_rfl) (by simp [Value.oneCell']) ?_; intro w4 hbk hgr; have BY := Aside0.mk (BY.out.grown hgr (Nat.le_of_lt (blk_lt HBF.out)) (fun k hk => by cases hk; exact Nat.le_refl _)); have HBF := Aside0.mk hbk; clear hgr hbk)
      go_meet
      exact ⟨_, _, ⟨rfl⟩, HBF, BY⟩
  case rest =>
  clear c0 c4
  obtain ⟨x4, y4, H4, HBF, BY⟩ := hcut
  obtain ⟨rfl, rfl⟩ : x4 = mfe ∧ y4 = mfr := by
    have h := (fin_is T1.out T2.out T3.out T4.out H1.out H2.out H3.out H4.out).trans HF.out.symm
    exact ⟨congrArg Prod.fst h, congrArg Prod.snd h⟩
  clear H1 H2 H3 H4 T1 T2 T3 T4 HF
  have c0 := blk_cell (Block.stays X0.out BY.out HO2.out.1)
  have c3 := blk_cell (Block.stays X3.out BY.out HO2.out.2.1)
  have c4 := blk_cell (Block.stays X4.out BY.out HO2.out.2.2.1)
  have c5 := blk_cell (Block.stays X5.out BY.out HO2.out.2.2.2)
  have cf := blk_cell HBF.out
  have hq := HQ.out
  go_wp2_with fail
  go_ret
  exact ⟨by simp, HBW.out.trans (below_le BY.out (Nat.le_of_lt HO2.out.1))⟩
end Go.Proofs.Ytlofdhhpfhmkhaa.Law08
