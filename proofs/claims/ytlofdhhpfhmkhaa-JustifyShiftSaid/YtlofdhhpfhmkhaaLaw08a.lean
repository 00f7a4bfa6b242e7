/-
  The walks of the laws JustifyShift and JustifyNone of package psephoslaw08: each law's call answers true, and writes nothing that was there; no condition.
-/
import Derived.Test.YtlofdhhpfhmkhaaJustifyE
import Derived.Test.YtlofdhhpfhmkhaaEqBools
import Derived.Test.YtlofdhhpfhmkhaaBlock
namespace Go.Proofs.Ytlofdhhpfhmkhaa.Law08
open Go.RowKit Go.Proofs.YtlofdhhpfhmkhaaW.PrintWords Go.Proofs.Ytlofdhhpfhmkhaa.Own Go.Proofs.Ytlofdhhpfhmkhaa.Justify

theorem shift_eq {s0 s1 s2 s3 : Bool} {pe pr ce cr fe fr pr2 cr2 fr2 e p q p' q' q2 q2' : Int} {before now : Bool} {m0 m1 m2 m3 n0 n1 n2 n3 : Bool} {mpe mpr mce mcr mfe mfr npe npr nce ncr nfe nfr : Int}
    (h : next ⟨s0, s1, s2, s3, pe, pr, ce, cr, fe, fr⟩ e before now p q p' q' = ⟨m0, m1, m2, m3, mpe, mpr, mce, mcr, mfe, mfr⟩)
    (h' : next ⟨s0, s1, s2, s3, pe, pr2, ce, cr2, fe, fr2⟩ e before now p q2 p' q2' = ⟨n0, n1, n2, n3, npe, npr, nce, ncr, nfe, nfr⟩) :
    n0 = m0 ∧ n1 = m1 ∧ n2 = m2 ∧ n3 = m3 ∧ npe = mpe ∧ nce = mce ∧ nfe = mfe := by
  simp only [next, St.mk.injEq] at h h'
  obtain ⟨rfl, rfl, rfl, rfl, rfl, _, rfl, _, rfl, _⟩ := h
  obtain ⟨rfl, rfl, rfl, rfl, rfl, _, rfl, _, rfl, _⟩ := h'
  refine ⟨rfl, rfl, rfl, rfl, rfl, ?_, ?_⟩
  · (repeat' split) <;> rfl
  · (repeat' split) <;> rfl

set_option maxHeartbeats 4000000 in
set_option maxRecDepth 100000 in
theorem justifyShift_law (s0 s1 s2 s3 : Bool) (pe pr ce cr fe fr e : Int) (before now : Bool) (root : Int) (w : World) :
    Calls Try.prog 8 #[.agg #[.bool s0, .bool s1, .bool s2, .bool s3, .int .i64 pe, .int .u64 pr, .int .i64 ce, .int .u64 cr, .int .i64 fe, .int .u64 fr], .int .i64 e, .bool before, .bool now, .int .u64 root] w fun x w' => x = .returned (.bool true) ∧ Below w.heap.size w w' := by
  have hq := EqBools.eq_bools'
  go_enter Try.func8, Try.ntmps8
  go_wp2_with (go_at_call 9; refine (awake_calls _).mono ?_; rintro x w1 ⟨rfl, hb⟩; have HB := Aside0.mk (below_then (below_alloc (Below.refl w.heap.size w) _) (by simp) hb); obtain ⟨hc, hf⟩ := bcell hb; have hz1 : w.heap.size < w1.heap.size := (by have := hb.size; simp at this; omega); clear hb)
  refine (next_some _ _ _ _ _ _ _ _ _ _ _ _ _ _ _ _ _ _).mono ?_
  rintro x w2 ⟨m0, m1, m2, m3, mpe, mpr, mce, mcr, mfe, mfr, rfl, hm, hb⟩
  have HM := Aside0.mk hm
  have HB2 := Aside0.mk (below_then HB.out HB.out.size hb)
  obtain ⟨hc2, hf2⟩ := bcell hb
  have hz2 : w.heap.size < w2.heap.size := by have := hb.size; omega
  clear hb hm HB
  go_wp2_with fail
  refine (next_some _ _ _ _ _ _ _ _ _ _ _ _ _ _ _ _ _ _).mono ?_
  rintro x w3 ⟨n0, n1, n2, n3, npe, npr, nce, ncr, nfe, nfr, rfl, hn, hb⟩
  obtain ⟨rfl, rfl, rfl, rfl, rfl, rfl, rfl⟩ := shift_eq HM.out hn
  have HB3 := Aside0.mk (below_then (below_alloc (below_alloc HB2.out _) _) (by simp; have := HB2.out.size; omega) hb)
  obtain ⟨hc3, hf3⟩ := bcell hb
  have hz3 : w2.heap.size + 1 < w3.heap.size := by have := hb.size; simp at this; omega
  have hz4 : w2.heap.size < w3.heap.size := by omega
  clear hb hn HM HB2
  go_wp2_with fail
  go_ret
  exact ⟨by simp, by repeat (first | exact HB3.out | apply below_alloc | apply below_drew)⟩

theorem none_is (s0 s1 s2 s3 : Bool) (pe pr ce cr fe fr e p q p' q' : Int) : ∃ fe' fr', next ⟨s0, s1, s2, s3, pe, pr, ce, cr, fe, fr⟩ e false false p q p' q' = ⟨false, s0, s1, s2, ce, cr, ce, cr, fe', fr'⟩ := by
  simp [next]

set_option maxHeartbeats 4000000 in
set_option maxRecDepth 100000 in
theorem justifyNone_law (s0 s1 s2 s3 : Bool) (pe pr ce cr fe fr e p q p' q' : Int) (w : World) :
    Calls Try.prog 5 #[.agg #[.bool s0, .bool s1, .bool s2, .bool s3, .int .i64 pe, .int .u64 pr, .int .i64 ce, .int .u64 cr, .int .i64 fe, .int .u64 fr], .int .i64 e, .agg #[.int .i64 p, .int .u64 q], .agg #[.int .i64 p', .int .u64 q']] w fun x w' => x = .returned (.bool true) ∧ Below w.heap.size w w' := by
  have hq := EqBools.eq_bools'
  go_enter Try.func5, Try.ntmps5
  go_wp2_with (go_at_call 9; refine (awake_calls _).mono ?_; rintro x w1 ⟨rfl, hb⟩; have HB := Aside0.mk (below_then (below_alloc (below_alloc (below_alloc (Below.refl w.heap.size w) _) _) _) (by simp; omega) hb); obtain ⟨x0, x1, x2⟩ := Block.box3 w #[.bool s0, .bool s1, .bool s2, .bool s3, .int .i64 pe, .int .u64 pr, .int .i64 ce, .int .u64 cr, .int .i64 fe, .int .u64 fr] #[.int .i64 p, .int .u64 q] #[.int .i64 p', .int .u64 q'] 27 25 25; have X0 := Aside0.mk (Block.stays x0 hb (by simp; omega)); have X1 := Aside0.mk (Block.stays x1 hb (by simp)); have X2 := Aside0.mk (Block.stays x2 hb (by simp)); have c0 := blk_cell X0.out; clear x0 x1 x2 hb)
  obtain ⟨wa, hwa⟩ : ∃ wa, wa = w1.alloc (.cells #[.bool s0, .bool s1, .bool s2, .bool s3, .int .i64 pe, .int .u64 pr, .int .i64 ce, .int .u64 cr, .int .i64 fe, .int .u64 fr] 27) := ⟨_, rfl⟩
  have HBK : Aside0 (wa.heap[w1.heap.size]? = some (.cells #[.bool s0, .bool s1, .bool s2, .bool s3, .int .i64 pe, .int .u64 pr, .int .i64 ce, .int .u64 cr, .int .i64 fe, .int .u64 fr] 27 (0, 0))) := ⟨by rw [hwa]; exact heap_alloc_new w1 _⟩
  have HB1 : Aside0 (Below w1.heap.size w1 wa) := ⟨by rw [hwa]; exact (Below.refl _ _).alloc (Nat.le_refl _) _⟩
  rw [← hwa]
  clear hwa
  go_loopw [10] (fun x wr => ∃ (k : Nat) (n0 n1 n2 n3 : Bool) (npe npr nfe nfr : Int), k ≤ 4 ∧ x = .int .i64 (k : Int) ∧
      Aside0 (wr.heap[w1.heap.size]? = some (.cells #[.bool n0, .bool n1, .bool n2, .bool n3, .int .i64 npe, .int .u64 npr, .int .i64 ce, .int .u64 cr, .int .i64 nfe, .int .u64 nfr] 27 (0, 0))) ∧
      Aside0 (Below w1.heap.size w1 wr) ∧ Aside0 ((1 ≤ k → (n0 = false ∧ npe = ce ∧ npr = cr)) ∧ (2 ≤ k → n1 = false) ∧ (3 ≤ k → n2 = false) ∧ (4 ≤ k → n3 = false)))
    (fun x _ => (4 - intOf x).toNat)
  case atStart => exact ⟨0, s0, s1, s2, s3, pe, pr, fe, fr, by omega, rfl, HBK, HB1, ⟨by omega, by omega, by omega, by omega⟩⟩
  case round =>
    obtain ⟨k, n0, n1, n2, n3, npe, npr, nfe, nfr, hk, rfl, HBK, HB1, HI⟩ := hrel
    have hg := blk_lt HBK.out
    have hcg := blk_cell HBK.out
    have e0 := blk_cell (Block.stays X0.out HB1.out (blk_lt X0.out))
    have e1 := blk_cell (Block.stays X1.out HB1.out (blk_lt X1.out))
    have e2 := blk_cell (Block.stays X2.out HB1.out (blk_lt X2.out))
    by_cases hlt : k < 4
    · obtain ⟨f1, f2, hn⟩ := none_is n0 n1 n2 n3 npe npr ce cr nfe nfr e p q p' q'
      have H := Aside0.mk (next_at _ _ _ _ _ _ _ _ _ _ _ _ _ _ _ _ _ _ _ _ _ _ _ _ _ _ _ hn)
      clear hn
      go_wp2_with (first
        | (go_at_call 10; refine (H.out _).mono ?_; rintro x w2 ⟨rfl, hb⟩; have HBK2 := Aside0.mk ((hb.block _ hg).trans HBK.out); have HB2 := Aside0.mk (below_then HB1.out HB1.out.size hb); clear hb)
        | (refine Block.store_block rfl rfl 27 (.tmp 9) (.tmp 22) rfl w1.heap.size 27 _ _ rfl rfl HBK2.out rfl (by kernel_rfl) (by simp [Value.oneCell']) ?_; intro w3 hbk hgr; have hcg3 := blk_cell hbk; have HB3 := Aside0.mk (HB2.out.grown hgr HB2.out.size (fun k hk => by cases hk; exact Nat.le_refl _)); have HBK3 := Aside0.mk hbk; have g0 := blk_cell (Block.stays X0.out HB3.out (blk_lt X0.out)); clear hgr hbk))
      go_roundw
      case rel => exact ⟨k + 1, false, n0, n1, n2, ce, cr, f1, f2, by omega, by go_num, HBK3, HB3, ⟨fun _ => ⟨rfl, rfl, rfl⟩, fun _ => (HI.out.1 (by omega)).1, fun _ => HI.out.2.1 (by omega), fun _ => HI.out.2.2.1 (by omega)⟩⟩
      case measure => simp [intOf]; omega
    · obtain ⟨i0, i1, i2, i3⟩ := HI.out
      obtain ⟨rfl, rfl, rfl⟩ := i0 (by omega)
      obtain rfl := i1 (by omega)
      obtain rfl := i2 (by omega)
      obtain rfl := i3 (by omega)
      clear i0 i1 i2 i3 HI
      have HBW : Aside0 (Below w.heap.size w wr) := ⟨below_then HB.out HB.out.size HB1.out⟩
      go_wp2_with fail
      go_ret
      exact ⟨by simp, HBW.out⟩
end Go.Proofs.Ytlofdhhpfhmkhaa.Law08
