/-
  The walks of the laws JustifyAll and JustifyLate of package psephoslaw08: each law's call answers true, and writes nothing that was there; no condition but that the first argument is of eight bits.
-/
import Derived.Test.YtlofdhhpfhmkhaaJustifyE
import Derived.Test.YtlofdhhpfhmkhaaEqBools
import Derived.Test.YtlofdhhpfhmkhaaBlock
namespace Go.Proofs.Ytlofdhhpfhmkhaa.Law08
open Go.RowKit Go.Proofs.YtlofdhhpfhmkhaaW.PrintWords Go.Proofs.Ytlofdhhpfhmkhaa.Own Go.Proofs.Ytlofdhhpfhmkhaa.Justify

/-- The head of JustifyAll's loop at an epoch. -/
def AllAt (root e : Int) (s : St) : Prop :=
  (e = 2 → s = ⟨false, false, false, false, 0, 1, 0, 1, 0, 1⟩) ∧ (3 ≤ e → s.b0 = true ∧ s.b1 = true ∧ s.ce = e - 1 ∧ s.cr = root ∧ (e = 3 → s.fe = 0 ∧ s.fr = 1) ∧ (4 ≤ e → s.fe = e - 2 ∧ s.fr = root))
theorem all_step {root e : Int} {s : St} (h : AllAt root e s) (h2 : 2 ≤ e) (he : e ≤ 1000) : AllAt root (e + 1) (next s e true true (e - 1) root e root) := by
  obtain ⟨h0, h1⟩ := h
  refine ⟨fun h => by omega, fun _ => ?_⟩
  by_cases he2 : e = 2
  · obtain rfl := h0 he2
    subst he2
    have w1 : wrap64 1 = 1 := IntWalk.wrap64_in 1 (by omega)
    simp [next, w1]
  · obtain ⟨a0, a1, a2, a3, _, _⟩ := h1 (by omega)
    have w1 : wrap64 e = e := IntWalk.wrap64_in e (by omega)
    simp [next, a0, w1, a2, a3]
    omega

set_option maxHeartbeats 4000000 in
set_option maxRecDepth 100000 in
theorem justifyAll_law (n root : Int) (w : World) (hn : 0 ≤ n ∧ n ≤ 255) :
    Calls Try.prog 6 #[.int .u8 n, .int .u64 root] w fun x w' => x = .returned (.bool true) ∧ Below w.heap.size w w' := by
  have hk : 0 ≤ n % 50 ∧ n % 50 < 50 := by omega
  go_enter Try.func6, Try.ntmps6
  go_wp2_with (go_at_call 9; refine (awake_calls _).mono ?_; rintro x w1 ⟨rfl, hb⟩; have HB := Aside0.mk hb; clear hb)
  obtain ⟨wa, hwa⟩ : ∃ wa, wa = w1.alloc (.cells #[.bool false, .bool false, .bool false, .bool false, .int .i64 0, .int .u64 1, .int .i64 0, .int .u64 1, .int .i64 0, .int .u64 1] 27) := ⟨_, rfl⟩
  have HBK : Aside0 (wa.heap[w1.heap.size]? = some (.cells #[.bool false, .bool false, .bool false, .bool false, .int .i64 0, .int .u64 1, .int .i64 0, .int .u64 1, .int .i64 0, .int .u64 1] 27 (0, 0))) := ⟨by rw [hwa]; exact heap_alloc_new w1 _⟩
  have HB1 : Aside0 (Below w1.heap.size w1 wa) := ⟨by rw [hwa]; exact (Below.refl _ _).alloc (Nat.le_refl _) _⟩
  rw [← hwa]
  clear hwa
  obtain ⟨k, hkk⟩ : ∃ k, 2 + n % 50 = k := ⟨_, rfl⟩
  rw [hkk]
  have hk2 : 2 ≤ k ∧ k < 52 := by omega
  clear hkk hk
  go_loopw [7] (fun x wr => ∃ (e : Int) (n0 n1 n2 n3 : Bool) (npe npr nce ncr nfe nfr : Int), 2 ≤ e ∧ e ≤ k + 1 ∧ x = .int .i64 e ∧
      Aside0 (wr.heap[w1.heap.size]? = some (.cells #[.bool n0, .bool n1, .bool n2, .bool n3, .int .i64 npe, .int .u64 npr, .int .i64 nce, .int .u64 ncr, .int .i64 nfe, .int .u64 nfr] 27 (0, 0))) ∧
      Aside0 (Below w1.heap.size w1 wr) ∧ Aside0 (AllAt root e ⟨n0, n1, n2, n3, npe, npr, nce, ncr, nfe, nfr⟩))
    (fun x _ => (k + 1 - intOf x).toNat)
  case atStart => exact ⟨2, false, false, false, false, 0, 1, 0, 1, 0, 1, by omega, by omega, rfl, HBK, HB1, ⟨⟨fun _ => rfl, fun h => by omega⟩⟩⟩
  case round =>
    obtain ⟨e, n0, n1, n2, n3, npe, npr, nce, ncr, nfe, nfr, he2, hek, rfl, HBK, HB1, HI⟩ := hrel
    have hg := blk_lt HBK.out
    have hcg := blk_cell HBK.out
    by_cases hlt : e ≤ k
    · have hs := all_step HI.out he2 (by omega)
      go_wp2_with (first
        | (go_at_call 10; refine (next_some _ _ _ _ _ _ _ _ _ _ _ _ _ _ _ _ _ _).mono ?_; rintro x w2 ⟨m0, m1, m2, m3, mpe, mpr, mce, mcr, mfe, mfr, rfl, hm, hb⟩; have HM := Aside0.mk hm; have HBK2 := Aside0.mk ((hb.block _ hg).trans HBK.out); have HB2 := Aside0.mk (below_then HB1.out HB1.out.size hb); clear hb hm)
        | (refine Block.store_block rfl rfl 27 (.tmp 5) (.tmp 33) rfl w1.heap.size 27 _ _ rfl rfl HBK2.out rfl (by kernel_rfl) (by simp [Value.oneCell']) ?_; intro w3 hbk hgr; have hcg3 := blk_cell hbk; have HB3 := Aside0.mk (HB2.out.grown hgr HB2.out.size (fun k hk => by cases hk; exact Nat.le_refl _)); have HBK3 := Aside0.mk hbk; clear hgr hbk))
      go_roundw
      case rel => exact ⟨e + 1, m0, m1, m2, m3, mpe, mpr, mce, mcr, mfe, mfr, by omega, by omega, rfl, HBK3, HB3, ⟨by rw [← HM.out]; exact hs⟩⟩
      case measure => simp [intOf]; omega
    · obtain rfl : e = k + 1 := by omega
      obtain ⟨i0, i1, i2, i3, i4, i5⟩ := HI.out.2 (by omega)
      have hr : k = nce := by have h : nce = k + 1 - 1 := i2; omega
      subst hr
      obtain rfl : n0 = true := i0
      obtain rfl : n1 = true := i1
      obtain rfl : ncr = root := i3
      have HBW : Aside0 (Below w.heap.size w wr) := ⟨below_then HB.out HB.out.size HB1.out⟩
      by_cases h0 : k = 2
      · obtain ⟨j0, j1⟩ := i4 (by omega)
        obtain rfl : nfe = 0 := j0
        obtain rfl : nfr = 1 := j1
        subst h0
        clear HI i4 i5
        repeat (first | go_values | go_skip | go_guarded | go_step | go_upon | go_back)
        go_ret
        exact ⟨by first | rfl | simp, by repeat (first | exact HBW.out | apply below_alloc | apply below_drew)⟩
      · obtain ⟨j0, j1⟩ := i5 (by omega)
        have hr2 : nfe = k - 1 := by have h : nfe = k + 1 - 2 := j0; omega
        subst hr2
        obtain rfl : nfr = ncr := j1
        have hp : 2 < k := by omega
        clear HI i4 i5 h0 j0
        repeat (first | go_values | go_skip | go_guarded | go_step | go_upon | go_back)
        go_ret
        exact ⟨by first | rfl | simp, by repeat (first | exact HBW.out | apply below_alloc | apply below_drew)⟩

/-- The head of JustifyLate's loop at an epoch. -/
def LateAt (root e : Int) (s : St) : Prop :=
  (e = 2 → s = ⟨false, false, false, false, 0, 1, 0, 1, 0, 1⟩) ∧ (3 ≤ e → s.b0 = false ∧ s.b1 = true ∧ s.ce = e - 2 ∧ s.cr = root ∧ (e = 3 → s.b2 = false ∧ s.pe = 0 ∧ s.pr = 1) ∧ (4 ≤ e → s.b2 = true ∧ s.pe = e - 3 ∧ s.pr = root) ∧ (e ≤ 4 → s.fe = 0 ∧ s.fr = 1) ∧ (5 ≤ e → s.fe = e - 4 ∧ s.fr = root))
theorem late_step {root e : Int} {s : St} (h : LateAt root e s) (h2 : 2 ≤ e) (he : e ≤ 1000) : LateAt root (e + 1) (next s e true false (e - 1) root e root) := by
  obtain ⟨h0, h1⟩ := h
  refine ⟨fun h => by omega, fun _ => ?_⟩
  by_cases he2 : e = 2
  · obtain rfl := h0 he2
    subst he2
    simp [next]
  · obtain ⟨a0, a1, a2, a3, a4, a5, a6, a7⟩ := h1 (by omega)
    by_cases he3 : e = 3
    · obtain ⟨b0, b1, _⟩ := a4 he3
      obtain ⟨c0, c1⟩ := a6 (by omega)
      subst he3
      have w2 : wrap64 2 = 2 := IntWalk.wrap64_in 2 (by omega)
      simp [next, a0, a1, a2, a3, b0, b1, c0, c1, w2]
    · obtain ⟨b0, b1, b2⟩ := a5 (by omega)
      have w2 : wrap64 (e - 3 + 2) = e - 1 := (IntWalk.wrap64_in (e - 3 + 2) (by omega)).trans (by omega)
      have w3 : wrap64 e = e := IntWalk.wrap64_in e (by omega)
      have ne : ¬ e - 1 = e := by omega
      simp [next, a0, a1, a2, a3, b0, b1, b2, w2, w3, ne]
      omega

set_option maxHeartbeats 4000000 in
set_option maxRecDepth 100000 in
theorem justifyLate_law (n root : Int) (w : World) (hn : 0 ≤ n ∧ n ≤ 255) :
    Calls Try.prog 7 #[.int .u8 n, .int .u64 root] w fun x w' => x = .returned (.bool true) ∧ Below w.heap.size w w' := by
  have hk : 0 ≤ n % 50 ∧ n % 50 < 50 := by omega
  go_enter Try.func7, Try.ntmps7
  go_wp2_with (go_at_call 9; refine (awake_calls _).mono ?_; rintro x w1 ⟨rfl, hb⟩; have HB := Aside0.mk hb; clear hb)
  obtain ⟨wa, hwa⟩ : ∃ wa, wa = w1.alloc (.cells #[.bool false, .bool false, .bool false, .bool false, .int .i64 0, .int .u64 1, .int .i64 0, .int .u64 1, .int .i64 0, .int .u64 1] 27) := ⟨_, rfl⟩
  have HBK : Aside0 (wa.heap[w1.heap.size]? = some (.cells #[.bool false, .bool false, .bool false, .bool false, .int .i64 0, .int .u64 1, .int .i64 0, .int .u64 1, .int .i64 0, .int .u64 1] 27 (0, 0))) := ⟨by rw [hwa]; exact heap_alloc_new w1 _⟩
  have HB1 : Aside0 (Below w1.heap.size w1 wa) := ⟨by rw [hwa]; exact (Below.refl _ _).alloc (Nat.le_refl _) _⟩
  rw [← hwa]
  clear hwa
  go_loopw [7] (fun x wr => ∃ (e : Int) (n0 n1 n2 n3 : Bool) (npe npr nce ncr nfe nfr : Int), 2 ≤ e ∧ e ≤ 5 + n % 50 + 1 ∧ x = .int .i64 e ∧
      Aside0 (wr.heap[w1.heap.size]? = some (.cells #[.bool n0, .bool n1, .bool n2, .bool n3, .int .i64 npe, .int .u64 npr, .int .i64 nce, .int .u64 ncr, .int .i64 nfe, .int .u64 nfr] 27 (0, 0))) ∧
      Aside0 (Below w1.heap.size w1 wr) ∧ Aside0 (LateAt root e ⟨n0, n1, n2, n3, npe, npr, nce, ncr, nfe, nfr⟩))
    (fun x _ => (5 + n % 50 + 1 - intOf x).toNat)
  case atStart => exact ⟨2, false, false, false, false, 0, 1, 0, 1, 0, 1, by omega, by omega, rfl, HBK, HB1, ⟨⟨fun _ => rfl, fun h => by omega⟩⟩⟩
  case round =>
    obtain ⟨e, n0, n1, n2, n3, npe, npr, nce, ncr, nfe, nfr, he2, hek, rfl, HBK, HB1, HI⟩ := hrel
    have hg := blk_lt HBK.out
    have hcg := blk_cell HBK.out
    by_cases hlt : e ≤ 5 + n % 50
    · have hs := late_step HI.out he2 (by omega)
      go_wp2_with (first
        | (go_at_call 10; refine (next_some _ _ _ _ _ _ _ _ _ _ _ _ _ _ _ _ _ _).mono ?_; rintro x w2 ⟨m0, m1, m2, m3, mpe, mpr, mce, mcr, mfe, mfr, rfl, hm, hb⟩; have HM := Aside0.mk hm; have HBK2 := Aside0.mk ((hb.block _ hg).trans HBK.out); have HB2 := Aside0.mk (below_then HB1.out HB1.out.size hb); clear hb hm)
        | (refine Block.store_block rfl rfl 27 (.tmp 5) (.tmp 32) rfl w1.heap.size 27 _ _ rfl rfl HBK2.out rfl (by kernel_rfl) (by simp [Value.oneCell']) ?_; intro w3 hbk hgr; have hcg3 := blk_cell hbk; have HB3 := Aside0.mk (HB2.out.grown hgr HB2.out.size (fun k hk => by cases hk; exact Nat.le_refl _)); have HBK3 := Aside0.mk hbk; clear hgr hbk))
      go_roundw
      case rel => exact ⟨e + 1, m0, m1, m2, m3, mpe, mpr, mce, mcr, mfe, mfr, by omega, by omega, rfl, HBK3, HB3, ⟨by rw [← HM.out]; exact hs⟩⟩
      case measure => simp [intOf]; omega
    · obtain rfl : e = 5 + n % 50 + 1 := by omega
      obtain ⟨i0, i1, i2, i3, i4, i5, i6, i7⟩ := HI.out.2 (by omega)
      obtain ⟨j0, j1, j2⟩ := i5 (by omega)
      obtain ⟨l0, l1⟩ := i7 (by omega)
      have hr : nce = 5 + n % 50 - 1 := by have h : nce = 5 + n % 50 + 1 - 2 := i2; omega
      have hr2 : npe = 5 + n % 50 - 2 := by have h : npe = 5 + n % 50 + 1 - 3 := j1; omega
      have hr3 : nfe = 5 + n % 50 - 3 := by have h : nfe = 5 + n % 50 + 1 - 4 := l0; omega
      subst hr hr2 hr3
      obtain rfl : ncr = root := i3
      obtain rfl : npr = ncr := j2
      obtain rfl : nfr = npr := l1
      have HBW : Aside0 (Below w.heap.size w wr) := ⟨below_then HB.out HB.out.size HB1.out⟩
      clear HI i4 i5 i6 i7
      go_wp2_with fail
      go_ret
      exact ⟨by first | rfl | simp, by repeat (first | exact HBW.out | apply below_alloc | apply below_drew)⟩
end Go.Proofs.Ytlofdhhpfhmkhaa.Law08
