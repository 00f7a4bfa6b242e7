/-
  A vote that a block has, counted: ledger.Count walked.
-/
import Derived.Test.YtiklbldanidfiaaLD
import Derived.Test.YtiklbldanidfiaaWEqStruct
import Derived.Test.YtiklbldanidfiaaQLx10
namespace Go.Proofs.Ytiklbldanidfiaa.QL
open Go.RowKit Go.Proofs.YtiklbldanidfiaaW.PrintWords Go.Proofs.YtiklbldanidfiaaW.PrintLast Go.Proofs.YtiklbldanidfiaaW.PrintMore Go.Proofs.Ytiklbldanidfiaa.Own Go.Proofs.Ytiklbldanidfiaa.Justify
set_option linter.unusedVariables false
set_option linter.unusedSimpArgs false
attribute [local go_sem] max2_is min2_is max_pair min_pair
attribute [local go_sem high] eqA34
abbrev qE0 : Array Bool := #[true, true, true, true, true, true, true, true, true, true, false, false, true, false, false, false, false, false, false, false, false, false, false, false, false, false, false, false, false, false, false, false, false, false]
abbrev qE1 : Array Bool := #[true, true, true, true, true, true, true, true, true, true, true, false, true, false, false, false, false, false, false, false, false, false, false, false, false, false, false, false, false, false, false, false, false, false]
set_option maxHeartbeats 16000000 in
set_option maxRecDepth 100000 in
theorem count_before_A (AX : Option Addr) (cX : Nat) (lx : List Int) (sl bo : Int) (s0 s1 s2 s3 : Bool) (pe pr ce cr fe fr ep vs vh vse vsr vte vtr : Int) (AB : Option Addr) (cB : Nat) (B : List Bool) (AN : Option Addr) (cN : Nat) (N : List Bool) (AW : Option Addr) (cW : Nat) (W : List Int) (kr : Nat) (v : Value) (g : Int → Int) (w : World) (h : PIn AX cX lx s0 s1 s2 s3 pe pr ce cr fe fr ep AB cB B AN cN N v g w) (hW : Kd.C (Kd.int .i64) w AW W.length W) (hcW : W.length ≤ cW)
    (hk : vote_Right.f kr lx sl bo vs vh vse vsr vte vtr W = some false) (hte : -9223372036854775808 ≤ vte ∧ vte ≤ 9223372036854775807) (t0 : (vte == ep) = false) :
    Calls Try.prog 18 #[.agg #[.slice AX lx.length cX, .int .i64 sl, .int .i64 bo], .agg #[.bool s0, .bool s1, .bool s2, .bool s3, .int .i64 pe, .int .u64 pr, .int .i64 ce, .int .u64 cr, .int .i64 fe, .int .u64 fr, .int .i64 ep, .slice AB B.length cB, .slice AN N.length cN], .agg #[.int .i64 vs, .int .u64 vh, .int .i64 vse, .int .u64 vsr, .int .i64 vte, .int .u64 vtr, .slice AW W.length cW], v] w fun x w' => x = .returned (.tuple #[.agg #[.bool s0, .bool s1, .bool s2, .bool s3, .int .i64 pe, .int .u64 pr, .int .i64 ce, .int .u64 cr, .int .i64 fe, .int .u64 fr, .int .i64 ep, .slice AB B.length cB, .slice AN N.length cN], .bool false]) ∧ Below w.heap.size w w' := by
  have IN0 := Aside0.mk h
  have HW0 := Aside0.mk hW
  have HCW := Aside0.mk hcW
  have HK := Aside0.mk hk
  have HTE := Aside0.mk hte
  clear h hW hcW hk hte
  go_enter Try.func18, Try.ntmps18
  go_upto_region 5 with fail
  have qb := box5 w #[.slice AX lx.length cX, .int .i64 sl, .int .i64 bo] #[.bool s0, .bool s1, .bool s2, .bool s3, .int .i64 pe, .int .u64 pr, .int .i64 ce, .int .u64 cr, .int .i64 fe, .int .u64 fr, .int .i64 ep, .slice AB B.length cB, .slice AN N.length cN] #[.int .i64 vs, .int .u64 vh, .int .i64 vse, .int .u64 vsr, .int .i64 vte, .int .u64 vtr, .slice AW W.length cW] #[.bool false, .bool false, .bool false, .bool false, .int .i64 0, .int .u64 0, .int .i64 0, .int .u64 0, .int .i64 0, .int .u64 0, .int .i64 0, .slice none 0 0, .slice none 0 0] #[.int .i64 pe, .int .u64 pr] 24 39 43 39 34
  obtain ⟨wr, hwr⟩ : ∃ wr, wr = ((((w.alloc (.cells #[.slice AX lx.length cX, .int .i64 sl, .int .i64 bo] 24)).alloc (.cells #[.bool s0, .bool s1, .bool s2, .bool s3, .int .i64 pe, .int .u64 pr, .int .i64 ce, .int .u64 cr, .int .i64 fe, .int .u64 fr, .int .i64 ep, .slice AB B.length cB, .slice AN N.length cN] 39)).alloc (.cells #[.int .i64 vs, .int .u64 vh, .int .i64 vse, .int .u64 vsr, .int .i64 vte, .int .u64 vtr, .slice AW W.length cW] 43)).alloc (.cells #[.bool false, .bool false, .bool false, .bool false, .int .i64 0, .int .u64 0, .int .i64 0, .int .u64 0, .int .i64 0, .int .u64 0, .int .i64 0, .slice none 0 0, .slice none 0 0] 39)).alloc (.cells #[.int .i64 pe, .int .u64 pr] 34) := ⟨_, rfl⟩
  simp only [← hwr] at qb
  have BM := Aside0.mk qb.1
  have BS := Aside0.mk qb.2.1
  have BV := Aside0.mk qb.2.2.1
  have BO := Aside0.mk qb.2.2.2.1
  have BP := Aside0.mk qb.2.2.2.2
  have HBR : Aside0 (Below w.heap.size w wr) := ⟨by rw [hwr]; exact below_alloc (below_alloc (below_alloc (below_alloc (below_alloc (Below.refl _ _) _) _) _) _) _⟩
  rw [← hwr]
  clear hwr qb
  have IN := Aside0.mk (IN0.out.below HBR.out)
  have HWr := Aside0.mk (Kd.C_below HW0.out HBR.out)
  rename_i K Q a0_
  refine start_ (n := 34) (S := fun w' => w'.cell? ⟨w.heap.size, 0, none⟩ = some (.slice AX lx.length cX) ∧ w'.cell? ⟨w.heap.size, 1, none⟩ = some (.int .i64 sl) ∧ w'.cell? ⟨w.heap.size, 2, none⟩ = some (.int .i64 bo) ∧ w'.cell? ⟨w.heap.size + 1, 10, none⟩ = some (.int .i64 ep) ∧ w'.cell? ⟨w.heap.size + 1 + 1, 0, none⟩ = some (.int .i64 vs) ∧ w'.cell? ⟨w.heap.size + 1 + 1, 1, none⟩ = some (.int .u64 vh) ∧ w'.cell? ⟨w.heap.size + 1 + 1, 2, none⟩ = some (.int .i64 vse) ∧ w'.cell? ⟨w.heap.size + 1 + 1, 3, none⟩ = some (.int .u64 vsr) ∧ w'.cell? ⟨w.heap.size + 1 + 1, 4, none⟩ = some (.int .i64 vte) ∧ w'.cell? ⟨w.heap.size + 1 + 1, 5, none⟩ = some (.int .u64 vtr) ∧ w'.cell? ⟨w.heap.size + 1 + 1, 6, none⟩ = some (.slice AW W.length cW) ∧ w'.cell? ⟨w.heap.size + 1 + 1 + 1 + 1, 0, none⟩ = some (.int .i64 pe) ∧ w'.cell? ⟨w.heap.size + 1 + 1 + 1 + 1, 1, none⟩ = some (.int .u64 pr)) (ds := []) qD0 (by kernel_rfl) rfl rfl ⟨(blk_cell BM.out 0), (blk_cell BM.out 1), (blk_cell BM.out 2), (blk_cell BS.out 10), (blk_cell BV.out 0), (blk_cell BV.out 1), (blk_cell BV.out 2), (blk_cell BV.out 3), (blk_cell BV.out 4), (blk_cell BV.out 5), (blk_cell BV.out 6), (blk_cell BP.out 0), (blk_cell BP.out 1)⟩ (fun hHeld => ?_)
  refine take_ (i := 0) (N := some 29) (v := ?_) (a' := ?_) qD1 rfl rfl (by kernel_rfl) (fun _ _ _ h => h) (Or.inl ⟨by rfl, ?_⟩) hHeld ?_ ?_
  rotate_left
  · rintro w' ⟨s0, s1, s2, s3, s4, s5, s6, s7, s8, s9, s10, s11, s12⟩
    go_simp
    with_reducible rfl
  rotate_left
  · simp only [Act.put, List.setIfInBounds_toArray, List.set_cons_zero, List.set_cons_succ, i64_w, i32_w]
    rfl
  refine take_ (i := 1) (N := some 30) (v := ?_) (a' := ?_) qD2 rfl rfl (by kernel_rfl) (fun _ _ _ h => h) (Or.inl ⟨by rfl, ?_⟩) hHeld ?_ ?_
  rotate_left
  · rintro w' ⟨s0, s1, s2, s3, s4, s5, s6, s7, s8, s9, s10, s11, s12⟩
    go_simp
    with_reducible rfl
  rotate_left
  · simp only [Act.put, List.setIfInBounds_toArray, List.set_cons_zero, List.set_cons_succ, i64_w, i32_w]
    rfl
  refine one_ (i := 2) (N := some 31) qD3 rfl rfl (by kernel_rfl) (by decide) (fun K hK => ?_)
  refine goes_ Try.func35 (by kernel_rfl) rfl #[.agg #[.slice AX lx.length cX, .int .i64 sl, .int .i64 bo], .agg #[.int .i64 vs, .int .u64 vh, .int .i64 vse, .int .u64 vsr, .int .i64 vte, .int .u64 vtr, .slice AW W.length cW]] (by rfl) rfl rfl (by simp only [List.map_toArray, List.map_cons, List.map_nil]; rfl) ?_
  with_reducible refine (vote_Right.calls kr AX cX lx sl bo vs vh vse vsr vte vtr AW cW W _ _ (Kd.C_below IN.out.X (below_drew (Below.refl wr.heap.size wr))) IN.out.lX (Kd.C_below HWr.out (below_drew (Below.refl wr.heap.size wr))) HCW.out HK.out).mono ?_
  rintro x wp1 ⟨rfl, hb⟩
  refine ⟨_, rfl, ?_⟩
  have HP1 := Aside0.mk (below_then (below_drew (Below.refl wr.heap.size wr)) (Nat.le_refl _) hb)
  clear hb
  refine hK.out _ _ ⟨(pw_cell_below HP1.out (blk_cell BM.out 0)), (pw_cell_below HP1.out (blk_cell BM.out 1)), (pw_cell_below HP1.out (blk_cell BM.out 2)), (pw_cell_below HP1.out (blk_cell BS.out 10)), (pw_cell_below HP1.out (blk_cell BV.out 0)), (pw_cell_below HP1.out (blk_cell BV.out 1)), (pw_cell_below HP1.out (blk_cell BV.out 2)), (pw_cell_below HP1.out (blk_cell BV.out 3)), (pw_cell_below HP1.out (blk_cell BV.out 4)), (pw_cell_below HP1.out (blk_cell BV.out 5)), (pw_cell_below HP1.out (blk_cell BV.out 6)), (pw_cell_below HP1.out (blk_cell BP.out 0)), (pw_cell_below HP1.out (blk_cell BP.out 1))⟩ (fun hHeld => ?_)
  clear hK K
  refine norm_ (a' := ?_) ?_ ?_
  rotate_left
  · show Act.put _ (some 31) _ = _
    simp only [Act.put, List.setIfInBounds_toArray, List.set_cons_zero, List.set_cons_succ, i64_w, i32_w]
    rfl
  refine pure_ (i := 3) (N := some 32) (v := ?_) (a' := ?_) qD4 rfl rfl (by kernel_rfl) (fun _ _ _ h => h) (Or.inl ⟨by rfl, ?_⟩) ?_ ?_
  rotate_left
  · intro w'
    go_simp
    with_reducible rfl
  rotate_left
  · simp only [Act.put, List.setIfInBounds_toArray, List.set_cons_zero, List.set_cons_succ, i64_w, i32_w]
    rfl
  refine pure_ (i := 4) (N := some 33) (v := ?_) (a' := ?_) qD5 rfl rfl (by kernel_rfl) (fun _ _ _ h => h) (Or.inl ⟨by rfl, ?_⟩) ?_ ?_
  rotate_left
  · intro w'
    go_simp
    with_reducible rfl
  rotate_left
  · simp only [Act.put, List.setIfInBounds_toArray, List.set_cons_zero, List.set_cons_succ, i64_w, i32_w]
    rfl
  refine pure_ (i := 5) (N := some 34) (v := undef) (a' := ?_) qD6 rfl rfl (by kernel_rfl) (fun _ _ _ h => h) (Or.inr ⟨by rfl, rfl⟩) ?_ ?_
  rotate_left
  · simp only [Act.put, List.setIfInBounds_toArray, List.set_cons_zero, List.set_cons_succ, i64_w, i32_w]
    rfl
  refine pure_ (i := 6) (N := some 35) (v := undef) (a' := ?_) qD7 rfl rfl (by kernel_rfl) (fun _ _ _ h => h) (Or.inr ⟨by rfl, rfl⟩) ?_ ?_
  rotate_left
  · simp only [Act.put, List.setIfInBounds_toArray, List.set_cons_zero, List.set_cons_succ, i64_w, i32_w]
    rfl
  refine pure_ (i := 7) (N := some 36) (v := undef) (a' := ?_) qD8 rfl rfl (by kernel_rfl) (fun _ _ _ h => h) (Or.inr ⟨by rfl, rfl⟩) ?_ ?_
  rotate_left
  · simp only [Act.put, List.setIfInBounds_toArray, List.set_cons_zero, List.set_cons_succ, i64_w, i32_w]
    rfl
  refine pure_ (i := 8) (N := some 37) (v := undef) (a' := ?_) qD9 rfl rfl (by kernel_rfl) (fun _ _ _ h => h) (Or.inr ⟨by rfl, rfl⟩) ?_ ?_
  rotate_left
  · simp only [Act.put, List.setIfInBounds_toArray, List.set_cons_zero, List.set_cons_succ, i64_w, i32_w]
    rfl
  refine pure_ (i := 9) (N := some 38) (v := undef) (a' := ?_) qD10 rfl rfl (by kernel_rfl) (fun _ _ _ h => h) (Or.inr ⟨by rfl, rfl⟩) ?_ ?_
  rotate_left
  · simp only [Act.put, List.setIfInBounds_toArray, List.set_cons_zero, List.set_cons_succ, i64_w, i32_w]
    rfl
  refine pure_ (i := 10) (N := some 39) (v := undef) (a' := ?_) qD11 rfl rfl (by kernel_rfl) (fun _ _ _ h => h) (Or.inr ⟨by rfl, rfl⟩) ?_ ?_
  rotate_left
  · simp only [Act.put, List.setIfInBounds_toArray, List.set_cons_zero, List.set_cons_succ, i64_w, i32_w]
    rfl
  refine pure_ (i := 11) (N := some 40) (v := undef) (a' := ?_) qD12 rfl rfl (by kernel_rfl) (fun _ _ _ h => h) (Or.inr ⟨by rfl, rfl⟩) ?_ ?_
  rotate_left
  · simp only [Act.put, List.setIfInBounds_toArray, List.set_cons_zero, List.set_cons_succ, i64_w, i32_w]
    rfl
  refine pure_ (i := 12) (N := some 41) (v := undef) (a' := ?_) qD13 rfl rfl (by kernel_rfl) (fun _ _ _ h => h) (Or.inr ⟨by rfl, rfl⟩) ?_ ?_
  rotate_left
  · simp only [Act.put, List.setIfInBounds_toArray, List.set_cons_zero, List.set_cons_succ, i64_w, i32_w]
    rfl
  refine pure_ (i := 13) (N := some 42) (v := undef) (a' := ?_) qD14 rfl rfl (by kernel_rfl) (fun _ _ _ h => h) (Or.inr ⟨by rfl, rfl⟩) ?_ ?_
  rotate_left
  · simp only [Act.put, List.setIfInBounds_toArray, List.set_cons_zero, List.set_cons_succ, i64_w, i32_w]
    rfl
  refine pure_ (i := 14) (N := some 43) (v := undef) (a' := ?_) qD15 rfl rfl (by kernel_rfl) (fun _ _ _ h => h) (Or.inr ⟨by rfl, rfl⟩) ?_ ?_
  rotate_left
  · simp only [Act.put, List.setIfInBounds_toArray, List.set_cons_zero, List.set_cons_succ, i64_w, i32_w]
    rfl
  refine pure_ (i := 15) (N := some 44) (v := undef) (a' := ?_) qD16 rfl rfl (by kernel_rfl) (fun _ _ _ h => h) (Or.inr ⟨by rfl, rfl⟩) ?_ ?_
  rotate_left
  · simp only [Act.put, List.setIfInBounds_toArray, List.set_cons_zero, List.set_cons_succ, i64_w, i32_w]
    rfl
  refine pure_ (i := 16) (N := some 45) (v := ?_) (a' := ?_) qD17 rfl rfl (by kernel_rfl) (fun _ _ _ h => h) (Or.inl ⟨by rfl, ?_⟩) ?_ ?_
  rotate_left
  · intro w'
    go_simp
    with_reducible rfl
  rotate_left
  · simp only [Act.put, List.setIfInBounds_toArray, List.set_cons_zero, List.set_cons_succ, i64_w, i32_w]
    rfl
  refine pure_ (i := 17) (N := some 46) (v := ?_) (a' := ?_) qD18 rfl rfl (by kernel_rfl) (fun _ _ _ h => h) (Or.inl ⟨by rfl, ?_⟩) ?_ ?_
  rotate_left
  · intro w'
    go_simp
    with_reducible rfl
  rotate_left
  · simp only [Act.put, List.setIfInBounds_toArray, List.set_cons_zero, List.set_cons_succ, i64_w, i32_w]
    rfl
  refine pure_ (i := 18) (N := some 47) (v := undef) (a' := ?_) qD19 rfl rfl (by kernel_rfl) (fun _ _ _ h => h) (Or.inr ⟨by rfl, rfl⟩) ?_ ?_
  rotate_left
  · simp only [Act.put, List.setIfInBounds_toArray, List.set_cons_zero, List.set_cons_succ, i64_w, i32_w]
    rfl
  refine pure_ (i := 19) (N := some 48) (v := undef) (a' := ?_) qD20 rfl rfl (by kernel_rfl) (fun _ _ _ h => h) (Or.inr ⟨by rfl, rfl⟩) ?_ ?_
  rotate_left
  · simp only [Act.put, List.setIfInBounds_toArray, List.set_cons_zero, List.set_cons_succ, i64_w, i32_w]
    rfl
  refine pure_ (i := 20) (N := some 49) (v := undef) (a' := ?_) qD21 rfl rfl (by kernel_rfl) (fun _ _ _ h => h) (Or.inr ⟨by rfl, rfl⟩) ?_ ?_
  rotate_left
  · simp only [Act.put, List.setIfInBounds_toArray, List.set_cons_zero, List.set_cons_succ, i64_w, i32_w]
    rfl
  refine pure_ (i := 21) (N := some 50) (v := undef) (a' := ?_) qD22 rfl rfl (by kernel_rfl) (fun _ _ _ h => h) (Or.inr ⟨by rfl, rfl⟩) ?_ ?_
  rotate_left
  · simp only [Act.put, List.setIfInBounds_toArray, List.set_cons_zero, List.set_cons_succ, i64_w, i32_w]
    rfl
  refine pure_ (i := 22) (N := some 51) (v := ?_) (a' := ?_) qD23 rfl rfl (by kernel_rfl) (fun _ _ _ h => h) (Or.inl ⟨by rfl, ?_⟩) ?_ ?_
  rotate_left
  · intro w'
    go_simp
    with_reducible rfl
  rotate_left
  · simp only [Act.put, List.setIfInBounds_toArray, List.set_cons_zero, List.set_cons_succ, i64_w, i32_w]
    rfl
  refine pure_ (i := 23) (N := some 52) (v := ?_) (a' := ?_) qD24 rfl rfl (by kernel_rfl) (fun _ _ _ h => h) (Or.inl ⟨by rfl, ?_⟩) ?_ ?_
  rotate_left
  · intro w'
    go_simp
    with_reducible rfl
  rotate_left
  · simp only [Act.put, List.setIfInBounds_toArray, List.set_cons_zero, List.set_cons_succ, i64_w, i32_w]
    rfl
  refine pure_ (i := 24) (N := some 53) (v := undef) (a' := ?_) qD25 rfl rfl (by kernel_rfl) (fun _ _ _ h => h) (Or.inr ⟨by rfl, rfl⟩) ?_ ?_
  rotate_left
  · simp only [Act.put, List.setIfInBounds_toArray, List.set_cons_zero, List.set_cons_succ, i64_w, i32_w]
    rfl
  refine pure_ (i := 25) (N := some 54) (v := undef) (a' := ?_) qD26 rfl rfl (by kernel_rfl) (fun _ _ _ h => h) (Or.inr ⟨by rfl, rfl⟩) ?_ ?_
  rotate_left
  · simp only [Act.put, List.setIfInBounds_toArray, List.set_cons_zero, List.set_cons_succ, i64_w, i32_w]
    rfl
  refine pure_ (i := 26) (N := some 55) (v := undef) (a' := ?_) qD27 rfl rfl (by kernel_rfl) (fun _ _ _ h => h) (Or.inr ⟨by rfl, rfl⟩) ?_ ?_
  rotate_left
  · simp only [Act.put, List.setIfInBounds_toArray, List.set_cons_zero, List.set_cons_succ, i64_w, i32_w]
    rfl
  refine pure_ (i := 27) (N := some 56) (v := undef) (a' := ?_) qD28 rfl rfl (by kernel_rfl) (fun _ _ _ h => h) (Or.inr ⟨by rfl, rfl⟩) ?_ ?_
  rotate_left
  · simp only [Act.put, List.setIfInBounds_toArray, List.set_cons_zero, List.set_cons_succ, i64_w, i32_w]
    rfl
  refine pure_ (i := 28) (N := some 57) (v := undef) (a' := ?_) qD29 rfl rfl (by kernel_rfl) (fun _ _ _ h => h) (Or.inr ⟨by rfl, rfl⟩) ?_ ?_
  rotate_left
  · simp only [Act.put, List.setIfInBounds_toArray, List.set_cons_zero, List.set_cons_succ, i64_w, i32_w]
    rfl
  refine pure_ (i := 29) (N := some 58) (v := undef) (a' := ?_) qD30 rfl rfl (by kernel_rfl) (fun _ _ _ h => h) (Or.inr ⟨by rfl, rfl⟩) ?_ ?_
  rotate_left
  · simp only [Act.put, List.setIfInBounds_toArray, List.set_cons_zero, List.set_cons_succ, i64_w, i32_w]
    rfl
  refine pure_ (i := 30) (N := some 59) (v := undef) (a' := ?_) qD31 rfl rfl (by kernel_rfl) (fun _ _ _ h => h) (Or.inr ⟨by rfl, rfl⟩) ?_ ?_
  rotate_left
  · simp only [Act.put, List.setIfInBounds_toArray, List.set_cons_zero, List.set_cons_succ, i64_w, i32_w]
    rfl
  refine pure_ (i := 31) (N := some 60) (v := undef) (a' := ?_) qD32 rfl rfl (by kernel_rfl) (fun _ _ _ h => h) (Or.inr ⟨by rfl, rfl⟩) ?_ ?_
  rotate_left
  · simp only [Act.put, List.setIfInBounds_toArray, List.set_cons_zero, List.set_cons_succ, i64_w, i32_w]
    rfl
  refine pure_ (i := 32) (N := some 61) (v := undef) (a' := ?_) qD33 rfl rfl (by kernel_rfl) (fun _ _ _ h => h) (Or.inr ⟨by rfl, rfl⟩) ?_ ?_
  rotate_left
  · simp only [Act.put, List.setIfInBounds_toArray, List.set_cons_zero, List.set_cons_succ, i64_w, i32_w]
    rfl
  refine pure_ (i := 33) (N := some 62) (v := ?_) (a' := ?_) qD34 rfl rfl (by kernel_rfl) (fun _ _ _ h => h) (Or.inl ⟨by rfl, ?_⟩) ?_ ?_
  rotate_left
  · intro w'
    go_simp
    with_reducible rfl
  rotate_left
  · simp only [Act.put, List.setIfInBounds_toArray, List.set_cons_zero, List.set_cons_succ, i64_w, i32_w]
    rfl
  refine done_ (by kernel_rfl) ?_
  have hs0 := blk_cell (blk_below BS.out HP1.out)
  go_wp2_with (refine Block.store_block rfl rfl 39 (.tmp 8) (.tmp 63) rfl (w.heap.size + 1 + 1 + 1) 39 _ _ rfl rfl (blk_below BO.out HP1.out) rfl (by kernel_rfl) (by simp [Value.oneCell']) ?_; intro w9 hbk hgr; have HZ := Aside0.mk ((below_then HBR.out HBR.out.size HP1.out).grown hgr (below_then HBR.out HBR.out.size HP1.out).size (fun k hk => by cases hk; omega)); have hc9 := blk_cell hbk; clear hgr hbk)
  refine bodyPost_ret (v := .tuple #[.agg #[.bool s0, .bool s1, .bool s2, .bool s3, .int .i64 pe, .int .u64 pr, .int .i64 ce, .int .u64 cr, .int .i64 fe, .int .u64 fr, .int .i64 ep, .slice AB B.length cB, .slice AN N.length cN], .bool false]) ?_ rfl ⟨rfl, HZ.out⟩
  simp [results, Try.results18, go_sem, hc9]
end Go.Proofs.Ytiklbldanidfiaa.QL
namespace Go.Proofs.Ytiklbldanidfiaa.QL
open Go.RowKit Go.Proofs.YtiklbldanidfiaaW.PrintWords Go.Proofs.YtiklbldanidfiaaW.PrintLast Go.Proofs.YtiklbldanidfiaaW.PrintMore Go.Proofs.Ytiklbldanidfiaa.Own Go.Proofs.Ytiklbldanidfiaa.Justify
set_option linter.unusedVariables false
set_option linter.unusedSimpArgs false
attribute [local go_sem] max2_is min2_is max_pair min_pair
attribute [local go_sem high] eqA34
set_option maxHeartbeats 16000000 in
set_option maxRecDepth 100000 in
theorem count_before_D (AX : Option Addr) (cX : Nat) (lx : List Int) (sl bo : Int) (s0 s1 s2 s3 : Bool) (pe pr ce cr fe fr ep vs vh vse vsr vte vtr : Int) (AB : Option Addr) (cB : Nat) (B : List Bool) (AN : Option Addr) (cN : Nat) (N : List Bool) (AW : Option Addr) (cW : Nat) (W : List Int) (kr : Nat) (v : Value) (g : Int → Int) (w : World) (h : PIn AX cX lx s0 s1 s2 s3 pe pr ce cr fe fr ep AB cB B AN cN N v g w) (hW : Kd.C (Kd.int .i64) w AW W.length W) (hcW : W.length ≤ cW)
    (hk : vote_Right.f kr lx sl bo vs vh vse vsr vte vtr W = some true) (hte : -9223372036854775808 ≤ vte ∧ vte ≤ 9223372036854775807) (t0 : (vte == ep) = false) (t1 : (wrap64 (vte + 1) != ep) = true) :
    Calls Try.prog 18 #[.agg #[.slice AX lx.length cX, .int .i64 sl, .int .i64 bo], .agg #[.bool s0, .bool s1, .bool s2, .bool s3, .int .i64 pe, .int .u64 pr, .int .i64 ce, .int .u64 cr, .int .i64 fe, .int .u64 fr, .int .i64 ep, .slice AB B.length cB, .slice AN N.length cN], .agg #[.int .i64 vs, .int .u64 vh, .int .i64 vse, .int .u64 vsr, .int .i64 vte, .int .u64 vtr, .slice AW W.length cW], v] w fun x w' => x = .returned (.tuple #[.agg #[.bool s0, .bool s1, .bool s2, .bool s3, .int .i64 pe, .int .u64 pr, .int .i64 ce, .int .u64 cr, .int .i64 fe, .int .u64 fr, .int .i64 ep, .slice AB B.length cB, .slice AN N.length cN], .bool false]) ∧ Below w.heap.size w w' := by
  have IN0 := Aside0.mk h
  have HW0 := Aside0.mk hW
  have HCW := Aside0.mk hcW
  have HK := Aside0.mk hk
  have HTE := Aside0.mk hte
  clear h hW hcW hk hte
  go_enter Try.func18, Try.ntmps18
  go_upto_region 5 with fail
  have qb := box5 w #[.slice AX lx.length cX, .int .i64 sl, .int .i64 bo] #[.bool s0, .bool s1, .bool s2, .bool s3, .int .i64 pe, .int .u64 pr, .int .i64 ce, .int .u64 cr, .int .i64 fe, .int .u64 fr, .int .i64 ep, .slice AB B.length cB, .slice AN N.length cN] #[.int .i64 vs, .int .u64 vh, .int .i64 vse, .int .u64 vsr, .int .i64 vte, .int .u64 vtr, .slice AW W.length cW] #[.bool false, .bool false, .bool false, .bool false, .int .i64 0, .int .u64 0, .int .i64 0, .int .u64 0, .int .i64 0, .int .u64 0, .int .i64 0, .slice none 0 0, .slice none 0 0] #[.int .i64 pe, .int .u64 pr] 24 39 43 39 34
  obtain ⟨wr, hwr⟩ : ∃ wr, wr = ((((w.alloc (.cells #[.slice AX lx.length cX, .int .i64 sl, .int .i64 bo] 24)).alloc (.cells #[.bool s0, .bool s1, .bool s2, .bool s3, .int .i64 pe, .int .u64 pr, .int .i64 ce, .int .u64 cr, .int .i64 fe, .int .u64 fr, .int .i64 ep, .slice AB B.length cB, .slice AN N.length cN] 39)).alloc (.cells #[.int .i64 vs, .int .u64 vh, .int .i64 vse, .int .u64 vsr, .int .i64 vte, .int .u64 vtr, .slice AW W.length cW] 43)).alloc (.cells #[.bool false, .bool false, .bool false, .bool false, .int .i64 0, .int .u64 0, .int .i64 0, .int .u64 0, .int .i64 0, .int .u64 0, .int .i64 0, .slice none 0 0, .slice none 0 0] 39)).alloc (.cells #[.int .i64 pe, .int .u64 pr] 34) := ⟨_, rfl⟩
  simp only [← hwr] at qb
  have BM := Aside0.mk qb.1
  have BS := Aside0.mk qb.2.1
  have BV := Aside0.mk qb.2.2.1
  have BO := Aside0.mk qb.2.2.2.1
  have BP := Aside0.mk qb.2.2.2.2
  have HBR : Aside0 (Below w.heap.size w wr) := ⟨by rw [hwr]; exact below_alloc (below_alloc (below_alloc (below_alloc (below_alloc (Below.refl _ _) _) _) _) _) _⟩
  rw [← hwr]
  clear hwr qb
  have IN := Aside0.mk (IN0.out.below HBR.out)
  have HWr := Aside0.mk (Kd.C_below HW0.out HBR.out)
  rename_i K Q a0_
  refine start_ (n := 34) (S := fun w' => w'.cell? ⟨w.heap.size, 0, none⟩ = some (.slice AX lx.length cX) ∧ w'.cell? ⟨w.heap.size, 1, none⟩ = some (.int .i64 sl) ∧ w'.cell? ⟨w.heap.size, 2, none⟩ = some (.int .i64 bo) ∧ w'.cell? ⟨w.heap.size + 1, 10, none⟩ = some (.int .i64 ep) ∧ w'.cell? ⟨w.heap.size + 1 + 1, 0, none⟩ = some (.int .i64 vs) ∧ w'.cell? ⟨w.heap.size + 1 + 1, 1, none⟩ = some (.int .u64 vh) ∧ w'.cell? ⟨w.heap.size + 1 + 1, 2, none⟩ = some (.int .i64 vse) ∧ w'.cell? ⟨w.heap.size + 1 + 1, 3, none⟩ = some (.int .u64 vsr) ∧ w'.cell? ⟨w.heap.size + 1 + 1, 4, none⟩ = some (.int .i64 vte) ∧ w'.cell? ⟨w.heap.size + 1 + 1, 5, none⟩ = some (.int .u64 vtr) ∧ w'.cell? ⟨w.heap.size + 1 + 1, 6, none⟩ = some (.slice AW W.length cW) ∧ w'.cell? ⟨w.heap.size + 1 + 1 + 1 + 1, 0, none⟩ = some (.int .i64 pe) ∧ w'.cell? ⟨w.heap.size + 1 + 1 + 1 + 1, 1, none⟩ = some (.int .u64 pr)) (ds := []) qD0 (by kernel_rfl) rfl rfl ⟨(blk_cell BM.out 0), (blk_cell BM.out 1), (blk_cell BM.out 2), (blk_cell BS.out 10), (blk_cell BV.out 0), (blk_cell BV.out 1), (blk_cell BV.out 2), (blk_cell BV.out 3), (blk_cell BV.out 4), (blk_cell BV.out 5), (blk_cell BV.out 6), (blk_cell BP.out 0), (blk_cell BP.out 1)⟩ (fun hHeld => ?_)
  refine take_ (i := 0) (N := some 29) (v := ?_) (a' := ?_) qD1 rfl rfl (by kernel_rfl) (fun _ _ _ h => h) (Or.inl ⟨by rfl, ?_⟩) hHeld ?_ ?_
  rotate_left
  · rintro w' ⟨s0, s1, s2, s3, s4, s5, s6, s7, s8, s9, s10, s11, s12⟩
    go_simp
    with_reducible rfl
  rotate_left
  · simp only [Act.put, List.setIfInBounds_toArray, List.set_cons_zero, List.set_cons_succ, i64_w, i32_w]
    rfl
  refine take_ (i := 1) (N := some 30) (v := ?_) (a' := ?_) qD2 rfl rfl (by kernel_rfl) (fun _ _ _ h => h) (Or.inl ⟨by rfl, ?_⟩) hHeld ?_ ?_
  rotate_left
  · rintro w' ⟨s0, s1, s2, s3, s4, s5, s6, s7, s8, s9, s10, s11, s12⟩
    go_simp
    with_reducible rfl
  rotate_left
  · simp only [Act.put, List.setIfInBounds_toArray, List.set_cons_zero, List.set_cons_succ, i64_w, i32_w]
    rfl
  refine one_ (i := 2) (N := some 31) qD3 rfl rfl (by kernel_rfl) (by decide) (fun K hK => ?_)
  refine goes_ Try.func35 (by kernel_rfl) rfl #[.agg #[.slice AX lx.length cX, .int .i64 sl, .int .i64 bo], .agg #[.int .i64 vs, .int .u64 vh, .int .i64 vse, .int .u64 vsr, .int .i64 vte, .int .u64 vtr, .slice AW W.length cW]] (by rfl) rfl rfl (by simp only [List.map_toArray, List.map_cons, List.map_nil]; rfl) ?_
  with_reducible refine (vote_Right.calls kr AX cX lx sl bo vs vh vse vsr vte vtr AW cW W _ _ (Kd.C_below IN.out.X (below_drew (Below.refl wr.heap.size wr))) IN.out.lX (Kd.C_below HWr.out (below_drew (Below.refl wr.heap.size wr))) HCW.out HK.out).mono ?_
  rintro x wp1 ⟨rfl, hb⟩
  refine ⟨_, rfl, ?_⟩
  have HP1 := Aside0.mk (below_then (below_drew (Below.refl wr.heap.size wr)) (Nat.le_refl _) hb)
  clear hb
  refine hK.out _ _ ⟨(pw_cell_below HP1.out (blk_cell BM.out 0)), (pw_cell_below HP1.out (blk_cell BM.out 1)), (pw_cell_below HP1.out (blk_cell BM.out 2)), (pw_cell_below HP1.out (blk_cell BS.out 10)), (pw_cell_below HP1.out (blk_cell BV.out 0)), (pw_cell_below HP1.out (blk_cell BV.out 1)), (pw_cell_below HP1.out (blk_cell BV.out 2)), (pw_cell_below HP1.out (blk_cell BV.out 3)), (pw_cell_below HP1.out (blk_cell BV.out 4)), (pw_cell_below HP1.out (blk_cell BV.out 5)), (pw_cell_below HP1.out (blk_cell BV.out 6)), (pw_cell_below HP1.out (blk_cell BP.out 0)), (pw_cell_below HP1.out (blk_cell BP.out 1))⟩ (fun hHeld => ?_)
  clear hK K
  refine norm_ (a' := ?_) ?_ ?_
  rotate_left
  · show Act.put _ (some 31) _ = _
    simp only [Act.put, List.setIfInBounds_toArray, List.set_cons_zero, List.set_cons_succ, i64_w, i32_w]
    rfl
  refine pure_ (i := 3) (N := some 32) (v := ?_) (a' := ?_) qD4 rfl rfl (by kernel_rfl) (fun _ _ _ h => h) (Or.inl ⟨by rfl, ?_⟩) ?_ ?_
  rotate_left
  · intro w'
    go_simp
    with_reducible rfl
  rotate_left
  · simp only [Act.put, List.setIfInBounds_toArray, List.set_cons_zero, List.set_cons_succ, i64_w, i32_w]
    rfl
  refine pure_ (i := 4) (N := some 33) (v := ?_) (a' := ?_) qD5 rfl rfl (by kernel_rfl) (fun _ _ _ h => h) (Or.inl ⟨by rfl, ?_⟩) ?_ ?_
  rotate_left
  · intro w'
    go_simp
    with_reducible rfl
  rotate_left
  · simp only [Act.put, List.setIfInBounds_toArray, List.set_cons_zero, List.set_cons_succ, i64_w, i32_w]
    rfl
  refine pure_ (i := 5) (N := some 34) (v := ?_) (a' := ?_) qD6 rfl rfl (by kernel_rfl) (fun _ _ _ h => h) (Or.inl ⟨by rfl, ?_⟩) ?_ ?_
  rotate_left
  · intro w'
    go_simp
    with_reducible rfl
  rotate_left
  · simp only [Act.put, List.setIfInBounds_toArray, List.set_cons_zero, List.set_cons_succ, i64_w, i32_w]
    rfl
  refine pure_ (i := 6) (N := some 35) (v := ?_) (a' := ?_) qD7 rfl rfl (by kernel_rfl) (fun _ _ _ h => h) (Or.inl ⟨by rfl, ?_⟩) ?_ ?_
  rotate_left
  · intro w'
    go_simp
    with_reducible rfl
  rotate_left
  · simp only [Act.put, List.setIfInBounds_toArray, List.set_cons_zero, List.set_cons_succ, i64_w, i32_w]
    rfl
  refine pure_ (i := 7) (N := some 36) (v := ?_) (a' := ?_) qD8 rfl rfl (by kernel_rfl) (fun _ _ _ h => h) (Or.inl ⟨by rfl, ?_⟩) ?_ ?_
  rotate_left
  · intro w'
    go_simp
    with_reducible rfl
  rotate_left
  · simp only [Act.put, List.setIfInBounds_toArray, List.set_cons_zero, List.set_cons_succ, i64_w, i32_w]
    rfl
  refine pure_ (i := 8) (N := some 37) (v := ?_) (a' := ?_) qD9 rfl rfl (by kernel_rfl) (fun _ _ _ h => h) (Or.inl ⟨by rfl, ?_⟩) ?_ ?_
  rotate_left
  · intro w'
    go_simp
    with_reducible rfl
  rotate_left
  · simp only [Act.put, List.setIfInBounds_toArray, List.set_cons_zero, List.set_cons_succ, i64_w, i32_w]
    rfl
  refine pure_ (i := 9) (N := some 38) (v := ?_) (a' := ?_) qD10 rfl rfl (by kernel_rfl) (fun _ _ _ h => h) (Or.inl ⟨by rfl, ?_⟩) ?_ ?_
  rotate_left
  · intro w'
    go_simp
    with_reducible rfl
  rotate_left
  · simp only [Act.put, List.setIfInBounds_toArray, List.set_cons_zero, List.set_cons_succ, i64_w, i32_w]
    rfl
  refine pure_ (i := 12) (N := some 41) (v := ?_) (a' := ?_) qE0 rfl rfl (by kernel_rfl) (fun _ _ _ h => h) (Or.inl ⟨by rfl, ?_⟩) ?_ ?_
  rotate_left
  · intro w'
    go_simp
    with_reducible rfl
  rotate_left
  · simp only [Act.put, List.setIfInBounds_toArray, List.set_cons_zero, List.set_cons_succ, i64_w, i32_w]
    rfl
  refine take_ (i := 10) (N := some 39) (v := ?_) (a' := ?_) qE1 rfl rfl (by kernel_rfl) (fun _ _ _ h => h) (Or.inl ⟨by rfl, ?_⟩) hHeld ?_ ?_
  rotate_left
  · rintro w' ⟨s0, s1, s2, s3, s4, s5, s6, s7, s8, s9, s10, s11, s12⟩
    go_simp
    with_reducible rfl
  rotate_left
  · simp only [Act.put, List.setIfInBounds_toArray, List.set_cons_zero, List.set_cons_succ, i64_w, i32_w]
    rfl
  refine pure_ (i := 11) (N := some 40) (v := ?_) (a' := ?_) qD13 rfl rfl (by kernel_rfl) (fun _ _ _ h => h) (Or.inl ⟨by rfl, ?_⟩) ?_ ?_
  rotate_left
  · intro w'
    go_simp
    with_reducible rfl
  rotate_left
  · simp only [Act.put, List.setIfInBounds_toArray, List.set_cons_zero, List.set_cons_succ, i64_w, i32_w]
    rfl
  refine take_ (i := 13) (N := some 42) (v := ?_) (a' := ?_) qD14 rfl rfl (by kernel_rfl) (fun _ _ _ h => h) (Or.inl ⟨by rfl, ?_⟩) hHeld ?_ ?_
  rotate_left
  · rintro w' ⟨s0, s1, s2, s3, s4, s5, s6, s7, s8, s9, s10, s11, s12⟩
    go_simp
    with_reducible rfl
  rotate_left
  · simp only [Act.put, List.setIfInBounds_toArray, List.set_cons_zero, List.set_cons_succ, i64_w, i32_w]
    rfl
  refine pure_ (i := 14) (N := some 43) (v := ?_) (a' := ?_) qD15 rfl rfl (by kernel_rfl) (fun _ _ _ h => h) (Or.inl ⟨by rfl, ?_⟩) ?_ ?_
  rotate_left
  · intro w'
    go_simp
    with_reducible rfl
  rotate_left
  · simp only [Act.put, List.setIfInBounds_toArray, List.set_cons_zero, List.set_cons_succ, i64_w, i32_w]
    rfl
  refine pure_ (i := 15) (N := some 44) (v := ?_) (a' := ?_) qD16 rfl rfl (by kernel_rfl) (fun _ _ _ h => h) (Or.inl ⟨by rfl, ?_⟩) ?_ ?_
  rotate_left
  · intro w'
    go_simp
    with_reducible rfl
  rotate_left
  · simp only [Act.put, List.setIfInBounds_toArray, List.set_cons_zero, List.set_cons_succ, i64_w, i32_w]
    rfl
  refine pure_ (i := 16) (N := some 45) (v := ?_) (a' := ?_) qD17 rfl rfl (by kernel_rfl) (fun _ _ _ h => h) (Or.inl ⟨by rfl, ?_⟩) ?_ ?_
  rotate_left
  · intro w'
    go_simp
    with_reducible rfl
  rotate_left
  · simp only [Act.put, List.setIfInBounds_toArray, List.set_cons_zero, List.set_cons_succ, i64_w, i32_w]
    rfl
  refine pure_ (i := 17) (N := some 46) (v := ?_) (a' := ?_) qD18 rfl rfl (by kernel_rfl) (fun _ _ _ h => h) (Or.inl ⟨by rfl, ?_⟩) ?_ ?_
  rotate_left
  · intro w'
    go_simp
    with_reducible rfl
  rotate_left
  · simp only [Act.put, List.setIfInBounds_toArray, List.set_cons_zero, List.set_cons_succ, i64_w, i32_w]
    rfl
  refine pure_ (i := 18) (N := some 47) (v := undef) (a' := ?_) qD19 rfl rfl (by kernel_rfl) (fun _ _ _ h => h) (Or.inr ⟨by rfl, rfl⟩) ?_ ?_
  rotate_left
  · simp only [Act.put, List.setIfInBounds_toArray, List.set_cons_zero, List.set_cons_succ, i64_w, i32_w]
    rfl
  refine pure_ (i := 19) (N := some 48) (v := undef) (a' := ?_) qD20 rfl rfl (by kernel_rfl) (fun _ _ _ h => h) (Or.inr ⟨by rfl, rfl⟩) ?_ ?_
  rotate_left
  · simp only [Act.put, List.setIfInBounds_toArray, List.set_cons_zero, List.set_cons_succ, i64_w, i32_w]
    rfl
  refine pure_ (i := 20) (N := some 49) (v := undef) (a' := ?_) qD21 rfl rfl (by kernel_rfl) (fun _ _ _ h => h) (Or.inr ⟨by rfl, rfl⟩) ?_ ?_
  rotate_left
  · simp only [Act.put, List.setIfInBounds_toArray, List.set_cons_zero, List.set_cons_succ, i64_w, i32_w]
    rfl
  refine pure_ (i := 21) (N := some 50) (v := undef) (a' := ?_) qD22 rfl rfl (by kernel_rfl) (fun _ _ _ h => h) (Or.inr ⟨by rfl, rfl⟩) ?_ ?_
  rotate_left
  · simp only [Act.put, List.setIfInBounds_toArray, List.set_cons_zero, List.set_cons_succ, i64_w, i32_w]
    rfl
  refine pure_ (i := 22) (N := some 51) (v := ?_) (a' := ?_) qD23 rfl rfl (by kernel_rfl) (fun _ _ _ h => h) (Or.inl ⟨by rfl, ?_⟩) ?_ ?_
  rotate_left
  · intro w'
    go_simp
    with_reducible rfl
  rotate_left
  · simp only [Act.put, List.setIfInBounds_toArray, List.set_cons_zero, List.set_cons_succ, i64_w, i32_w]
    rfl
  refine pure_ (i := 23) (N := some 52) (v := ?_) (a' := ?_) qD24 rfl rfl (by kernel_rfl) (fun _ _ _ h => h) (Or.inl ⟨by rfl, ?_⟩) ?_ ?_
  rotate_left
  · intro w'
    go_simp
    with_reducible rfl
  rotate_left
  · simp only [Act.put, List.setIfInBounds_toArray, List.set_cons_zero, List.set_cons_succ, i64_w, i32_w]
    rfl
  refine pure_ (i := 24) (N := some 53) (v := undef) (a' := ?_) qD25 rfl rfl (by kernel_rfl) (fun _ _ _ h => h) (Or.inr ⟨by rfl, rfl⟩) ?_ ?_
  rotate_left
  · simp only [Act.put, List.setIfInBounds_toArray, List.set_cons_zero, List.set_cons_succ, i64_w, i32_w]
    rfl
  refine pure_ (i := 25) (N := some 54) (v := undef) (a' := ?_) qD26 rfl rfl (by kernel_rfl) (fun _ _ _ h => h) (Or.inr ⟨by rfl, rfl⟩) ?_ ?_
  rotate_left
  · simp only [Act.put, List.setIfInBounds_toArray, List.set_cons_zero, List.set_cons_succ, i64_w, i32_w]
    rfl
  refine pure_ (i := 26) (N := some 55) (v := undef) (a' := ?_) qD27 rfl rfl (by kernel_rfl) (fun _ _ _ h => h) (Or.inr ⟨by rfl, rfl⟩) ?_ ?_
  rotate_left
  · simp only [Act.put, List.setIfInBounds_toArray, List.set_cons_zero, List.set_cons_succ, i64_w, i32_w]
    rfl
  refine pure_ (i := 27) (N := some 56) (v := undef) (a' := ?_) qD28 rfl rfl (by kernel_rfl) (fun _ _ _ h => h) (Or.inr ⟨by rfl, rfl⟩) ?_ ?_
  rotate_left
  · simp only [Act.put, List.setIfInBounds_toArray, List.set_cons_zero, List.set_cons_succ, i64_w, i32_w]
    rfl
  refine pure_ (i := 28) (N := some 57) (v := undef) (a' := ?_) qD29 rfl rfl (by kernel_rfl) (fun _ _ _ h => h) (Or.inr ⟨by rfl, rfl⟩) ?_ ?_
  rotate_left
  · simp only [Act.put, List.setIfInBounds_toArray, List.set_cons_zero, List.set_cons_succ, i64_w, i32_w]
    rfl
  refine pure_ (i := 29) (N := some 58) (v := undef) (a' := ?_) qD30 rfl rfl (by kernel_rfl) (fun _ _ _ h => h) (Or.inr ⟨by rfl, rfl⟩) ?_ ?_
  rotate_left
  · simp only [Act.put, List.setIfInBounds_toArray, List.set_cons_zero, List.set_cons_succ, i64_w, i32_w]
    rfl
  refine pure_ (i := 30) (N := some 59) (v := undef) (a' := ?_) qD31 rfl rfl (by kernel_rfl) (fun _ _ _ h => h) (Or.inr ⟨by rfl, rfl⟩) ?_ ?_
  rotate_left
  · simp only [Act.put, List.setIfInBounds_toArray, List.set_cons_zero, List.set_cons_succ, i64_w, i32_w]
    rfl
  refine pure_ (i := 31) (N := some 60) (v := undef) (a' := ?_) qD32 rfl rfl (by kernel_rfl) (fun _ _ _ h => h) (Or.inr ⟨by rfl, rfl⟩) ?_ ?_
  rotate_left
  · simp only [Act.put, List.setIfInBounds_toArray, List.set_cons_zero, List.set_cons_succ, i64_w, i32_w]
    rfl
  refine pure_ (i := 32) (N := some 61) (v := undef) (a' := ?_) qD33 rfl rfl (by kernel_rfl) (fun _ _ _ h => h) (Or.inr ⟨by rfl, rfl⟩) ?_ ?_
  rotate_left
  · simp only [Act.put, List.setIfInBounds_toArray, List.set_cons_zero, List.set_cons_succ, i64_w, i32_w]
    rfl
  refine pure_ (i := 33) (N := some 62) (v := ?_) (a' := ?_) qD34 rfl rfl (by kernel_rfl) (fun _ _ _ h => h) (Or.inl ⟨by rfl, ?_⟩) ?_ ?_
  rotate_left
  · intro w'
    go_simp
    with_reducible rfl
  rotate_left
  · simp only [Act.put, List.setIfInBounds_toArray, List.set_cons_zero, List.set_cons_succ, i64_w, i32_w]
    rfl
  refine done_ (by kernel_rfl) ?_
  have hs0 := blk_cell (blk_below BS.out HP1.out)
  go_wp2_with (refine Block.store_block rfl rfl 39 (.tmp 8) (.tmp 63) rfl (w.heap.size + 1 + 1 + 1) 39 _ _ rfl rfl (blk_below BO.out HP1.out) rfl (by kernel_rfl) (by simp [Value.oneCell']) ?_; intro w9 hbk hgr; have HZ := Aside0.mk ((below_then HBR.out HBR.out.size HP1.out).grown hgr (below_then HBR.out HBR.out.size HP1.out).size (fun k hk => by cases hk; omega)); have hc9 := blk_cell hbk; clear hgr hbk)
  refine bodyPost_ret (v := .tuple #[.agg #[.bool s0, .bool s1, .bool s2, .bool s3, .int .i64 pe, .int .u64 pr, .int .i64 ce, .int .u64 cr, .int .i64 fe, .int .u64 fr, .int .i64 ep, .slice AB B.length cB, .slice AN N.length cN], .bool false]) ?_ rfl ⟨rfl, HZ.out⟩
  simp [results, Try.results18, go_sem, hc9]
end Go.Proofs.Ytiklbldanidfiaa.QL
namespace Go.Proofs.Ytiklbldanidfiaa.QL
open Go.RowKit Go.Proofs.YtiklbldanidfiaaW.PrintWords Go.Proofs.YtiklbldanidfiaaW.PrintLast Go.Proofs.YtiklbldanidfiaaW.PrintMore Go.Proofs.Ytiklbldanidfiaa.Own Go.Proofs.Ytiklbldanidfiaa.Justify
set_option linter.unusedVariables false
set_option linter.unusedSimpArgs false
attribute [local go_sem] max2_is min2_is max_pair min_pair
attribute [local go_sem high] eqA34
set_option maxHeartbeats 16000000 in
set_option maxRecDepth 100000 in
theorem count_before_B (AX : Option Addr) (cX : Nat) (lx : List Int) (sl bo : Int) (s0 s1 s2 s3 : Bool) (pe pr ce cr fe fr ep vs vh vse vsr vte vtr : Int) (AB : Option Addr) (cB : Nat) (B : List Bool) (AN : Option Addr) (cN : Nat) (N : List Bool) (AW : Option Addr) (cW : Nat) (W : List Int) (kr : Nat) (v : Value) (g : Int → Int) (w : World) (h : PIn AX cX lx s0 s1 s2 s3 pe pr ce cr fe fr ep AB cB B AN cN N v g w) (hW : Kd.C (Kd.int .i64) w AW W.length W) (hcW : W.length ≤ cW)
    (hk : vote_Right.f kr lx sl bo vs vh vse vsr vte vtr W = some true) (hte : -9223372036854775808 ≤ vte ∧ vte ≤ 9223372036854775807) (t0 : (vte == ep) = false) (t1 : (wrap64 (vte + 1) != ep) = false) (t2 : (!(vse == pe) || !(vsr == pr)) = true) :
    Calls Try.prog 18 #[.agg #[.slice AX lx.length cX, .int .i64 sl, .int .i64 bo], .agg #[.bool s0, .bool s1, .bool s2, .bool s3, .int .i64 pe, .int .u64 pr, .int .i64 ce, .int .u64 cr, .int .i64 fe, .int .u64 fr, .int .i64 ep, .slice AB B.length cB, .slice AN N.length cN], .agg #[.int .i64 vs, .int .u64 vh, .int .i64 vse, .int .u64 vsr, .int .i64 vte, .int .u64 vtr, .slice AW W.length cW], v] w fun x w' => x = .returned (.tuple #[.agg #[.bool s0, .bool s1, .bool s2, .bool s3, .int .i64 pe, .int .u64 pr, .int .i64 ce, .int .u64 cr, .int .i64 fe, .int .u64 fr, .int .i64 ep, .slice AB B.length cB, .slice AN N.length cN], .bool false]) ∧ Below w.heap.size w w' := by
  have IN0 := Aside0.mk h
  have HW0 := Aside0.mk hW
  have HCW := Aside0.mk hcW
  have HK := Aside0.mk hk
  have HTE := Aside0.mk hte
  clear h hW hcW hk hte
  go_enter Try.func18, Try.ntmps18
  go_upto_region 5 with fail
  have qb := box5 w #[.slice AX lx.length cX, .int .i64 sl, .int .i64 bo] #[.bool s0, .bool s1, .bool s2, .bool s3, .int .i64 pe, .int .u64 pr, .int .i64 ce, .int .u64 cr, .int .i64 fe, .int .u64 fr, .int .i64 ep, .slice AB B.length cB, .slice AN N.length cN] #[.int .i64 vs, .int .u64 vh, .int .i64 vse, .int .u64 vsr, .int .i64 vte, .int .u64 vtr, .slice AW W.length cW] #[.bool false, .bool false, .bool false, .bool false, .int .i64 0, .int .u64 0, .int .i64 0, .int .u64 0, .int .i64 0, .int .u64 0, .int .i64 0, .slice none 0 0, .slice none 0 0] #[.int .i64 pe, .int .u64 pr] 24 39 43 39 34
  obtain ⟨wr, hwr⟩ : ∃ wr, wr = ((((w.alloc (.cells #[.slice AX lx.length cX, .int .i64 sl, .int .i64 bo] 24)).alloc (.cells #[.bool s0, .bool s1, .bool s2, .bool s3, .int .i64 pe, .int .u64 pr, .int .i64 ce, .int .u64 cr, .int .i64 fe, .int .u64 fr, .int .i64 ep, .slice AB B.length cB, .slice AN N.length cN] 39)).alloc (.cells #[.int .i64 vs, .int .u64 vh, .int .i64 vse, .int .u64 vsr, .int .i64 vte, .int .u64 vtr, .slice AW W.length cW] 43)).alloc (.cells #[.bool false, .bool false, .bool false, .bool false, .int .i64 0, .int .u64 0, .int .i64 0, .int .u64 0, .int .i64 0, .int .u64 0, .int .i64 0, .slice none 0 0, .slice none 0 0] 39)).alloc (.cells #[.int .i64 pe, .int .u64 pr] 34) := ⟨_, rfl⟩
  simp only [← hwr] at qb
  have BM := Aside0.mk qb.1
  have BS := Aside0.mk qb.2.1
  have BV := Aside0.mk qb.2.2.1
  have BO := Aside0.mk qb.2.2.2.1
  have BP := Aside0.mk qb.2.2.2.2
  have HBR : Aside0 (Below w.heap.size w wr) := ⟨by rw [hwr]; exact below_alloc (below_alloc (below_alloc (below_alloc (below_alloc (Below.refl _ _) _) _) _) _) _⟩
  rw [← hwr]
  clear hwr qb
  have IN := Aside0.mk (IN0.out.below HBR.out)
  have HWr := Aside0.mk (Kd.C_below HW0.out HBR.out)
  rename_i K Q a0_
  refine start_ (n := 34) (S := fun w' => w'.cell? ⟨w.heap.size, 0, none⟩ = some (.slice AX lx.length cX) ∧ w'.cell? ⟨w.heap.size, 1, none⟩ = some (.int .i64 sl) ∧ w'.cell? ⟨w.heap.size, 2, none⟩ = some (.int .i64 bo) ∧ w'.cell? ⟨w.heap.size + 1, 10, none⟩ = some (.int .i64 ep) ∧ w'.cell? ⟨w.heap.size + 1 + 1, 0, none⟩ = some (.int .i64 vs) ∧ w'.cell? ⟨w.heap.size + 1 + 1, 1, none⟩ = some (.int .u64 vh) ∧ w'.cell? ⟨w.heap.size + 1 + 1, 2, none⟩ = some (.int .i64 vse) ∧ w'.cell? ⟨w.heap.size + 1 + 1, 3, none⟩ = some (.int .u64 vsr) ∧ w'.cell? ⟨w.heap.size + 1 + 1, 4, none⟩ = some (.int .i64 vte) ∧ w'.cell? ⟨w.heap.size + 1 + 1, 5, none⟩ = some (.int .u64 vtr) ∧ w'.cell? ⟨w.heap.size + 1 + 1, 6, none⟩ = some (.slice AW W.length cW) ∧ w'.cell? ⟨w.heap.size + 1 + 1 + 1 + 1, 0, none⟩ = some (.int .i64 pe) ∧ w'.cell? ⟨w.heap.size + 1 + 1 + 1 + 1, 1, none⟩ = some (.int .u64 pr)) (ds := []) qD0 (by kernel_rfl) rfl rfl ⟨(blk_cell BM.out 0), (blk_cell BM.out 1), (blk_cell BM.out 2), (blk_cell BS.out 10), (blk_cell BV.out 0), (blk_cell BV.out 1), (blk_cell BV.out 2), (blk_cell BV.out 3), (blk_cell BV.out 4), (blk_cell BV.out 5), (blk_cell BV.out 6), (blk_cell BP.out 0), (blk_cell BP.out 1)⟩ (fun hHeld => ?_)
  refine take_ (i := 0) (N := some 29) (v := ?_) (a' := ?_) qD1 rfl rfl (by kernel_rfl) (fun _ _ _ h => h) (Or.inl ⟨by rfl, ?_⟩) hHeld ?_ ?_
  rotate_left
  · rintro w' ⟨s0, s1, s2, s3, s4, s5, s6, s7, s8, s9, s10, s11, s12⟩
    go_simp
    with_reducible rfl
  rotate_left
  · simp only [Act.put, List.setIfInBounds_toArray, List.set_cons_zero, List.set_cons_succ, i64_w, i32_w]
    rfl
  refine take_ (i := 1) (N := some 30) (v := ?_) (a' := ?_) qD2 rfl rfl (by kernel_rfl) (fun _ _ _ h => h) (Or.inl ⟨by rfl, ?_⟩) hHeld ?_ ?_
  rotate_left
  · rintro w' ⟨s0, s1, s2, s3, s4, s5, s6, s7, s8, s9, s10, s11, s12⟩
    go_simp
    with_reducible rfl
  rotate_left
  · simp only [Act.put, List.setIfInBounds_toArray, List.set_cons_zero, List.set_cons_succ, i64_w, i32_w]
    rfl
  refine one_ (i := 2) (N := some 31) qD3 rfl rfl (by kernel_rfl) (by decide) (fun K hK => ?_)
  refine goes_ Try.func35 (by kernel_rfl) rfl #[.agg #[.slice AX lx.length cX, .int .i64 sl, .int .i64 bo], .agg #[.int .i64 vs, .int .u64 vh, .int .i64 vse, .int .u64 vsr, .int .i64 vte, .int .u64 vtr, .slice AW W.length cW]] (by rfl) rfl rfl (by simp only [List.map_toArray, List.map_cons, List.map_nil]; rfl) ?_
  with_reducible refine (vote_Right.calls kr AX cX lx sl bo vs vh vse vsr vte vtr AW cW W _ _ (Kd.C_below IN.out.X (below_drew (Below.refl wr.heap.size wr))) IN.out.lX (Kd.C_below HWr.out (below_drew (Below.refl wr.heap.size wr))) HCW.out HK.out).mono ?_
  rintro x wp1 ⟨rfl, hb⟩
  refine ⟨_, rfl, ?_⟩
  have HP1 := Aside0.mk (below_then (below_drew (Below.refl wr.heap.size wr)) (Nat.le_refl _) hb)
  clear hb
  refine hK.out _ _ ⟨(pw_cell_below HP1.out (blk_cell BM.out 0)), (pw_cell_below HP1.out (blk_cell BM.out 1)), (pw_cell_below HP1.out (blk_cell BM.out 2)), (pw_cell_below HP1.out (blk_cell BS.out 10)), (pw_cell_below HP1.out (blk_cell BV.out 0)), (pw_cell_below HP1.out (blk_cell BV.out 1)), (pw_cell_below HP1.out (blk_cell BV.out 2)), (pw_cell_below HP1.out (blk_cell BV.out 3)), (pw_cell_below HP1.out (blk_cell BV.out 4)), (pw_cell_below HP1.out (blk_cell BV.out 5)), (pw_cell_below HP1.out (blk_cell BV.out 6)), (pw_cell_below HP1.out (blk_cell BP.out 0)), (pw_cell_below HP1.out (blk_cell BP.out 1))⟩ (fun hHeld => ?_)
  clear hK K
  refine norm_ (a' := ?_) ?_ ?_
  rotate_left
  · show Act.put _ (some 31) _ = _
    simp only [Act.put, List.setIfInBounds_toArray, List.set_cons_zero, List.set_cons_succ, i64_w, i32_w]
    rfl
  refine pure_ (i := 3) (N := some 32) (v := ?_) (a' := ?_) qD4 rfl rfl (by kernel_rfl) (fun _ _ _ h => h) (Or.inl ⟨by rfl, ?_⟩) ?_ ?_
  rotate_left
  · intro w'
    go_simp
    with_reducible rfl
  rotate_left
  · simp only [Act.put, List.setIfInBounds_toArray, List.set_cons_zero, List.set_cons_succ, i64_w, i32_w]
    rfl
  refine pure_ (i := 4) (N := some 33) (v := ?_) (a' := ?_) qD5 rfl rfl (by kernel_rfl) (fun _ _ _ h => h) (Or.inl ⟨by rfl, ?_⟩) ?_ ?_
  rotate_left
  · intro w'
    go_simp
    with_reducible rfl
  rotate_left
  · simp only [Act.put, List.setIfInBounds_toArray, List.set_cons_zero, List.set_cons_succ, i64_w, i32_w]
    rfl
  refine pure_ (i := 5) (N := some 34) (v := ?_) (a' := ?_) qD6 rfl rfl (by kernel_rfl) (fun _ _ _ h => h) (Or.inl ⟨by rfl, ?_⟩) ?_ ?_
  rotate_left
  · intro w'
    go_simp
    with_reducible rfl
  rotate_left
  · simp only [Act.put, List.setIfInBounds_toArray, List.set_cons_zero, List.set_cons_succ, i64_w, i32_w]
    rfl
  refine pure_ (i := 6) (N := some 35) (v := ?_) (a' := ?_) qD7 rfl rfl (by kernel_rfl) (fun _ _ _ h => h) (Or.inl ⟨by rfl, ?_⟩) ?_ ?_
  rotate_left
  · intro w'
    go_simp
    with_reducible rfl
  rotate_left
  · simp only [Act.put, List.setIfInBounds_toArray, List.set_cons_zero, List.set_cons_succ, i64_w, i32_w]
    rfl
  refine pure_ (i := 7) (N := some 36) (v := ?_) (a' := ?_) qD8 rfl rfl (by kernel_rfl) (fun _ _ _ h => h) (Or.inl ⟨by rfl, ?_⟩) ?_ ?_
  rotate_left
  · intro w'
    go_simp
    with_reducible rfl
  rotate_left
  · simp only [Act.put, List.setIfInBounds_toArray, List.set_cons_zero, List.set_cons_succ, i64_w, i32_w]
    rfl
  refine pure_ (i := 8) (N := some 37) (v := ?_) (a' := ?_) qD9 rfl rfl (by kernel_rfl) (fun _ _ _ h => h) (Or.inl ⟨by rfl, ?_⟩) ?_ ?_
  rotate_left
  · intro w'
    go_simp
    with_reducible rfl
  rotate_left
  · simp only [Act.put, List.setIfInBounds_toArray, List.set_cons_zero, List.set_cons_succ, i64_w, i32_w]
    rfl
  refine pure_ (i := 9) (N := some 38) (v := ?_) (a' := ?_) qD10 rfl rfl (by kernel_rfl) (fun _ _ _ h => h) (Or.inl ⟨by rfl, ?_⟩) ?_ ?_
  rotate_left
  · intro w'
    go_simp
    with_reducible rfl
  rotate_left
  · simp only [Act.put, List.setIfInBounds_toArray, List.set_cons_zero, List.set_cons_succ, i64_w, i32_w]
    rfl
  refine pure_ (i := 12) (N := some 41) (v := ?_) (a' := ?_) qE0 rfl rfl (by kernel_rfl) (fun _ _ _ h => h) (Or.inl ⟨by rfl, ?_⟩) ?_ ?_
  rotate_left
  · intro w'
    go_simp
    with_reducible rfl
  rotate_left
  · simp only [Act.put, List.setIfInBounds_toArray, List.set_cons_zero, List.set_cons_succ, i64_w, i32_w]
    rfl
  refine take_ (i := 10) (N := some 39) (v := ?_) (a' := ?_) qE1 rfl rfl (by kernel_rfl) (fun _ _ _ h => h) (Or.inl ⟨by rfl, ?_⟩) hHeld ?_ ?_
  rotate_left
  · rintro w' ⟨s0, s1, s2, s3, s4, s5, s6, s7, s8, s9, s10, s11, s12⟩
    go_simp
    with_reducible rfl
  rotate_left
  · simp only [Act.put, List.setIfInBounds_toArray, List.set_cons_zero, List.set_cons_succ, i64_w, i32_w]
    rfl
  refine pure_ (i := 11) (N := some 40) (v := ?_) (a' := ?_) qD13 rfl rfl (by kernel_rfl) (fun _ _ _ h => h) (Or.inl ⟨by rfl, ?_⟩) ?_ ?_
  rotate_left
  · intro w'
    go_simp
    with_reducible rfl
  rotate_left
  · simp only [Act.put, List.setIfInBounds_toArray, List.set_cons_zero, List.set_cons_succ, i64_w, i32_w]
    rfl
  refine take_ (i := 13) (N := some 42) (v := ?_) (a' := ?_) qD14 rfl rfl (by kernel_rfl) (fun _ _ _ h => h) (Or.inl ⟨by rfl, ?_⟩) hHeld ?_ ?_
  rotate_left
  · rintro w' ⟨s0, s1, s2, s3, s4, s5, s6, s7, s8, s9, s10, s11, s12⟩
    go_simp
    with_reducible rfl
  rotate_left
  · simp only [Act.put, List.setIfInBounds_toArray, List.set_cons_zero, List.set_cons_succ, i64_w, i32_w]
    rfl
  refine pure_ (i := 14) (N := some 43) (v := ?_) (a' := ?_) qD15 rfl rfl (by kernel_rfl) (fun _ _ _ h => h) (Or.inl ⟨by rfl, ?_⟩) ?_ ?_
  rotate_left
  · intro w'
    go_simp
    with_reducible rfl
  rotate_left
  · simp only [Act.put, List.setIfInBounds_toArray, List.set_cons_zero, List.set_cons_succ, i64_w, i32_w]
    rfl
  refine pure_ (i := 15) (N := some 44) (v := ?_) (a' := ?_) qD16 rfl rfl (by kernel_rfl) (fun _ _ _ h => h) (Or.inl ⟨by rfl, ?_⟩) ?_ ?_
  rotate_left
  · intro w'
    go_simp
    with_reducible rfl
  rotate_left
  · simp only [Act.put, List.setIfInBounds_toArray, List.set_cons_zero, List.set_cons_succ, i64_w, i32_w]
    rfl
  refine pure_ (i := 16) (N := some 45) (v := ?_) (a' := ?_) qD17 rfl rfl (by kernel_rfl) (fun _ _ _ h => h) (Or.inl ⟨by rfl, ?_⟩) ?_ ?_
  rotate_left
  · intro w'
    go_simp
    with_reducible rfl
  rotate_left
  · simp only [Act.put, List.setIfInBounds_toArray, List.set_cons_zero, List.set_cons_succ, i64_w, i32_w]
    rfl
  refine pure_ (i := 17) (N := some 46) (v := ?_) (a' := ?_) qD18 rfl rfl (by kernel_rfl) (fun _ _ _ h => h) (Or.inl ⟨by rfl, ?_⟩) ?_ ?_
  rotate_left
  · intro w'
    go_simp
    with_reducible rfl
  rotate_left
  · simp only [Act.put, List.setIfInBounds_toArray, List.set_cons_zero, List.set_cons_succ, i64_w, i32_w]
    rfl
  refine pure_ (i := 18) (N := some 47) (v := ?_) (a' := ?_) qD19 rfl rfl (by kernel_rfl) (fun _ _ _ h => h) (Or.inl ⟨by rfl, ?_⟩) ?_ ?_
  rotate_left
  · intro w'
    go_simp
    with_reducible rfl
  rotate_left
  · simp only [Act.put, List.setIfInBounds_toArray, List.set_cons_zero, List.set_cons_succ, i64_w, i32_w]
    rfl
  refine take_ (i := 19) (N := some 48) (v := ?_) (a' := ?_) qD20 rfl rfl (by kernel_rfl) (fun _ _ _ h => h) (Or.inl ⟨by rfl, ?_⟩) hHeld ?_ ?_
  rotate_left
  · rintro w' ⟨s0, s1, s2, s3, s4, s5, s6, s7, s8, s9, s10, s11, s12⟩
    go_simp
    with_reducible rfl
  rotate_left
  · simp only [Act.put, List.setIfInBounds_toArray, List.set_cons_zero, List.set_cons_succ, i64_w, i32_w]
    rfl
  refine take_ (i := 20) (N := some 49) (v := ?_) (a' := ?_) qD21 rfl rfl (by kernel_rfl) (fun _ _ _ h => h) (Or.inl ⟨by rfl, ?_⟩) hHeld ?_ ?_
  rotate_left
  · rintro w' ⟨s0, s1, s2, s3, s4, s5, s6, s7, s8, s9, s10, s11, s12⟩
    go_simp
    with_reducible rfl
  rotate_left
  · simp only [Act.put, List.setIfInBounds_toArray, List.set_cons_zero, List.set_cons_succ, i64_w, i32_w]
    rfl
  refine pure_ (i := 21) (N := some 50) (v := ?_) (a' := ?_) qD22 rfl rfl (by kernel_rfl) (fun _ _ _ h => h) (Or.inl ⟨by rfl, ?_⟩) ?_ ?_
  rotate_left
  · intro w'
    go_simp
    with_reducible rfl
  rotate_left
  · simp only [Act.put, List.setIfInBounds_toArray, List.set_cons_zero, List.set_cons_succ, i64_w, i32_w]
    rfl
  refine pure_ (i := 22) (N := some 51) (v := ?_) (a' := ?_) qD23 rfl rfl (by kernel_rfl) (fun _ _ _ h => h) (Or.inl ⟨by rfl, ?_⟩) ?_ ?_
  rotate_left
  · intro w'
    go_simp
    with_reducible rfl
  rotate_left
  · simp only [Act.put, List.setIfInBounds_toArray, List.set_cons_zero, List.set_cons_succ, i64_w, i32_w]
    rfl
  refine pure_ (i := 23) (N := some 52) (v := ?_) (a' := ?_) qD24 rfl rfl (by kernel_rfl) (fun _ _ _ h => h) (Or.inl ⟨by rfl, ?_⟩) ?_ ?_
  rotate_left
  · intro w'
    go_simp
    with_reducible rfl
  rotate_left
  · simp only [Act.put, List.setIfInBounds_toArray, List.set_cons_zero, List.set_cons_succ, i64_w, i32_w]
    rfl
  refine pure_ (i := 24) (N := some 53) (v := undef) (a' := ?_) qD25 rfl rfl (by kernel_rfl) (fun _ _ _ h => h) (Or.inr ⟨by rfl, rfl⟩) ?_ ?_
  rotate_left
  · simp only [Act.put, List.setIfInBounds_toArray, List.set_cons_zero, List.set_cons_succ, i64_w, i32_w]
    rfl
  refine pure_ (i := 25) (N := some 54) (v := undef) (a' := ?_) qD26 rfl rfl (by kernel_rfl) (fun _ _ _ h => h) (Or.inr ⟨by rfl, rfl⟩) ?_ ?_
  rotate_left
  · simp only [Act.put, List.setIfInBounds_toArray, List.set_cons_zero, List.set_cons_succ, i64_w, i32_w]
    rfl
  refine pure_ (i := 26) (N := some 55) (v := undef) (a' := ?_) qD27 rfl rfl (by kernel_rfl) (fun _ _ _ h => h) (Or.inr ⟨by rfl, rfl⟩) ?_ ?_
  rotate_left
  · simp only [Act.put, List.setIfInBounds_toArray, List.set_cons_zero, List.set_cons_succ, i64_w, i32_w]
    rfl
  refine pure_ (i := 27) (N := some 56) (v := undef) (a' := ?_) qD28 rfl rfl (by kernel_rfl) (fun _ _ _ h => h) (Or.inr ⟨by rfl, rfl⟩) ?_ ?_
  rotate_left
  · simp only [Act.put, List.setIfInBounds_toArray, List.set_cons_zero, List.set_cons_succ, i64_w, i32_w]
    rfl
  refine pure_ (i := 28) (N := some 57) (v := undef) (a' := ?_) qD29 rfl rfl (by kernel_rfl) (fun _ _ _ h => h) (Or.inr ⟨by rfl, rfl⟩) ?_ ?_
  rotate_left
  · simp only [Act.put, List.setIfInBounds_toArray, List.set_cons_zero, List.set_cons_succ, i64_w, i32_w]
    rfl
  refine pure_ (i := 29) (N := some 58) (v := undef) (a' := ?_) qD30 rfl rfl (by kernel_rfl) (fun _ _ _ h => h) (Or.inr ⟨by rfl, rfl⟩) ?_ ?_
  rotate_left
  · simp only [Act.put, List.setIfInBounds_toArray, List.set_cons_zero, List.set_cons_succ, i64_w, i32_w]
    rfl
  refine pure_ (i := 30) (N := some 59) (v := undef) (a' := ?_) qD31 rfl rfl (by kernel_rfl) (fun _ _ _ h => h) (Or.inr ⟨by rfl, rfl⟩) ?_ ?_
  rotate_left
  · simp only [Act.put, List.setIfInBounds_toArray, List.set_cons_zero, List.set_cons_succ, i64_w, i32_w]
    rfl
  refine pure_ (i := 31) (N := some 60) (v := undef) (a' := ?_) qD32 rfl rfl (by kernel_rfl) (fun _ _ _ h => h) (Or.inr ⟨by rfl, rfl⟩) ?_ ?_
  rotate_left
  · simp only [Act.put, List.setIfInBounds_toArray, List.set_cons_zero, List.set_cons_succ, i64_w, i32_w]
    rfl
  refine pure_ (i := 32) (N := some 61) (v := undef) (a' := ?_) qD33 rfl rfl (by kernel_rfl) (fun _ _ _ h => h) (Or.inr ⟨by rfl, rfl⟩) ?_ ?_
  rotate_left
  · simp only [Act.put, List.setIfInBounds_toArray, List.set_cons_zero, List.set_cons_succ, i64_w, i32_w]
    rfl
  refine pure_ (i := 33) (N := some 62) (v := ?_) (a' := ?_) qD34 rfl rfl (by kernel_rfl) (fun _ _ _ h => h) (Or.inl ⟨by rfl, ?_⟩) ?_ ?_
  rotate_left
  · intro w'
    go_simp
    with_reducible rfl
  rotate_left
  · simp only [Act.put, List.setIfInBounds_toArray, List.set_cons_zero, List.set_cons_succ, i64_w, i32_w]
    rfl
  refine done_ (by kernel_rfl) ?_
  have hs0 := blk_cell (blk_below BS.out HP1.out)
  go_wp2_with (refine Block.store_block rfl rfl 39 (.tmp 8) (.tmp 63) rfl (w.heap.size + 1 + 1 + 1) 39 _ _ rfl rfl (blk_below BO.out HP1.out) rfl (by kernel_rfl) (by simp [Value.oneCell']) ?_; intro w9 hbk hgr; have HZ := Aside0.mk ((below_then HBR.out HBR.out.size HP1.out).grown hgr (below_then HBR.out HBR.out.size HP1.out).size (fun k hk => by cases hk; omega)); have hc9 := blk_cell hbk; clear hgr hbk)
  refine bodyPost_ret (v := .tuple #[.agg #[.bool s0, .bool s1, .bool s2, .bool s3, .int .i64 pe, .int .u64 pr, .int .i64 ce, .int .u64 cr, .int .i64 fe, .int .u64 fr, .int .i64 ep, .slice AB B.length cB, .slice AN N.length cN], .bool false]) ?_ rfl ⟨rfl, HZ.out⟩
  simp [results, Try.results18, go_sem, hc9]
end Go.Proofs.Ytiklbldanidfiaa.QL
namespace Go.Proofs.Ytiklbldanidfiaa.QL
open Go.RowKit Go.Proofs.YtiklbldanidfiaaW.PrintWords Go.Proofs.YtiklbldanidfiaaW.PrintLast Go.Proofs.YtiklbldanidfiaaW.PrintMore Go.Proofs.Ytiklbldanidfiaa.Own Go.Proofs.Ytiklbldanidfiaa.Justify
set_option linter.unusedVariables false
set_option linter.unusedSimpArgs false
attribute [local go_sem] max2_is min2_is max_pair min_pair
attribute [local go_sem high] eqA34
set_option maxHeartbeats 16000000 in
set_option maxRecDepth 100000 in
theorem count_before_C (AX : Option Addr) (cX : Nat) (lx : List Int) (sl bo : Int) (s0 s1 s2 s3 : Bool) (ce cr fe fr ep vs vh vse vsr vte vtr : Int) (AB : Option Addr) (cB : Nat) (B : List Bool) (AN : Option Addr) (cN : Nat) (N : List Bool) (AW : Option Addr) (cW : Nat) (W : List Int) (kr : Nat) (v : Value) (g : Int → Int) (w : World) (h : PIn AX cX lx s0 s1 s2 s3 vse vsr ce cr fe fr ep AB cB B AN cN N v g w) (hW : Kd.C (Kd.int .i64) w AW W.length W) (hcW : W.length ≤ cW)
    (hk : vote_Right.f kr lx sl bo vs vh vse vsr vte vtr W = some true) (hte : -9223372036854775808 ≤ vte ∧ vte ≤ 9223372036854775807) (t0 : (vte == ep) = false) (t1 : (wrap64 (vte + 1) != ep) = false) (t2 : (!(vte == mx 0 vte) || !(vtr == g (startOf vte sl))) = true) :
    Calls Try.prog 18 #[.agg #[.slice AX lx.length cX, .int .i64 sl, .int .i64 bo], .agg #[.bool s0, .bool s1, .bool s2, .bool s3, .int .i64 vse, .int .u64 vsr, .int .i64 ce, .int .u64 cr, .int .i64 fe, .int .u64 fr, .int .i64 ep, .slice AB B.length cB, .slice AN N.length cN], .agg #[.int .i64 vs, .int .u64 vh, .int .i64 vse, .int .u64 vsr, .int .i64 vte, .int .u64 vtr, .slice AW W.length cW], v] w fun x w' => x = .returned (.tuple #[.agg #[.bool s0, .bool s1, .bool s2, .bool s3, .int .i64 vse, .int .u64 vsr, .int .i64 ce, .int .u64 cr, .int .i64 fe, .int .u64 fr, .int .i64 ep, .slice AB B.length cB, .slice AN N.length cN], .bool false]) ∧ Below w.heap.size w w' := by
  have IN0 := Aside0.mk h
  have HW0 := Aside0.mk hW
  have HCW := Aside0.mk hcW
  have HK := Aside0.mk hk
  have HTE := Aside0.mk hte
  clear h hW hcW hk hte
  go_enter Try.func18, Try.ntmps18
  go_upto_region 5 with fail
  have qb := box5 w #[.slice AX lx.length cX, .int .i64 sl, .int .i64 bo] #[.bool s0, .bool s1, .bool s2, .bool s3, .int .i64 vse, .int .u64 vsr, .int .i64 ce, .int .u64 cr, .int .i64 fe, .int .u64 fr, .int .i64 ep, .slice AB B.length cB, .slice AN N.length cN] #[.int .i64 vs, .int .u64 vh, .int .i64 vse, .int .u64 vsr, .int .i64 vte, .int .u64 vtr, .slice AW W.length cW] #[.bool false, .bool false, .bool false, .bool false, .int .i64 0, .int .u64 0, .int .i64 0, .int .u64 0, .int .i64 0, .int .u64 0, .int .i64 0, .slice none 0 0, .slice none 0 0] #[.int .i64 vse, .int .u64 vsr] 24 39 43 39 34
  obtain ⟨wr, hwr⟩ : ∃ wr, wr = ((((w.alloc (.cells #[.slice AX lx.length cX, .int .i64 sl, .int .i64 bo] 24)).alloc (.cells #[.bool s0, .bool s1, .bool s2, .bool s3, .int .i64 vse, .int .u64 vsr, .int .i64 ce, .int .u64 cr, .int .i64 fe, .int .u64 fr, .int .i64 ep, .slice AB B.length cB, .slice AN N.length cN] 39)).alloc (.cells #[.int .i64 vs, .int .u64 vh, .int .i64 vse, .int .u64 vsr, .int .i64 vte, .int .u64 vtr, .slice AW W.length cW] 43)).alloc (.cells #[.bool false, .bool false, .bool false, .bool false, .int .i64 0, .int .u64 0, .int .i64 0, .int .u64 0, .int .i64 0, .int .u64 0, .int .i64 0, .slice none 0 0, .slice none 0 0] 39)).alloc (.cells #[.int .i64 vse, .int .u64 vsr] 34) := ⟨_, rfl⟩
  simp only [← hwr] at qb
  have BM := Aside0.mk qb.1
  have BS := Aside0.mk qb.2.1
  have BV := Aside0.mk qb.2.2.1
  have BO := Aside0.mk qb.2.2.2.1
  have BP := Aside0.mk qb.2.2.2.2
  have HBR : Aside0 (Below w.heap.size w wr) := ⟨by rw [hwr]; exact below_alloc (below_alloc (below_alloc (below_alloc (below_alloc (Below.refl _ _) _) _) _) _) _⟩
  rw [← hwr]
  clear hwr qb
  have IN := Aside0.mk (IN0.out.below HBR.out)
  have HWr := Aside0.mk (Kd.C_below HW0.out HBR.out)
  rename_i K Q a0_
  refine start_ (n := 34) (S := fun w' => w'.cell? ⟨w.heap.size, 0, none⟩ = some (.slice AX lx.length cX) ∧ w'.cell? ⟨w.heap.size, 1, none⟩ = some (.int .i64 sl) ∧ w'.cell? ⟨w.heap.size, 2, none⟩ = some (.int .i64 bo) ∧ w'.cell? ⟨w.heap.size + 1, 10, none⟩ = some (.int .i64 ep) ∧ w'.cell? ⟨w.heap.size + 1 + 1, 0, none⟩ = some (.int .i64 vs) ∧ w'.cell? ⟨w.heap.size + 1 + 1, 1, none⟩ = some (.int .u64 vh) ∧ w'.cell? ⟨w.heap.size + 1 + 1, 2, none⟩ = some (.int .i64 vse) ∧ w'.cell? ⟨w.heap.size + 1 + 1, 3, none⟩ = some (.int .u64 vsr) ∧ w'.cell? ⟨w.heap.size + 1 + 1, 4, none⟩ = some (.int .i64 vte) ∧ w'.cell? ⟨w.heap.size + 1 + 1, 5, none⟩ = some (.int .u64 vtr) ∧ w'.cell? ⟨w.heap.size + 1 + 1, 6, none⟩ = some (.slice AW W.length cW) ∧ w'.cell? ⟨w.heap.size + 1 + 1 + 1 + 1, 0, none⟩ = some (.int .i64 vse) ∧ w'.cell? ⟨w.heap.size + 1 + 1 + 1 + 1, 1, none⟩ = some (.int .u64 vsr)) (ds := []) qD0 (by kernel_rfl) rfl rfl ⟨(blk_cell BM.out 0), (blk_cell BM.out 1), (blk_cell BM.out 2), (blk_cell BS.out 10), (blk_cell BV.out 0), (blk_cell BV.out 1), (blk_cell BV.out 2), (blk_cell BV.out 3), (blk_cell BV.out 4), (blk_cell BV.out 5), (blk_cell BV.out 6), (blk_cell BP.out 0), (blk_cell BP.out 1)⟩ (fun hHeld => ?_)
  refine take_ (i := 0) (N := some 29) (v := ?_) (a' := ?_) qD1 rfl rfl (by kernel_rfl) (fun _ _ _ h => h) (Or.inl ⟨by rfl, ?_⟩) hHeld ?_ ?_
  rotate_left
  · rintro w' ⟨s0, s1, s2, s3, s4, s5, s6, s7, s8, s9, s10, s11, s12⟩
    go_simp
    with_reducible rfl
  rotate_left
  · simp only [Act.put, List.setIfInBounds_toArray, List.set_cons_zero, List.set_cons_succ, i64_w, i32_w]
    rfl
  refine take_ (i := 1) (N := some 30) (v := ?_) (a' := ?_) qD2 rfl rfl (by kernel_rfl) (fun _ _ _ h => h) (Or.inl ⟨by rfl, ?_⟩) hHeld ?_ ?_
  rotate_left
  · rintro w' ⟨s0, s1, s2, s3, s4, s5, s6, s7, s8, s9, s10, s11, s12⟩
    go_simp
    with_reducible rfl
  rotate_left
  · simp only [Act.put, List.setIfInBounds_toArray, List.set_cons_zero, List.set_cons_succ, i64_w, i32_w]
    rfl
  refine one_ (i := 2) (N := some 31) qD3 rfl rfl (by kernel_rfl) (by decide) (fun K hK => ?_)
  refine goes_ Try.func35 (by kernel_rfl) rfl #[.agg #[.slice AX lx.length cX, .int .i64 sl, .int .i64 bo], .agg #[.int .i64 vs, .int .u64 vh, .int .i64 vse, .int .u64 vsr, .int .i64 vte, .int .u64 vtr, .slice AW W.length cW]] (by rfl) rfl rfl (by simp only [List.map_toArray, List.map_cons, List.map_nil]; rfl) ?_
  with_reducible refine (vote_Right.calls kr AX cX lx sl bo vs vh vse vsr vte vtr AW cW W _ _ (Kd.C_below IN.out.X (below_drew (Below.refl wr.heap.size wr))) IN.out.lX (Kd.C_below HWr.out (below_drew (Below.refl wr.heap.size wr))) HCW.out HK.out).mono ?_
  rintro x wp1 ⟨rfl, hb⟩
  refine ⟨_, rfl, ?_⟩
  have HP1 := Aside0.mk (below_then (below_drew (Below.refl wr.heap.size wr)) (Nat.le_refl _) hb)
  clear hb
  refine hK.out _ _ ⟨(pw_cell_below HP1.out (blk_cell BM.out 0)), (pw_cell_below HP1.out (blk_cell BM.out 1)), (pw_cell_below HP1.out (blk_cell BM.out 2)), (pw_cell_below HP1.out (blk_cell BS.out 10)), (pw_cell_below HP1.out (blk_cell BV.out 0)), (pw_cell_below HP1.out (blk_cell BV.out 1)), (pw_cell_below HP1.out (blk_cell BV.out 2)), (pw_cell_below HP1.out (blk_cell BV.out 3)), (pw_cell_below HP1.out (blk_cell BV.out 4)), (pw_cell_below HP1.out (blk_cell BV.out 5)), (pw_cell_below HP1.out (blk_cell BV.out 6)), (pw_cell_below HP1.out (blk_cell BP.out 0)), (pw_cell_below HP1.out (blk_cell BP.out 1))⟩ (fun hHeld => ?_)
  clear hK K
  refine norm_ (a' := ?_) ?_ ?_
  rotate_left
  · show Act.put _ (some 31) _ = _
    simp only [Act.put, List.setIfInBounds_toArray, List.set_cons_zero, List.set_cons_succ, i64_w, i32_w]
    rfl
  refine pure_ (i := 3) (N := some 32) (v := ?_) (a' := ?_) qD4 rfl rfl (by kernel_rfl) (fun _ _ _ h => h) (Or.inl ⟨by rfl, ?_⟩) ?_ ?_
  rotate_left
  · intro w'
    go_simp
    with_reducible rfl
  rotate_left
  · simp only [Act.put, List.setIfInBounds_toArray, List.set_cons_zero, List.set_cons_succ, i64_w, i32_w]
    rfl
  refine pure_ (i := 4) (N := some 33) (v := ?_) (a' := ?_) qD5 rfl rfl (by kernel_rfl) (fun _ _ _ h => h) (Or.inl ⟨by rfl, ?_⟩) ?_ ?_
  rotate_left
  · intro w'
    go_simp
    with_reducible rfl
  rotate_left
  · simp only [Act.put, List.setIfInBounds_toArray, List.set_cons_zero, List.set_cons_succ, i64_w, i32_w]
    rfl
  refine pure_ (i := 5) (N := some 34) (v := ?_) (a' := ?_) qD6 rfl rfl (by kernel_rfl) (fun _ _ _ h => h) (Or.inl ⟨by rfl, ?_⟩) ?_ ?_
  rotate_left
  · intro w'
    go_simp
    with_reducible rfl
  rotate_left
  · simp only [Act.put, List.setIfInBounds_toArray, List.set_cons_zero, List.set_cons_succ, i64_w, i32_w]
    rfl
  refine pure_ (i := 6) (N := some 35) (v := ?_) (a' := ?_) qD7 rfl rfl (by kernel_rfl) (fun _ _ _ h => h) (Or.inl ⟨by rfl, ?_⟩) ?_ ?_
  rotate_left
  · intro w'
    go_simp
    with_reducible rfl
  rotate_left
  · simp only [Act.put, List.setIfInBounds_toArray, List.set_cons_zero, List.set_cons_succ, i64_w, i32_w]
    rfl
  refine pure_ (i := 7) (N := some 36) (v := ?_) (a' := ?_) qD8 rfl rfl (by kernel_rfl) (fun _ _ _ h => h) (Or.inl ⟨by rfl, ?_⟩) ?_ ?_
  rotate_left
  · intro w'
    go_simp
    with_reducible rfl
  rotate_left
  · simp only [Act.put, List.setIfInBounds_toArray, List.set_cons_zero, List.set_cons_succ, i64_w, i32_w]
    rfl
  refine pure_ (i := 8) (N := some 37) (v := ?_) (a' := ?_) qD9 rfl rfl (by kernel_rfl) (fun _ _ _ h => h) (Or.inl ⟨by rfl, ?_⟩) ?_ ?_
  rotate_left
  · intro w'
    go_simp
    with_reducible rfl
  rotate_left
  · simp only [Act.put, List.setIfInBounds_toArray, List.set_cons_zero, List.set_cons_succ, i64_w, i32_w]
    rfl
  refine pure_ (i := 9) (N := some 38) (v := ?_) (a' := ?_) qD10 rfl rfl (by kernel_rfl) (fun _ _ _ h => h) (Or.inl ⟨by rfl, ?_⟩) ?_ ?_
  rotate_left
  · intro w'
    go_simp
    with_reducible rfl
  rotate_left
  · simp only [Act.put, List.setIfInBounds_toArray, List.set_cons_zero, List.set_cons_succ, i64_w, i32_w]
    rfl
  refine pure_ (i := 12) (N := some 41) (v := ?_) (a' := ?_) qE0 rfl rfl (by kernel_rfl) (fun _ _ _ h => h) (Or.inl ⟨by rfl, ?_⟩) ?_ ?_
  rotate_left
  · intro w'
    go_simp
    with_reducible rfl
  rotate_left
  · simp only [Act.put, List.setIfInBounds_toArray, List.set_cons_zero, List.set_cons_succ, i64_w, i32_w]
    rfl
  refine take_ (i := 10) (N := some 39) (v := ?_) (a' := ?_) qE1 rfl rfl (by kernel_rfl) (fun _ _ _ h => h) (Or.inl ⟨by rfl, ?_⟩) hHeld ?_ ?_
  rotate_left
  · rintro w' ⟨s0, s1, s2, s3, s4, s5, s6, s7, s8, s9, s10, s11, s12⟩
    go_simp
    with_reducible rfl
  rotate_left
  · simp only [Act.put, List.setIfInBounds_toArray, List.set_cons_zero, List.set_cons_succ, i64_w, i32_w]
    rfl
  refine pure_ (i := 11) (N := some 40) (v := ?_) (a' := ?_) qD13 rfl rfl (by kernel_rfl) (fun _ _ _ h => h) (Or.inl ⟨by rfl, ?_⟩) ?_ ?_
  rotate_left
  · intro w'
    go_simp
    with_reducible rfl
  rotate_left
  · simp only [Act.put, List.setIfInBounds_toArray, List.set_cons_zero, List.set_cons_succ, i64_w, i32_w]
    rfl
  refine take_ (i := 13) (N := some 42) (v := ?_) (a' := ?_) qD14 rfl rfl (by kernel_rfl) (fun _ _ _ h => h) (Or.inl ⟨by rfl, ?_⟩) hHeld ?_ ?_
  rotate_left
  · rintro w' ⟨s0, s1, s2, s3, s4, s5, s6, s7, s8, s9, s10, s11, s12⟩
    go_simp
    with_reducible rfl
  rotate_left
  · simp only [Act.put, List.setIfInBounds_toArray, List.set_cons_zero, List.set_cons_succ, i64_w, i32_w]
    rfl
  refine pure_ (i := 14) (N := some 43) (v := ?_) (a' := ?_) qD15 rfl rfl (by kernel_rfl) (fun _ _ _ h => h) (Or.inl ⟨by rfl, ?_⟩) ?_ ?_
  rotate_left
  · intro w'
    go_simp
    with_reducible rfl
  rotate_left
  · simp only [Act.put, List.setIfInBounds_toArray, List.set_cons_zero, List.set_cons_succ, i64_w, i32_w]
    rfl
  refine pure_ (i := 15) (N := some 44) (v := ?_) (a' := ?_) qD16 rfl rfl (by kernel_rfl) (fun _ _ _ h => h) (Or.inl ⟨by rfl, ?_⟩) ?_ ?_
  rotate_left
  · intro w'
    go_simp
    with_reducible rfl
  rotate_left
  · simp only [Act.put, List.setIfInBounds_toArray, List.set_cons_zero, List.set_cons_succ, i64_w, i32_w]
    rfl
  refine pure_ (i := 16) (N := some 45) (v := ?_) (a' := ?_) qD17 rfl rfl (by kernel_rfl) (fun _ _ _ h => h) (Or.inl ⟨by rfl, ?_⟩) ?_ ?_
  rotate_left
  · intro w'
    go_simp
    with_reducible rfl
  rotate_left
  · simp only [Act.put, List.setIfInBounds_toArray, List.set_cons_zero, List.set_cons_succ, i64_w, i32_w]
    rfl
  refine pure_ (i := 17) (N := some 46) (v := ?_) (a' := ?_) qD18 rfl rfl (by kernel_rfl) (fun _ _ _ h => h) (Or.inl ⟨by rfl, ?_⟩) ?_ ?_
  rotate_left
  · intro w'
    go_simp
    with_reducible rfl
  rotate_left
  · simp only [Act.put, List.setIfInBounds_toArray, List.set_cons_zero, List.set_cons_succ, i64_w, i32_w]
    rfl
  refine pure_ (i := 18) (N := some 47) (v := ?_) (a' := ?_) qD19 rfl rfl (by kernel_rfl) (fun _ _ _ h => h) (Or.inl ⟨by rfl, ?_⟩) ?_ ?_
  rotate_left
  · intro w'
    go_simp
    with_reducible rfl
  rotate_left
  · simp only [Act.put, List.setIfInBounds_toArray, List.set_cons_zero, List.set_cons_succ, i64_w, i32_w]
    rfl
  refine take_ (i := 19) (N := some 48) (v := ?_) (a' := ?_) qD20 rfl rfl (by kernel_rfl) (fun _ _ _ h => h) (Or.inl ⟨by rfl, ?_⟩) hHeld ?_ ?_
  rotate_left
  · rintro w' ⟨s0, s1, s2, s3, s4, s5, s6, s7, s8, s9, s10, s11, s12⟩
    go_simp
    with_reducible rfl
  rotate_left
  · simp only [Act.put, List.setIfInBounds_toArray, List.set_cons_zero, List.set_cons_succ, i64_w, i32_w]
    rfl
  refine take_ (i := 20) (N := some 49) (v := ?_) (a' := ?_) qD21 rfl rfl (by kernel_rfl) (fun _ _ _ h => h) (Or.inl ⟨by rfl, ?_⟩) hHeld ?_ ?_
  rotate_left
  · rintro w' ⟨s0, s1, s2, s3, s4, s5, s6, s7, s8, s9, s10, s11, s12⟩
    go_simp
    with_reducible rfl
  rotate_left
  · simp only [Act.put, List.setIfInBounds_toArray, List.set_cons_zero, List.set_cons_succ, i64_w, i32_w]
    rfl
  refine pure_ (i := 21) (N := some 50) (v := ?_) (a' := ?_) qD22 rfl rfl (by kernel_rfl) (fun _ _ _ h => h) (Or.inl ⟨by rfl, ?_⟩) ?_ ?_
  rotate_left
  · intro w'
    go_simp
    with_reducible rfl
  rotate_left
  · simp only [Act.put, List.setIfInBounds_toArray, List.set_cons_zero, List.set_cons_succ, i64_w, i32_w]
    rfl
  refine pure_ (i := 22) (N := some 51) (v := ?_) (a' := ?_) qD23 rfl rfl (by kernel_rfl) (fun _ _ _ h => h) (Or.inl ⟨by rfl, ?_⟩) ?_ ?_
  rotate_left
  · intro w'
    go_simp
    with_reducible rfl
  rotate_left
  · simp only [Act.put, List.setIfInBounds_toArray, List.set_cons_zero, List.set_cons_succ, i64_w, i32_w]
    rfl
  refine pure_ (i := 23) (N := some 52) (v := ?_) (a' := ?_) qD24 rfl rfl (by kernel_rfl) (fun _ _ _ h => h) (Or.inl ⟨by rfl, ?_⟩) ?_ ?_
  rotate_left
  · intro w'
    go_simp
    with_reducible rfl
  rotate_left
  · simp only [Act.put, List.setIfInBounds_toArray, List.set_cons_zero, List.set_cons_succ, i64_w, i32_w]
    rfl
  refine pure_ (i := 24) (N := some 53) (v := ?_) (a' := ?_) qD25 rfl rfl (by kernel_rfl) (fun _ _ _ h => h) (Or.inl ⟨by rfl, ?_⟩) ?_ ?_
  rotate_left
  · intro w'
    go_simp
    with_reducible rfl
  rotate_left
  · simp only [Act.put, List.setIfInBounds_toArray, List.set_cons_zero, List.set_cons_succ, i64_w, i32_w]
    rfl
  refine pure_ (i := 27) (N := some 56) (v := ?_) (a' := ?_) qD35 rfl rfl (by kernel_rfl) (fun _ _ _ h => h) (Or.inl ⟨by rfl, ?_⟩) ?_ ?_
  rotate_left
  · intro w'
    go_simp
    with_reducible rfl
  rotate_left
  · simp only [Act.put, List.setIfInBounds_toArray, List.set_cons_zero, List.set_cons_succ, i64_w, i32_w]
    rfl
  refine pure_ (i := 28) (N := some 57) (v := ?_) (a' := ?_) qD36 rfl rfl (by kernel_rfl) (fun _ _ _ h => h) (Or.inl ⟨by rfl, ?_⟩) ?_ ?_
  rotate_left
  · intro w'
    go_simp
    with_reducible rfl
  rotate_left
  · simp only [Act.put, List.setIfInBounds_toArray, List.set_cons_zero, List.set_cons_succ, i64_w, i32_w]
    rfl
  refine pure_ (i := 30) (N := some 59) (v := ?_) (a' := ?_) qD37 rfl rfl (by kernel_rfl) (fun _ _ _ h => h) (Or.inl ⟨by rfl, ?_⟩) ?_ ?_
  rotate_left
  · intro w'
    go_simp
    with_reducible rfl
  rotate_left
  · simp only [Act.put, List.setIfInBounds_toArray, List.set_cons_zero, List.set_cons_succ, i64_w, i32_w]
    rfl
  refine take_ (i := 25) (N := some 54) (v := ?_) (a' := ?_) qD38 rfl rfl (by kernel_rfl) (fun _ _ _ h => h) (Or.inl ⟨by rfl, ?_⟩) hHeld ?_ ?_
  rotate_left
  · rintro w' ⟨s0, s1, s2, s3, s4, s5, s6, s7, s8, s9, s10, s11, s12⟩
    go_simp
    with_reducible rfl
  rotate_left
  · simp only [Act.put, List.setIfInBounds_toArray, List.set_cons_zero, List.set_cons_succ, i64_w, i32_w]
    rfl
  refine take_ (i := 26) (N := some 55) (v := ?_) (a' := ?_) qD39 rfl rfl (by kernel_rfl) (fun _ _ _ h => h) (Or.inl ⟨by rfl, ?_⟩) hHeld ?_ ?_
  rotate_left
  · rintro w' ⟨s0, s1, s2, s3, s4, s5, s6, s7, s8, s9, s10, s11, s12⟩
    go_simp
    with_reducible rfl
  rotate_left
  · simp only [Act.put, List.setIfInBounds_toArray, List.set_cons_zero, List.set_cons_succ, i64_w, i32_w]
    rfl
  refine take_ (i := 29) (N := some 58) (v := ?_) (a' := ?_) qD31 rfl rfl (by kernel_rfl) (fun _ _ _ h => h) (Or.inl ⟨by rfl, ?_⟩) hHeld ?_ ?_
  rotate_left
  · rintro w' ⟨s0, s1, s2, s3, s4, s5, s6, s7, s8, s9, s10, s11, s12⟩
    go_simp
    with_reducible rfl
  rotate_left
  · simp only [Act.put, List.setIfInBounds_toArray, List.set_cons_zero, List.set_cons_succ, i64_w, i32_w]
    rfl
  refine one_ (i := 31) (N := some 60) qD32 rfl rfl (by kernel_rfl) (by decide) (fun K hK => ?_)
  refine goes_ Try.func36 (by kernel_rfl) rfl #[.agg #[.slice AX lx.length cX, .int .i64 sl, .int .i64 bo], .int .i64 vte, v] (by rfl) rfl rfl (by simp only [List.map_toArray, List.map_cons, List.map_nil]; rfl) ?_
  with_reducible refine (point_calls AX _ cX sl bo vte v g _ (IN.out.ch.below HP1.out) HTE.out).mono ?_
  rintro x wp2 ⟨rfl, hb⟩
  refine ⟨_, rfl, ?_⟩
  have HP2 := Aside0.mk (below_then HP1.out HP1.out.size hb)
  clear hb
  refine hK.out _ _ ⟨(pw_cell_below HP2.out (blk_cell BM.out 0)), (pw_cell_below HP2.out (blk_cell BM.out 1)), (pw_cell_below HP2.out (blk_cell BM.out 2)), (pw_cell_below HP2.out (blk_cell BS.out 10)), (pw_cell_below HP2.out (blk_cell BV.out 0)), (pw_cell_below HP2.out (blk_cell BV.out 1)), (pw_cell_below HP2.out (blk_cell BV.out 2)), (pw_cell_below HP2.out (blk_cell BV.out 3)), (pw_cell_below HP2.out (blk_cell BV.out 4)), (pw_cell_below HP2.out (blk_cell BV.out 5)), (pw_cell_below HP2.out (blk_cell BV.out 6)), (pw_cell_below HP2.out (blk_cell BP.out 0)), (pw_cell_below HP2.out (blk_cell BP.out 1))⟩ (fun hHeld => ?_)
  clear hK K
  refine norm_ (a' := ?_) ?_ ?_
  rotate_left
  · show Act.put _ (some 60) _ = _
    simp only [Act.put, List.setIfInBounds_toArray, List.set_cons_zero, List.set_cons_succ, i64_w, i32_w]
    rfl
  refine pure_ (i := 32) (N := some 61) (v := ?_) (a' := ?_) qD33 rfl rfl (by kernel_rfl) (fun _ _ _ h => h) (Or.inl ⟨by rfl, ?_⟩) ?_ ?_
  rotate_left
  · intro w'
    go_simp
    with_reducible rfl
  rotate_left
  · simp only [Act.put, List.setIfInBounds_toArray, List.set_cons_zero, List.set_cons_succ, i64_w, i32_w]
    rfl
  refine pure_ (i := 33) (N := some 62) (v := ?_) (a' := ?_) qD34 rfl rfl (by kernel_rfl) (fun _ _ _ h => h) (Or.inl ⟨by rfl, ?_⟩) ?_ ?_
  rotate_left
  · intro w'
    go_simp
    with_reducible rfl
  rotate_left
  · simp only [Act.put, List.setIfInBounds_toArray, List.set_cons_zero, List.set_cons_succ, i64_w, i32_w]
    rfl
  refine done_ (by kernel_rfl) ?_
  have hs0 := blk_cell (blk_below BS.out HP2.out)
  go_wp2_with (refine Block.store_block rfl rfl 39 (.tmp 8) (.tmp 63) rfl (w.heap.size + 1 + 1 + 1) 39 _ _ rfl rfl (blk_below BO.out HP2.out) rfl (by kernel_rfl) (by simp [Value.oneCell']) ?_; intro w9 hbk hgr; have HZ := Aside0.mk ((below_then HBR.out HBR.out.size HP2.out).grown hgr (below_then HBR.out HBR.out.size HP2.out).size (fun k hk => by cases hk; omega)); have hc9 := blk_cell hbk; clear hgr hbk)
  refine bodyPost_ret (v := .tuple #[.agg #[.bool s0, .bool s1, .bool s2, .bool s3, .int .i64 vse, .int .u64 vsr, .int .i64 ce, .int .u64 cr, .int .i64 fe, .int .u64 fr, .int .i64 ep, .slice AB B.length cB, .slice AN N.length cN], .bool false]) ?_ rfl ⟨rfl, HZ.out⟩
  simp [results, Try.results18, go_sem, hc9]
end Go.Proofs.Ytiklbldanidfiaa.QL
namespace Go.Proofs.Ytiklbldanidfiaa.QL
open Go.RowKit Go.Proofs.YtiklbldanidfiaaW.PrintWords Go.Proofs.YtiklbldanidfiaaW.PrintLast Go.Proofs.YtiklbldanidfiaaW.PrintMore Go.Proofs.Ytiklbldanidfiaa.Own Go.Proofs.Ytiklbldanidfiaa.Justify
set_option linter.unusedVariables false
set_option linter.unusedSimpArgs false
attribute [local go_sem] max2_is min2_is max_pair min_pair
attribute [local go_sem high] eqA34
set_option maxHeartbeats 16000000 in
set_option maxRecDepth 100000 in
theorem count_before_G (AX : Option Addr) (cX : Nat) (lx : List Int) (sl bo : Int) (s0 s1 s2 s3 : Bool) (ce cr fe fr ep vs vh vse vsr vte vtr : Int) (AB : Option Addr) (cB : Nat) (B : List Bool) (AN : Option Addr) (cN : Nat) (N : List Bool) (AW : Option Addr) (cW : Nat) (W : List Int) (kr : Nat) (v : Value) (g : Int → Int) (w : World) (h : PIn AX cX lx s0 s1 s2 s3 vse vsr ce cr fe fr ep AB cB B AN cN N v g w) (hW : Kd.C (Kd.int .i64) w AW W.length W) (hcW : W.length ≤ cW)
    (hk : vote_Right.f kr lx sl bo vs vh vse vsr vte vtr W = some true) (hte : -9223372036854775808 ≤ vte ∧ vte ≤ 9223372036854775807) (t0 : (vte == ep) = false) (t1 : (wrap64 (vte + 1) != ep) = false) (t2 : (!(vte == mx 0 vte) || !(vtr == g (startOf vte sl))) = false) (hin : ∀ j, j < W.length → 0 ≤ rd W (j : Int) ∧ rd W (j : Int) < (B.length : Int)) (hWl : W.length ≤ 17592186043904) :
    Calls Try.prog 18 #[.agg #[.slice AX lx.length cX, .int .i64 sl, .int .i64 bo], .agg #[.bool s0, .bool s1, .bool s2, .bool s3, .int .i64 vse, .int .u64 vsr, .int .i64 ce, .int .u64 cr, .int .i64 fe, .int .u64 fr, .int .i64 ep, .slice AB B.length cB, .slice AN N.length cN], .agg #[.int .i64 vs, .int .u64 vh, .int .i64 vse, .int .u64 vsr, .int .i64 vte, .int .u64 vtr, .slice AW W.length cW], v] w fun x w' => ∃ (AB' : Option Addr) (cB' : Nat) (AN' : Option Addr) (cN' : Nat), x = .returned (.tuple #[.agg #[.bool s0, .bool s1, .bool s2, .bool s3, .int .i64 vse, .int .u64 vsr, .int .i64 ce, .int .u64 cr, .int .i64 fe, .int .u64 fr, .int .i64 ep, .slice AB' B.length cB', .slice AN' N.length cN'], .bool true]) ∧ PIn AX cX lx s0 s1 s2 s3 vse vsr ce cr fe fr ep AB' cB' (marks B W) AN' cN' N v g w' ∧ Below w.heap.size w w' := by
  have IN0 := Aside0.mk h
  have HW0 := Aside0.mk hW
  have HCW := Aside0.mk hcW
  have HK := Aside0.mk hk
  have HTE := Aside0.mk hte
  clear h hW hcW hk hte
  have HIN := Aside0.mk hin
  have HWL := Aside0.mk hWl
  clear hin hWl
  go_enter Try.func18, Try.ntmps18
  go_upto_region 5 with fail
  have qb := box5 w #[.slice AX lx.length cX, .int .i64 sl, .int .i64 bo] #[.bool s0, .bool s1, .bool s2, .bool s3, .int .i64 vse, .int .u64 vsr, .int .i64 ce, .int .u64 cr, .int .i64 fe, .int .u64 fr, .int .i64 ep, .slice AB B.length cB, .slice AN N.length cN] #[.int .i64 vs, .int .u64 vh, .int .i64 vse, .int .u64 vsr, .int .i64 vte, .int .u64 vtr, .slice AW W.length cW] #[.bool false, .bool false, .bool false, .bool false, .int .i64 0, .int .u64 0, .int .i64 0, .int .u64 0, .int .i64 0, .int .u64 0, .int .i64 0, .slice none 0 0, .slice none 0 0] #[.int .i64 vse, .int .u64 vsr] 24 39 43 39 34
  obtain ⟨wr, hwr⟩ : ∃ wr, wr = ((((w.alloc (.cells #[.slice AX lx.length cX, .int .i64 sl, .int .i64 bo] 24)).alloc (.cells #[.bool s0, .bool s1, .bool s2, .bool s3, .int .i64 vse, .int .u64 vsr, .int .i64 ce, .int .u64 cr, .int .i64 fe, .int .u64 fr, .int .i64 ep, .slice AB B.length cB, .slice AN N.length cN] 39)).alloc (.cells #[.int .i64 vs, .int .u64 vh, .int .i64 vse, .int .u64 vsr, .int .i64 vte, .int .u64 vtr, .slice AW W.length cW] 43)).alloc (.cells #[.bool false, .bool false, .bool false, .bool false, .int .i64 0, .int .u64 0, .int .i64 0, .int .u64 0, .int .i64 0, .int .u64 0, .int .i64 0, .slice none 0 0, .slice none 0 0] 39)).alloc (.cells #[.int .i64 vse, .int .u64 vsr] 34) := ⟨_, rfl⟩
  simp only [← hwr] at qb
  have BM := Aside0.mk qb.1
  have BS := Aside0.mk qb.2.1
  have BV := Aside0.mk qb.2.2.1
  have BO := Aside0.mk qb.2.2.2.1
  have BP := Aside0.mk qb.2.2.2.2
  have HBR : Aside0 (Below w.heap.size w wr) := ⟨by rw [hwr]; exact below_alloc (below_alloc (below_alloc (below_alloc (below_alloc (Below.refl _ _) _) _) _) _) _⟩
  rw [← hwr]
  clear hwr qb
  have IN := Aside0.mk (IN0.out.below HBR.out)
  have HWr := Aside0.mk (Kd.C_below HW0.out HBR.out)
  rename_i K Q a0_
  refine start_ (n := 34) (S := fun w' => w'.cell? ⟨w.heap.size, 0, none⟩ = some (.slice AX lx.length cX) ∧ w'.cell? ⟨w.heap.size, 1, none⟩ = some (.int .i64 sl) ∧ w'.cell? ⟨w.heap.size, 2, none⟩ = some (.int .i64 bo) ∧ w'.cell? ⟨w.heap.size + 1, 10, none⟩ = some (.int .i64 ep) ∧ w'.cell? ⟨w.heap.size + 1 + 1, 0, none⟩ = some (.int .i64 vs) ∧ w'.cell? ⟨w.heap.size + 1 + 1, 1, none⟩ = some (.int .u64 vh) ∧ w'.cell? ⟨w.heap.size + 1 + 1, 2, none⟩ = some (.int .i64 vse) ∧ w'.cell? ⟨w.heap.size + 1 + 1, 3, none⟩ = some (.int .u64 vsr) ∧ w'.cell? ⟨w.heap.size + 1 + 1, 4, none⟩ = some (.int .i64 vte) ∧ w'.cell? ⟨w.heap.size + 1 + 1, 5, none⟩ = some (.int .u64 vtr) ∧ w'.cell? ⟨w.heap.size + 1 + 1, 6, none⟩ = some (.slice AW W.length cW) ∧ w'.cell? ⟨w.heap.size + 1 + 1 + 1 + 1, 0, none⟩ = some (.int .i64 vse) ∧ w'.cell? ⟨w.heap.size + 1 + 1 + 1 + 1, 1, none⟩ = some (.int .u64 vsr)) (ds := []) qD0 (by kernel_rfl) rfl rfl ⟨(blk_cell BM.out 0), (blk_cell BM.out 1), (blk_cell BM.out 2), (blk_cell BS.out 10), (blk_cell BV.out 0), (blk_cell BV.out 1), (blk_cell BV.out 2), (blk_cell BV.out 3), (blk_cell BV.out 4), (blk_cell BV.out 5), (blk_cell BV.out 6), (blk_cell BP.out 0), (blk_cell BP.out 1)⟩ (fun hHeld => ?_)
  refine take_ (i := 0) (N := some 29) (v := ?_) (a' := ?_) qD1 rfl rfl (by kernel_rfl) (fun _ _ _ h => h) (Or.inl ⟨by rfl, ?_⟩) hHeld ?_ ?_
  rotate_left
  · rintro w' ⟨s0, s1, s2, s3, s4, s5, s6, s7, s8, s9, s10, s11, s12⟩
    go_simp
    with_reducible rfl
  rotate_left
  · simp only [Act.put, List.setIfInBounds_toArray, List.set_cons_zero, List.set_cons_succ, i64_w, i32_w]
    rfl
  refine take_ (i := 1) (N := some 30) (v := ?_) (a' := ?_) qD2 rfl rfl (by kernel_rfl) (fun _ _ _ h => h) (Or.inl ⟨by rfl, ?_⟩) hHeld ?_ ?_
  rotate_left
  · rintro w' ⟨s0, s1, s2, s3, s4, s5, s6, s7, s8, s9, s10, s11, s12⟩
    go_simp
    with_reducible rfl
  rotate_left
  · simp only [Act.put, List.setIfInBounds_toArray, List.set_cons_zero, List.set_cons_succ, i64_w, i32_w]
    rfl
  refine one_ (i := 2) (N := some 31) qD3 rfl rfl (by kernel_rfl) (by decide) (fun K hK => ?_)
  refine goes_ Try.func35 (by kernel_rfl) rfl #[.agg #[.slice AX lx.length cX, .int .i64 sl, .int .i64 bo], .agg #[.int .i64 vs, .int .u64 vh, .int .i64 vse, .int .u64 vsr, .int .i64 vte, .int .u64 vtr, .slice AW W.length cW]] (by rfl) rfl rfl (by simp only [List.map_toArray, List.map_cons, List.map_nil]; rfl) ?_
  with_reducible refine (vote_Right.calls kr AX cX lx sl bo vs vh vse vsr vte vtr AW cW W _ _ (Kd.C_below IN.out.X (below_drew (Below.refl wr.heap.size wr))) IN.out.lX (Kd.C_below HWr.out (below_drew (Below.refl wr.heap.size wr))) HCW.out HK.out).mono ?_
  rintro x wp1 ⟨rfl, hb⟩
  refine ⟨_, rfl, ?_⟩
  have HP1 := Aside0.mk (below_then (below_drew (Below.refl wr.heap.size wr)) (Nat.le_refl _) hb)
  clear hb
  refine hK.out _ _ ⟨(pw_cell_below HP1.out (blk_cell BM.out 0)), (pw_cell_below HP1.out (blk_cell BM.out 1)), (pw_cell_below HP1.out (blk_cell BM.out 2)), (pw_cell_below HP1.out (blk_cell BS.out 10)), (pw_cell_below HP1.out (blk_cell BV.out 0)), (pw_cell_below HP1.out (blk_cell BV.out 1)), (pw_cell_below HP1.out (blk_cell BV.out 2)), (pw_cell_below HP1.out (blk_cell BV.out 3)), (pw_cell_below HP1.out (blk_cell BV.out 4)), (pw_cell_below HP1.out (blk_cell BV.out 5)), (pw_cell_below HP1.out (blk_cell BV.out 6)), (pw_cell_below HP1.out (blk_cell BP.out 0)), (pw_cell_below HP1.out (blk_cell BP.out 1))⟩ (fun hHeld => ?_)
  clear hK K
  refine norm_ (a' := ?_) ?_ ?_
  rotate_left
  · show Act.put _ (some 31) _ = _
    simp only [Act.put, List.setIfInBounds_toArray, List.set_cons_zero, List.set_cons_succ, i64_w, i32_w]
    rfl
  refine pure_ (i := 3) (N := some 32) (v := ?_) (a' := ?_) qD4 rfl rfl (by kernel_rfl) (fun _ _ _ h => h) (Or.inl ⟨by rfl, ?_⟩) ?_ ?_
  rotate_left
  · intro w'
    go_simp
    with_reducible rfl
  rotate_left
  · simp only [Act.put, List.setIfInBounds_toArray, List.set_cons_zero, List.set_cons_succ, i64_w, i32_w]
    rfl
  refine pure_ (i := 4) (N := some 33) (v := ?_) (a' := ?_) qD5 rfl rfl (by kernel_rfl) (fun _ _ _ h => h) (Or.inl ⟨by rfl, ?_⟩) ?_ ?_
  rotate_left
  · intro w'
    go_simp
    with_reducible rfl
  rotate_left
  · simp only [Act.put, List.setIfInBounds_toArray, List.set_cons_zero, List.set_cons_succ, i64_w, i32_w]
    rfl
  refine pure_ (i := 5) (N := some 34) (v := ?_) (a' := ?_) qD6 rfl rfl (by kernel_rfl) (fun _ _ _ h => h) (Or.inl ⟨by rfl, ?_⟩) ?_ ?_
  rotate_left
  · intro w'
    go_simp
    with_reducible rfl
  rotate_left
  · simp only [Act.put, List.setIfInBounds_toArray, List.set_cons_zero, List.set_cons_succ, i64_w, i32_w]
    rfl
  refine pure_ (i := 6) (N := some 35) (v := ?_) (a' := ?_) qD7 rfl rfl (by kernel_rfl) (fun _ _ _ h => h) (Or.inl ⟨by rfl, ?_⟩) ?_ ?_
  rotate_left
  · intro w'
    go_simp
    with_reducible rfl
  rotate_left
  · simp only [Act.put, List.setIfInBounds_toArray, List.set_cons_zero, List.set_cons_succ, i64_w, i32_w]
    rfl
  refine pure_ (i := 7) (N := some 36) (v := ?_) (a' := ?_) qD8 rfl rfl (by kernel_rfl) (fun _ _ _ h => h) (Or.inl ⟨by rfl, ?_⟩) ?_ ?_
  rotate_left
  · intro w'
    go_simp
    with_reducible rfl
  rotate_left
  · simp only [Act.put, List.setIfInBounds_toArray, List.set_cons_zero, List.set_cons_succ, i64_w, i32_w]
    rfl
  refine pure_ (i := 8) (N := some 37) (v := ?_) (a' := ?_) qD9 rfl rfl (by kernel_rfl) (fun _ _ _ h => h) (Or.inl ⟨by rfl, ?_⟩) ?_ ?_
  rotate_left
  · intro w'
    go_simp
    with_reducible rfl
  rotate_left
  · simp only [Act.put, List.setIfInBounds_toArray, List.set_cons_zero, List.set_cons_succ, i64_w, i32_w]
    rfl
  refine pure_ (i := 9) (N := some 38) (v := ?_) (a' := ?_) qD10 rfl rfl (by kernel_rfl) (fun _ _ _ h => h) (Or.inl ⟨by rfl, ?_⟩) ?_ ?_
  rotate_left
  · intro w'
    go_simp
    with_reducible rfl
  rotate_left
  · simp only [Act.put, List.setIfInBounds_toArray, List.set_cons_zero, List.set_cons_succ, i64_w, i32_w]
    rfl
  refine pure_ (i := 12) (N := some 41) (v := ?_) (a' := ?_) qE0 rfl rfl (by kernel_rfl) (fun _ _ _ h => h) (Or.inl ⟨by rfl, ?_⟩) ?_ ?_
  rotate_left
  · intro w'
    go_simp
    with_reducible rfl
  rotate_left
  · simp only [Act.put, List.setIfInBounds_toArray, List.set_cons_zero, List.set_cons_succ, i64_w, i32_w]
    rfl
  refine take_ (i := 10) (N := some 39) (v := ?_) (a' := ?_) qE1 rfl rfl (by kernel_rfl) (fun _ _ _ h => h) (Or.inl ⟨by rfl, ?_⟩) hHeld ?_ ?_
  rotate_left
  · rintro w' ⟨s0, s1, s2, s3, s4, s5, s6, s7, s8, s9, s10, s11, s12⟩
    go_simp
    with_reducible rfl
  rotate_left
  · simp only [Act.put, List.setIfInBounds_toArray, List.set_cons_zero, List.set_cons_succ, i64_w, i32_w]
    rfl
  refine pure_ (i := 11) (N := some 40) (v := ?_) (a' := ?_) qD13 rfl rfl (by kernel_rfl) (fun _ _ _ h => h) (Or.inl ⟨by rfl, ?_⟩) ?_ ?_
  rotate_left
  · intro w'
    go_simp
    with_reducible rfl
  rotate_left
  · simp only [Act.put, List.setIfInBounds_toArray, List.set_cons_zero, List.set_cons_succ, i64_w, i32_w]
    rfl
  refine take_ (i := 13) (N := some 42) (v := ?_) (a' := ?_) qD14 rfl rfl (by kernel_rfl) (fun _ _ _ h => h) (Or.inl ⟨by rfl, ?_⟩) hHeld ?_ ?_
  rotate_left
  · rintro w' ⟨s0, s1, s2, s3, s4, s5, s6, s7, s8, s9, s10, s11, s12⟩
    go_simp
    with_reducible rfl
  rotate_left
  · simp only [Act.put, List.setIfInBounds_toArray, List.set_cons_zero, List.set_cons_succ, i64_w, i32_w]
    rfl
  refine pure_ (i := 14) (N := some 43) (v := ?_) (a' := ?_) qD15 rfl rfl (by kernel_rfl) (fun _ _ _ h => h) (Or.inl ⟨by rfl, ?_⟩) ?_ ?_
  rotate_left
  · intro w'
    go_simp
    with_reducible rfl
  rotate_left
  · simp only [Act.put, List.setIfInBounds_toArray, List.set_cons_zero, List.set_cons_succ, i64_w, i32_w]
    rfl
  refine pure_ (i := 15) (N := some 44) (v := ?_) (a' := ?_) qD16 rfl rfl (by kernel_rfl) (fun _ _ _ h => h) (Or.inl ⟨by rfl, ?_⟩) ?_ ?_
  rotate_left
  · intro w'
    go_simp
    with_reducible rfl
  rotate_left
  · simp only [Act.put, List.setIfInBounds_toArray, List.set_cons_zero, List.set_cons_succ, i64_w, i32_w]
    rfl
  refine pure_ (i := 16) (N := some 45) (v := ?_) (a' := ?_) qD17 rfl rfl (by kernel_rfl) (fun _ _ _ h => h) (Or.inl ⟨by rfl, ?_⟩) ?_ ?_
  rotate_left
  · intro w'
    go_simp
    with_reducible rfl
  rotate_left
  · simp only [Act.put, List.setIfInBounds_toArray, List.set_cons_zero, List.set_cons_succ, i64_w, i32_w]
    rfl
  refine pure_ (i := 17) (N := some 46) (v := ?_) (a' := ?_) qD18 rfl rfl (by kernel_rfl) (fun _ _ _ h => h) (Or.inl ⟨by rfl, ?_⟩) ?_ ?_
  rotate_left
  · intro w'
    go_simp
    with_reducible rfl
  rotate_left
  · simp only [Act.put, List.setIfInBounds_toArray, List.set_cons_zero, List.set_cons_succ, i64_w, i32_w]
    rfl
  refine pure_ (i := 18) (N := some 47) (v := ?_) (a' := ?_) qD19 rfl rfl (by kernel_rfl) (fun _ _ _ h => h) (Or.inl ⟨by rfl, ?_⟩) ?_ ?_
  rotate_left
  · intro w'
    go_simp
    with_reducible rfl
  rotate_left
  · simp only [Act.put, List.setIfInBounds_toArray, List.set_cons_zero, List.set_cons_succ, i64_w, i32_w]
    rfl
  refine take_ (i := 19) (N := some 48) (v := ?_) (a' := ?_) qD20 rfl rfl (by kernel_rfl) (fun _ _ _ h => h) (Or.inl ⟨by rfl, ?_⟩) hHeld ?_ ?_
  rotate_left
  · rintro w' ⟨s0, s1, s2, s3, s4, s5, s6, s7, s8, s9, s10, s11, s12⟩
    go_simp
    with_reducible rfl
  rotate_left
  · simp only [Act.put, List.setIfInBounds_toArray, List.set_cons_zero, List.set_cons_succ, i64_w, i32_w]
    rfl
  refine take_ (i := 20) (N := some 49) (v := ?_) (a' := ?_) qD21 rfl rfl (by kernel_rfl) (fun _ _ _ h => h) (Or.inl ⟨by rfl, ?_⟩) hHeld ?_ ?_
  rotate_left
  · rintro w' ⟨s0, s1, s2, s3, s4, s5, s6, s7, s8, s9, s10, s11, s12⟩
    go_simp
    with_reducible rfl
  rotate_left
  · simp only [Act.put, List.setIfInBounds_toArray, List.set_cons_zero, List.set_cons_succ, i64_w, i32_w]
    rfl
  refine pure_ (i := 21) (N := some 50) (v := ?_) (a' := ?_) qD22 rfl rfl (by kernel_rfl) (fun _ _ _ h => h) (Or.inl ⟨by rfl, ?_⟩) ?_ ?_
  rotate_left
  · intro w'
    go_simp
    with_reducible rfl
  rotate_left
  · simp only [Act.put, List.setIfInBounds_toArray, List.set_cons_zero, List.set_cons_succ, i64_w, i32_w]
    rfl
  refine pure_ (i := 22) (N := some 51) (v := ?_) (a' := ?_) qD23 rfl rfl (by kernel_rfl) (fun _ _ _ h => h) (Or.inl ⟨by rfl, ?_⟩) ?_ ?_
  rotate_left
  · intro w'
    go_simp
    with_reducible rfl
  rotate_left
  · simp only [Act.put, List.setIfInBounds_toArray, List.set_cons_zero, List.set_cons_succ, i64_w, i32_w]
    rfl
  refine pure_ (i := 23) (N := some 52) (v := ?_) (a' := ?_) qD24 rfl rfl (by kernel_rfl) (fun _ _ _ h => h) (Or.inl ⟨by rfl, ?_⟩) ?_ ?_
  rotate_left
  · intro w'
    go_simp
    with_reducible rfl
  rotate_left
  · simp only [Act.put, List.setIfInBounds_toArray, List.set_cons_zero, List.set_cons_succ, i64_w, i32_w]
    rfl
  refine pure_ (i := 24) (N := some 53) (v := ?_) (a' := ?_) qD25 rfl rfl (by kernel_rfl) (fun _ _ _ h => h) (Or.inl ⟨by rfl, ?_⟩) ?_ ?_
  rotate_left
  · intro w'
    go_simp
    with_reducible rfl
  rotate_left
  · simp only [Act.put, List.setIfInBounds_toArray, List.set_cons_zero, List.set_cons_succ, i64_w, i32_w]
    rfl
  refine pure_ (i := 27) (N := some 56) (v := ?_) (a' := ?_) qD35 rfl rfl (by kernel_rfl) (fun _ _ _ h => h) (Or.inl ⟨by rfl, ?_⟩) ?_ ?_
  rotate_left
  · intro w'
    go_simp
    with_reducible rfl
  rotate_left
  · simp only [Act.put, List.setIfInBounds_toArray, List.set_cons_zero, List.set_cons_succ, i64_w, i32_w]
    rfl
  refine pure_ (i := 28) (N := some 57) (v := ?_) (a' := ?_) qD36 rfl rfl (by kernel_rfl) (fun _ _ _ h => h) (Or.inl ⟨by rfl, ?_⟩) ?_ ?_
  rotate_left
  · intro w'
    go_simp
    with_reducible rfl
  rotate_left
  · simp only [Act.put, List.setIfInBounds_toArray, List.set_cons_zero, List.set_cons_succ, i64_w, i32_w]
    rfl
  refine pure_ (i := 30) (N := some 59) (v := ?_) (a' := ?_) qD37 rfl rfl (by kernel_rfl) (fun _ _ _ h => h) (Or.inl ⟨by rfl, ?_⟩) ?_ ?_
  rotate_left
  · intro w'
    go_simp
    with_reducible rfl
  rotate_left
  · simp only [Act.put, List.setIfInBounds_toArray, List.set_cons_zero, List.set_cons_succ, i64_w, i32_w]
    rfl
  refine take_ (i := 25) (N := some 54) (v := ?_) (a' := ?_) qD38 rfl rfl (by kernel_rfl) (fun _ _ _ h => h) (Or.inl ⟨by rfl, ?_⟩) hHeld ?_ ?_
  rotate_left
  · rintro w' ⟨s0, s1, s2, s3, s4, s5, s6, s7, s8, s9, s10, s11, s12⟩
    go_simp
    with_reducible rfl
  rotate_left
  · simp only [Act.put, List.setIfInBounds_toArray, List.set_cons_zero, List.set_cons_succ, i64_w, i32_w]
    rfl
  refine take_ (i := 26) (N := some 55) (v := ?_) (a' := ?_) qD39 rfl rfl (by kernel_rfl) (fun _ _ _ h => h) (Or.inl ⟨by rfl, ?_⟩) hHeld ?_ ?_
  rotate_left
  · rintro w' ⟨s0, s1, s2, s3, s4, s5, s6, s7, s8, s9, s10, s11, s12⟩
    go_simp
    with_reducible rfl
  rotate_left
  · simp only [Act.put, List.setIfInBounds_toArray, List.set_cons_zero, List.set_cons_succ, i64_w, i32_w]
    rfl
  refine take_ (i := 29) (N := some 58) (v := ?_) (a' := ?_) qD31 rfl rfl (by kernel_rfl) (fun _ _ _ h => h) (Or.inl ⟨by rfl, ?_⟩) hHeld ?_ ?_
  rotate_left
  · rintro w' ⟨s0, s1, s2, s3, s4, s5, s6, s7, s8, s9, s10, s11, s12⟩
    go_simp
    with_reducible rfl
  rotate_left
  · simp only [Act.put, List.setIfInBounds_toArray, List.set_cons_zero, List.set_cons_succ, i64_w, i32_w]
    rfl
  refine one_ (i := 31) (N := some 60) qD32 rfl rfl (by kernel_rfl) (by decide) (fun K hK => ?_)
  refine goes_ Try.func36 (by kernel_rfl) rfl #[.agg #[.slice AX lx.length cX, .int .i64 sl, .int .i64 bo], .int .i64 vte, v] (by rfl) rfl rfl (by simp only [List.map_toArray, List.map_cons, List.map_nil]; rfl) ?_
  with_reducible refine (point_calls AX _ cX sl bo vte v g _ (IN.out.ch.below HP1.out) HTE.out).mono ?_
  rintro x wp2 ⟨rfl, hb⟩
  refine ⟨_, rfl, ?_⟩
  have HP2 := Aside0.mk (below_then HP1.out HP1.out.size hb)
  clear hb
  refine hK.out _ _ ⟨(pw_cell_below HP2.out (blk_cell BM.out 0)), (pw_cell_below HP2.out (blk_cell BM.out 1)), (pw_cell_below HP2.out (blk_cell BM.out 2)), (pw_cell_below HP2.out (blk_cell BS.out 10)), (pw_cell_below HP2.out (blk_cell BV.out 0)), (pw_cell_below HP2.out (blk_cell BV.out 1)), (pw_cell_below HP2.out (blk_cell BV.out 2)), (pw_cell_below HP2.out (blk_cell BV.out 3)), (pw_cell_below HP2.out (blk_cell BV.out 4)), (pw_cell_below HP2.out (blk_cell BV.out 5)), (pw_cell_below HP2.out (blk_cell BV.out 6)), (pw_cell_below HP2.out (blk_cell BP.out 0)), (pw_cell_below HP2.out (blk_cell BP.out 1))⟩ (fun hHeld => ?_)
  clear hK K
  refine norm_ (a' := ?_) ?_ ?_
  rotate_left
  · show Act.put _ (some 60) _ = _
    simp only [Act.put, List.setIfInBounds_toArray, List.set_cons_zero, List.set_cons_succ, i64_w, i32_w]
    rfl
  refine pure_ (i := 32) (N := some 61) (v := ?_) (a' := ?_) qD33 rfl rfl (by kernel_rfl) (fun _ _ _ h => h) (Or.inl ⟨by rfl, ?_⟩) ?_ ?_
  rotate_left
  · intro w'
    go_simp
    with_reducible rfl
  rotate_left
  · simp only [Act.put, List.setIfInBounds_toArray, List.set_cons_zero, List.set_cons_succ, i64_w, i32_w]
    rfl
  refine pure_ (i := 33) (N := some 62) (v := ?_) (a' := ?_) qD34 rfl rfl (by kernel_rfl) (fun _ _ _ h => h) (Or.inl ⟨by rfl, ?_⟩) ?_ ?_
  rotate_left
  · intro w'
    go_simp
    with_reducible rfl
  rotate_left
  · simp only [Act.put, List.setIfInBounds_toArray, List.set_cons_zero, List.set_cons_succ, i64_w, i32_w]
    rfl
  refine done_ (by kernel_rfl) ?_
  have BS2 := Aside0.mk (blk_below BS.out HP2.out)
  have BO2 := Aside0.mk (blk_below BO.out HP2.out)
  have BV2 := Aside0.mk (blk_below BV.out HP2.out)
  have HB2 := Aside0.mk (below_then HBR.out HBR.out.size HP2.out)
  have IN2 := Aside0.mk (IN.out.below HP2.out)
  have LT5 : Aside0 (w.heap.size + 1 + 1 + 1 + 1 < wp2.heap.size) := ⟨by have h1 := (Array.getElem?_eq_some_iff.1 BP.out).1; have := HP2.out.size; omega⟩
  clear HP1 BM BP HWr IN
  go_upto_region 7 with fail
  refine start_ (n := 13) (S := fun w' => w'.cell? ⟨w.heap.size + 1, 0, none⟩ = some (.bool s0) ∧ w'.cell? ⟨w.heap.size + 1, 1, none⟩ = some (.bool s1) ∧ w'.cell? ⟨w.heap.size + 1, 2, none⟩ = some (.bool s2) ∧ w'.cell? ⟨w.heap.size + 1, 3, none⟩ = some (.bool s3) ∧ w'.cell? ⟨w.heap.size + 1, 4, none⟩ = some (.int .i64 vse) ∧ w'.cell? ⟨w.heap.size + 1, 5, none⟩ = some (.int .u64 vsr) ∧ w'.cell? ⟨w.heap.size + 1, 6, none⟩ = some (.int .i64 ce) ∧ w'.cell? ⟨w.heap.size + 1, 7, none⟩ = some (.int .u64 cr) ∧ w'.cell? ⟨w.heap.size + 1, 8, none⟩ = some (.int .i64 fe) ∧ w'.cell? ⟨w.heap.size + 1, 9, none⟩ = some (.int .u64 fr) ∧ w'.cell? ⟨w.heap.size + 1, 10, none⟩ = some (.int .i64 ep) ∧ w'.cell? ⟨w.heap.size + 1, 11, none⟩ = some (.slice AB B.length cB) ∧ w'.cell? ⟨w.heap.size + 1, 12, none⟩ = some (.slice AN N.length cN)) (ds := [12]) qD40 (by kernel_rfl) rfl rfl ⟨(blk_cell BS2.out 0), (blk_cell BS2.out 1), (blk_cell BS2.out 2), (blk_cell BS2.out 3), (blk_cell BS2.out 4), (blk_cell BS2.out 5), (blk_cell BS2.out 6), (blk_cell BS2.out 7), (blk_cell BS2.out 8), (blk_cell BS2.out 9), (blk_cell BS2.out 10), (blk_cell BS2.out 11), (blk_cell BS2.out 12)⟩ (fun hHeld => ?_)
  refine pure_ (i := 0) (N := some 64) (v := ?_) (a' := ?_) qD41 rfl rfl (by kernel_rfl) (fun _ _ _ h => h) (Or.inl ⟨by rfl, ?_⟩) ?_ ?_
  rotate_left
  · intro w'
    go_simp
    with_reducible rfl
  rotate_left
  · simp only [Act.put, List.setIfInBounds_toArray, List.set_cons_zero, List.set_cons_succ, i64_w, i32_w]
    rfl
  refine pure_ (i := 2) (N := some 66) (v := ?_) (a' := ?_) qD42 rfl rfl (by kernel_rfl) (fun _ _ _ h => h) (Or.inl ⟨by rfl, ?_⟩) ?_ ?_
  rotate_left
  · intro w'
    go_simp
    with_reducible rfl
  rotate_left
  · simp only [Act.put, List.setIfInBounds_toArray, List.set_cons_zero, List.set_cons_succ, i64_w, i32_w]
    rfl
  refine pure_ (i := 4) (N := some 68) (v := ?_) (a' := ?_) qD43 rfl rfl (by kernel_rfl) (fun _ _ _ h => h) (Or.inl ⟨by rfl, ?_⟩) ?_ ?_
  rotate_left
  · intro w'
    go_simp
    with_reducible rfl
  rotate_left
  · simp only [Act.put, List.setIfInBounds_toArray, List.set_cons_zero, List.set_cons_succ, i64_w, i32_w]
    rfl
  refine pure_ (i := 7) (N := some 71) (v := ?_) (a' := ?_) qD44 rfl rfl (by kernel_rfl) (fun _ _ _ h => h) (Or.inl ⟨by rfl, ?_⟩) ?_ ?_
  rotate_left
  · intro w'
    go_simp
    with_reducible rfl
  rotate_left
  · simp only [Act.put, List.setIfInBounds_toArray, List.set_cons_zero, List.set_cons_succ, i64_w, i32_w]
    rfl
  refine take_ (i := 1) (N := some 65) (v := ?_) (a' := ?_) qD45 rfl rfl (by kernel_rfl) (fun _ _ _ h => h) (Or.inl ⟨by rfl, ?_⟩) hHeld ?_ ?_
  rotate_left
  · rintro w' ⟨s0, s1, s2, s3, s4, s5, s6, s7, s8, s9, s10, s11, s12⟩
    go_simp
    with_reducible rfl
  rotate_left
  · simp only [Act.put, List.setIfInBounds_toArray, List.set_cons_zero, List.set_cons_succ, i64_w, i32_w]
    rfl
  refine take_ (i := 3) (N := some 67) (v := ?_) (a' := ?_) qD46 rfl rfl (by kernel_rfl) (fun _ _ _ h => h) (Or.inl ⟨by rfl, ?_⟩) hHeld ?_ ?_
  rotate_left
  · rintro w' ⟨s0, s1, s2, s3, s4, s5, s6, s7, s8, s9, s10, s11, s12⟩
    go_simp
    with_reducible rfl
  rotate_left
  · simp only [Act.put, List.setIfInBounds_toArray, List.set_cons_zero, List.set_cons_succ, i64_w, i32_w]
    rfl
  refine take_ (i := 5) (N := some 69) (v := ?_) (a' := ?_) qD47 rfl rfl (by kernel_rfl) (fun _ _ _ h => h) (Or.inl ⟨by rfl, ?_⟩) hHeld ?_ ?_
  rotate_left
  · rintro w' ⟨s0, s1, s2, s3, s4, s5, s6, s7, s8, s9, s10, s11, s12⟩
    go_simp
    with_reducible rfl
  rotate_left
  · simp only [Act.put, List.setIfInBounds_toArray, List.set_cons_zero, List.set_cons_succ, i64_w, i32_w]
    rfl
  refine take_ (i := 8) (N := some 72) (v := ?_) (a' := ?_) qD48 rfl rfl (by kernel_rfl) (fun _ _ _ h => h) (Or.inl ⟨by rfl, ?_⟩) hHeld ?_ ?_
  rotate_left
  · rintro w' ⟨s0, s1, s2, s3, s4, s5, s6, s7, s8, s9, s10, s11, s12⟩
    go_simp
    with_reducible rfl
  rotate_left
  · simp only [Act.put, List.setIfInBounds_toArray, List.set_cons_zero, List.set_cons_succ, i64_w, i32_w]
    rfl
  refine join_ (σ := Value × Value × Value) 1 qD49 (fun s_ => [(70, s_.1), (73, s_.2.1), (12, s_.2.2), (74, .agg #[.bool s0, .bool s1, .bool s2, .bool s3, .int .i64 vse, .int .u64 vsr, .int .i64 ce, .int .u64 cr, .int .i64 fe, .int .u64 fr, .int .i64 ep, s_.1, s_.2.1])]) (fun s_ w' => (w'.cell? ⟨w.heap.size + 1, 0, none⟩ = some (.bool s0) ∧ w'.cell? ⟨w.heap.size + 1, 1, none⟩ = some (.bool s1) ∧ w'.cell? ⟨w.heap.size + 1, 2, none⟩ = some (.bool s2) ∧ w'.cell? ⟨w.heap.size + 1, 3, none⟩ = some (.bool s3) ∧ w'.cell? ⟨w.heap.size + 1, 4, none⟩ = some (.int .i64 vse) ∧ w'.cell? ⟨w.heap.size + 1, 5, none⟩ = some (.int .u64 vsr) ∧ w'.cell? ⟨w.heap.size + 1, 6, none⟩ = some (.int .i64 ce) ∧ w'.cell? ⟨w.heap.size + 1, 7, none⟩ = some (.int .u64 cr) ∧ w'.cell? ⟨w.heap.size + 1, 8, none⟩ = some (.int .i64 fe) ∧ w'.cell? ⟨w.heap.size + 1, 9, none⟩ = some (.int .u64 fr) ∧ w'.cell? ⟨w.heap.size + 1, 10, none⟩ = some (.int .i64 ep) ∧ w'.cell? ⟨w.heap.size + 1, 11, none⟩ = some (.slice AB B.length cB) ∧ w'.cell? ⟨w.heap.size + 1, 12, none⟩ = some (.slice AN N.length cN)) ∧ (∃ a c b d g', s_ = (.slice a B.length c, .slice b N.length d, .pointer (some ⟨g', 0, none⟩)) ∧ Kd.R Kd.bool 4 w' wp2.heap.size (fun _ => True) (.slice a B.length c) B ∧ Kd.R Kd.bool 4 w' wp2.heap.size (fun _ => True) (.slice b N.length d) N ∧ (∀ k, (Value.slice a B.length c).ownBlock = some k → (Value.slice b N.length d).ownBlock = some k → False) ∧ w'.heap[g']? = some (.cells #[.bool false, .bool false, .bool false, .bool false, .int .i64 0, .int .u64 0, .int .i64 0, .int .u64 0, .int .i64 0, .int .u64 0, .int .i64 0, .slice none 0 0, .slice none 0 0] 39 (0, 0)) ∧ wp2.heap.size ≤ g') ∧ Below wp2.heap.size wp2 w') ?_ ?_
  rotate_left
  · intro hCont
    refine two_ (i := 6) (j := 11) (Ni := some 70) (Nj := some 12) qD50 qD51 rfl rfl rfl rfl (by kernel_rfl) (by decide) (by decide) (fun K hK => ?_) (fun K hK => ?_)
    · skip
      refine appendB_step (base := wp2.heap.size) (w0 := wp2) (by rfl) rfl _ rfl AB B cB rfl (IN2.out.below (below_drew (Below.refl wp2.heap.size wp2))).hB IN2.out.lB (below_drew (Below.refl wp2.heap.size wp2)) (Nat.le_refl _) ?_
      intro a1 c1 wq1 ho hb hg_
      have HQ1 := Aside0.mk hb
      have R1_1 := Aside0.mk ho
      clear ho hb hg_
      refine hK.out _ _ ⟨(pw_cell_below HQ1.out (blk_cell BS2.out 0)), (pw_cell_below HQ1.out (blk_cell BS2.out 1)), (pw_cell_below HQ1.out (blk_cell BS2.out 2)), (pw_cell_below HQ1.out (blk_cell BS2.out 3)), (pw_cell_below HQ1.out (blk_cell BS2.out 4)), (pw_cell_below HQ1.out (blk_cell BS2.out 5)), (pw_cell_below HQ1.out (blk_cell BS2.out 6)), (pw_cell_below HQ1.out (blk_cell BS2.out 7)), (pw_cell_below HQ1.out (blk_cell BS2.out 8)), (pw_cell_below HQ1.out (blk_cell BS2.out 9)), (pw_cell_below HQ1.out (blk_cell BS2.out 10)), (pw_cell_below HQ1.out (blk_cell BS2.out 11)), (pw_cell_below HQ1.out (blk_cell BS2.out 12))⟩ (fun hHeld => ?_)
      clear hK K
      refine norm_ (a' := ?_) ?_ ?_
      rotate_left
      · show Act.put _ (some 70) _ = _
        simp only [Act.put, List.setIfInBounds_toArray, List.set_cons_zero, List.set_cons_succ, i64_w, i32_w]
        rfl
      refine two_ (i := 9) (j := 11) (Ni := some 73) (Nj := some 12) qD52 qD53 rfl rfl rfl rfl (by kernel_rfl) (by decide) (by decide) (fun K hK => ?_) (fun K hK => ?_)
      · skip
        refine appendB_step (base := wq1.heap.size) (w0 := wq1) (by rfl) rfl _ rfl AN N cN rfl (IN2.out.below HQ1.out).hN IN2.out.lN (Below.refl _ _) (Nat.le_refl _) ?_
        intro a2 c2 wq2 ho hb hg_
        have HQ2 := Aside0.mk (below_then HQ1.out HQ1.out.size hb)
        have R2_2 := Aside0.mk (Kd.R_lower ho HQ1.out.size)
        have NE_2 : Aside0 (∀ k, (Value.slice a1 B.length c1).ownBlock = some k → (Value.slice a2 N.length c2).ownBlock = some k → False) := ⟨fun k h1 h2 => by have h3 := Kd.R_lt R1_1.out k h1; have h4 := Kd.R_base ho k h2; omega⟩
        have R1_2 := Aside0.mk (Kd.R_grown R1_1.out hg_ (fun _ _ => by simp))
        clear ho hb hg_
        refine hK.out _ _ ⟨(pw_cell_below HQ2.out (blk_cell BS2.out 0)), (pw_cell_below HQ2.out (blk_cell BS2.out 1)), (pw_cell_below HQ2.out (blk_cell BS2.out 2)), (pw_cell_below HQ2.out (blk_cell BS2.out 3)), (pw_cell_below HQ2.out (blk_cell BS2.out 4)), (pw_cell_below HQ2.out (blk_cell BS2.out 5)), (pw_cell_below HQ2.out (blk_cell BS2.out 6)), (pw_cell_below HQ2.out (blk_cell BS2.out 7)), (pw_cell_below HQ2.out (blk_cell BS2.out 8)), (pw_cell_below HQ2.out (blk_cell BS2.out 9)), (pw_cell_below HQ2.out (blk_cell BS2.out 10)), (pw_cell_below HQ2.out (blk_cell BS2.out 11)), (pw_cell_below HQ2.out (blk_cell BS2.out 12))⟩ (fun hHeld => ?_)
        clear hK K
        refine norm_ (a' := ?_) ?_ ?_
        rotate_left
        · show Act.put _ (some 73) _ = _
          simp only [Act.put, List.setIfInBounds_toArray, List.set_cons_zero, List.set_cons_succ, i64_w, i32_w]
          rfl
        refine pure_ (i := 10) (N := some 74) (v := ?_) (a' := ?_) qD54 rfl rfl (by kernel_rfl) (fun _ _ _ h => h) (Or.inl ⟨by rfl, ?_⟩) ?_ ?_
        rotate_left
        · intro w'
          go_simp
          with_reducible rfl
        rotate_left
        · simp only [Act.put, List.setIfInBounds_toArray, List.set_cons_zero, List.set_cons_succ, i64_w, i32_w]
          rfl
        refine one_ (i := 11) (N := some 12) qD49 rfl rfl (by kernel_rfl) (by decide) (fun K hK => ?_)
        refine allocS_step (base := wp2.heap.size) (w0 := wp2) (by rfl) rfl rfl HQ2.out HQ2.out.size ?_
        intro g wq3 hz hge hb hg_
        have HQ3 := Aside0.mk hb
        have GE_3 := Aside0.mk hge
        have GZ_3 := Aside0.mk hz
        have R1_3 := Aside0.mk (Kd.R_grown R1_2.out hg_ (fun _ _ => by simp))
        have R2_3 := Aside0.mk (Kd.R_grown R2_2.out hg_ (fun _ _ => by simp))
        have NE_3 := NE_2
        clear hz hge hb hg_
        refine hK.out _ _ ⟨(pw_cell_below HQ3.out (blk_cell BS2.out 0)), (pw_cell_below HQ3.out (blk_cell BS2.out 1)), (pw_cell_below HQ3.out (blk_cell BS2.out 2)), (pw_cell_below HQ3.out (blk_cell BS2.out 3)), (pw_cell_below HQ3.out (blk_cell BS2.out 4)), (pw_cell_below HQ3.out (blk_cell BS2.out 5)), (pw_cell_below HQ3.out (blk_cell BS2.out 6)), (pw_cell_below HQ3.out (blk_cell BS2.out 7)), (pw_cell_below HQ3.out (blk_cell BS2.out 8)), (pw_cell_below HQ3.out (blk_cell BS2.out 9)), (pw_cell_below HQ3.out (blk_cell BS2.out 10)), (pw_cell_below HQ3.out (blk_cell BS2.out 11)), (pw_cell_below HQ3.out (blk_cell BS2.out 12))⟩ (fun hHeld => ?_)
        clear hK K
        refine norm_ (a' := ?_) ?_ ?_
        rotate_left
        · show Act.put _ (some 12) _ = _
          simp only [Act.put, List.setIfInBounds_toArray, List.set_cons_zero, List.set_cons_succ, i64_w, i32_w]
          rfl
        exact norm_ (by simp only [putAll, Act.put, List.setIfInBounds_toArray, List.set_cons_zero, List.set_cons_succ]) (hCont (.slice a1 B.length c1, .slice a2 N.length c2, .pointer (some ⟨g, 0, none⟩)) _ ⟨hHeld, ⟨a1, c1, a2, c2, g, rfl, R1_3.out, R2_3.out, NE_3.out, GZ_3.out, GE_3.out⟩, HQ3.out⟩)
      · skip
        refine allocS_step (base := wp2.heap.size) (w0 := wp2) (by rfl) rfl rfl HQ1.out HQ1.out.size ?_
        intro g wq2 hz hge hb hg_
        have HQ2 := Aside0.mk hb
        have GE_2 := Aside0.mk hge
        have GZ_2 := Aside0.mk hz
        have R1_2 := Aside0.mk (Kd.R_grown R1_1.out hg_ (fun _ _ => by simp))
        clear hz hge hb hg_
        refine hK.out _ _ ⟨(pw_cell_below HQ2.out (blk_cell BS2.out 0)), (pw_cell_below HQ2.out (blk_cell BS2.out 1)), (pw_cell_below HQ2.out (blk_cell BS2.out 2)), (pw_cell_below HQ2.out (blk_cell BS2.out 3)), (pw_cell_below HQ2.out (blk_cell BS2.out 4)), (pw_cell_below HQ2.out (blk_cell BS2.out 5)), (pw_cell_below HQ2.out (blk_cell BS2.out 6)), (pw_cell_below HQ2.out (blk_cell BS2.out 7)), (pw_cell_below HQ2.out (blk_cell BS2.out 8)), (pw_cell_below HQ2.out (blk_cell BS2.out 9)), (pw_cell_below HQ2.out (blk_cell BS2.out 10)), (pw_cell_below HQ2.out (blk_cell BS2.out 11)), (pw_cell_below HQ2.out (blk_cell BS2.out 12))⟩ (fun hHeld => ?_)
        clear hK K
        refine norm_ (a' := ?_) ?_ ?_
        rotate_left
        · show Act.put _ (some 12) _ = _
          simp only [Act.put, List.setIfInBounds_toArray, List.set_cons_zero, List.set_cons_succ, i64_w, i32_w]
          rfl
        refine one_ (i := 9) (N := some 73) qD55 rfl rfl (by kernel_rfl) (by decide) (fun K hK => ?_)
        refine appendB_step (base := wq2.heap.size) (w0 := wq2) (by rfl) rfl _ rfl AN N cN rfl (IN2.out.below HQ2.out).hN IN2.out.lN (Below.refl _ _) (Nat.le_refl _) ?_
        intro a2 c2 wq3 ho hb hg_
        have HQ3 := Aside0.mk (below_then HQ2.out HQ2.out.size hb)
        have R2_3 := Aside0.mk (Kd.R_lower ho HQ2.out.size)
        have NE_3 : Aside0 (∀ k, (Value.slice a1 B.length c1).ownBlock = some k → (Value.slice a2 N.length c2).ownBlock = some k → False) := ⟨fun k h1 h2 => by have h3 := Kd.R_lt R1_2.out k h1; have h4 := Kd.R_base ho k h2; omega⟩
        have R1_3 := Aside0.mk (Kd.R_grown R1_2.out hg_ (fun _ _ => by simp))
        have GZ_3 := Aside0.mk (blk_grown GZ_2.out hg_ (by simp))
        have GE_3 := GE_2
        clear ho hb hg_
        refine hK.out _ _ ⟨(pw_cell_below HQ3.out (blk_cell BS2.out 0)), (pw_cell_below HQ3.out (blk_cell BS2.out 1)), (pw_cell_below HQ3.out (blk_cell BS2.out 2)), (pw_cell_below HQ3.out (blk_cell BS2.out 3)), (pw_cell_below HQ3.out (blk_cell BS2.out 4)), (pw_cell_below HQ3.out (blk_cell BS2.out 5)), (pw_cell_below HQ3.out (blk_cell BS2.out 6)), (pw_cell_below HQ3.out (blk_cell BS2.out 7)), (pw_cell_below HQ3.out (blk_cell BS2.out 8)), (pw_cell_below HQ3.out (blk_cell BS2.out 9)), (pw_cell_below HQ3.out (blk_cell BS2.out 10)), (pw_cell_below HQ3.out (blk_cell BS2.out 11)), (pw_cell_below HQ3.out (blk_cell BS2.out 12))⟩ (fun hHeld => ?_)
        clear hK K
        refine norm_ (a' := ?_) ?_ ?_
        rotate_left
        · show Act.put _ (some 73) _ = _
          simp only [Act.put, List.setIfInBounds_toArray, List.set_cons_zero, List.set_cons_succ, i64_w, i32_w]
          rfl
        refine pure_ (i := 10) (N := some 74) (v := ?_) (a' := ?_) qD49 rfl rfl (by kernel_rfl) (fun _ _ _ h => h) (Or.inl ⟨by rfl, ?_⟩) ?_ ?_
        rotate_left
        · intro w'
          go_simp
          with_reducible rfl
        rotate_left
        · simp only [Act.put, List.setIfInBounds_toArray, List.set_cons_zero, List.set_cons_succ, i64_w, i32_w]
          rfl
        exact norm_ (by simp only [putAll, Act.put, List.setIfInBounds_toArray, List.set_cons_zero, List.set_cons_succ]) (hCont (.slice a1 B.length c1, .slice a2 N.length c2, .pointer (some ⟨g, 0, none⟩)) _ ⟨hHeld, ⟨a1, c1, a2, c2, g, rfl, R1_3.out, R2_3.out, NE_3.out, GZ_3.out, GE_3.out⟩, HQ3.out⟩)
    · skip
      refine allocS_step (base := wp2.heap.size) (w0 := wp2) (by rfl) rfl rfl (below_drew (Below.refl wp2.heap.size wp2)) (Nat.le_refl _) ?_
      intro g wq1 hz hge hb hg_
      have HQ1 := Aside0.mk hb
      have GE_1 := Aside0.mk hge
      have GZ_1 := Aside0.mk hz
      clear hz hge hb hg_
      refine hK.out _ _ ⟨(pw_cell_below HQ1.out (blk_cell BS2.out 0)), (pw_cell_below HQ1.out (blk_cell BS2.out 1)), (pw_cell_below HQ1.out (blk_cell BS2.out 2)), (pw_cell_below HQ1.out (blk_cell BS2.out 3)), (pw_cell_below HQ1.out (blk_cell BS2.out 4)), (pw_cell_below HQ1.out (blk_cell BS2.out 5)), (pw_cell_below HQ1.out (blk_cell BS2.out 6)), (pw_cell_below HQ1.out (blk_cell BS2.out 7)), (pw_cell_below HQ1.out (blk_cell BS2.out 8)), (pw_cell_below HQ1.out (blk_cell BS2.out 9)), (pw_cell_below HQ1.out (blk_cell BS2.out 10)), (pw_cell_below HQ1.out (blk_cell BS2.out 11)), (pw_cell_below HQ1.out (blk_cell BS2.out 12))⟩ (fun hHeld => ?_)
      clear hK K
      refine norm_ (a' := ?_) ?_ ?_
      rotate_left
      · show Act.put _ (some 12) _ = _
        simp only [Act.put, List.setIfInBounds_toArray, List.set_cons_zero, List.set_cons_succ, i64_w, i32_w]
        rfl
      refine one_ (i := 6) (N := some 70) qD53 rfl rfl (by kernel_rfl) (by decide) (fun K hK => ?_)
      refine appendB_step (base := wp2.heap.size) (w0 := wp2) (by rfl) rfl _ rfl AB B cB rfl (IN2.out.below HQ1.out).hB IN2.out.lB HQ1.out HQ1.out.size ?_
      intro a1 c1 wq2 ho hb hg_
      have HQ2 := Aside0.mk hb
      have R1_2 := Aside0.mk ho
      have GZ_2 := Aside0.mk (blk_grown GZ_1.out hg_ (by simp))
      have GE_2 := GE_1
      clear ho hb hg_
      refine hK.out _ _ ⟨(pw_cell_below HQ2.out (blk_cell BS2.out 0)), (pw_cell_below HQ2.out (blk_cell BS2.out 1)), (pw_cell_below HQ2.out (blk_cell BS2.out 2)), (pw_cell_below HQ2.out (blk_cell BS2.out 3)), (pw_cell_below HQ2.out (blk_cell BS2.out 4)), (pw_cell_below HQ2.out (blk_cell BS2.out 5)), (pw_cell_below HQ2.out (blk_cell BS2.out 6)), (pw_cell_below HQ2.out (blk_cell BS2.out 7)), (pw_cell_below HQ2.out (blk_cell BS2.out 8)), (pw_cell_below HQ2.out (blk_cell BS2.out 9)), (pw_cell_below HQ2.out (blk_cell BS2.out 10)), (pw_cell_below HQ2.out (blk_cell BS2.out 11)), (pw_cell_below HQ2.out (blk_cell BS2.out 12))⟩ (fun hHeld => ?_)
      clear hK K
      refine norm_ (a' := ?_) ?_ ?_
      rotate_left
      · show Act.put _ (some 70) _ = _
        simp only [Act.put, List.setIfInBounds_toArray, List.set_cons_zero, List.set_cons_succ, i64_w, i32_w]
        rfl
      refine one_ (i := 9) (N := some 73) qD55 rfl rfl (by kernel_rfl) (by decide) (fun K hK => ?_)
      refine appendB_step (base := wq2.heap.size) (w0 := wq2) (by rfl) rfl _ rfl AN N cN rfl (IN2.out.below HQ2.out).hN IN2.out.lN (Below.refl _ _) (Nat.le_refl _) ?_
      intro a2 c2 wq3 ho hb hg_
      have HQ3 := Aside0.mk (below_then HQ2.out HQ2.out.size hb)
      have R2_3 := Aside0.mk (Kd.R_lower ho HQ2.out.size)
      have NE_3 : Aside0 (∀ k, (Value.slice a1 B.length c1).ownBlock = some k → (Value.slice a2 N.length c2).ownBlock = some k → False) := ⟨fun k h1 h2 => by have h3 := Kd.R_lt R1_2.out k h1; have h4 := Kd.R_base ho k h2; omega⟩
      have R1_3 := Aside0.mk (Kd.R_grown R1_2.out hg_ (fun _ _ => by simp))
      have GZ_3 := Aside0.mk (blk_grown GZ_2.out hg_ (by simp))
      have GE_3 := GE_2
      clear ho hb hg_
      refine hK.out _ _ ⟨(pw_cell_below HQ3.out (blk_cell BS2.out 0)), (pw_cell_below HQ3.out (blk_cell BS2.out 1)), (pw_cell_below HQ3.out (blk_cell BS2.out 2)), (pw_cell_below HQ3.out (blk_cell BS2.out 3)), (pw_cell_below HQ3.out (blk_cell BS2.out 4)), (pw_cell_below HQ3.out (blk_cell BS2.out 5)), (pw_cell_below HQ3.out (blk_cell BS2.out 6)), (pw_cell_below HQ3.out (blk_cell BS2.out 7)), (pw_cell_below HQ3.out (blk_cell BS2.out 8)), (pw_cell_below HQ3.out (blk_cell BS2.out 9)), (pw_cell_below HQ3.out (blk_cell BS2.out 10)), (pw_cell_below HQ3.out (blk_cell BS2.out 11)), (pw_cell_below HQ3.out (blk_cell BS2.out 12))⟩ (fun hHeld => ?_)
      clear hK K
      refine norm_ (a' := ?_) ?_ ?_
      rotate_left
      · show Act.put _ (some 73) _ = _
        simp only [Act.put, List.setIfInBounds_toArray, List.set_cons_zero, List.set_cons_succ, i64_w, i32_w]
        rfl
      refine pure_ (i := 10) (N := some 74) (v := ?_) (a' := ?_) qD49 rfl rfl (by kernel_rfl) (fun _ _ _ h => h) (Or.inl ⟨by rfl, ?_⟩) ?_ ?_
      rotate_left
      · intro w'
        go_simp
        with_reducible rfl
      rotate_left
      · simp only [Act.put, List.setIfInBounds_toArray, List.set_cons_zero, List.set_cons_succ, i64_w, i32_w]
        rfl
      exact norm_ (by simp only [putAll, Act.put, List.setIfInBounds_toArray, List.set_cons_zero, List.set_cons_succ]) (hCont (.slice a1 B.length c1, .slice a2 N.length c2, .pointer (some ⟨g, 0, none⟩)) _ ⟨hHeld, ⟨a1, c1, a2, c2, g, rfl, R1_3.out, R2_3.out, NE_3.out, GZ_3.out, GE_3.out⟩, HQ3.out⟩)
  rintro ⟨vv1, vv2, vv3⟩ wj ⟨hS_, ⟨a1, c1, a2, c2, g, e_, hr1, hr2, hne, hgz, hge⟩, hbj⟩
  injection e_ with e1_ e2_
  injection e2_ with e2_ e3_
  subst e1_ e2_ e3_
  have R1 := Aside0.mk hr1
  have R2 := Aside0.mk hr2
  have NE := Aside0.mk hne
  have GZ := Aside0.mk hgz
  have GE := Aside0.mk hge
  have HJ := Aside0.mk hbj
  clear hr1 hr2 hne hgz hge hbj
  have hHeld : wj.cell? ⟨w.heap.size + 1, 0, none⟩ = some (.bool s0) ∧ wj.cell? ⟨w.heap.size + 1, 1, none⟩ = some (.bool s1) ∧ wj.cell? ⟨w.heap.size + 1, 2, none⟩ = some (.bool s2) ∧ wj.cell? ⟨w.heap.size + 1, 3, none⟩ = some (.bool s3) ∧ wj.cell? ⟨w.heap.size + 1, 4, none⟩ = some (.int .i64 vse) ∧ wj.cell? ⟨w.heap.size + 1, 5, none⟩ = some (.int .u64 vsr) ∧ wj.cell? ⟨w.heap.size + 1, 6, none⟩ = some (.int .i64 ce) ∧ wj.cell? ⟨w.heap.size + 1, 7, none⟩ = some (.int .u64 cr) ∧ wj.cell? ⟨w.heap.size + 1, 8, none⟩ = some (.int .i64 fe) ∧ wj.cell? ⟨w.heap.size + 1, 9, none⟩ = some (.int .u64 fr) ∧ wj.cell? ⟨w.heap.size + 1, 10, none⟩ = some (.int .i64 ep) ∧ wj.cell? ⟨w.heap.size + 1, 11, none⟩ = some (.slice AB B.length cB) ∧ wj.cell? ⟨w.heap.size + 1, 12, none⟩ = some (.slice AN N.length cN) := hS_
  refine norm_ (a' := ?_) ?_ ?_
  rotate_left
  · simp only [putAll, Act.put, List.setIfInBounds_toArray, List.set_cons_zero, List.set_cons_succ]
    rfl
  refine last_ (i := 12) (N := none) qD56 rfl rfl (by kernel_rfl) (by decide) (fun K hK => ?_)
  refine store_step (by rfl) rfl 39 (.tmp 12) (.tmp 74) rfl g 39 _ #[.bool s0, .bool s1, .bool s2, .bool s3, .int .i64 vse, .int .u64 vsr, .int .i64 ce, .int .u64 cr, .int .i64 fe, .int .u64 fr, .int .i64 ep, .slice a1 B.length c1, .slice a2 N.length c2] rfl rfl GZ.out rfl (by kernel_rfl) (by simp [Value.oneCell']) ?_
  intro wz hbk hgr
  have G9 := Aside0.mk hbk
  have HZ := Aside0.mk ((below_then HB2.out HB2.out.size (HJ.out.mono (Nat.le_refl _))).grown hgr (below_then HB2.out HB2.out.size HJ.out).size (fun k hk => by cases hk; have := GE.out; have := HB2.out.size; omega))
  have RZ1 := Aside0.mk (RB_over R1.out GZ.out (by decide) hgr)
  have RZ2 := Aside0.mk (RB_over R2.out GZ.out (by decide) hgr)
  have BOz := Aside0.mk (blk_grown (blk_below BO2.out HJ.out) hgr (fun e => by injection e with e; have := GE.out; have := LT5.out; omega))
  have BVz := Aside0.mk (blk_grown (blk_below BV2.out HJ.out) hgr (fun e => by injection e with e; have := GE.out; have := LT5.out; omega))
  clear hbk hgr
  refine hK.out _ _ ?_
  clear hK K
  refine done_ (by kernel_rfl) ?_
  have CN : Aside0 (CntAt w g wp2.heap.size #[.bool s0, .bool s1, .bool s2, .bool s3, .int .i64 vse, .int .u64 vsr, .int .i64 ce, .int .u64 cr, .int .i64 fe, .int .u64 fr, .int .i64 ep, .slice a1 B.length c1, .slice a2 N.length c2] a1 c1 B a2 c2 N wz) := ⟨⟨HZ.out, G9.out, BOz.out, RZ1.out, RZ2.out, NE.out, by have := LT5.out; omega, by have := GE.out; have := HB2.out.size; omega⟩⟩
  have hcB := blk_cell G9.out 11
  have hcN := blk_cell G9.out 12
  have hcW := blk_cell BVz.out 6
  clear RZ1 RZ2 NE R1 R2 GZ HJ BS2 BO2 BV2 hHeld
  go_wp2_with fail
  clear hcB hcN hcW
  go_loopw [83] (fun v83 wr => ∃ k : Nat, k ≤ W.length ∧ v83 = .int .i64 k ∧ Aside0 (CntAt w g wp2.heap.size #[.bool s0, .bool s1, .bool s2, .bool s3, .int .i64 vse, .int .u64 vsr, .int .i64 ce, .int .u64 cr, .int .i64 fe, .int .u64 fr, .int .i64 ep, .slice a1 B.length c1, .slice a2 N.length c2] a1 c1 (marks B (W.take k)) a2 c2 N wr)) (fun v83 _ => W.length - (RowKit.intOf v83).toNat)
  case atStart => exact ⟨0, by omega, rfl, CN⟩
  case round =>
    obtain ⟨k, hk, rfl, CN⟩ := hrel
    by_cases hlt : k < W.length
    · skip
      have t9 : decide ((k : Int) < (W.length : Int)) = true := decide_eq_true (by omega)
      have hwk : wrap64 ((k : Int) + 1) = ((k + 1 : Nat) : Int) := by have := HWL.out; unfold wrap64; omega
      have HWK := Aside0.mk hwk
      obtain ⟨ad, rfl, hc⟩ := Kd.at_int (Kd.C_below HW0.out CN.out.bel) (k : Int) (by omega) (by omega)
      rw [Int.toNat_natCast] at hc
      have hx := HIN.out k hlt
      have hmn := marks_next B W k hlt
      obtain ⟨x, hxe⟩ : ∃ x, rd W (k : Int) = x := ⟨_, rfl⟩
      rw [hxe] at hc hx hmn
      obtain ⟨g1, rfl⟩ := R_some CN.out.r1 (by rw [marks_len]; omega)
      obtain ⟨e1, e2⟩ := Kd.R_celln (enc := Value.bool) (h1 := fun _ => rfl) false CN.out.r1 x hx.1 (by rw [marks_len]; exact hx.2)
      have CN2 := Aside0.mk (CN.out.put1 x)
      rw [← hmn] at CN2
      obtain ⟨hx1, hx2⟩ := hx
      clear hwk hmn hxe
      go_wp2_with fail
      go_roundw
      case rel => exact ⟨k + 1, by omega, by rw [HWK.out], CN2⟩
      case measure => rw [HWK.out]; simp [RowKit.intOf]; omega
    · skip
      have t9 : decide ((k : Int) < (W.length : Int)) = false := decide_eq_false (by omega)
      obtain rfl : k = W.length := by omega
      rw [List.take_length] at CN
      have hs0 := blk_cell CN.out.st
      go_wp2_with (refine Block.store_block rfl rfl 39 (.tmp 8) (.tmp 91) rfl (w.heap.size + 1 + 1 + 1) 39 _ _ rfl rfl CN.out.bo rfl (by kernel_rfl) (by simp [Value.oneCell']) ?_; intro w9 hbk hgr; have HZ9 := Aside0.mk (CN.out.bel.grown hgr CN.out.bel.size (fun k hk => by cases hk; omega)); have R1z := Aside0.mk (RB_over CN.out.r1 CN.out.bo (by decide) hgr); have R2z := Aside0.mk (RB_over CN.out.r2 CN.out.bo (by decide) hgr); have hc9 := blk_cell hbk; clear hgr hbk)
      have P9 := IN0.out.below HZ9.out
      have q1 := Kd.R_reads' R1z.out
      have q2 := Kd.R_reads' R2z.out
      refine bodyPost_ret (v := .tuple #[.agg #[.bool s0, .bool s1, .bool s2, .bool s3, .int .i64 vse, .int .u64 vsr, .int .i64 ce, .int .u64 cr, .int .i64 fe, .int .u64 fr, .int .i64 ep, .slice a1 B.length c1, .slice a2 N.length c2], .bool true]) ?_ rfl ⟨a1, c1, a2, c2, rfl, ⟨P9.X, P9.lX, P9.nX, q1.2.2, q1.2.1, (by rw [marks_len]; exact P9.lB), q2.2.2, q2.2.1, P9.lN, P9.ch, P9.ep_, TyB.of_R R1z.out, TyB.of_R R2z.out⟩, HZ9.out⟩
      simp [results, Try.results18, go_sem, hc9]
end Go.Proofs.Ytiklbldanidfiaa.QL
namespace Go.Proofs.Ytiklbldanidfiaa.QL
open Go.RowKit Go.Proofs.YtiklbldanidfiaaW.PrintWords Go.Proofs.YtiklbldanidfiaaW.PrintLast Go.Proofs.YtiklbldanidfiaaW.PrintMore Go.Proofs.Ytiklbldanidfiaa.Own Go.Proofs.Ytiklbldanidfiaa.Justify
set_option linter.unusedVariables false
set_option linter.unusedSimpArgs false
attribute [local go_sem] max2_is min2_is max_pair min_pair
set_option maxHeartbeats 4000000 in
theorem count_at (AX : Option Addr) (cX : Nat) (lx : List Int) (sl bo : Int) (s0 s1 s2 s3 : Bool) (pe pr ce cr fe fr ep : Int) (AB : Option Addr) (cB : Nat) (B : List Bool) (AN : Option Addr) (cN : Nat) (N : List Bool) (vs vh vse vsr vte vtr : Int) (AW : Option Addr) (cW : Nat) (W : List Int) (rt : Bool) (kr : Nat) (v : Value) (g : Int → Int) (w : World) (h : PIn AX cX lx s0 s1 s2 s3 pe pr ce cr fe fr ep AB cB B AN cN N v g w) (hW : Kd.C (Kd.int .i64) w AW W.length W) (hcW : W.length ≤ cW)
    (hk : vote_Right.f kr lx sl bo vs vh vse vsr vte vtr W = some rt) (hin : rt = true → ∀ j, j < W.length → 0 ≤ rd W (j : Int) ∧ rd W (j : Int) < (B.length : Int) ∧ rd W (j : Int) < (N.length : Int)) (hWl : W.length ≤ 17592186043904) (hte : -9223372036854775808 ≤ vte ∧ vte ≤ 9223372036854775807) :
    Calls Try.prog 18 #[.agg #[.slice AX lx.length cX, .int .i64 sl, .int .i64 bo], .agg #[.bool s0, .bool s1, .bool s2, .bool s3, .int .i64 pe, .int .u64 pr, .int .i64 ce, .int .u64 cr, .int .i64 fe, .int .u64 fr, .int .i64 ep, .slice AB B.length cB, .slice AN N.length cN], .agg #[.int .i64 vs, .int .u64 vh, .int .i64 vse, .int .u64 vsr, .int .i64 vte, .int .u64 vtr, .slice AW W.length cW], v] w fun x w' => ∃ (b : Bool) (AB' : Option Addr) (cB' : Nat) (B' : List Bool) (AN' : Option Addr) (cN' : Nat) (N' : List Bool),
      x = .returned (.tuple #[.agg #[.bool s0, .bool s1, .bool s2, .bool s3, .int .i64 pe, .int .u64 pr, .int .i64 ce, .int .u64 cr, .int .i64 fe, .int .u64 fr, .int .i64 ep, .slice AB' B'.length cB', .slice AN' N'.length cN'], .bool b]) ∧
      countOf sl g ⟨⟨s0, s1, s2, s3, pe, pr, ce, cr, fe, fr⟩, ep, B, N⟩ rt vse vsr vte vtr W = (⟨⟨s0, s1, s2, s3, pe, pr, ce, cr, fe, fr⟩, ep, B', N'⟩, b) ∧ PIn AX cX lx s0 s1 s2 s3 pe pr ce cr fe fr ep AB' cB' B' AN' cN' N' v g w' ∧ Below w.heap.size w w' := by
  by_cases hnow : vte = ep
  · subst hnow
    cases rt with
    | false =>
      refine (count_now_A _ _ _ _ _ _ _ _ _ _ _ _ _ _ _ _ _ _ _ _ _ _ _ _ _ _ _ _ _ _ _ _ _ _ h hW hcW hk hte).mono ?_
      rintro x w' ⟨rfl, hb⟩
      exact ⟨false, AB, cB, B, AN, cN, N, rfl, by simp [countOf, refused], h.below hb, hb⟩
    | true =>
      by_cases hsrc : vse = ce ∧ vsr = cr
      rotate_left
      · have t2 : (!(vse == ce) || !(vsr == cr)) = true := by simp; omega
        have hr : refused sl g ⟨⟨s0, s1, s2, s3, pe, pr, ce, cr, fe, fr⟩, vte, B, N⟩ true vse vsr vte vtr = true := by
          simp only [refused]
          simp
          exact .inl (by omega)
        refine (count_now_B _ _ _ _ _ _ _ _ _ _ _ _ _ _ _ _ _ _ _ _ _ _ _ _ _ _ _ _ _ _ _ _ _ _ h hW hcW hk hte t2).mono ?_
        rintro x w' ⟨rfl, hb⟩
        exact ⟨false, AB, cB, B, AN, cN, N, rfl, by unfold countOf; rw [if_pos hr], h.below hb, hb⟩
      obtain ⟨e1, e2⟩ := hsrc
      subst e1 e2
      by_cases htg : vte = mx 0 vte ∧ vtr = g (startOf vte sl)
      rotate_left
      · have t2 : (!(vte == mx 0 vte) || !(vtr == g (startOf vte sl))) = true := by simp; omega
        have hr : refused sl g ⟨⟨s0, s1, s2, s3, pe, pr, vse, vsr, fe, fr⟩, vte, B, N⟩ true vse vsr vte vtr = true := by
          simp only [refused]
          simp
          omega
        refine (count_now_C _ _ _ _ _ _ _ _ _ _ _ _ _ _ _ _ _ _ _ _ _ _ _ _ _ _ _ _ _ _ _ _ h hW hcW hk hte t2).mono ?_
        rintro x w' ⟨rfl, hb⟩
        exact ⟨false, AB, cB, B, AN, cN, N, rfl, by unfold countOf; rw [if_pos hr], h.below hb, hb⟩
      have t2 : (!(vte == mx 0 vte) || !(vtr == g (startOf vte sl))) = false := by simp; exact htg
      have hr : refused sl g ⟨⟨s0, s1, s2, s3, pe, pr, vse, vsr, fe, fr⟩, vte, B, N⟩ true vse vsr vte vtr = false := by
        simp only [refused]
        simp
        exact htg
      refine (count_now_G _ _ _ _ _ _ _ _ _ _ _ _ _ _ _ _ _ _ _ _ _ _ _ _ _ _ _ _ _ _ _ _ h hW hcW hk hte t2 (fun j hj => ⟨(hin rfl j hj).1, (hin rfl j hj).2.2⟩) hWl).mono ?_
      rintro x w' ⟨a1, c1, a2, c2, rfl, hp, hb⟩
      exact ⟨true, a1, c1, B, a2, c2, marks N W, by rw [marks_len], by unfold countOf; rw [hr]; simp, hp, hb⟩
  · have t0 : (vte == ep) = false := by rw [beq_eq_false_iff_ne]; exact hnow
    cases rt with
    | false =>
      refine (count_before_A _ _ _ _ _ _ _ _ _ _ _ _ _ _ _ _ _ _ _ _ _ _ _ _ _ _ _ _ _ _ _ _ _ _ _ h hW hcW hk hte t0).mono ?_
      rintro x w' ⟨rfl, hb⟩
      exact ⟨false, AB, cB, B, AN, cN, N, rfl, by simp [countOf, refused], h.below hb, hb⟩
    | true =>
      by_cases hone : wrap64 (vte + 1) = ep
      rotate_left
      · have t1 : (wrap64 (vte + 1) != ep) = true := by simp [hone]
        refine (count_before_D _ _ _ _ _ _ _ _ _ _ _ _ _ _ _ _ _ _ _ _ _ _ _ _ _ _ _ _ _ _ _ _ _ _ _ h hW hcW hk hte t0 t1).mono ?_
        rintro x w' ⟨rfl, hb⟩
        exact ⟨false, AB, cB, B, AN, cN, N, rfl, by simp [countOf, refused, hnow, hone], h.below hb, hb⟩
      have t1 : (wrap64 (vte + 1) != ep) = false := by simp [hone]
      by_cases hsrc : vse = pe ∧ vsr = pr
      rotate_left
      · have t2 : (!(vse == pe) || !(vsr == pr)) = true := by simp; omega
        have hr : refused sl g ⟨⟨s0, s1, s2, s3, pe, pr, ce, cr, fe, fr⟩, ep, B, N⟩ true vse vsr vte vtr = true := by
          simp only [refused]
          simp [hnow, hone]
          exact .inl (by omega)
        refine (count_before_B _ _ _ _ _ _ _ _ _ _ _ _ _ _ _ _ _ _ _ _ _ _ _ _ _ _ _ _ _ _ _ _ _ _ _ h hW hcW hk hte t0 t1 t2).mono ?_
        rintro x w' ⟨rfl, hb⟩
        exact ⟨false, AB, cB, B, AN, cN, N, rfl, by unfold countOf; rw [if_pos hr], h.below hb, hb⟩
      obtain ⟨e1, e2⟩ := hsrc
      subst e1 e2
      by_cases htg : vte = mx 0 vte ∧ vtr = g (startOf vte sl)
      rotate_left
      · have t2 : (!(vte == mx 0 vte) || !(vtr == g (startOf vte sl))) = true := by simp; omega
        have hr : refused sl g ⟨⟨s0, s1, s2, s3, vse, vsr, ce, cr, fe, fr⟩, ep, B, N⟩ true vse vsr vte vtr = true := by
          simp only [refused]
          simp [hnow, hone]
          omega
        refine (count_before_C _ _ _ _ _ _ _ _ _ _ _ _ _ _ _ _ _ _ _ _ _ _ _ _ _ _ _ _ _ _ _ _ _ h hW hcW hk hte t0 t1 t2).mono ?_
        rintro x w' ⟨rfl, hb⟩
        exact ⟨false, AB, cB, B, AN, cN, N, rfl, by unfold countOf; rw [if_pos hr], h.below hb, hb⟩
      have t2 : (!(vte == mx 0 vte) || !(vtr == g (startOf vte sl))) = false := by simp; exact htg
      have hr : refused sl g ⟨⟨s0, s1, s2, s3, vse, vsr, ce, cr, fe, fr⟩, ep, B, N⟩ true vse vsr vte vtr = false := by
        simp only [refused]
        simp [hnow, hone]
        exact htg
      refine (count_before_G _ _ _ _ _ _ _ _ _ _ _ _ _ _ _ _ _ _ _ _ _ _ _ _ _ _ _ _ _ _ _ _ _ h hW hcW hk hte t0 t1 t2 (fun j hj => ⟨(hin rfl j hj).1, (hin rfl j hj).2.1⟩) hWl).mono ?_
      rintro x w' ⟨a1, c1, a2, c2, rfl, hp, hb⟩
      exact ⟨true, a1, c1, marks B W, a2, c2, N, by rw [marks_len], by unfold countOf; rw [hr]; simp [hnow], hp, hb⟩
end Go.Proofs.Ytiklbldanidfiaa.QL
