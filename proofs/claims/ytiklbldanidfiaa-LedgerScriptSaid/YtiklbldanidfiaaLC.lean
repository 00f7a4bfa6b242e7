/-
  A state at the beginning: ledger.Open walked; its two rows lie apart.
-/
import Derived.Test.YtiklbldanidfiaaLB
import Derived.Test.YtiklbldanidfiaaQLx8
namespace Go.Proofs.Ytiklbldanidfiaa.QL
open Go.RowKit Go.Proofs.YtiklbldanidfiaaW.PrintWords Go.Proofs.YtiklbldanidfiaaW.PrintLast Go.Proofs.YtiklbldanidfiaaW.PrintMore Go.Proofs.Ytiklbldanidfiaa.Own Go.Proofs.Ytiklbldanidfiaa.Justify
set_option linter.unusedVariables false
set_option linter.unusedSimpArgs false
theorem info_bool : (Try.prog.info? 4).map (fun i => (i.zero, i.size, i.bytes)) = some (some (.bool false), 1, 1) := by kernel_rfl
theorem RB_over {w w1 : World} {base g e : Nat} {v : Value} {xs : List Bool} {cs : Array Value} (h : Kd.R Kd.bool 4 w base (fun _ => True) v xs) (hb : w.heap[g]? = some (.cells cs e (0, 0))) (he : ∀ q ∈ (4 :: Kd.bool.E), q ≠ e) (hg : w.grownBy w1 (some g)) : Kd.R Kd.bool 4 w1 base (fun _ => True) v xs :=
  Kd.R_mono (Kd.R_grown (Kd.R_types h hb he) hg (fun k hk e => hk.2 (by injection e))) (fun _ _ => trivial)
/-- A row of so many false, made in a region that draws its order. -/
theorem makeB_step {ops : Array Oper} {o : Oper} {a : Act} {Kc : Act → World → Prop} {Q : Exit → Act → World → Prop} {W w0 : World} {base : Nat} (hw : Region.wanted o (yielded ops a.tmps) = true) {N : Tmp} (hd : o.dst = some N) (x : Operand) (ho : o.op = .makeSlice 37 x x) (n : Nat) (hx : a.eval x = .int .i64 (n : Int)) (hn : n ≤ 17592186043904)
    (HB : Below base w0 W) (hbase : base ≤ W.heap.size) (h : ∀ A c w1, Kd.R Kd.bool 4 w1 base (fun _ => True) (.slice A n c) (List.replicate n false) → Below base w0 w1 → W.grownBy w1 none → Kc (a.put o.dst (.slice A n c)) w1) :
    if Region.wanted o (yielded ops a.tmps) = true then Oper.wp Try.prog o a W Kc Q else Kc (a.put o.dst undef) W := by
  refine Kd.R_make_step Kd.bool (w0 := w0) base 4 hw hd 37 x x ho (n : Int) hx hx (by kernel_rfl) (.bool false) 1 info_bool rfl (by decide) (by omega) false (ok := fun _ => True) (okp := fun _ => True) rfl (fun _ hk => hk) trivial (by omega) (by simp; omega) HB hbase ?_
  intro v1 w1 hr hb hg _
  obtain ⟨A, c, rfl⟩ := Kd.R_slice hr
  simp only [Int.toNat_natCast, List.length_replicate] at hr ⊢
  exact h A c w1 hr hb hg
set_option maxHeartbeats 8000000 in
set_option maxRecDepth 100000 in
theorem open_at (AX : Option Addr) (cX : Nat) (lx : List Int) (sl bo r : Int) (w : World) (hlx : lx.length ≤ 17592186043904) :
    Calls Try.prog 12 #[.agg #[.slice AX lx.length cX, .int .i64 sl, .int .i64 bo], .int .u64 r] w fun x w' => ∃ a1 c1 a2 c2, x = .returned (.agg #[.bool false, .bool false, .bool false, .bool false, .int .i64 0, .int .u64 r, .int .i64 0, .int .u64 r, .int .i64 0, .int .u64 r, .int .i64 0, .slice a1 lx.length c1, .slice a2 lx.length c2]) ∧ Kd.R Kd.bool 4 w' w.heap.size (fun _ => True) (.slice a1 lx.length c1) (List.replicate lx.length false) ∧ Kd.R Kd.bool 4 w' w.heap.size (fun _ => True) (.slice a2 lx.length c2) (List.replicate lx.length false) ∧ Below w.heap.size w w' := by
  have HLX := Aside0.mk hlx
  clear hlx
  go_enter Try.func12, Try.ntmps12
  go_upto_region 2 with fail
  obtain ⟨wr, hwr⟩ : ∃ wr, wr = ((w.alloc (.cells #[.slice AX lx.length cX, .int .i64 sl, .int .i64 bo] 24)).alloc (.cells #[.bool false, .bool false, .bool false, .bool false, .int .i64 0, .int .u64 0, .int .i64 0, .int .u64 0, .int .i64 0, .int .u64 0, .int .i64 0, .slice none 0 0, .slice none 0 0] 39)).alloc (.cells #[.int .i64 0, .int .u64 r] 34) := ⟨_, rfl⟩
  have qb := Block.box3 w #[.slice AX lx.length cX, .int .i64 sl, .int .i64 bo] #[.bool false, .bool false, .bool false, .bool false, .int .i64 0, .int .u64 0, .int .i64 0, .int .u64 0, .int .i64 0, .int .u64 0, .int .i64 0, .slice none 0 0, .slice none 0 0] #[.int .i64 0, .int .u64 r] 24 39 34
  rw [← hwr] at qb
  have BM := Aside0.mk qb.1
  have BO := Aside0.mk qb.2.1
  have BP := Aside0.mk qb.2.2
  have HBR : Aside0 (Below w.heap.size w wr) := ⟨by rw [hwr]; exact below_alloc (below_alloc (below_alloc (Below.refl _ _) _) _) _⟩
  rw [← hwr]
  clear hwr qb
  refine start_ (n := 14) (S := fun w' => w'.cell? ⟨w.heap.size, 0, none⟩ = some (.slice AX lx.length cX) ∧ w'.cell? ⟨w.heap.size + 1 + 1, 0, none⟩ = some (.int .i64 0) ∧ w'.cell? ⟨w.heap.size + 1 + 1, 1, none⟩ = some (.int .u64 r)) (ds := [13]) #[false, false, false, false, false, false, false, false, false, false, false, false, false, false] (by kernel_rfl) rfl rfl ⟨(blk_cell BM.out 0), (blk_cell BP.out 0), (blk_cell BP.out 1)⟩ (fun hHeld => ?_)
  refine pure_ (i := 4) (N := some 12) (v := ?_) (a' := ?_) #[false, false, false, false, true, false, false, false, false, false, false, false, false, false] rfl rfl (by kernel_rfl) (fun _ _ _ h => h) (Or.inl ⟨by rfl, ?_⟩) ?_ ?_
  rotate_left
  · intro w'
    go_simp
    with_reducible rfl
  rotate_left
  · simp only [Act.put, List.setIfInBounds_toArray, List.set_cons_zero, List.set_cons_succ, i64_w, i32_w]
    rfl
  refine pure_ (i := 8) (N := some 16) (v := ?_) (a' := ?_) #[false, false, false, false, true, false, false, false, true, false, false, false, false, false] rfl rfl (by kernel_rfl) (fun _ _ _ h => h) (Or.inl ⟨by rfl, ?_⟩) ?_ ?_
  rotate_left
  · intro w'
    go_simp
    with_reducible rfl
  rotate_left
  · simp only [Act.put, List.setIfInBounds_toArray, List.set_cons_zero, List.set_cons_succ, i64_w, i32_w]
    rfl
  refine take_ (i := 0) (N := some 8) (v := ?_) (a' := ?_) #[true, false, false, false, true, false, false, false, true, false, false, false, false, false] rfl rfl (by kernel_rfl) (fun _ _ _ h => h) (Or.inl ⟨by rfl, ?_⟩) hHeld ?_ ?_
  rotate_left
  · rintro w' ⟨s0, s1, s2⟩
    go_simp
    with_reducible rfl
  rotate_left
  · simp only [Act.put, List.setIfInBounds_toArray, List.set_cons_zero, List.set_cons_succ, i64_w, i32_w]
    rfl
  refine take_ (i := 1) (N := some 9) (v := ?_) (a' := ?_) #[true, true, false, false, true, false, false, false, true, false, false, false, false, false] rfl rfl (by kernel_rfl) (fun _ _ _ h => h) (Or.inl ⟨by rfl, ?_⟩) hHeld ?_ ?_
  rotate_left
  · rintro w' ⟨s0, s1, s2⟩
    go_simp
    with_reducible rfl
  rotate_left
  · simp only [Act.put, List.setIfInBounds_toArray, List.set_cons_zero, List.set_cons_succ, i64_w, i32_w]
    rfl
  refine take_ (i := 2) (N := some 10) (v := ?_) (a' := ?_) #[true, true, true, false, true, false, false, false, true, false, false, false, false, false] rfl rfl (by kernel_rfl) (fun _ _ _ h => h) (Or.inl ⟨by rfl, ?_⟩) hHeld ?_ ?_
  rotate_left
  · rintro w' ⟨s0, s1, s2⟩
    go_simp
    with_reducible rfl
  rotate_left
  · simp only [Act.put, List.setIfInBounds_toArray, List.set_cons_zero, List.set_cons_succ, i64_w, i32_w]
    rfl
  refine pure_ (i := 3) (N := some 11) (v := ?_) (a' := ?_) #[true, true, true, true, true, false, false, false, true, false, false, false, false, false] rfl rfl (by kernel_rfl) (fun _ _ _ h => h) (Or.inl ⟨by rfl, ?_⟩) ?_ ?_
  rotate_left
  · intro w'
    go_simp
    with_reducible rfl
  rotate_left
  · simp only [Act.put, List.setIfInBounds_toArray, List.set_cons_zero, List.set_cons_succ, i64_w, i32_w]
    rfl
  refine take_ (i := 5) (N := some 13) (v := ?_) (a' := ?_) #[true, true, true, true, true, true, false, false, true, false, false, false, false, false] rfl rfl (by kernel_rfl) (fun _ _ _ h => h) (Or.inl ⟨by rfl, ?_⟩) hHeld ?_ ?_
  rotate_left
  · rintro w' ⟨s0, s1, s2⟩
    go_simp
    with_reducible rfl
  rotate_left
  · simp only [Act.put, List.setIfInBounds_toArray, List.set_cons_zero, List.set_cons_succ, i64_w, i32_w]
    rfl
  refine pure_ (i := 6) (N := some 14) (v := ?_) (a' := ?_) #[true, true, true, true, true, true, true, false, true, false, false, false, false, false] rfl rfl (by kernel_rfl) (fun _ _ _ h => h) (Or.inl ⟨by rfl, ?_⟩) ?_ ?_
  rotate_left
  · intro w'
    go_simp
    with_reducible rfl
  rotate_left
  · simp only [Act.put, List.setIfInBounds_toArray, List.set_cons_zero, List.set_cons_succ, i64_w, i32_w]
    rfl
  refine take_ (i := 9) (N := some 17) (v := ?_) (a' := ?_) #[true, true, true, true, true, true, true, false, true, true, false, false, false, false] rfl rfl (by kernel_rfl) (fun _ _ _ h => h) (Or.inl ⟨by rfl, ?_⟩) hHeld ?_ ?_
  rotate_left
  · rintro w' ⟨s0, s1, s2⟩
    go_simp
    with_reducible rfl
  rotate_left
  · simp only [Act.put, List.setIfInBounds_toArray, List.set_cons_zero, List.set_cons_succ, i64_w, i32_w]
    rfl
  refine pure_ (i := 10) (N := some 18) (v := ?_) (a' := ?_) #[true, true, true, true, true, true, true, false, true, true, true, false, false, false] rfl rfl (by kernel_rfl) (fun _ _ _ h => h) (Or.inl ⟨by rfl, ?_⟩) ?_ ?_
  rotate_left
  · intro w'
    go_simp
    with_reducible rfl
  rotate_left
  · simp only [Act.put, List.setIfInBounds_toArray, List.set_cons_zero, List.set_cons_succ, i64_w, i32_w]
    rfl
  refine join_ (σ := Value × Value) 2 #[true, true, true, true, true, true, true, true, true, true, true, true, false, false] (fun s_ => [(15, s_.1), (19, s_.2)]) (fun s_ w' => (w'.cell? ⟨w.heap.size, 0, none⟩ = some (.slice AX lx.length cX) ∧ w'.cell? ⟨w.heap.size + 1 + 1, 0, none⟩ = some (.int .i64 0) ∧ w'.cell? ⟨w.heap.size + 1 + 1, 1, none⟩ = some (.int .u64 r)) ∧ (∃ a c, s_.1 = .slice a lx.length c ∧ Kd.R Kd.bool 4 w' wr.heap.size (fun _ => True) (.slice a lx.length c) (List.replicate lx.length false)) ∧ (∃ a c, s_.2 = .slice a lx.length c ∧ Kd.R Kd.bool 4 w' wr.heap.size (fun _ => True) (.slice a lx.length c) (List.replicate lx.length false)) ∧ Below wr.heap.size wr w') ?_ ?_
  rotate_left
  · intro hCont
    refine two_ (i := 7) (j := 11) (Ni := some 15) (Nj := some 19) #[true, true, true, true, true, true, true, true, true, true, true, false, false, false] #[true, true, true, true, true, true, true, false, true, true, true, true, false, false] rfl rfl rfl rfl (by kernel_rfl) (by decide) (by decide) (fun K hK => ?_) (fun K hK => ?_)
    · skip
      refine makeB_step (base := wr.heap.size) (w0 := wr) (by rfl) rfl _ rfl lx.length rfl HLX.out (below_drew (Below.refl wr.heap.size wr)) (Nat.le_refl _) ?_
      intro a1 c1 wp1 ho hb hg_
      have HP1 := Aside0.mk hb
      have R1_1 := Aside0.mk ho
      clear ho hb hg_
      refine hK.out _ _ ⟨(pw_cell_below HP1.out (blk_cell BM.out 0)), (pw_cell_below HP1.out (blk_cell BP.out 0)), (pw_cell_below HP1.out (blk_cell BP.out 1))⟩ (fun hHeld => ?_)
      clear hK K
      refine norm_ (a' := ?_) ?_ ?_
      rotate_left
      · show Act.put _ (some 15) _ = _
        simp only [Act.put, List.setIfInBounds_toArray, List.set_cons_zero, List.set_cons_succ, i64_w, i32_w]
        rfl
      refine one_ (i := 11) (N := some 19) #[true, true, true, true, true, true, true, true, true, true, true, true, false, false] rfl rfl (by kernel_rfl) (by decide) (fun K hK => ?_)
      refine makeB_step (base := wr.heap.size) (w0 := wr) (by rfl) rfl _ rfl lx.length rfl HLX.out HP1.out HP1.out.size ?_
      intro a2 c2 wp2 ho hb hg_
      have HP2 := Aside0.mk hb
      have R2_2 := Aside0.mk ho
      have R1_2 := Aside0.mk (Kd.R_grown R1_1.out hg_ (fun _ _ => by simp))
      clear ho hb hg_
      refine hK.out _ _ ⟨(pw_cell_below HP2.out (blk_cell BM.out 0)), (pw_cell_below HP2.out (blk_cell BP.out 0)), (pw_cell_below HP2.out (blk_cell BP.out 1))⟩ (fun hHeld => ?_)
      clear hK K
      refine norm_ (a' := ?_) ?_ ?_
      rotate_left
      · show Act.put _ (some 19) _ = _
        simp only [Act.put, List.setIfInBounds_toArray, List.set_cons_zero, List.set_cons_succ, i64_w, i32_w]
        rfl
      exact norm_ (by simp only [putAll, Act.put, List.setIfInBounds_toArray, List.set_cons_zero, List.set_cons_succ]) (hCont (.slice a1 lx.length c1, .slice a2 lx.length c2) _ ⟨hHeld, ⟨a1, c1, rfl, R1_2.out⟩, ⟨a2, c2, rfl, R2_2.out⟩, HP2.out⟩)
    · skip
      refine makeB_step (base := wr.heap.size) (w0 := wr) (by rfl) rfl _ rfl lx.length rfl HLX.out (below_drew (Below.refl wr.heap.size wr)) (Nat.le_refl _) ?_
      intro a2 c2 wp1 ho hb hg_
      have HP1 := Aside0.mk hb
      have R2_1 := Aside0.mk ho
      clear ho hb hg_
      refine hK.out _ _ ⟨(pw_cell_below HP1.out (blk_cell BM.out 0)), (pw_cell_below HP1.out (blk_cell BP.out 0)), (pw_cell_below HP1.out (blk_cell BP.out 1))⟩ (fun hHeld => ?_)
      clear hK K
      refine norm_ (a' := ?_) ?_ ?_
      rotate_left
      · show Act.put _ (some 19) _ = _
        simp only [Act.put, List.setIfInBounds_toArray, List.set_cons_zero, List.set_cons_succ, i64_w, i32_w]
        rfl
      refine one_ (i := 7) (N := some 15) #[true, true, true, true, true, true, true, true, true, true, true, true, false, false] rfl rfl (by kernel_rfl) (by decide) (fun K hK => ?_)
      refine makeB_step (base := wr.heap.size) (w0 := wr) (by rfl) rfl _ rfl lx.length rfl HLX.out HP1.out HP1.out.size ?_
      intro a1 c1 wp2 ho hb hg_
      have HP2 := Aside0.mk hb
      have R1_2 := Aside0.mk ho
      have R2_2 := Aside0.mk (Kd.R_grown R2_1.out hg_ (fun _ _ => by simp))
      clear ho hb hg_
      refine hK.out _ _ ⟨(pw_cell_below HP2.out (blk_cell BM.out 0)), (pw_cell_below HP2.out (blk_cell BP.out 0)), (pw_cell_below HP2.out (blk_cell BP.out 1))⟩ (fun hHeld => ?_)
      clear hK K
      refine norm_ (a' := ?_) ?_ ?_
      rotate_left
      · show Act.put _ (some 15) _ = _
        simp only [Act.put, List.setIfInBounds_toArray, List.set_cons_zero, List.set_cons_succ, i64_w, i32_w]
        rfl
      exact norm_ (by simp only [putAll, Act.put, List.setIfInBounds_toArray, List.set_cons_zero, List.set_cons_succ]) (hCont (.slice a1 lx.length c1, .slice a2 lx.length c2) _ ⟨hHeld, ⟨a1, c1, rfl, R1_2.out⟩, ⟨a2, c2, rfl, R2_2.out⟩, HP2.out⟩)
  rintro ⟨vv1, vv2⟩ wj ⟨hS_, ⟨a1, c1, e1_, hr1⟩, ⟨a2, c2, e2_, hr2⟩, hbj⟩
  simp only at e1_ e2_
  subst e1_ e2_
  have R1 := Aside0.mk hr1
  have R2 := Aside0.mk hr2
  have HJ := Aside0.mk hbj
  clear hr1 hr2 hbj
  have hHeld : wj.cell? ⟨w.heap.size, 0, none⟩ = some (.slice AX lx.length cX) ∧ wj.cell? ⟨w.heap.size + 1 + 1, 0, none⟩ = some (.int .i64 0) ∧ wj.cell? ⟨w.heap.size + 1 + 1, 1, none⟩ = some (.int .u64 r) := hS_
  refine norm_ (a' := ?_) ?_ ?_
  rotate_left
  · simp only [putAll, Act.put, List.setIfInBounds_toArray, List.set_cons_zero, List.set_cons_succ]
    rfl
  refine pure_ (i := 12) (N := some 20) (v := ?_) (a' := ?_) #[true, true, true, true, true, true, true, true, true, true, true, true, true, false] rfl rfl (by kernel_rfl) (fun _ _ _ h => h) (Or.inl ⟨by rfl, ?_⟩) ?_ ?_
  rotate_left
  · intro w'
    go_simp
    with_reducible rfl
  rotate_left
  · simp only [Act.put, List.setIfInBounds_toArray, List.set_cons_zero, List.set_cons_succ, i64_w, i32_w]
    rfl
  refine last_ (i := 13) (N := none) #[true, true, true, true, true, true, true, true, true, true, true, true, true, true] rfl rfl (by kernel_rfl) (by decide) (fun K hK => ?_)
  refine store_step (by rfl) rfl 39 (.tmp 4) (.tmp 20) rfl (w.heap.size + 1) 39 _ #[.bool false, .bool false, .bool false, .bool false, .int .i64 0, .int .u64 r, .int .i64 0, .int .u64 r, .int .i64 0, .int .u64 r, .int .i64 0, .slice a1 lx.length c1, .slice a2 lx.length c2] rfl rfl (blk_below BO.out HJ.out) rfl (by kernel_rfl) (by simp [Value.oneCell']) ?_
  intro wz hbk hgr
  have B9 := Aside0.mk hbk
  have HZ := Aside0.mk ((below_then HBR.out HBR.out.size HJ.out).grown hgr (below_then HBR.out HBR.out.size HJ.out).size (fun k hk => by cases hk; omega))
  have RZ1 := Aside0.mk (RB_over R1.out (blk_below BO.out HJ.out) (by decide) hgr)
  have RZ2 := Aside0.mk (RB_over R2.out (blk_below BO.out HJ.out) (by decide) hgr)
  clear hbk hgr
  refine hK.out _ _ ?_
  clear hK K
  refine done_ (by kernel_rfl) ?_
  have hc9 := blk_cell B9.out
  go_wp2_with fail
  refine bodyPost_ret (v := .agg #[.bool false, .bool false, .bool false, .bool false, .int .i64 0, .int .u64 r, .int .i64 0, .int .u64 r, .int .i64 0, .int .u64 r, .int .i64 0, .slice a1 lx.length c1, .slice a2 lx.length c2]) ?_ rfl ⟨a1, c1, a2, c2, rfl, Kd.R_lower RZ1.out HBR.out.size, Kd.R_lower RZ2.out HBR.out.size, HZ.out⟩
  simp [results, Try.results12, go_sem, hc9]
end Go.Proofs.Ytiklbldanidfiaa.QL
namespace Go.Proofs.Ytiklbldanidfiaa.QL
open Go.RowKit Go.Proofs.YtiklbldanidfiaaW.PrintWords Go.Proofs.YtiklbldanidfiaaW.PrintLast Go.Proofs.YtiklbldanidfiaaW.PrintMore Go.Proofs.Ytiklbldanidfiaa.Own Go.Proofs.Ytiklbldanidfiaa.Justify
set_option linter.unusedVariables false
set_option linter.unusedSimpArgs false
attribute [local go_sem] max2_is min2_is max_pair min_pair
theorem RI_over {w w1 : World} {base g e : Nat} {v : Value} {xs : List Int} {cs : Array Value} (h : Kd.R (Kd.int .i64) 3 w base (fun _ => True) v xs) (hb : w.heap[g]? = some (.cells cs e (0, 0))) (he : ∀ q ∈ (3 :: (Kd.int .i64).E), q ≠ e) (hg : w.grownBy w1 (some g)) : Kd.R (Kd.int .i64) 3 w1 base (fun _ => True) v xs :=
  Kd.R_mono (Kd.R_grown (Kd.R_types h hb he) hg (fun k hk e => hk.2 (by injection e))) (fun _ _ => trivial)
/-- A row's copy, appended to nothing, in a region that draws its order. -/
theorem appendB_step {ops : Array Oper} {o : Oper} {a : Act} {Kc : Act → World → Prop} {Q : Exit → Act → World → Prop} {W w0 : World} {base : Nat} (hw : Region.wanted o (yielded ops a.tmps) = true) {N : Tmp} (hd : o.dst = some N) (x : Operand) (ho : o.op = .call { callee := .builtin .append, args := #[.const (.slice none 0 0), x], argTypes := #[37, 37] })
    (A : Option Addr) (xs : List Bool) (c : Nat) (hx : a.eval x = .slice A xs.length c) (hr : Kd.C Kd.bool W A xs.length xs) (hn : xs.length ≤ 17592186043904)
    (HB : Below base w0 W) (hbase : base ≤ W.heap.size) (h : ∀ A1 c1 w1, Kd.R Kd.bool 4 w1 base (fun _ => True) (.slice A1 xs.length c1) xs → Below base w0 w1 → W.grownBy w1 none → Kc (a.put o.dst (.slice A1 xs.length c1)) w1) :
    if Region.wanted o (yielded ops a.tmps) = true then Oper.wp Try.prog o a W Kc Q else Kc (a.put o.dst undef) W := by
  refine Kd.R_append_rows_step Kd.bool (w0 := w0) base hw (.const (.slice none 0 0)) x 37 4 (.bool false) 1 ho (by kernel_rfl) info_bool rfl (by decide) (by omega) (.slice none 0 0) ([] : List Bool) xs A xs.length c (fun _ => True) (fun _ => False) rfl hx (Kd.R_nil _ _ _ _ _) hr (fun _ _ h => h) (fun _ h => h.elim) (fun _ _ => trivial) HB hbase (by simp; omega) ?_
  intro v1 w1 hr1 hb hg _
  rw [List.nil_append] at hr1
  obtain ⟨A1, c1, rfl⟩ := Kd.R_slice hr1
  exact h A1 c1 w1 hr1 hb hg
/-- A row of bools lies in a block of bools. -/
def TyB (w : World) (A : Option Addr) (n : Nat) : Prop := 0 < n → ∃ ad cells, A = some ad ∧ w.heap[ad.block]? = some (.cells cells 4 (0, 0))
theorem TyB.below {w w' : World} {A : Option Addr} {n : Nat} (h : TyB w A n) (hb : Below w.heap.size w w') : TyB w' A n := fun hn => by
  obtain ⟨ad, cells, e, hc⟩ := h hn
  exact ⟨ad, cells, e, (hb.block _ (Array.getElem?_eq_some_iff.1 hc).1).trans hc⟩
theorem TyB.of_R {w : World} {base : Nat} {ok : Nat → Prop} {A : Option Addr} {n c : Nat} {xs : List Bool} (h : Kd.R Kd.bool 4 w base ok (.slice A n c) xs) : TyB w A n := fun hn => by
  have hb := Kd.R_bound h
  obtain ⟨inner, ho⟩ := Kd.R_own h
  have hl := (Kd.R_reads' h).1
  rcases ho.2 with ⟨h1, h2⟩ | ⟨g, cap, cur, h1, h2⟩
  · omega
  · injection h1 with h1 _ _
    subst h1
    obtain ⟨_, _, _, q, hq, cells, hc⟩ := hb.1 g rfl
    simp only [Kd.bool, Kd.scalar, Kd.E, List.mem_cons, List.not_mem_nil, or_false] at hq
    subst hq
    exact ⟨_, cells, rfl, hc⟩
theorem TyB.over {w w1 : World} {A : Option Addr} {n g e : Nat} {cs : Array Value} (h : TyB w A n) (hb : w.heap[g]? = some (.cells cs e (0, 0))) (he : e ≠ 4) (hg : w.grownBy w1 (some g)) : TyB w1 A n := fun hn => by
  obtain ⟨ad, cells, e1, hc⟩ := h hn
  refine ⟨ad, cells, e1, (hg.block _ (Array.getElem?_eq_some_iff.1 hc).1 (fun e2 => ?_)).trans hc⟩
  injection e2 with e2
  rw [e2, hb] at hc
  injection hc with hc
  injection hc with _ hc
  exact he hc
theorem CB_over {w w1 : World} {A : Option Addr} {g e : Nat} {xs : List Bool} {cs : Array Value} (h : Kd.C Kd.bool w A xs.length xs) (ht : TyB w A xs.length) (hb : w.heap[g]? = some (.cells cs e (0, 0))) (he : e ≠ 4) (hg : w.grownBy w1 (some g)) : Kd.C Kd.bool w1 A xs.length xs := by
  refine Kd.C_keep (enc := Value.bool) (h1 := fun _ => rfl) false h (g := g) ⟨hg.size, fun i hi hne _ => hg.block i hi (fun e => hne (by injection e))⟩ (fun ad e1 hn e2 => ?_)
  obtain ⟨ad', cells, e3, hc⟩ := ht hn
  rw [e1] at e3
  injection e3 with e3
  subst e3
  rw [e2, hb] at hc
  injection hc with hc
  injection hc with _ hc
  exact he hc
/-- What Pull is given. -/
structure PIn (AX : Option Addr) (cX : Nat) (lx : List Int) (s0 s1 s2 s3 : Bool) (pe pr ce cr fe fr ep : Int) (AB : Option Addr) (cB : Nat) (B : List Bool) (AN : Option Addr) (cN : Nat) (N : List Bool) (v : Value) (g : Int → Int) (w : World) : Prop where
  X : Kd.C (Kd.int .u64) w AX lx.length lx
  lX : lx.length ≤ cX
  nX : lx.length ≤ 17592186043904
  hB : Kd.C Kd.bool w AB B.length B
  cB_ : B.length ≤ cB
  lB : B.length ≤ 17592186043904
  hN : Kd.C Kd.bool w AN N.length N
  cN_ : N.length ≤ cN
  lN : N.length ≤ 17592186043904
  ch : ChainAt v g w
  ep_ : -9223372036854775808 ≤ ep ∧ ep ≤ 9223372036854775807
  tB : TyB w AB B.length
  tN : TyB w AN N.length
theorem PIn.below {AX : Option Addr} {cX : Nat} {lx : List Int} {s0 s1 s2 s3 : Bool} {pe pr ce cr fe fr ep : Int} {AB : Option Addr} {cB : Nat} {B : List Bool} {AN : Option Addr} {cN : Nat} {N : List Bool} {v : Value} {g : Int → Int} {w w' : World}
    (h : PIn AX cX lx s0 s1 s2 s3 pe pr ce cr fe fr ep AB cB B AN cN N v g w) (hb : Below w.heap.size w w') : PIn AX cX lx s0 s1 s2 s3 pe pr ce cr fe fr ep AB cB B AN cN N v g w' :=
  ⟨Kd.C_below h.X hb, h.lX, h.nX, Kd.C_below h.hB hb, h.cB_, h.lB, Kd.C_below h.hN hb, h.cN_, h.lN, h.ch.below hb, h.ep_, h.tB.below hb, h.tN.below hb⟩
theorem pull_to {AX : Option Addr} {cX : Nat} {lx : List Int} {sl bo : Int} {s0 s1 s2 s3 : Bool} {pe pr ce cr fe fr ep : Int} {AB : Option Addr} {cB : Nat} {B : List Bool} {AN : Option Addr} {cN : Nat} {N : List Bool} {v : Value} {g : Int → Int} {w : World} {m0 m1 m2 m3 : Bool} {mpe mpr mce mcr mfe mfr : Int}
    (hm : pullOf lx sl g ⟨⟨s0, s1, s2, s3, pe, pr, ce, cr, fe, fr⟩, ep, B, N⟩ = ⟨m0, m1, m2, m3, mpe, mpr, mce, mcr, mfe, mfr⟩) (h : PIn AX cX lx s0 s1 s2 s3 pe pr ce cr fe fr ep AB cB B AN cN N v g w) :
    Calls Try.prog 21 #[.agg #[.slice AX lx.length cX, .int .i64 sl, .int .i64 bo], .agg #[.bool s0, .bool s1, .bool s2, .bool s3, .int .i64 pe, .int .u64 pr, .int .i64 ce, .int .u64 cr, .int .i64 fe, .int .u64 fr, .int .i64 ep, .slice AB B.length cB, .slice AN N.length cN], v] w fun x w' => x = .returned (.agg #[.bool m0, .bool m1, .bool m2, .bool m3, .int .i64 mpe, .int .u64 mpr, .int .i64 mce, .int .u64 mcr, .int .i64 mfe, .int .u64 mfr]) ∧ Below w.heap.size w w' := by
  have := pull_at AX cX lx sl bo s0 s1 s2 s3 pe pr ce cr fe fr ep AB cB B AN cN N v g w h.X h.lX h.nX h.hB h.cB_ h.lB h.hN h.cN_ h.lN h.ch h.ep_
  rw [hm] at this
  exact this

theorem epochs_rd (n : Nat) : ∀ (e : Int) (k : Nat), k < n → rd (epochs e n) (k : Int) = e + k := by
  induction n with
  | zero => intro e k h; omega
  | succ n ih =>
    intro e k h
    cases k with
    | zero => simp [epochs, rd]
    | succ k =>
      have := ih (e + 1) k (by omega)
      have h2 : rd (epochs e (n + 1)) ((k + 1 : Nat) : Int) = rd (epochs (e + 1) n) (k : Int) := by
        simp [epochs, rd]
      rw [h2, this]
      omega
/-- The epochs that end. -/
def endsOf (ep slot sl : Int) : List Int := epochs (epOf (wrap64 (ep * mx 1 sl)) sl) (howMany (wrap64 (ep * mx 1 sl)) slot sl)
/-- A state at a slot. -/
def advTo (lx : List Int) (sl : Int) (f : Int → Int) (s : LS) (slot : Int) : LS := (endsOf s.ep slot sl).foldl (advStep lx sl f) s
theorem ends_in (ep slot sl : Int) (hs : slot ≤ 9223372036854775807) (k : Nat) (hk : k < (endsOf ep slot sl).length) : 0 ≤ rd (endsOf ep slot sl) k ∧ rd (endsOf ep slot sl) k < 9223372036854775807 := by
  unfold endsOf at hk ⊢
  rw [epochs_length] at hk
  rw [epochs_rd _ _ _ hk]
  have h1 : wrap64 (ep * mx 1 sl) ≤ 9223372036854775807 := by unfold wrap64; omega
  have h2 := epOf_range (wrap64 (ep * mx 1 sl)) sl h1
  have h3 := epOf_range slot sl hs
  unfold howMany at hk
  omega
theorem ends_len (ep slot sl : Int) : (endsOf ep slot sl).length ≤ 4096 := by
  unfold endsOf howMany
  rw [epochs_length]
  omega

theorem fold_take {f : LS → Int → LS} {s : LS} (es : List Int) (k : Nat) (hk : k < es.length) : (es.take (k + 1)).foldl f s = f ((es.take k).foldl f s) (rd es (k : Int)) := by
  rw [List.take_succ_eq_append_getElem hk, List.foldl_append]
  simp [rd, List.getD_eq_getElem?_getD, hk]
/-- A row is the caller's, or an own one. -/
def Own2 (w wv : World) (A : Option Addr) (c : Nat) (xs : List Bool) : Prop := (Kd.C Kd.bool w A xs.length xs ∧ TyB w A xs.length) ∨ Kd.R Kd.bool 4 wv w.heap.size (fun _ => True) (.slice A xs.length c) xs
theorem own2_over {w wv w1 : World} {A : Option Addr} {c : Nat} {xs : List Bool} {g e : Nat} {cs : Array Value} (h : Own2 w wv A c xs) (hb : wv.heap[g]? = some (.cells cs e (0, 0))) (he : ∀ q ∈ (4 :: Kd.bool.E), q ≠ e) (hg : wv.grownBy w1 (some g)) (hw : Below w.heap.size w w1) : Kd.C Kd.bool w1 A xs.length xs ∧ TyB w1 A xs.length := by
  rcases h with h | h
  · exact ⟨Kd.C_below h.1 hw, h.2.below hw⟩
  · exact ⟨(Kd.R_reads' (RB_over h hb he hg)).2.2, TyB.of_R (RB_over h hb he hg)⟩
/-- What Advance has before it at a round's head. -/
structure AdvAt (AX : Option Addr) (cX : Nat) (lx : List Int) (sl bo : Int) (AE : Option Addr) (cE : Nat) (es : List Int) (v : Value) (g : Int → Int) (s0 s1 s2 s3 : Bool) (pe pr ce cr fe fr ep : Int) (AB : Option Addr) (cB : Nat) (B : List Bool) (AN : Option Addr) (cN : Nat) (N : List Bool) (w wv : World) : Prop where
  bel : Below w.heap.size w wv
  inn : PIn AX cX lx s0 s1 s2 s3 pe pr ce cr fe fr ep AB cB B AN cN N v g wv
  m : wv.heap[w.heap.size]? = some (.cells #[.slice AX lx.length cX, .int .i64 sl, .int .i64 bo] 24 (0, 0))
  s : wv.heap[w.heap.size + 1]? = some (.cells #[.bool s0, .bool s1, .bool s2, .bool s3, .int .i64 pe, .int .u64 pr, .int .i64 ce, .int .u64 cr, .int .i64 fe, .int .u64 fr, .int .i64 ep, .slice AB B.length cB, .slice AN N.length cN] 39 (0, 0))
  o : wv.heap[w.heap.size + 1 + 1]? = some (.cells #[.bool false, .bool false, .bool false, .bool false, .int .i64 0, .int .u64 0, .int .i64 0, .int .u64 0, .int .i64 0, .int .u64 0, .int .i64 0, .slice none 0 0, .slice none 0 0] 39 (0, 0))
  re : Kd.R (Kd.int .i64) 3 wv w.heap.size (fun _ => True) (.slice AE es.length cE) es
  ob : Own2 w wv AB cB B
  on : Own2 w wv AN cN N
set_option maxHeartbeats 16000000 in
set_option maxRecDepth 100000 in
theorem advance_at (AX : Option Addr) (cX : Nat) (lx : List Int) (sl bo : Int) (s0 s1 s2 s3 : Bool) (pe pr ce cr fe fr ep : Int) (AB : Option Addr) (cB : Nat) (B : List Bool) (AN : Option Addr) (cN : Nat) (N : List Bool) (slot : Int) (v : Value) (g : Int → Int) (w : World) (h : PIn AX cX lx s0 s1 s2 s3 pe pr ce cr fe fr ep AB cB B AN cN N v g w) (hs : -9223372036854775808 ≤ slot ∧ slot ≤ 9223372036854775807) :
    Calls Try.prog 13 #[.agg #[.slice AX lx.length cX, .int .i64 sl, .int .i64 bo], .agg #[.bool s0, .bool s1, .bool s2, .bool s3, .int .i64 pe, .int .u64 pr, .int .i64 ce, .int .u64 cr, .int .i64 fe, .int .u64 fr, .int .i64 ep, .slice AB B.length cB, .slice AN N.length cN], .int .i64 slot, v] w fun x w' => ∃ (s0' s1' s2' s3' : Bool) (pe' pr' ce' cr' fe' fr' ep' : Int) (AB' : Option Addr) (cB' : Nat) (B' : List Bool) (AN' : Option Addr) (cN' : Nat) (N' : List Bool),
      x = .returned (.agg #[.bool s0', .bool s1', .bool s2', .bool s3', .int .i64 pe', .int .u64 pr', .int .i64 ce', .int .u64 cr', .int .i64 fe', .int .u64 fr', .int .i64 ep', .slice AB' B'.length cB', .slice AN' N'.length cN']) ∧
      advTo lx sl g ⟨⟨s0, s1, s2, s3, pe, pr, ce, cr, fe, fr⟩, ep, B, N⟩ slot = ⟨⟨s0', s1', s2', s3', pe', pr', ce', cr', fe', fr'⟩, ep', B', N'⟩ ∧ PIn AX cX lx s0' s1' s2' s3' pe' pr' ce' cr' fe' fr' ep' AB' cB' B' AN' cN' N' v g w' ∧ Below w.heap.size w w' := by
  have IN0 := Aside0.mk h
  have HMX : Aside0 (max 1 sl = mx 1 sl) := ⟨by unfold mx; omega⟩
  have HLX := Aside0.mk h.nX
  have hep : wrap64 (ep * mx 1 sl) ≤ 9223372036854775807 := by unfold wrap64; omega
  obtain ⟨ke, hke⟩ := (ends_f (wrap64 (ep * mx 1 sl)) slot sl hep hs.2).rounds
  have HKE := Aside0.mk hke
  have HS := Aside0.mk hs
  have HADV := Aside0.mk (show (endsOf ep slot sl).foldl (advStep lx sl g) ⟨⟨s0, s1, s2, s3, pe, pr, ce, cr, fe, fr⟩, ep, B, N⟩ = advTo lx sl g ⟨⟨s0, s1, s2, s3, pe, pr, ce, cr, fe, fr⟩, ep, B, N⟩ slot from rfl)
  have HIN := Aside0.mk (ends_in ep slot sl hs.2)
  have HLE := Aside0.mk (ends_len ep slot sl)
  obtain ⟨es, hes⟩ : ∃ es, endsOf ep slot sl = es := ⟨_, rfl⟩
  have hke2 : epoch_Ends.f ke (wrap64 (ep * mx 1 sl)) slot sl = some es := by rw [← hes]; exact hke
  have HKE2 := Aside0.mk hke2
  rw [hes] at HADV HIN HLE
  clear h hep hke hs hes hke2 HKE
  go_enter Try.func13, Try.ntmps13
  have qb := Block.box3 w #[.slice AX lx.length cX, .int .i64 sl, .int .i64 bo] #[.bool s0, .bool s1, .bool s2, .bool s3, .int .i64 pe, .int .u64 pr, .int .i64 ce, .int .u64 cr, .int .i64 fe, .int .u64 fr, .int .i64 ep, .slice AB B.length cB, .slice AN N.length cN] #[.bool false, .bool false, .bool false, .bool false, .int .i64 0, .int .u64 0, .int .i64 0, .int .u64 0, .int .i64 0, .int .u64 0, .int .i64 0, .slice none 0 0, .slice none 0 0] 24 39 39
  have BM0 := Aside0.mk qb.1
  have BS0 := Aside0.mk qb.2.1
  have BO0 := Aside0.mk qb.2.2
  clear qb
  go_wp2_with (go_at_call 29; rw [HMX.out]; with_reducible refine (epoch_Ends.calls ke _ _ _ es _ HKE2.out).mono ?_; rintro x w1 ⟨v0, rfl, hR, hb⟩; obtain ⟨AE, cE, rfl⟩ := Kd.R_slice hR; have HB1 := Aside0.mk (below_then (below_alloc (below_alloc (below_alloc (Below.refl w.heap.size w) _) _) _) (by simp; omega) hb); have BM1 := Aside0.mk (blk_below BM0.out hb); have BS1 := Aside0.mk (blk_below BS0.out hb); have BO1 := Aside0.mk (blk_below BO0.out hb); have RE1 := Aside0.mk (Kd.R_lower hR (show w.heap.size ≤ _ by simp; omega)); clear hR hb BM0 BS0 BO0)
  go_loopw [22] (fun c wr => ∃ k : Nat, k ≤ es.length ∧ c = .int .i64 k ∧ Aside0 (∃ (s0' s1' s2' s3' : Bool) (pe' pr' ce' cr' fe' fr' ep' : Int) (AB' : Option Addr) (cB' : Nat) (B' : List Bool) (AN' : Option Addr) (cN' : Nat) (N' : List Bool), (es.take k).foldl (advStep lx sl g) ⟨⟨s0, s1, s2, s3, pe, pr, ce, cr, fe, fr⟩, ep, B, N⟩ = ⟨⟨s0', s1', s2', s3', pe', pr', ce', cr', fe', fr'⟩, ep', B', N'⟩ ∧ AdvAt AX cX lx sl bo AE cE es v g s0' s1' s2' s3' pe' pr' ce' cr' fe' fr' ep' AB' cB' B' AN' cN' N' w wr)) (fun c _ => es.length - (intOf c).toNat)
  case atStart => exact ⟨0, by omega, rfl, ⟨s0, s1, s2, s3, pe, pr, ce, cr, fe, fr, ep, AB, cB, B, AN, cN, N, rfl, HB1.out, IN0.out.below HB1.out, BM1.out, BS1.out, BO1.out, RE1.out, Or.inl ⟨IN0.out.hB, IN0.out.tB⟩, Or.inl ⟨IN0.out.hN, IN0.out.tN⟩⟩⟩
  case round =>
    obtain ⟨k, hk, rfl, HR⟩ := hrel
    obtain ⟨s0, s1, s2, s3, pe, pr, ce, cr, fe, fr, ep, AB, cB, B, AN, cN, N, hst, HA⟩ := HR.out
    have HBR := Aside0.mk HA.bel
    have IN := Aside0.mk HA.inn
    have BM := Aside0.mk HA.m
    have BS := Aside0.mk HA.s
    have BO := Aside0.mk HA.o
    have RE := Aside0.mk HA.re
    have OB := Aside0.mk HA.ob
    have ON := Aside0.mk HA.on
    have HST := Aside0.mk hst
    clear hst HA HR
    by_cases hlt : k < es.length
    · have t0 : decide ((k : Int) < (es.length : Int)) = true := decide_eq_true (by omega)
      have i0 : (0 : Int) ≤ (k : Int) := by omega
      have i1 : (k : Int) < (es.length : Int) := by omega
      have hir := HIN.out k hlt
      have HLT := Aside0.mk hlt
      have hfo := fun f s => fold_take (f := f) (s := s) es k hlt
      have HFO := Aside0.mk (hfo (advStep lx sl g))
      clear hfo
      obtain ⟨ad, rfl, hc⟩ := Kd.at_int (Kd.R_reads' RE.out).2.2 (k : Int) i0 i1
      rw [Int.toNat_natCast] at hc
      obtain ⟨e, he⟩ : ∃ e, rd es (k : Int) = e := ⟨_, rfl⟩
      rw [he] at hc hir HFO
      clear he
      have e9 : wrap64 (e + 1) = e + 1 := by unfold wrap64; omega
      rcases hpo : pullOf lx sl g ⟨⟨s0, s1, s2, s3, pe, pr, ce, cr, fe, fr⟩, ep, B, N⟩ with ⟨m0, m1, m2, m3, mpe, mpr, mce, mcr, mfe, mfr⟩
      have HPL := Aside0.mk hpo
      have HE := Aside0.mk hir
      clear hpo
      go_upto_region 4 with fail
      rename_i K Q a0_
      refine start_ (n := 15) (S := fun w' => w'.cell? ⟨w.heap.size, 0, none⟩ = some (.slice AX lx.length cX) ∧ w'.cell? ⟨w.heap.size, 1, none⟩ = some (.int .i64 sl) ∧ w'.cell? ⟨w.heap.size, 2, none⟩ = some (.int .i64 bo) ∧ w'.cell? ⟨w.heap.size + 1, 0, none⟩ = some (.bool s0) ∧ w'.cell? ⟨w.heap.size + 1, 1, none⟩ = some (.bool s1) ∧ w'.cell? ⟨w.heap.size + 1, 2, none⟩ = some (.bool s2) ∧ w'.cell? ⟨w.heap.size + 1, 3, none⟩ = some (.bool s3) ∧ w'.cell? ⟨w.heap.size + 1, 4, none⟩ = some (.int .i64 pe) ∧ w'.cell? ⟨w.heap.size + 1, 5, none⟩ = some (.int .u64 pr) ∧ w'.cell? ⟨w.heap.size + 1, 6, none⟩ = some (.int .i64 ce) ∧ w'.cell? ⟨w.heap.size + 1, 7, none⟩ = some (.int .u64 cr) ∧ w'.cell? ⟨w.heap.size + 1, 8, none⟩ = some (.int .i64 fe) ∧ w'.cell? ⟨w.heap.size + 1, 9, none⟩ = some (.int .u64 fr) ∧ w'.cell? ⟨w.heap.size + 1, 10, none⟩ = some (.int .i64 ep) ∧ w'.cell? ⟨w.heap.size + 1, 11, none⟩ = some (.slice AB B.length cB) ∧ w'.cell? ⟨w.heap.size + 1, 12, none⟩ = some (.slice AN N.length cN)) (ds := [14]) #[false, false, false, false, false, false, false, false, false, false, false, false, false, false, false] (by kernel_rfl) rfl rfl ⟨(blk_cell BM.out 0), (blk_cell BM.out 1), (blk_cell BM.out 2), (blk_cell BS.out 0), (blk_cell BS.out 1), (blk_cell BS.out 2), (blk_cell BS.out 3), (blk_cell BS.out 4), (blk_cell BS.out 5), (blk_cell BS.out 6), (blk_cell BS.out 7), (blk_cell BS.out 8), (blk_cell BS.out 9), (blk_cell BS.out 10), (blk_cell BS.out 11), (blk_cell BS.out 12)⟩ (fun hHeld => ?_)
      refine pure_ (i := 2) (N := some 28) (v := ?_) (a' := ?_) #[false, false, true, false, false, false, false, false, false, false, false, false, false, false, false] rfl rfl (by kernel_rfl) (fun _ _ _ h => h) (Or.inl ⟨by rfl, ?_⟩) ?_ ?_
      rotate_left
      · intro w'
        go_simp
        with_reducible rfl
      rotate_left
      · simp only [Act.put, List.setIfInBounds_toArray, List.set_cons_zero, List.set_cons_succ, i64_w, i32_w]
        rfl
      refine pure_ (i := 4) (N := some 30) (v := ?_) (a' := ?_) #[false, false, true, false, true, false, false, false, false, false, false, false, false, false, false] rfl rfl (by kernel_rfl) (fun _ _ _ h => h) (Or.inl ⟨by rfl, ?_⟩) ?_ ?_
      rotate_left
      · intro w'
        go_simp
        with_reducible rfl
      rotate_left
      · simp only [Act.put, List.setIfInBounds_toArray, List.set_cons_zero, List.set_cons_succ, i64_w, i32_w]
        rfl
      refine pure_ (i := 5) (N := some 31) (v := ?_) (a' := ?_) #[false, false, true, false, true, true, false, false, false, false, false, false, false, false, false] rfl rfl (by kernel_rfl) (fun _ _ _ h => h) (Or.inl ⟨by rfl, ?_⟩) ?_ ?_
      rotate_left
      · intro w'
        go_simp
        with_reducible rfl
      rotate_left
      · simp only [Act.put, List.setIfInBounds_toArray, List.set_cons_zero, List.set_cons_succ, i64_w, i32_w]
        rfl
      refine pure_ (i := 6) (N := some 32) (v := ?_) (a' := ?_) #[false, false, true, false, true, true, true, false, false, false, false, false, false, false, false] rfl rfl (by kernel_rfl) (fun _ _ _ h => h) (Or.inl ⟨by rfl, ?_⟩) ?_ ?_
      rotate_left
      · intro w'
        go_simp
        with_reducible rfl
      rotate_left
      · simp only [Act.put, List.setIfInBounds_toArray, List.set_cons_zero, List.set_cons_succ, i64_w, i32_w]
        rfl
      refine pure_ (i := 9) (N := some 35) (v := ?_) (a' := ?_) #[false, false, true, false, true, true, true, false, false, true, false, false, false, false, false] rfl rfl (by kernel_rfl) (fun _ _ _ h => h) (Or.inl ⟨by rfl, ?_⟩) ?_ ?_
      rotate_left
      · intro w'
        go_simp
        with_reducible rfl
      rotate_left
      · simp only [Act.put, List.setIfInBounds_toArray, List.set_cons_zero, List.set_cons_succ, i64_w, i32_w]
        rfl
      refine take_ (i := 0) (N := some 26) (v := ?_) (a' := ?_) #[true, false, true, false, true, true, true, false, false, true, false, false, false, false, false] rfl rfl (by kernel_rfl) (fun _ _ _ h => h) (Or.inl ⟨by rfl, ?_⟩) hHeld ?_ ?_
      rotate_left
      · rintro w' ⟨s0, s1, s2, s3, s4, s5, s6, s7, s8, s9, s10, s11, s12, s13, s14, s15⟩
        go_simp
        with_reducible rfl
      rotate_left
      · simp only [Act.put, List.setIfInBounds_toArray, List.set_cons_zero, List.set_cons_succ, i64_w, i32_w]
        rfl
      refine take_ (i := 1) (N := some 27) (v := ?_) (a' := ?_) #[true, true, true, false, true, true, true, false, false, true, false, false, false, false, false] rfl rfl (by kernel_rfl) (fun _ _ _ h => h) (Or.inl ⟨by rfl, ?_⟩) hHeld ?_ ?_
      rotate_left
      · rintro w' ⟨s0, s1, s2, s3, s4, s5, s6, s7, s8, s9, s10, s11, s12, s13, s14, s15⟩
        go_simp
        with_reducible rfl
      rotate_left
      · simp only [Act.put, List.setIfInBounds_toArray, List.set_cons_zero, List.set_cons_succ, i64_w, i32_w]
        rfl
      refine take_ (i := 7) (N := some 33) (v := ?_) (a' := ?_) #[true, true, true, false, true, true, true, true, false, true, false, false, false, false, false] rfl rfl (by kernel_rfl) (fun _ _ _ h => h) (Or.inl ⟨by rfl, ?_⟩) hHeld ?_ ?_
      rotate_left
      · rintro w' ⟨s0, s1, s2, s3, s4, s5, s6, s7, s8, s9, s10, s11, s12, s13, s14, s15⟩
        go_simp
        with_reducible rfl
      rotate_left
      · simp only [Act.put, List.setIfInBounds_toArray, List.set_cons_zero, List.set_cons_succ, i64_w, i32_w]
        rfl
      refine take_ (i := 10) (N := some 36) (v := ?_) (a' := ?_) #[true, true, true, false, true, true, true, true, false, true, true, false, false, false, false] rfl rfl (by kernel_rfl) (fun _ _ _ h => h) (Or.inl ⟨by rfl, ?_⟩) hHeld ?_ ?_
      rotate_left
      · rintro w' ⟨s0, s1, s2, s3, s4, s5, s6, s7, s8, s9, s10, s11, s12, s13, s14, s15⟩
        go_simp
        with_reducible rfl
      rotate_left
      · simp only [Act.put, List.setIfInBounds_toArray, List.set_cons_zero, List.set_cons_succ, i64_w, i32_w]
        rfl
      refine pure_ (i := 11) (N := some 37) (v := ?_) (a' := ?_) #[true, true, true, false, true, true, true, true, false, true, true, true, false, false, false] rfl rfl (by kernel_rfl) (fun _ _ _ h => h) (Or.inl ⟨by rfl, ?_⟩) ?_ ?_
      rotate_left
      · intro w'
        go_simp
        with_reducible rfl
      rotate_left
      · simp only [Act.put, List.setIfInBounds_toArray, List.set_cons_zero, List.set_cons_succ, i64_w, i32_w]
        rfl
      refine join_ (σ := Value × Value) 2 #[true, true, true, true, true, true, true, true, true, true, true, true, true, false, false] (fun s_ => [(29, .agg #[.bool m0, .bool m1, .bool m2, .bool m3, .int .i64 mpe, .int .u64 mpr, .int .i64 mce, .int .u64 mcr, .int .i64 mfe, .int .u64 mfr]), (34, s_.1), (38, s_.2)]) (fun s_ w' => (w'.cell? ⟨w.heap.size, 0, none⟩ = some (.slice AX lx.length cX) ∧ w'.cell? ⟨w.heap.size, 1, none⟩ = some (.int .i64 sl) ∧ w'.cell? ⟨w.heap.size, 2, none⟩ = some (.int .i64 bo) ∧ w'.cell? ⟨w.heap.size + 1, 0, none⟩ = some (.bool s0) ∧ w'.cell? ⟨w.heap.size + 1, 1, none⟩ = some (.bool s1) ∧ w'.cell? ⟨w.heap.size + 1, 2, none⟩ = some (.bool s2) ∧ w'.cell? ⟨w.heap.size + 1, 3, none⟩ = some (.bool s3) ∧ w'.cell? ⟨w.heap.size + 1, 4, none⟩ = some (.int .i64 pe) ∧ w'.cell? ⟨w.heap.size + 1, 5, none⟩ = some (.int .u64 pr) ∧ w'.cell? ⟨w.heap.size + 1, 6, none⟩ = some (.int .i64 ce) ∧ w'.cell? ⟨w.heap.size + 1, 7, none⟩ = some (.int .u64 cr) ∧ w'.cell? ⟨w.heap.size + 1, 8, none⟩ = some (.int .i64 fe) ∧ w'.cell? ⟨w.heap.size + 1, 9, none⟩ = some (.int .u64 fr) ∧ w'.cell? ⟨w.heap.size + 1, 10, none⟩ = some (.int .i64 ep) ∧ w'.cell? ⟨w.heap.size + 1, 11, none⟩ = some (.slice AB B.length cB) ∧ w'.cell? ⟨w.heap.size + 1, 12, none⟩ = some (.slice AN N.length cN)) ∧ (∃ a c, s_.1 = .slice a N.length c ∧ Kd.R Kd.bool 4 w' wr.heap.size (fun _ => True) (.slice a N.length c) N) ∧ (∃ a c, s_.2 = .slice a lx.length c ∧ Kd.R Kd.bool 4 w' wr.heap.size (fun _ => True) (.slice a lx.length c) (List.replicate lx.length false)) ∧ Below wr.heap.size wr w') ?_ ?_
      rotate_left
      · intro hCont
        refine two_ (i := 3) (j := 12) (Ni := some 29) (Nj := some 38) #[true, true, true, true, true, true, true, true, false, true, true, true, false, false, false] #[true, true, true, false, true, true, true, true, false, true, true, true, true, false, false] rfl rfl rfl rfl (by kernel_rfl) (by decide) (by decide) (fun K hK => ?_) (fun K hK => ?_)
        · skip
          refine goes_ Try.func21 (by kernel_rfl) rfl #[.agg #[.slice AX lx.length cX, .int .i64 sl, .int .i64 bo], .agg #[.bool s0, .bool s1, .bool s2, .bool s3, .int .i64 pe, .int .u64 pr, .int .i64 ce, .int .u64 cr, .int .i64 fe, .int .u64 fr, .int .i64 ep, .slice AB B.length cB, .slice AN N.length cN], v] (by rfl) rfl rfl (by simp only [List.map_toArray, List.map_cons, List.map_nil]; rfl) ?_
          with_reducible refine (pull_to HPL.out (IN.out.below (below_drew (Below.refl wr.heap.size wr)))).mono ?_
          rintro e wp1 ⟨rfl, hb⟩
          refine ⟨_, rfl, ?_⟩
          have HP1 := Aside0.mk (below_then (below_drew (Below.refl wr.heap.size wr)) (Nat.le_refl _) hb)
          clear hb
          refine hK.out _ _ ⟨(pw_cell_below HP1.out (blk_cell BM.out 0)), (pw_cell_below HP1.out (blk_cell BM.out 1)), (pw_cell_below HP1.out (blk_cell BM.out 2)), (pw_cell_below HP1.out (blk_cell BS.out 0)), (pw_cell_below HP1.out (blk_cell BS.out 1)), (pw_cell_below HP1.out (blk_cell BS.out 2)), (pw_cell_below HP1.out (blk_cell BS.out 3)), (pw_cell_below HP1.out (blk_cell BS.out 4)), (pw_cell_below HP1.out (blk_cell BS.out 5)), (pw_cell_below HP1.out (blk_cell BS.out 6)), (pw_cell_below HP1.out (blk_cell BS.out 7)), (pw_cell_below HP1.out (blk_cell BS.out 8)), (pw_cell_below HP1.out (blk_cell BS.out 9)), (pw_cell_below HP1.out (blk_cell BS.out 10)), (pw_cell_below HP1.out (blk_cell BS.out 11)), (pw_cell_below HP1.out (blk_cell BS.out 12))⟩ (fun hHeld => ?_)
          clear hK K
          refine norm_ (a' := ?_) ?_ ?_
          rotate_left
          · show Act.put _ (some 29) _ = _
            simp only [Act.put, List.setIfInBounds_toArray, List.set_cons_zero, List.set_cons_succ, i64_w, i32_w]
            rfl
          refine two_ (i := 8) (j := 12) (Ni := some 34) (Nj := some 38) #[true, true, true, true, true, true, true, true, true, true, true, true, false, false, false] #[true, true, true, true, true, true, true, true, false, true, true, true, true, false, false] rfl rfl rfl rfl (by kernel_rfl) (by decide) (by decide) (fun K hK => ?_) (fun K hK => ?_)
          · skip
            refine appendB_step (base := wr.heap.size) (w0 := wr) (by rfl) rfl _ rfl AN N cN rfl (IN.out.below HP1.out).hN IN.out.lN HP1.out HP1.out.size ?_
            intro a1 c1 wp2 ho hb hg_
            have HP2 := Aside0.mk hb
            have R1_2 := Aside0.mk ho
            clear ho hb hg_
            refine hK.out _ _ ⟨(pw_cell_below HP2.out (blk_cell BM.out 0)), (pw_cell_below HP2.out (blk_cell BM.out 1)), (pw_cell_below HP2.out (blk_cell BM.out 2)), (pw_cell_below HP2.out (blk_cell BS.out 0)), (pw_cell_below HP2.out (blk_cell BS.out 1)), (pw_cell_below HP2.out (blk_cell BS.out 2)), (pw_cell_below HP2.out (blk_cell BS.out 3)), (pw_cell_below HP2.out (blk_cell BS.out 4)), (pw_cell_below HP2.out (blk_cell BS.out 5)), (pw_cell_below HP2.out (blk_cell BS.out 6)), (pw_cell_below HP2.out (blk_cell BS.out 7)), (pw_cell_below HP2.out (blk_cell BS.out 8)), (pw_cell_below HP2.out (blk_cell BS.out 9)), (pw_cell_below HP2.out (blk_cell BS.out 10)), (pw_cell_below HP2.out (blk_cell BS.out 11)), (pw_cell_below HP2.out (blk_cell BS.out 12))⟩ (fun hHeld => ?_)
            clear hK K
            refine norm_ (a' := ?_) ?_ ?_
            rotate_left
            · show Act.put _ (some 34) _ = _
              simp only [Act.put, List.setIfInBounds_toArray, List.set_cons_zero, List.set_cons_succ, i64_w, i32_w]
              rfl
            refine one_ (i := 12) (N := some 38) #[true, true, true, true, true, true, true, true, true, true, true, true, true, false, false] rfl rfl (by kernel_rfl) (by decide) (fun K hK => ?_)
            refine makeB_step (base := wr.heap.size) (w0 := wr) (by rfl) rfl _ rfl lx.length rfl HLX.out HP2.out HP2.out.size ?_
            intro a2 c2 wp3 ho hb hg_
            have HP3 := Aside0.mk hb
            have R2_3 := Aside0.mk ho
            have R1_3 := Aside0.mk (Kd.R_grown R1_2.out hg_ (fun _ _ => by simp))
            clear ho hb hg_
            refine hK.out _ _ ⟨(pw_cell_below HP3.out (blk_cell BM.out 0)), (pw_cell_below HP3.out (blk_cell BM.out 1)), (pw_cell_below HP3.out (blk_cell BM.out 2)), (pw_cell_below HP3.out (blk_cell BS.out 0)), (pw_cell_below HP3.out (blk_cell BS.out 1)), (pw_cell_below HP3.out (blk_cell BS.out 2)), (pw_cell_below HP3.out (blk_cell BS.out 3)), (pw_cell_below HP3.out (blk_cell BS.out 4)), (pw_cell_below HP3.out (blk_cell BS.out 5)), (pw_cell_below HP3.out (blk_cell BS.out 6)), (pw_cell_below HP3.out (blk_cell BS.out 7)), (pw_cell_below HP3.out (blk_cell BS.out 8)), (pw_cell_below HP3.out (blk_cell BS.out 9)), (pw_cell_below HP3.out (blk_cell BS.out 10)), (pw_cell_below HP3.out (blk_cell BS.out 11)), (pw_cell_below HP3.out (blk_cell BS.out 12))⟩ (fun hHeld => ?_)
            clear hK K
            refine norm_ (a' := ?_) ?_ ?_
            rotate_left
            · show Act.put _ (some 38) _ = _
              simp only [Act.put, List.setIfInBounds_toArray, List.set_cons_zero, List.set_cons_succ, i64_w, i32_w]
              rfl
            exact norm_ (by simp only [putAll, Act.put, List.setIfInBounds_toArray, List.set_cons_zero, List.set_cons_succ]) (hCont (.slice a1 N.length c1, .slice a2 lx.length c2) _ ⟨hHeld, ⟨a1, c1, rfl, R1_3.out⟩, ⟨a2, c2, rfl, R2_3.out⟩, HP3.out⟩)
          · skip
            refine makeB_step (base := wr.heap.size) (w0 := wr) (by rfl) rfl _ rfl lx.length rfl HLX.out HP1.out HP1.out.size ?_
            intro a2 c2 wp2 ho hb hg_
            have HP2 := Aside0.mk hb
            have R2_2 := Aside0.mk ho
            clear ho hb hg_
            refine hK.out _ _ ⟨(pw_cell_below HP2.out (blk_cell BM.out 0)), (pw_cell_below HP2.out (blk_cell BM.out 1)), (pw_cell_below HP2.out (blk_cell BM.out 2)), (pw_cell_below HP2.out (blk_cell BS.out 0)), (pw_cell_below HP2.out (blk_cell BS.out 1)), (pw_cell_below HP2.out (blk_cell BS.out 2)), (pw_cell_below HP2.out (blk_cell BS.out 3)), (pw_cell_below HP2.out (blk_cell BS.out 4)), (pw_cell_below HP2.out (blk_cell BS.out 5)), (pw_cell_below HP2.out (blk_cell BS.out 6)), (pw_cell_below HP2.out (blk_cell BS.out 7)), (pw_cell_below HP2.out (blk_cell BS.out 8)), (pw_cell_below HP2.out (blk_cell BS.out 9)), (pw_cell_below HP2.out (blk_cell BS.out 10)), (pw_cell_below HP2.out (blk_cell BS.out 11)), (pw_cell_below HP2.out (blk_cell BS.out 12))⟩ (fun hHeld => ?_)
            clear hK K
            refine norm_ (a' := ?_) ?_ ?_
            rotate_left
            · show Act.put _ (some 38) _ = _
              simp only [Act.put, List.setIfInBounds_toArray, List.set_cons_zero, List.set_cons_succ, i64_w, i32_w]
              rfl
            refine one_ (i := 8) (N := some 34) #[true, true, true, true, true, true, true, true, true, true, true, true, true, false, false] rfl rfl (by kernel_rfl) (by decide) (fun K hK => ?_)
            refine appendB_step (base := wr.heap.size) (w0 := wr) (by rfl) rfl _ rfl AN N cN rfl (IN.out.below HP2.out).hN IN.out.lN HP2.out HP2.out.size ?_
            intro a1 c1 wp3 ho hb hg_
            have HP3 := Aside0.mk hb
            have R1_3 := Aside0.mk ho
            have R2_3 := Aside0.mk (Kd.R_grown R2_2.out hg_ (fun _ _ => by simp))
            clear ho hb hg_
            refine hK.out _ _ ⟨(pw_cell_below HP3.out (blk_cell BM.out 0)), (pw_cell_below HP3.out (blk_cell BM.out 1)), (pw_cell_below HP3.out (blk_cell BM.out 2)), (pw_cell_below HP3.out (blk_cell BS.out 0)), (pw_cell_below HP3.out (blk_cell BS.out 1)), (pw_cell_below HP3.out (blk_cell BS.out 2)), (pw_cell_below HP3.out (blk_cell BS.out 3)), (pw_cell_below HP3.out (blk_cell BS.out 4)), (pw_cell_below HP3.out (blk_cell BS.out 5)), (pw_cell_below HP3.out (blk_cell BS.out 6)), (pw_cell_below HP3.out (blk_cell BS.out 7)), (pw_cell_below HP3.out (blk_cell BS.out 8)), (pw_cell_below HP3.out (blk_cell BS.out 9)), (pw_cell_below HP3.out (blk_cell BS.out 10)), (pw_cell_below HP3.out (blk_cell BS.out 11)), (pw_cell_below HP3.out (blk_cell BS.out 12))⟩ (fun hHeld => ?_)
            clear hK K
            refine norm_ (a' := ?_) ?_ ?_
            rotate_left
            · show Act.put _ (some 34) _ = _
              simp only [Act.put, List.setIfInBounds_toArray, List.set_cons_zero, List.set_cons_succ, i64_w, i32_w]
              rfl
            exact norm_ (by simp only [putAll, Act.put, List.setIfInBounds_toArray, List.set_cons_zero, List.set_cons_succ]) (hCont (.slice a1 N.length c1, .slice a2 lx.length c2) _ ⟨hHeld, ⟨a1, c1, rfl, R1_3.out⟩, ⟨a2, c2, rfl, R2_3.out⟩, HP3.out⟩)
        · skip
          refine makeB_step (base := wr.heap.size) (w0 := wr) (by rfl) rfl _ rfl lx.length rfl HLX.out (below_drew (Below.refl wr.heap.size wr)) (Nat.le_refl _) ?_
          intro a2 c2 wp1 ho hb hg_
          have HP1 := Aside0.mk hb
          have R2_1 := Aside0.mk ho
          clear ho hb hg_
          refine hK.out _ _ ⟨(pw_cell_below HP1.out (blk_cell BM.out 0)), (pw_cell_below HP1.out (blk_cell BM.out 1)), (pw_cell_below HP1.out (blk_cell BM.out 2)), (pw_cell_below HP1.out (blk_cell BS.out 0)), (pw_cell_below HP1.out (blk_cell BS.out 1)), (pw_cell_below HP1.out (blk_cell BS.out 2)), (pw_cell_below HP1.out (blk_cell BS.out 3)), (pw_cell_below HP1.out (blk_cell BS.out 4)), (pw_cell_below HP1.out (blk_cell BS.out 5)), (pw_cell_below HP1.out (blk_cell BS.out 6)), (pw_cell_below HP1.out (blk_cell BS.out 7)), (pw_cell_below HP1.out (blk_cell BS.out 8)), (pw_cell_below HP1.out (blk_cell BS.out 9)), (pw_cell_below HP1.out (blk_cell BS.out 10)), (pw_cell_below HP1.out (blk_cell BS.out 11)), (pw_cell_below HP1.out (blk_cell BS.out 12))⟩ (fun hHeld => ?_)
          clear hK K
          refine norm_ (a' := ?_) ?_ ?_
          rotate_left
          · show Act.put _ (some 38) _ = _
            simp only [Act.put, List.setIfInBounds_toArray, List.set_cons_zero, List.set_cons_succ, i64_w, i32_w]
            rfl
          refine one_ (i := 3) (N := some 29) #[true, true, true, true, true, true, true, true, false, true, true, true, true, false, false] rfl rfl (by kernel_rfl) (by decide) (fun K hK => ?_)
          refine goes_ Try.func21 (by kernel_rfl) rfl #[.agg #[.slice AX lx.length cX, .int .i64 sl, .int .i64 bo], .agg #[.bool s0, .bool s1, .bool s2, .bool s3, .int .i64 pe, .int .u64 pr, .int .i64 ce, .int .u64 cr, .int .i64 fe, .int .u64 fr, .int .i64 ep, .slice AB B.length cB, .slice AN N.length cN], v] (by rfl) rfl rfl (by simp only [List.map_toArray, List.map_cons, List.map_nil]; rfl) ?_
          with_reducible refine (pull_to HPL.out (IN.out.below HP1.out)).mono ?_
          rintro e wp2 ⟨rfl, hb⟩
          refine ⟨_, rfl, ?_⟩
          have HP2 := Aside0.mk (below_then HP1.out HP1.out.size hb)
          have R2_2 := Aside0.mk (Kd.R_below R2_1.out hb)
          clear hb
          refine hK.out _ _ ⟨(pw_cell_below HP2.out (blk_cell BM.out 0)), (pw_cell_below HP2.out (blk_cell BM.out 1)), (pw_cell_below HP2.out (blk_cell BM.out 2)), (pw_cell_below HP2.out (blk_cell BS.out 0)), (pw_cell_below HP2.out (blk_cell BS.out 1)), (pw_cell_below HP2.out (blk_cell BS.out 2)), (pw_cell_below HP2.out (blk_cell BS.out 3)), (pw_cell_below HP2.out (blk_cell BS.out 4)), (pw_cell_below HP2.out (blk_cell BS.out 5)), (pw_cell_below HP2.out (blk_cell BS.out 6)), (pw_cell_below HP2.out (blk_cell BS.out 7)), (pw_cell_below HP2.out (blk_cell BS.out 8)), (pw_cell_below HP2.out (blk_cell BS.out 9)), (pw_cell_below HP2.out (blk_cell BS.out 10)), (pw_cell_below HP2.out (blk_cell BS.out 11)), (pw_cell_below HP2.out (blk_cell BS.out 12))⟩ (fun hHeld => ?_)
          clear hK K
          refine norm_ (a' := ?_) ?_ ?_
          rotate_left
          · show Act.put _ (some 29) _ = _
            simp only [Act.put, List.setIfInBounds_toArray, List.set_cons_zero, List.set_cons_succ, i64_w, i32_w]
            rfl
          refine one_ (i := 8) (N := some 34) #[true, true, true, true, true, true, true, true, true, true, true, true, true, false, false] rfl rfl (by kernel_rfl) (by decide) (fun K hK => ?_)
          refine appendB_step (base := wr.heap.size) (w0 := wr) (by rfl) rfl _ rfl AN N cN rfl (IN.out.below HP2.out).hN IN.out.lN HP2.out HP2.out.size ?_
          intro a1 c1 wp3 ho hb hg_
          have HP3 := Aside0.mk hb
          have R1_3 := Aside0.mk ho
          have R2_3 := Aside0.mk (Kd.R_grown R2_2.out hg_ (fun _ _ => by simp))
          clear ho hb hg_
          refine hK.out _ _ ⟨(pw_cell_below HP3.out (blk_cell BM.out 0)), (pw_cell_below HP3.out (blk_cell BM.out 1)), (pw_cell_below HP3.out (blk_cell BM.out 2)), (pw_cell_below HP3.out (blk_cell BS.out 0)), (pw_cell_below HP3.out (blk_cell BS.out 1)), (pw_cell_below HP3.out (blk_cell BS.out 2)), (pw_cell_below HP3.out (blk_cell BS.out 3)), (pw_cell_below HP3.out (blk_cell BS.out 4)), (pw_cell_below HP3.out (blk_cell BS.out 5)), (pw_cell_below HP3.out (blk_cell BS.out 6)), (pw_cell_below HP3.out (blk_cell BS.out 7)), (pw_cell_below HP3.out (blk_cell BS.out 8)), (pw_cell_below HP3.out (blk_cell BS.out 9)), (pw_cell_below HP3.out (blk_cell BS.out 10)), (pw_cell_below HP3.out (blk_cell BS.out 11)), (pw_cell_below HP3.out (blk_cell BS.out 12))⟩ (fun hHeld => ?_)
          clear hK K
          refine norm_ (a' := ?_) ?_ ?_
          rotate_left
          · show Act.put _ (some 34) _ = _
            simp only [Act.put, List.setIfInBounds_toArray, List.set_cons_zero, List.set_cons_succ, i64_w, i32_w]
            rfl
          exact norm_ (by simp only [putAll, Act.put, List.setIfInBounds_toArray, List.set_cons_zero, List.set_cons_succ]) (hCont (.slice a1 N.length c1, .slice a2 lx.length c2) _ ⟨hHeld, ⟨a1, c1, rfl, R1_3.out⟩, ⟨a2, c2, rfl, R2_3.out⟩, HP3.out⟩)
      rintro ⟨vv1, vv2⟩ wj ⟨hS_, ⟨a1, c1, e1_, hr1⟩, ⟨a2, c2, e2_, hr2⟩, hbj⟩
      simp only at e1_ e2_
      subst e1_ e2_
      have R1 := Aside0.mk hr1
      have R2 := Aside0.mk hr2
      have HJ := Aside0.mk hbj
      clear hr1 hr2 hbj
      have hHeld : wj.cell? ⟨w.heap.size, 0, none⟩ = some (.slice AX lx.length cX) ∧ wj.cell? ⟨w.heap.size, 1, none⟩ = some (.int .i64 sl) ∧ wj.cell? ⟨w.heap.size, 2, none⟩ = some (.int .i64 bo) ∧ wj.cell? ⟨w.heap.size + 1, 0, none⟩ = some (.bool s0) ∧ wj.cell? ⟨w.heap.size + 1, 1, none⟩ = some (.bool s1) ∧ wj.cell? ⟨w.heap.size + 1, 2, none⟩ = some (.bool s2) ∧ wj.cell? ⟨w.heap.size + 1, 3, none⟩ = some (.bool s3) ∧ wj.cell? ⟨w.heap.size + 1, 4, none⟩ = some (.int .i64 pe) ∧ wj.cell? ⟨w.heap.size + 1, 5, none⟩ = some (.int .u64 pr) ∧ wj.cell? ⟨w.heap.size + 1, 6, none⟩ = some (.int .i64 ce) ∧ wj.cell? ⟨w.heap.size + 1, 7, none⟩ = some (.int .u64 cr) ∧ wj.cell? ⟨w.heap.size + 1, 8, none⟩ = some (.int .i64 fe) ∧ wj.cell? ⟨w.heap.size + 1, 9, none⟩ = some (.int .u64 fr) ∧ wj.cell? ⟨w.heap.size + 1, 10, none⟩ = some (.int .i64 ep) ∧ wj.cell? ⟨w.heap.size + 1, 11, none⟩ = some (.slice AB B.length cB) ∧ wj.cell? ⟨w.heap.size + 1, 12, none⟩ = some (.slice AN N.length cN) := hS_
      refine norm_ (a' := ?_) ?_ ?_
      rotate_left
      · simp only [putAll, Act.put, List.setIfInBounds_toArray, List.set_cons_zero, List.set_cons_succ]
        rfl
      refine pure_ (i := 13) (N := some 39) (v := ?_) (a' := ?_) #[true, true, true, true, true, true, true, true, true, true, true, true, true, true, false] rfl rfl (by kernel_rfl) (fun _ _ _ h => h) (Or.inl ⟨by rfl, ?_⟩) ?_ ?_
      rotate_left
      · intro w'
        go_simp
        with_reducible rfl
      rotate_left
      · simp only [Act.put, List.setIfInBounds_toArray, List.set_cons_zero, List.set_cons_succ, i64_w, i32_w]
        rfl
      refine last_ (i := 14) (N := none) #[true, true, true, true, true, true, true, true, true, true, true, true, true, true, true] rfl rfl (by kernel_rfl) (by decide) (fun K hK => ?_)
      refine store_step (by rfl) rfl 39 (.tmp 5) (.tmp 39) rfl (w.heap.size + 1) 39 _ #[.bool m0, .bool m1, .bool m2, .bool m3, .int .i64 mpe, .int .u64 mpr, .int .i64 mce, .int .u64 mcr, .int .i64 mfe, .int .u64 mfr, .int .i64 (e + 1), .slice a1 N.length c1, .slice a2 lx.length c2] rfl rfl (blk_below BS.out HJ.out) rfl (by kernel_rfl) (by simp [Value.oneCell']) ?_
      intro wz hbk hgr
      have B9 := Aside0.mk hbk
      have HZ := Aside0.mk ((below_then HBR.out HBR.out.size HJ.out).grown hgr (below_then HBR.out HBR.out.size HJ.out).size (fun k hk => by cases hk; omega))
      have RZ1 := Aside0.mk (RB_over R1.out (blk_below BS.out HJ.out) (by decide) hgr)
      have RZ2 := Aside0.mk (RB_over R2.out (blk_below BS.out HJ.out) (by decide) hgr)
      have REz := Aside0.mk (RI_over (Kd.R_below RE.out HJ.out) (blk_below BS.out HJ.out) (by decide) hgr)
      have BMz := Aside0.mk (blk_grown (blk_below BM.out HJ.out) hgr (fun e => by injection e with e; omega))
      have BOz := Aside0.mk (blk_grown (blk_below BO.out HJ.out) hgr (fun e => by injection e with e; omega))
      clear hbk hgr
      refine hK.out _ _ ?_
      clear hK K
      refine done_ (by kernel_rfl) ?_
      go_wp2_with fail
      go_roundw
      case rel =>
        have hle_ := HLE.out
        have hlt_ := HLT.out
        have hwk : wrap64 ((k : Int) + 1) = ((k + 1 : Nat) : Int) := by unfold wrap64; omega
        refine ⟨k + 1, Nat.succ_le_of_lt HLT.out, by rw [hwk], ⟨m0, m1, m2, m3, mpe, mpr, mce, mcr, mfe, mfr, e + 1, a1, c1, N, a2, c2, List.replicate lx.length false, ?_, ?_⟩⟩
        · rw [HFO.out, HST.out]
          unfold advStep
          rw [HPL.out]
        · have hz := IN0.out.below HZ.out
          have q1 := Kd.R_reads' RZ1.out
          have q2 := Kd.R_reads' RZ2.out
          have l1 := HLX.out
          have l2 := HE.out
          refine ⟨HZ.out, ⟨hz.X, hz.lX, hz.nX, q1.2.2, q1.2.1, IN.out.lN, ?_, ?_, ?_, hz.ch, by omega, TyB.of_R RZ1.out, ?_⟩, BMz.out, ?_, BOz.out, REz.out, Or.inr (Kd.R_lower RZ1.out HBR.out.size), Or.inr ?_⟩
          · exact q2.2.2
          · rw [List.length_replicate]; exact q2.2.1
          · rw [List.length_replicate]; exact l1
          · rw [List.length_replicate]; exact TyB.of_R RZ2.out
          · rw [List.length_replicate]; exact B9.out
          · rw [List.length_replicate]; exact Kd.R_lower RZ2.out HBR.out.size
      case measure =>
        have hl_ := HLT.out
        have hle_ := HLE.out
        have hwk : wrap64 ((k : Int) + 1) = ((k + 1 : Nat) : Int) := by unfold wrap64; omega
        rw [hwk]
        simp only [intOf, Int.toNat_natCast]
        omega
    · have t0 : decide ((k : Int) < (es.length : Int)) = false := decide_eq_false (by omega)
      have hke : k = es.length := by omega
      subst hke
      rw [List.take_length] at HST
      have hs0 := blk_cell BS.out
      go_wp2_with (refine Block.store_block rfl rfl 39 (.tmp 8) (.tmp 41) rfl (w.heap.size + 1 + 1) 39 _ _ rfl rfl BO.out rfl (by kernel_rfl) (by simp [Value.oneCell']) ?_; intro w9 hbk hgr; have HZ := Aside0.mk (HBR.out.grown hgr HBR.out.size (fun k hk => by cases hk; omega)); have hc9 := blk_cell hbk; have HB9 := Aside0.mk (own2_over OB.out BO.out (by decide) hgr HZ.out); have HN9 := Aside0.mk (own2_over ON.out BO.out (by decide) hgr HZ.out); clear hgr hbk)
      refine bodyPost_ret (v := .agg #[.bool s0, .bool s1, .bool s2, .bool s3, .int .i64 pe, .int .u64 pr, .int .i64 ce, .int .u64 cr, .int .i64 fe, .int .u64 fr, .int .i64 ep, .slice AB B.length cB, .slice AN N.length cN]) ?_ rfl ⟨s0, s1, s2, s3, pe, pr, ce, cr, fe, fr, ep, AB, cB, B, AN, cN, N, rfl, by rw [← HADV.out]; exact HST.out, ?_, HZ.out⟩
      · simp [results, Try.results13, go_sem, hc9]
      · have hz := IN0.out.below HZ.out
        exact ⟨hz.X, hz.lX, hz.nX, HB9.out.1, IN.out.cB_, IN.out.lB, HN9.out.1, IN.out.cN_, IN.out.lN, hz.ch, IN.out.ep_, HB9.out.2, HN9.out.2⟩
end Go.Proofs.Ytiklbldanidfiaa.QL
namespace Go.Proofs.Ytiklbldanidfiaa.QL
open Go.RowKit Go.Proofs.YtiklbldanidfiaaW.PrintWords Go.Proofs.YtiklbldanidfiaaW.PrintLast Go.Proofs.YtiklbldanidfiaaW.PrintMore Go.Proofs.Ytiklbldanidfiaa.Own Go.Proofs.Ytiklbldanidfiaa.Justify
set_option linter.unusedVariables false
set_option linter.unusedSimpArgs false
set_option maxHeartbeats 8000000 in
set_option maxRecDepth 100000 in
theorem open2_at (AX : Option Addr) (cX : Nat) (lx : List Int) (sl bo r : Int) (w : World) (hlx : lx.length ≤ 17592186043904) :
    Calls Try.prog 12 #[.agg #[.slice AX lx.length cX, .int .i64 sl, .int .i64 bo], .int .u64 r] w fun x w' => ∃ a1 c1 a2 c2, x = .returned (.agg #[.bool false, .bool false, .bool false, .bool false, .int .i64 0, .int .u64 r, .int .i64 0, .int .u64 r, .int .i64 0, .int .u64 r, .int .i64 0, .slice a1 lx.length c1, .slice a2 lx.length c2]) ∧ Kd.R Kd.bool 4 w' w.heap.size (fun _ => True) (.slice a1 lx.length c1) (List.replicate lx.length false) ∧ Kd.R Kd.bool 4 w' w.heap.size (fun _ => True) (.slice a2 lx.length c2) (List.replicate lx.length false) ∧ (∀ k, (Value.slice a1 lx.length c1).ownBlock = some k → (Value.slice a2 lx.length c2).ownBlock = some k → False) ∧ Below w.heap.size w w' := by
  have HLX := Aside0.mk hlx
  clear hlx
  go_enter Try.func12, Try.ntmps12
  go_upto_region 2 with fail
  obtain ⟨wr, hwr⟩ : ∃ wr, wr = ((w.alloc (.cells #[.slice AX lx.length cX, .int .i64 sl, .int .i64 bo] 24)).alloc (.cells #[.bool false, .bool false, .bool false, .bool false, .int .i64 0, .int .u64 0, .int .i64 0, .int .u64 0, .int .i64 0, .int .u64 0, .int .i64 0, .slice none 0 0, .slice none 0 0] 39)).alloc (.cells #[.int .i64 0, .int .u64 r] 34) := ⟨_, rfl⟩
  have qb := Block.box3 w #[.slice AX lx.length cX, .int .i64 sl, .int .i64 bo] #[.bool false, .bool false, .bool false, .bool false, .int .i64 0, .int .u64 0, .int .i64 0, .int .u64 0, .int .i64 0, .int .u64 0, .int .i64 0, .slice none 0 0, .slice none 0 0] #[.int .i64 0, .int .u64 r] 24 39 34
  rw [← hwr] at qb
  have BM := Aside0.mk qb.1
  have BO := Aside0.mk qb.2.1
  have BP := Aside0.mk qb.2.2
  have HBR : Aside0 (Below w.heap.size w wr) := ⟨by rw [hwr]; exact below_alloc (below_alloc (below_alloc (Below.refl _ _) _) _) _⟩
  rw [← hwr]
  clear hwr qb
  refine start_ (n := 14) (S := fun w' => w'.cell? ⟨w.heap.size, 0, none⟩ = some (.slice AX lx.length cX) ∧ w'.cell? ⟨w.heap.size + 1 + 1, 0, none⟩ = some (.int .i64 0) ∧ w'.cell? ⟨w.heap.size + 1 + 1, 1, none⟩ = some (.int .u64 r)) (ds := [13]) #[false, false, false, false, false, false, false, false, false, false, false, false, false, false] (by kernel_rfl) rfl rfl ⟨(blk_cell BM.out 0), (blk_cell BP.out 0), (blk_cell BP.out 1)⟩ (fun hHeld => ?_)
  refine pure_ (i := 4) (N := some 12) (v := ?_) (a' := ?_) #[false, false, false, false, true, false, false, false, false, false, false, false, false, false] rfl rfl (by kernel_rfl) (fun _ _ _ h => h) (Or.inl ⟨by rfl, ?_⟩) ?_ ?_
  rotate_left
  · intro w'
    go_simp
    with_reducible rfl
  rotate_left
  · simp only [Act.put, List.setIfInBounds_toArray, List.set_cons_zero, List.set_cons_succ, i64_w, i32_w]
    rfl
  refine pure_ (i := 8) (N := some 16) (v := ?_) (a' := ?_) #[false, false, false, false, true, false, false, false, true, false, false, false, false, false] rfl rfl (by kernel_rfl) (fun _ _ _ h => h) (Or.inl ⟨by rfl, ?_⟩) ?_ ?_
  rotate_left
  · intro w'
    go_simp
    with_reducible rfl
  rotate_left
  · simp only [Act.put, List.setIfInBounds_toArray, List.set_cons_zero, List.set_cons_succ, i64_w, i32_w]
    rfl
  refine take_ (i := 0) (N := some 8) (v := ?_) (a' := ?_) #[true, false, false, false, true, false, false, false, true, false, false, false, false, false] rfl rfl (by kernel_rfl) (fun _ _ _ h => h) (Or.inl ⟨by rfl, ?_⟩) hHeld ?_ ?_
  rotate_left
  · rintro w' ⟨s0, s1, s2⟩
    go_simp
    with_reducible rfl
  rotate_left
  · simp only [Act.put, List.setIfInBounds_toArray, List.set_cons_zero, List.set_cons_succ, i64_w, i32_w]
    rfl
  refine take_ (i := 1) (N := some 9) (v := ?_) (a' := ?_) #[true, true, false, false, true, false, false, false, true, false, false, false, false, false] rfl rfl (by kernel_rfl) (fun _ _ _ h => h) (Or.inl ⟨by rfl, ?_⟩) hHeld ?_ ?_
  rotate_left
  · rintro w' ⟨s0, s1, s2⟩
    go_simp
    with_reducible rfl
  rotate_left
  · simp only [Act.put, List.setIfInBounds_toArray, List.set_cons_zero, List.set_cons_succ, i64_w, i32_w]
    rfl
  refine take_ (i := 2) (N := some 10) (v := ?_) (a' := ?_) #[true, true, true, false, true, false, false, false, true, false, false, false, false, false] rfl rfl (by kernel_rfl) (fun _ _ _ h => h) (Or.inl ⟨by rfl, ?_⟩) hHeld ?_ ?_
  rotate_left
  · rintro w' ⟨s0, s1, s2⟩
    go_simp
    with_reducible rfl
  rotate_left
  · simp only [Act.put, List.setIfInBounds_toArray, List.set_cons_zero, List.set_cons_succ, i64_w, i32_w]
    rfl
  refine pure_ (i := 3) (N := some 11) (v := ?_) (a' := ?_) #[true, true, true, true, true, false, false, false, true, false, false, false, false, false] rfl rfl (by kernel_rfl) (fun _ _ _ h => h) (Or.inl ⟨by rfl, ?_⟩) ?_ ?_
  rotate_left
  · intro w'
    go_simp
    with_reducible rfl
  rotate_left
  · simp only [Act.put, List.setIfInBounds_toArray, List.set_cons_zero, List.set_cons_succ, i64_w, i32_w]
    rfl
  refine take_ (i := 5) (N := some 13) (v := ?_) (a' := ?_) #[true, true, true, true, true, true, false, false, true, false, false, false, false, false] rfl rfl (by kernel_rfl) (fun _ _ _ h => h) (Or.inl ⟨by rfl, ?_⟩) hHeld ?_ ?_
  rotate_left
  · rintro w' ⟨s0, s1, s2⟩
    go_simp
    with_reducible rfl
  rotate_left
  · simp only [Act.put, List.setIfInBounds_toArray, List.set_cons_zero, List.set_cons_succ, i64_w, i32_w]
    rfl
  refine pure_ (i := 6) (N := some 14) (v := ?_) (a' := ?_) #[true, true, true, true, true, true, true, false, true, false, false, false, false, false] rfl rfl (by kernel_rfl) (fun _ _ _ h => h) (Or.inl ⟨by rfl, ?_⟩) ?_ ?_
  rotate_left
  · intro w'
    go_simp
    with_reducible rfl
  rotate_left
  · simp only [Act.put, List.setIfInBounds_toArray, List.set_cons_zero, List.set_cons_succ, i64_w, i32_w]
    rfl
  refine take_ (i := 9) (N := some 17) (v := ?_) (a' := ?_) #[true, true, true, true, true, true, true, false, true, true, false, false, false, false] rfl rfl (by kernel_rfl) (fun _ _ _ h => h) (Or.inl ⟨by rfl, ?_⟩) hHeld ?_ ?_
  rotate_left
  · rintro w' ⟨s0, s1, s2⟩
    go_simp
    with_reducible rfl
  rotate_left
  · simp only [Act.put, List.setIfInBounds_toArray, List.set_cons_zero, List.set_cons_succ, i64_w, i32_w]
    rfl
  refine pure_ (i := 10) (N := some 18) (v := ?_) (a' := ?_) #[true, true, true, true, true, true, true, false, true, true, true, false, false, false] rfl rfl (by kernel_rfl) (fun _ _ _ h => h) (Or.inl ⟨by rfl, ?_⟩) ?_ ?_
  rotate_left
  · intro w'
    go_simp
    with_reducible rfl
  rotate_left
  · simp only [Act.put, List.setIfInBounds_toArray, List.set_cons_zero, List.set_cons_succ, i64_w, i32_w]
    rfl
  refine join_ (σ := Value × Value) 2 #[true, true, true, true, true, true, true, true, true, true, true, true, false, false] (fun s_ => [(15, s_.1), (19, s_.2)]) (fun s_ w' => (w'.cell? ⟨w.heap.size, 0, none⟩ = some (.slice AX lx.length cX) ∧ w'.cell? ⟨w.heap.size + 1 + 1, 0, none⟩ = some (.int .i64 0) ∧ w'.cell? ⟨w.heap.size + 1 + 1, 1, none⟩ = some (.int .u64 r)) ∧ (∃ a c, s_.1 = .slice a lx.length c ∧ Kd.R Kd.bool 4 w' wr.heap.size (fun _ => True) (.slice a lx.length c) (List.replicate lx.length false)) ∧ (∃ a c, s_.2 = .slice a lx.length c ∧ Kd.R Kd.bool 4 w' wr.heap.size (fun _ => True) (.slice a lx.length c) (List.replicate lx.length false)) ∧ (∀ k, s_.1.ownBlock = some k → s_.2.ownBlock = some k → False) ∧ Below wr.heap.size wr w') ?_ ?_
  rotate_left
  · intro hCont
    refine two_ (i := 7) (j := 11) (Ni := some 15) (Nj := some 19) #[true, true, true, true, true, true, true, true, true, true, true, false, false, false] #[true, true, true, true, true, true, true, false, true, true, true, true, false, false] rfl rfl rfl rfl (by kernel_rfl) (by decide) (by decide) (fun K hK => ?_) (fun K hK => ?_)
    · skip
      refine makeB_step (base := wr.drew.heap.size) (w0 := wr.drew) (by rfl) rfl _ rfl lx.length rfl HLX.out (Below.refl _ _) (Nat.le_refl _) ?_
      intro a1 c1 wp1 ho hb hg_
      have HP1 := Aside0.mk (below_then (below_drew (Below.refl wr.heap.size wr)) (Nat.le_refl _) hb)
      have R1_1 := Aside0.mk (Kd.R_lower ho (Nat.le_refl _))
      clear ho hb hg_
      refine hK.out _ _ ⟨(pw_cell_below HP1.out (blk_cell BM.out 0)), (pw_cell_below HP1.out (blk_cell BP.out 0)), (pw_cell_below HP1.out (blk_cell BP.out 1))⟩ (fun hHeld => ?_)
      clear hK K
      refine norm_ (a' := ?_) ?_ ?_
      rotate_left
      · show Act.put _ (some 15) _ = _
        simp only [Act.put, List.setIfInBounds_toArray, List.set_cons_zero, List.set_cons_succ, i64_w, i32_w]
        rfl
      refine one_ (i := 11) (N := some 19) #[true, true, true, true, true, true, true, true, true, true, true, true, false, false] rfl rfl (by kernel_rfl) (by decide) (fun K hK => ?_)
      refine makeB_step (base := wp1.heap.size) (w0 := wp1) (by rfl) rfl _ rfl lx.length rfl HLX.out (Below.refl _ _) (Nat.le_refl _) ?_
      intro a2 c2 wp2 ho hb hg_
      have HP2 := Aside0.mk (below_then HP1.out HP1.out.size hb)
      have R2_2 := Aside0.mk (Kd.R_lower ho HP1.out.size)
      have NE : Aside0 (∀ k, (Value.slice a1 lx.length c1).ownBlock = some k → (Value.slice a2 lx.length c2).ownBlock = some k → False) := ⟨fun k h1 h2 => by have h3 := Kd.R_lt R1_1.out k h1; have h4 := Kd.R_base ho k h2; omega⟩
      have R1_2 := Aside0.mk (Kd.R_grown R1_1.out hg_ (fun _ _ => by simp))
      clear ho hb hg_
      refine hK.out _ _ ⟨(pw_cell_below HP2.out (blk_cell BM.out 0)), (pw_cell_below HP2.out (blk_cell BP.out 0)), (pw_cell_below HP2.out (blk_cell BP.out 1))⟩ (fun hHeld => ?_)
      clear hK K
      refine norm_ (a' := ?_) ?_ ?_
      rotate_left
      · show Act.put _ (some 19) _ = _
        simp only [Act.put, List.setIfInBounds_toArray, List.set_cons_zero, List.set_cons_succ, i64_w, i32_w]
        rfl
      exact norm_ (by simp only [putAll, Act.put, List.setIfInBounds_toArray, List.set_cons_zero, List.set_cons_succ]) (hCont (.slice a1 lx.length c1, .slice a2 lx.length c2) _ ⟨hHeld, ⟨a1, c1, rfl, R1_2.out⟩, ⟨a2, c2, rfl, R2_2.out⟩, NE.out, HP2.out⟩)
    · skip
      refine makeB_step (base := wr.drew.heap.size) (w0 := wr.drew) (by rfl) rfl _ rfl lx.length rfl HLX.out (Below.refl _ _) (Nat.le_refl _) ?_
      intro a2 c2 wp1 ho hb hg_
      have HP1 := Aside0.mk (below_then (below_drew (Below.refl wr.heap.size wr)) (Nat.le_refl _) hb)
      have R2_1 := Aside0.mk (Kd.R_lower ho (Nat.le_refl _))
      clear ho hb hg_
      refine hK.out _ _ ⟨(pw_cell_below HP1.out (blk_cell BM.out 0)), (pw_cell_below HP1.out (blk_cell BP.out 0)), (pw_cell_below HP1.out (blk_cell BP.out 1))⟩ (fun hHeld => ?_)
      clear hK K
      refine norm_ (a' := ?_) ?_ ?_
      rotate_left
      · show Act.put _ (some 19) _ = _
        simp only [Act.put, List.setIfInBounds_toArray, List.set_cons_zero, List.set_cons_succ, i64_w, i32_w]
        rfl
      refine one_ (i := 7) (N := some 15) #[true, true, true, true, true, true, true, true, true, true, true, true, false, false] rfl rfl (by kernel_rfl) (by decide) (fun K hK => ?_)
      refine makeB_step (base := wp1.heap.size) (w0 := wp1) (by rfl) rfl _ rfl lx.length rfl HLX.out (Below.refl _ _) (Nat.le_refl _) ?_
      intro a1 c1 wp2 ho hb hg_
      have HP2 := Aside0.mk (below_then HP1.out HP1.out.size hb)
      have R1_2 := Aside0.mk (Kd.R_lower ho HP1.out.size)
      have NE : Aside0 (∀ k, (Value.slice a1 lx.length c1).ownBlock = some k → (Value.slice a2 lx.length c2).ownBlock = some k → False) := ⟨fun k h1 h2 => by have h3 := Kd.R_lt R2_1.out k h2; have h4 := Kd.R_base ho k h1; omega⟩
      have R2_2 := Aside0.mk (Kd.R_grown R2_1.out hg_ (fun _ _ => by simp))
      clear ho hb hg_
      refine hK.out _ _ ⟨(pw_cell_below HP2.out (blk_cell BM.out 0)), (pw_cell_below HP2.out (blk_cell BP.out 0)), (pw_cell_below HP2.out (blk_cell BP.out 1))⟩ (fun hHeld => ?_)
      clear hK K
      refine norm_ (a' := ?_) ?_ ?_
      rotate_left
      · show Act.put _ (some 15) _ = _
        simp only [Act.put, List.setIfInBounds_toArray, List.set_cons_zero, List.set_cons_succ, i64_w, i32_w]
        rfl
      exact norm_ (by simp only [putAll, Act.put, List.setIfInBounds_toArray, List.set_cons_zero, List.set_cons_succ]) (hCont (.slice a1 lx.length c1, .slice a2 lx.length c2) _ ⟨hHeld, ⟨a1, c1, rfl, R1_2.out⟩, ⟨a2, c2, rfl, R2_2.out⟩, NE.out, HP2.out⟩)
  rintro ⟨vv1, vv2⟩ wj ⟨hS_, ⟨a1, c1, e1_, hr1⟩, ⟨a2, c2, e2_, hr2⟩, hne, hbj⟩
  simp only at e1_ e2_
  subst e1_ e2_
  have R1 := Aside0.mk hr1
  have R2 := Aside0.mk hr2
  have HJ := Aside0.mk hbj
  have NE := Aside0.mk hne
  clear hr1 hr2 hbj hne
  have hHeld : wj.cell? ⟨w.heap.size, 0, none⟩ = some (.slice AX lx.length cX) ∧ wj.cell? ⟨w.heap.size + 1 + 1, 0, none⟩ = some (.int .i64 0) ∧ wj.cell? ⟨w.heap.size + 1 + 1, 1, none⟩ = some (.int .u64 r) := hS_
  refine norm_ (a' := ?_) ?_ ?_
  rotate_left
  · simp only [putAll, Act.put, List.setIfInBounds_toArray, List.set_cons_zero, List.set_cons_succ]
    rfl
  refine pure_ (i := 12) (N := some 20) (v := ?_) (a' := ?_) #[true, true, true, true, true, true, true, true, true, true, true, true, true, false] rfl rfl (by kernel_rfl) (fun _ _ _ h => h) (Or.inl ⟨by rfl, ?_⟩) ?_ ?_
  rotate_left
  · intro w'
    go_simp
    with_reducible rfl
  rotate_left
  · simp only [Act.put, List.setIfInBounds_toArray, List.set_cons_zero, List.set_cons_succ, i64_w, i32_w]
    rfl
  refine last_ (i := 13) (N := none) #[true, true, true, true, true, true, true, true, true, true, true, true, true, true] rfl rfl (by kernel_rfl) (by decide) (fun K hK => ?_)
  refine store_step (by rfl) rfl 39 (.tmp 4) (.tmp 20) rfl (w.heap.size + 1) 39 _ #[.bool false, .bool false, .bool false, .bool false, .int .i64 0, .int .u64 r, .int .i64 0, .int .u64 r, .int .i64 0, .int .u64 r, .int .i64 0, .slice a1 lx.length c1, .slice a2 lx.length c2] rfl rfl (blk_below BO.out HJ.out) rfl (by kernel_rfl) (by simp [Value.oneCell']) ?_
  intro wz hbk hgr
  have B9 := Aside0.mk hbk
  have HZ := Aside0.mk ((below_then HBR.out HBR.out.size HJ.out).grown hgr (below_then HBR.out HBR.out.size HJ.out).size (fun k hk => by cases hk; omega))
  have RZ1 := Aside0.mk (RB_over R1.out (blk_below BO.out HJ.out) (by decide) hgr)
  have RZ2 := Aside0.mk (RB_over R2.out (blk_below BO.out HJ.out) (by decide) hgr)
  clear hbk hgr
  refine hK.out _ _ ?_
  clear hK K
  refine done_ (by kernel_rfl) ?_
  have hc9 := blk_cell B9.out
  go_wp2_with fail
  refine bodyPost_ret (v := .agg #[.bool false, .bool false, .bool false, .bool false, .int .i64 0, .int .u64 r, .int .i64 0, .int .u64 r, .int .i64 0, .int .u64 r, .int .i64 0, .slice a1 lx.length c1, .slice a2 lx.length c2]) ?_ rfl ⟨a1, c1, a2, c2, rfl, Kd.R_lower RZ1.out HBR.out.size, Kd.R_lower RZ2.out HBR.out.size, NE.out, HZ.out⟩
  simp [results, Try.results12, go_sem, hc9]
end Go.Proofs.Ytiklbldanidfiaa.QL
