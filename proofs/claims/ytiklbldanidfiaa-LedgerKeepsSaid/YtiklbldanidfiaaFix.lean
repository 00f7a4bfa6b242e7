/-
  The closure of the law LedgerKeeps of package psephoslaw10: a vote made to be one for the first epoch.
-/
import Derived.Test.YtiklbldanidfiaaPoint10
import Derived.Laws.EntriesVeiled
import Derived.Test.YtiklbldanidfiaaWEqStruct
import Derived.Test.YtiklbldanidfiaaQLx17
namespace Go.Proofs.Ytiklbldanidfiaa.QL
open Go.RowKit Go.Proofs.YtiklbldanidfiaaW.PrintWords Go.Proofs.YtiklbldanidfiaaW.PrintLast Go.Proofs.YtiklbldanidfiaaW.PrintMore Go.Proofs.Ytiklbldanidfiaa.Own Go.Proofs.Ytiklbldanidfiaa.Justify
set_option linter.unusedVariables false
set_option linter.unusedSimpArgs false
attribute [local go_sem] max2_is min2_is max_pair min_pair
attribute [local go_sem high] eqA34

/-- A row of numbers lies in a block of numbers. -/
def TyI (w : World) (A : Option Addr) (n : Nat) : Prop := 0 < n → ∃ ad cells, A = some ad ∧ w.heap[ad.block]? = some (.cells cells 3 (0, 0))
theorem TyI.below {w w' : World} {A : Option Addr} {n : Nat} (h : TyI w A n) (hb : Below w.heap.size w w') : TyI w' A n := fun hn => by
  obtain ⟨ad, cells, e, hc⟩ := h hn
  exact ⟨ad, cells, e, (hb.block _ (Array.getElem?_eq_some_iff.1 hc).1).trans hc⟩
theorem TyI.of_R {w : World} {base : Nat} {ok : Nat → Prop} {A : Option Addr} {n c : Nat} {xs : List Int} (h : Kd.R (Kd.int .i64) 3 w base ok (.slice A n c) xs) : TyI w A n := fun hn => by
  have hb := Kd.R_bound h
  obtain ⟨inner, ho⟩ := Kd.R_own h
  have hl := (Kd.R_reads' h).1
  rcases ho.2 with ⟨h1, h2⟩ | ⟨g, cap, cur, h1, h2⟩
  · omega
  · injection h1 with h1 _ _
    subst h1
    obtain ⟨_, _, _, q, hq, cells, hc⟩ := hb.1 g rfl
    simp only [Kd.int, Kd.scalar, Kd.E, List.mem_cons, List.not_mem_nil, or_false] at hq
    subst hq
    exact ⟨_, cells, rfl, hc⟩
theorem TyI.over {w w1 : World} {A : Option Addr} {n g e : Nat} {cs : Array Value} (h : TyI w A n) (hb : w.heap[g]? = some (.cells cs e (0, 0))) (he : e ≠ 3) (hg : w.grownBy w1 (some g)) : TyI w1 A n := fun hn => by
  obtain ⟨ad, cells, e1, hc⟩ := h hn
  refine ⟨ad, cells, e1, (hg.block _ (Array.getElem?_eq_some_iff.1 hc).1 (fun e2 => ?_)).trans hc⟩
  injection e2 with e2
  rw [e2, hb] at hc
  injection hc with hc
  injection hc with _ hc
  exact he hc
theorem CI_over {w w1 : World} {A : Option Addr} {g e : Nat} {xs : List Int} {cs : Array Value} (h : Kd.C (Kd.int .i64) w A xs.length xs) (ht : TyI w A xs.length) (hb : w.heap[g]? = some (.cells cs e (0, 0))) (he : e ≠ 3) (hg : w.grownBy w1 (some g)) : Kd.C (Kd.int .i64) w1 A xs.length xs := by
  refine Kd.C_keep (enc := Value.int .i64) (h1 := fun _ => rfl) (0 : Int) h (g := g) ⟨hg.size, fun i hi hne _ => hg.block i hi (fun e => hne (by injection e))⟩ (fun ad e1 hn e2 => ?_)
  obtain ⟨ad', cells, e3, hc⟩ := ht hn
  rw [e1] at e3
  injection e3 with e3
  subst e3
  rw [e2, hb] at hc
  injection hc with hc
  injection hc with _ hc
  exact he hc
/-- Cells stored over a part of a box, in a region that draws its order. -/
theorem storeAt_step {P : Program} {ops : Array Oper} {oi : Oper} {a : Act} {K : Act → World → Prop} {Q : Exit → Act → World → Prop} {W : World} (hw : Region.wanted oi (yielded ops a.tmps) = true) (hN : oi.dst = none) (t : TypeId) (p x : Operand) (ho : oi.op = .store t p x) (g o : Nat) (e : TypeId) (cur : Array Value) (seg : List Value) (u : Value)
    (haddr : a.eval p = .pointer (some ⟨g, o, none⟩)) (hx : a.eval x = u) (hu : u.cells.toList = seg) (hh : W.heap[g]? = some (.cells cur e (0, 0))) (hfit : o + seg.length ≤ cur.size) (ht : (P.info? t).map (·.size) = some seg.length) (h1 : ∀ q ∈ seg, q.oneCell' = true) (res : Array Value) (hres : cur.toList.take o ++ seg ++ cur.toList.drop (o + seg.length) = res.toList)
    (h : ∀ w1, w1.heap[g]? = some (.cells res e (0, 0)) → W.grownBy w1 (some g) → K a w1) : if Region.wanted oi (yielded ops a.tmps) = true then Oper.wp P oi a W K Q else K (a.put none undef) W := by
  have hrun := run_store_run (P := P) (w := W) (o := o) t u seg hh hu ht hfit h1
  have hs := setCells_same g seg o W
  have hr := setCells_row seg o W cur hh hfit
  rw [if_pos hw]
  unfold Oper.wp execOp
  simp only [ho, haddr, hx, Sem.run_bind, Sem.run_pure, Result.andThen_ok, hrun]
  show K (a.put oi.dst undef) _
  rw [hN]
  refine h _ ?_ ⟨hs.1, hs.2.1, hs.2.2.1, by rw [hs.2.2.2]; omega, fun k hk hne => setCells_far _ _ k (fun e => hne (by rw [e]))⟩
  obtain ⟨cur', h2, h3, h4⟩ := hr
  have : cur' = res := by
    apply Array.ext'
    rw [h4, hres]
  rwa [this] at h2
set_option maxHeartbeats 16000000 in
set_option maxRecDepth 100000 in
theorem fix_calls (AX : Option Addr) (cX : Nat) (lx : List Int) (sl bo : Int) (s : LS) (AB : Option Addr) (cB : Nat) (AN : Option Addr) (cN : Nat) (xb sb cb : Nat) (f : FuncId) (C : Array Value) (g : Int → Int) (vs vh vse vsr vte vtr : Int) (AW : Option Addr) (cW : Nat) (W : List Int) (k5 : Nat) (r1 r2 r3 r4 r5 r6 : Int) (r7 : List Int) (w : World) (hx : w.heap[xb]? = some (.cells #[.slice AX lx.length cX, .int .i64 sl, .int .i64 bo] 24 (0, 0))) (hs : w.heap[sb]? = some (.cells (stC s AB cB AN cN) 39 (0, 0))) (hc : w.heap[cb]? = some (.cells #[.func (.func f) #[] C] 29 (0, 0))) (hX : Kd.C (Kd.int .u64) w AX lx.length lx) (hcX : lx.length ≤ cX) (hch : ChainAt (.func (.func f) #[] C) g w) (hW : Kd.C (Kd.int .i64) w AW W.length W) (hcW : W.length ≤ cW) (hk : psephoslaw05_Make.f k5 lx sl bo vs vh vse vsr vte vtr W = some (r1, r2, r3, r4, r5, r6, r7)) :
    Calls Try.prog 22 #[.agg #[.int .i64 vs, .int .u64 vh, .int .i64 vse, .int .u64 vsr, .int .i64 vte, .int .u64 vtr, .slice AW W.length cW], .pointer (some ⟨xb, 0, none⟩), .pointer (some ⟨sb, 0, none⟩), .pointer (some ⟨cb, 0, none⟩)] w fun x w' => ∃ Av cv, x = .returned (.agg #[.int .i64 0, .int .u64 r2, .int .i64 s.j.ce, .int .u64 s.j.cr, .int .i64 0, .int .u64 (g (startOf 0 sl)), .slice Av r7.length cv]) ∧ Kd.C (Kd.int .i64) w' Av r7.length r7 ∧ r7.length ≤ cv ∧ TyI w' Av r7.length ∧ Below w.heap.size w w' := by
  have HX := Aside0.mk hx
  have HS := Aside0.mk hs
  have HCB := Aside0.mk hc
  have XC := Aside0.mk hX
  have HCX := Aside0.mk hcX
  have HCH := Aside0.mk hch
  have HW := Aside0.mk hW
  have HCW := Aside0.mk hcW
  have HK := Aside0.mk hk
  have hx0 := blk_cell (blk_alloc (blk_alloc hx (.cells #[.int .i64 vs, .int .u64 vh, .int .i64 vse, .int .u64 vsr, .int .i64 vte, .int .u64 vtr, .slice AW W.length cW] 43)) (.cells #[.int .i64 0, .int .u64 0, .int .i64 0, .int .u64 0, .int .i64 0, .int .u64 0, .slice none 0 0] 43))
  clear hx hs hc hX hcX hch hW hcW hk
  go_enter Try.func22, Try.ntmps22
  go_upto_region 2 with (first
    | (go_at_call 15; with_reducible refine (psephoslaw05_Make.calls k5 AX cX lx sl bo vs vh vse vsr vte vtr AW cW W r1 r2 r3 r4 r5 r6 r7 _ (Kd.C_below XC.out (below_alloc (below_alloc (Below.refl _ _) _) _)) HCX.out (Kd.C_below HW.out (below_alloc (below_alloc (Below.refl _ _) _) _)) HCW.out HK.out).mono ?_; rintro x w2 ⟨v6, rfl, hR, hb⟩; obtain ⟨Av, cv, rfl⟩ := Kd.R_slice hR; have HB2 := Aside0.mk (below_then (below_alloc (below_alloc (Below.refl w.heap.size w) _) _) (by simp; omega) hb); have VB2 := Aside0.mk (blk_below (blk_alloc (heap_alloc_new w (.cells #[.int .i64 vs, .int .u64 vh, .int .i64 vse, .int .u64 vsr, .int .i64 vte, .int .u64 vtr, .slice AW W.length cW] 43)) (.cells #[.int .i64 0, .int .u64 0, .int .i64 0, .int .u64 0, .int .i64 0, .int .u64 0, .slice none 0 0] 43)) hb); have RB2 : Aside0 (w2.heap[w.heap.size + 1]? = some (.cells #[.int .i64 0, .int .u64 0, .int .i64 0, .int .u64 0, .int .i64 0, .int .u64 0, .slice none 0 0] 43 (0, 0))) := ⟨blk_below (by have h := heap_alloc_new (w.alloc (.cells #[.int .i64 vs, .int .u64 vh, .int .i64 vse, .int .u64 vsr, .int .i64 vte, .int .u64 vtr, .slice AW W.length cW] 43)) (.cells #[.int .i64 0, .int .u64 0, .int .i64 0, .int .u64 0, .int .i64 0, .int .u64 0, .slice none 0 0] 43); simpa using h) hb⟩; have RW2 := Aside0.mk (Kd.R_lower hR (show w.heap.size ≤ _ by simp; omega)); clear hb hR)
    | (refine Block.store_block rfl rfl 43 (.tmp 4) (.tmp 8) rfl w.heap.size 43 _ _ rfl rfl VB2.out rfl (by kernel_rfl) (by simp [Value.oneCell']) ?_; intro w3 hbk hgr; have V3 := Aside0.mk hbk; have HB3 := Aside0.mk (HB2.out.grown hgr HB2.out.size (fun k hk => by cases hk; omega)); have RW3 := Aside0.mk (RI_over RW2.out VB2.out (by decide) hgr); have RB3 := Aside0.mk (blk_grown RB2.out hgr (fun e => by injection e with e; omega)); clear hbk hgr))
  clear hx0
  have HD := Aside0.mk (below_then HB3.out HB3.out.size (below_drew (Below.refl w3.heap.size w3)))
  have VD : Aside0 (w3.drew.heap[w.heap.size]? = some (.cells #[.int .i64 r1, .int .u64 r2, .int .i64 r3, .int .u64 r4, .int .i64 r5, .int .u64 r6, .slice Av r7.length cv] 43 (0, 0))) := ⟨V3.out⟩
  have RWD := Aside0.mk (Kd.R_below RW3.out (below_drew (Below.refl _ _)))
  have RSD : Aside0 (w3.drew.heap[w.heap.size + 1]? = some (.cells #[.int .i64 0, .int .u64 0, .int .i64 0, .int .u64 0, .int .i64 0, .int .u64 0, .slice none 0 0] 43 (0, 0))) := ⟨RB3.out⟩
  refine start_ (n := 12) (S := fun w' => w'.cell? ⟨sb, 6, none⟩ = some (.int .i64 s.j.ce) ∧ w'.cell? ⟨sb, 7, none⟩ = some (.int .u64 s.j.cr) ∧ w'.cell? ⟨xb, 0, none⟩ = some (.slice AX lx.length cX) ∧ w'.cell? ⟨xb, 1, none⟩ = some (.int .i64 sl) ∧ w'.cell? ⟨xb, 2, none⟩ = some (.int .i64 bo) ∧ w'.cell? ⟨cb, 0, none⟩ = some (.func (.func f) #[] C)) (ds := [11]) #[false, false, false, false, false, false, false, false, false, false, false, false] (by kernel_rfl) rfl rfl ⟨(pw_cell_below HD.out (blk_cell HS.out 6)), (pw_cell_below HD.out (blk_cell HS.out 7)), (pw_cell_below HD.out (blk_cell HX.out 0)), (pw_cell_below HD.out (blk_cell HX.out 1)), (pw_cell_below HD.out (blk_cell HX.out 2)), (pw_cell_below HD.out (blk_cell HCB.out 0))⟩ (fun hHeld => ?_)
  refine pure_ (i := 0) (N := some 9) (v := ?_) (a' := ?_) #[true, false, false, false, false, false, false, false, false, false, false, false] rfl rfl (by kernel_rfl) (fun _ _ _ h => h) (Or.inl ⟨by rfl, ?_⟩) ?_ ?_
  rotate_left
  · intro w'
    go_simp
    with_reducible rfl
  rotate_left
  · simp only [Act.put, List.setIfInBounds_toArray, List.set_cons_zero, List.set_cons_succ, i64_w, i32_w]
    rfl
  refine pure_ (i := 1) (N := some 10) (v := ?_) (a' := ?_) #[true, true, false, false, false, false, false, false, false, false, false, false] rfl rfl (by kernel_rfl) (fun _ _ _ h => h) (Or.inl ⟨by rfl, ?_⟩) ?_ ?_
  rotate_left
  · intro w'
    go_simp
    with_reducible rfl
  rotate_left
  · simp only [Act.put, List.setIfInBounds_toArray, List.set_cons_zero, List.set_cons_succ, i64_w, i32_w]
    rfl
  refine pure_ (i := 6) (N := some 15) (v := ?_) (a' := ?_) #[true, true, false, false, false, false, true, false, false, false, false, false] rfl rfl (by kernel_rfl) (fun _ _ _ h => h) (Or.inl ⟨by rfl, ?_⟩) ?_ ?_
  rotate_left
  · intro w'
    go_simp
    with_reducible rfl
  rotate_left
  · simp only [Act.put, List.setIfInBounds_toArray, List.set_cons_zero, List.set_cons_succ, i64_w, i32_w]
    rfl
  refine take_ (i := 2) (N := some 11) (v := ?_) (a' := ?_) #[true, true, true, false, false, false, true, false, false, false, false, false] rfl rfl (by kernel_rfl) (fun _ _ _ h => h) (Or.inl ⟨by rfl, ?_⟩) hHeld ?_ ?_
  rotate_left
  · rintro w' ⟨s0, s1, s2, s3, s4, s5⟩
    go_simp
    with_reducible rfl
  rotate_left
  · simp only [Act.put, List.setIfInBounds_toArray, List.set_cons_zero, List.set_cons_succ, i64_w, i32_w]
    rfl
  refine take_ (i := 3) (N := some 12) (v := ?_) (a' := ?_) #[true, true, true, true, false, false, true, false, false, false, false, false] rfl rfl (by kernel_rfl) (fun _ _ _ h => h) (Or.inl ⟨by rfl, ?_⟩) hHeld ?_ ?_
  rotate_left
  · rintro w' ⟨s0, s1, s2, s3, s4, s5⟩
    go_simp
    with_reducible rfl
  rotate_left
  · simp only [Act.put, List.setIfInBounds_toArray, List.set_cons_zero, List.set_cons_succ, i64_w, i32_w]
    rfl
  refine take_ (i := 4) (N := some 13) (v := ?_) (a' := ?_) #[true, true, true, true, true, false, true, false, false, false, false, false] rfl rfl (by kernel_rfl) (fun _ _ _ h => h) (Or.inl ⟨by rfl, ?_⟩) hHeld ?_ ?_
  rotate_left
  · rintro w' ⟨s0, s1, s2, s3, s4, s5⟩
    go_simp
    with_reducible rfl
  rotate_left
  · simp only [Act.put, List.setIfInBounds_toArray, List.set_cons_zero, List.set_cons_succ, i64_w, i32_w]
    rfl
  refine one_ (i := 5) (N := some 14) #[true, true, true, true, true, true, true, false, false, false, false, false] rfl rfl (by kernel_rfl) (by decide) (fun K hK => ?_)
  refine goes_ Try.func16 (by kernel_rfl) rfl #[.agg #[.slice AX lx.length cX, .int .i64 sl, .int .i64 bo], .int .i64 0, .func (.func f) #[] C] (by rfl) rfl rfl (by simp only [List.map_toArray, List.map_cons, List.map_nil]; rfl) ?_
  with_reducible refine (point10_calls AX lx.length cX sl bo 0 (.func (.func f) #[] C) g _ (HCH.out.below HD.out) (by omega)).mono ?_
  rintro x wq1 ⟨rfl, hb⟩
  refine ⟨_, rfl, ?_⟩
  have HQ1 := Aside0.mk (below_then HD.out HD.out.size hb)
  have V1 := Aside0.mk (blk_below VD.out hb)
  have RW1 := Aside0.mk (Kd.R_below RWD.out hb)
  have RS1 := Aside0.mk (blk_below RSD.out hb)
  clear hb
  refine hK.out _ _ ⟨(pw_cell_below HQ1.out (blk_cell HS.out 6)), (pw_cell_below HQ1.out (blk_cell HS.out 7)), (pw_cell_below HQ1.out (blk_cell HX.out 0)), (pw_cell_below HQ1.out (blk_cell HX.out 1)), (pw_cell_below HQ1.out (blk_cell HX.out 2)), (pw_cell_below HQ1.out (blk_cell HCB.out 0))⟩ (fun hHeld => ?_)
  clear hK K
  refine norm_ (a' := ?_) ?_ ?_
  rotate_left
  · show Act.put _ (some 14) _ = _
    simp only [Act.put, List.setIfInBounds_toArray, List.set_cons_zero, List.set_cons_succ, i64_w, i32_w]
    rfl
  refine one_ (i := 7) (N := none) #[true, true, true, true, true, true, true, true, false, false, false, false] rfl rfl (by kernel_rfl) (by decide) (fun K hK => ?_)
  refine storeAt_step (by rfl) rfl 3 _ _ rfl w.heap.size 0 43 #[.int .i64 r1, .int .u64 r2, .int .i64 r3, .int .u64 r4, .int .i64 r5, .int .u64 r6, .slice Av r7.length cv] [.int .i64 0] (.int .i64 0) rfl rfl rfl V1.out (by simp) (by kernel_rfl) (by simp [Value.oneCell']) #[.int .i64 0, .int .u64 r2, .int .i64 r3, .int .u64 r4, .int .i64 r5, .int .u64 r6, .slice Av r7.length cv] rfl ?_
  intro wq2 hbk hgr
  have V2 := Aside0.mk hbk
  have HQ2 := Aside0.mk (HQ1.out.grown hgr HQ1.out.size (fun k hk => by cases hk; omega))
  have RW2 := Aside0.mk (RI_over RW1.out V1.out (by decide) hgr)
  have RS2 := Aside0.mk (blk_grown RS1.out hgr (fun e => by injection e with e; omega))
  clear hbk hgr
  refine hK.out _ _ ⟨(pw_cell_below HQ2.out (blk_cell HS.out 6)), (pw_cell_below HQ2.out (blk_cell HS.out 7)), (pw_cell_below HQ2.out (blk_cell HX.out 0)), (pw_cell_below HQ2.out (blk_cell HX.out 1)), (pw_cell_below HQ2.out (blk_cell HX.out 2)), (pw_cell_below HQ2.out (blk_cell HCB.out 0))⟩ (fun hHeld => ?_)
  clear hK K
  refine pure_ (i := 8) (N := some 16) (v := ?_) (a' := ?_) #[true, true, true, true, true, true, true, true, true, false, false, false] rfl rfl (by kernel_rfl) (fun _ _ _ h => h) (Or.inl ⟨by rfl, ?_⟩) ?_ ?_
  rotate_left
  · intro w'
    go_simp
    with_reducible rfl
  rotate_left
  · simp only [Act.put, List.setIfInBounds_toArray, List.set_cons_zero, List.set_cons_succ, i64_w, i32_w]
    rfl
  refine one_ (i := 9) (N := none) #[true, true, true, true, true, true, true, true, true, true, false, false] rfl rfl (by kernel_rfl) (by decide) (fun K hK => ?_)
  refine storeAt_step (by rfl) rfl 34 _ _ rfl w.heap.size 2 43 #[.int .i64 0, .int .u64 r2, .int .i64 r3, .int .u64 r4, .int .i64 r5, .int .u64 r6, .slice Av r7.length cv] [.int .i64 s.j.ce, .int .u64 s.j.cr] (.agg #[.int .i64 s.j.ce, .int .u64 s.j.cr]) rfl rfl rfl V2.out (by simp) (by kernel_rfl) (by simp [Value.oneCell']) #[.int .i64 0, .int .u64 r2, .int .i64 s.j.ce, .int .u64 s.j.cr, .int .i64 r5, .int .u64 r6, .slice Av r7.length cv] rfl ?_
  intro wq3 hbk hgr
  have V3 := Aside0.mk hbk
  have HQ3 := Aside0.mk (HQ2.out.grown hgr HQ2.out.size (fun k hk => by cases hk; omega))
  have RW3 := Aside0.mk (RI_over RW2.out V2.out (by decide) hgr)
  have RS3 := Aside0.mk (blk_grown RS2.out hgr (fun e => by injection e with e; omega))
  clear hbk hgr
  refine hK.out _ _ ⟨(pw_cell_below HQ3.out (blk_cell HS.out 6)), (pw_cell_below HQ3.out (blk_cell HS.out 7)), (pw_cell_below HQ3.out (blk_cell HX.out 0)), (pw_cell_below HQ3.out (blk_cell HX.out 1)), (pw_cell_below HQ3.out (blk_cell HX.out 2)), (pw_cell_below HQ3.out (blk_cell HCB.out 0))⟩ (fun hHeld => ?_)
  clear hK K
  refine pure_ (i := 10) (N := some 17) (v := ?_) (a' := ?_) #[true, true, true, true, true, true, true, true, true, true, true, false] rfl rfl (by kernel_rfl) (fun _ _ _ h => h) (Or.inl ⟨by rfl, ?_⟩) ?_ ?_
  rotate_left
  · intro w'
    go_simp
    with_reducible rfl
  rotate_left
  · simp only [Act.put, List.setIfInBounds_toArray, List.set_cons_zero, List.set_cons_succ, i64_w, i32_w]
    rfl
  refine last_ (i := 11) (N := none) #[true, true, true, true, true, true, true, true, true, true, true, true] rfl rfl (by kernel_rfl) (by decide) (fun K hK => ?_)
  refine storeAt_step (by rfl) rfl 34 _ _ rfl w.heap.size 4 43 #[.int .i64 0, .int .u64 r2, .int .i64 s.j.ce, .int .u64 s.j.cr, .int .i64 r5, .int .u64 r6, .slice Av r7.length cv] [.int .i64 0, .int .u64 (g (startOf 0 sl))] (.agg #[.int .i64 0, .int .u64 (g (startOf 0 sl))]) rfl rfl rfl V3.out (by simp) (by kernel_rfl) (by simp [Value.oneCell']) #[.int .i64 0, .int .u64 r2, .int .i64 s.j.ce, .int .u64 s.j.cr, .int .i64 0, .int .u64 (g (startOf 0 sl)), .slice Av r7.length cv] rfl ?_
  intro wq4 hbk hgr
  have V4 := Aside0.mk hbk
  have HQ4 := Aside0.mk (HQ3.out.grown hgr HQ3.out.size (fun k hk => by cases hk; omega))
  have RW4 := Aside0.mk (RI_over RW3.out V3.out (by decide) hgr)
  have RS4 := Aside0.mk (blk_grown RS3.out hgr (fun e => by injection e with e; omega))
  clear hbk hgr
  refine hK.out _ _ ?_
  clear hK K
  refine done_ (by kernel_rfl) ?_
  have hv := blk_cell V4.out
  go_wp2_with (refine Block.store_block rfl rfl 43 (.tmp 5) (.tmp 18) rfl (w.heap.size + 1) 43 _ _ rfl rfl RS4.out rfl (by kernel_rfl) (by simp [Value.oneCell']) ?_; intro w9 hbk hgr; have HZ := Aside0.mk (HQ4.out.grown hgr HQ4.out.size (fun k hk => by cases hk; omega)); have RZ := Aside0.mk (RI_over RW4.out RS4.out (by decide) hgr); have hc9 := blk_cell hbk; clear hbk hgr)
  have q := Kd.R_reads' RZ.out
  refine bodyPost_ret (v := .agg #[.int .i64 0, .int .u64 r2, .int .i64 s.j.ce, .int .u64 s.j.cr, .int .i64 0, .int .u64 (g (startOf 0 sl)), .slice Av r7.length cv]) ?_ rfl ⟨Av, cv, rfl, q.2.2, q.2.1, TyI.of_R RZ.out, HZ.out⟩
  simp [results, Try.results22, go_sem, hc9]
end Go.Proofs.Ytiklbldanidfiaa.QL
