/-
  The law LedgerScript of package psephoslaw10: epochs that end, and votes that count, are what the document says, deed by deed.
-/
import Derived.Test.YtiklbldanidfiaaScriptP
import Derived.Test.YtiklbldanidfiaaSame
import Derived.Test.YtiklbldanidfiaaActsL
import Derived.Deep.DeepCutAuto
import Derived.Test.YtiklbldanidfiaaWEqStruct
import Derived.Test.YtiklbldanidfiaaQLx5
import Derived.Test.YtiklbldanidfiaaQLx12
import Derived.Test.YtiklbldanidfiaaQLx17
namespace Go.Proofs.Ytiklbldanidfiaa.QL
open Go.RowKit Go.Proofs.YtiklbldanidfiaaW.PrintWords Go.Proofs.YtiklbldanidfiaaW.PrintLast Go.Proofs.YtiklbldanidfiaaW.PrintMore Go.Proofs.Ytiklbldanidfiaa.Own Go.Proofs.Ytiklbldanidfiaa.Justify Go.Proofs.Ytiklbldanidfiaa.QLV
set_option linter.unusedVariables false
set_option linter.unusedSimpArgs false
attribute [local go_sem] max2_is min2_is max_pair min_pair
attribute [local go_sem high] eqA34 eqA36

set_option maxHeartbeats 16000000 in
set_option maxRecDepth 100000 in
theorem ledgerScript_law (A0 : Option Addr) (n0 c0 : Nat) (z0 : List Int) (sl bo : Int) (n : Int) (A1 : Option Addr) (n1 c1 : Nat) (fa : Nat → Open.DV) (w : World) (h0 : Kd.C (Kd.int .u64) w A0 n0 z0) (hc0 : n0 ≤ c0) (hn0 : n0 ≤ 17592186043904) (hs : -9223372036854775808 ≤ sl ∧ sl ≤ 9223372036854775807) (hb : -9223372036854775808 ≤ bo ∧ bo ≤ 9223372036854775807) (hp : ∀ z ∈ z0, 0 ≤ z) (h1 : 0 ≤ n ∧ n ≤ 255) (ha : Open.ActsArg w A1 n1 c1 fa) :
    Calls Try.prog 3 #[.agg #[.slice A0 n0 c0, .int .i64 sl, .int .i64 bo], .int .u8 n, .slice A1 n1 c1] w fun x w' => x = .returned (.bool true) ∧ Below w.heap.size w w' := by
  have HN := Aside0.mk h1
  have HA := Aside0.mk ha
  have hl0 : z0.length = n0 := h0.1
  subst hl0
  obtain ⟨kr, hkr⟩ := (make3_f z0 sl bo hn0 hb.1 hb.2).rounds
  have HKR := Aside0.mk hkr
  have H0 := Aside0.mk h0
  have HP := Aside0.mk (mkBal_mem z0 hp)
  have HLN := Aside0.mk (mkBal_len z0)
  have HSL := Aside0.mk (mkSlots_in sl)
  clear hkr h0 hp hs hb h1 ha
  go_enter Try.func3, Try.ntmps3
  go_upto_region 4 with (first
    | (go_at_call 9; refine (awake_calls _).mono ?_; rintro x w1 ⟨rfl, hb⟩; have HB1 := Aside0.mk (below_then (below_alloc (Below.refl w.heap.size w) _) (by simp) hb); have HBK := Aside0.mk (blk_below (heap_alloc_new w _) hb); have hcg := blk_cell HBK.out; clear hb)
    | (go_at_call 10; refine (psephoslaw03_Make.calls kr A0 c0 z0 sl bo _ _ _ _ (Kd.C_below H0.out HB1.out) hc0 HKR.out).mono ?_; rintro x w2 ⟨v0, rfl, hR, hb⟩; have HB2 := Aside0.mk (below_then HB1.out HB1.out.size hb); obtain ⟨AX, cX, rfl, hcx, hC⟩ := Kd.R_reads hR; have HX := Aside0.mk hC; have HCX := Aside0.mk hcx; clear hb hR hC hcx))
  obtain ⟨lx, hlx⟩ : ∃ l, mkBal z0 = l := ⟨_, rfl⟩
  obtain ⟨sx, hsx⟩ : ∃ l, mkSlots sl = l := ⟨_, rfl⟩
  obtain ⟨bx, hbx⟩ : ∃ l, mkBoost bo = l := ⟨_, rfl⟩
  rw [hlx] at HP HLN HX HCX
  rw [hsx] at HSL
  rw [hlx, hsx, hbx]
  have HNX : Aside0 (lx.length ≤ 17592186043904) := ⟨by have := HLN.out; omega⟩
  obtain ⟨wr, hwr⟩ : ∃ wr, wr = w2.alloc (.cells #[.slice AX lx.length cX, .int .i64 sx, .int .i64 bx] 24) := ⟨_, rfl⟩
  obtain ⟨xb, hxb⟩ : ∃ g, w2.heap.size = g := ⟨_, rfl⟩
  have BM : Aside0 (wr.heap[xb]? = some (.cells #[.slice AX lx.length cX, .int .i64 sx, .int .i64 bx] 24 (0, 0))) := ⟨by rw [hwr, ← hxb]; exact heap_alloc_new _ _⟩
  have HBR : Aside0 (Below w.heap.size w wr) := ⟨by rw [hwr]; exact below_alloc HB2.out _⟩
  have XN : Aside0 (Kd.C (Kd.int .u64) wr AX lx.length lx) := ⟨Kd.C_below HX.out (by rw [hwr]; exact below_alloc (Below.refl _ _) _)⟩
  have XB : Aside0 (xb < wr.heap.size) := ⟨(Array.getElem?_eq_some_iff.1 BM.out).1⟩
  rw [← hwr, hxb]
  clear hwr hxb hlx hsx hbx HX HB1 HBK hcg HKR
  have hm0 := blk_cell BM.out
  go_upto_region 9 with (first
    | (go_at_call 11; refine (Chain_calls n HN.out _).mono ?_; rintro x w3 ⟨v, rfl, hch, hb⟩; have CH3 := Aside0.mk hch; have HB3 := Aside0.mk (below_then HBR.out HBR.out.size hb); have BM3 := Aside0.mk (blk_below BM.out hb); have XN3 := Aside0.mk (Kd.C_below XN.out hb); have hm3 := blk_cell BM3.out; have XB3 : Aside0 (xb < w3.heap.size) := ⟨(Array.getElem?_eq_some_iff.1 BM3.out).1⟩; clear hch hb hm0)
    | (go_at_call 12; with_reducible refine (open_calls AX cX lx sx bx 7 _ HNX.out).mono ?_; rintro x w4 ⟨AB, cB, AN, cN, rfl, hr, hb⟩; simp only [stC, openS, List.length_replicate]; have HO := Aside0.mk hb; have RW := Aside0.mk hr; have BM4 := Aside0.mk (blk_below BM3.out hb); have G4 := Aside0.mk (heap_alloc_new w4 (.cells #[.bool false, .bool false, .bool false, .bool false, .int .i64 0, .int .u64 7, .int .i64 0, .int .u64 7, .int .i64 0, .int .u64 7, .int .i64 0, .slice AB lx.length cB, .slice AN lx.length cN] 39)); have hg4 := blk_cell G4.out; have hm4 := blk_cell (blk_alloc BM4.out (.cells #[.bool false, .bool false, .bool false, .bool false, .int .i64 0, .int .u64 7, .int .i64 0, .int .u64 7, .int .i64 0, .int .u64 7, .int .i64 0, .slice AB lx.length cB, .slice AN lx.length cN] 39)) 0; clear hr hb hm3))
  have CN3 : Aside0 (CIn AX cX lx v (chainOf n) w3) := ⟨⟨XN3.out, HCX.out, HNX.out, CH3.out⟩⟩
  obtain ⟨w5, hw5⟩ : ∃ x, x = w4.alloc (.cells #[.bool false, .bool false, .bool false, .bool false, .int .i64 0, .int .u64 7, .int .i64 0, .int .u64 7, .int .i64 0, .int .u64 7, .int .i64 0, .slice AB lx.length cB, .slice AN lx.length cN] 39) := ⟨_, rfl⟩
  have H35 : Aside0 (Below w3.heap.size w3 w5) := ⟨by rw [hw5]; exact below_alloc HO.out _⟩
  have BM5 := Aside0.mk (blk_below BM3.out H35.out)
  have S5 : Aside0 (w5.heap[w4.heap.size]? = some (.cells #[.bool false, .bool false, .bool false, .bool false, .int .i64 0, .int .u64 7, .int .i64 0, .int .u64 7, .int .i64 0, .int .u64 7, .int .i64 0, .slice AB lx.length cB, .slice AN lx.length cN] 39 (0, 0))) := ⟨by rw [hw5]; exact G4.out⟩
  have SI5 : Aside0 (SIn AX cX lx (openS 7 lx.length) AB cB AN cN v (chainOf n) w5) := ⟨by
    have e1 : (openS 7 lx.length).bf.length = lx.length := List.length_replicate
    have e2 : (openS 7 lx.length).nw.length = lx.length := List.length_replicate
    have hx := RW.out.sin (CN3.out.below HO.out) (by rw [e1]; exact HNX.out) (by rw [e2]; exact HNX.out) (by simp [openS])
    exact hx.below (by rw [hw5]; exact below_alloc (Below.refl _ _) _)⟩
  have LS5 : Aside0 (w3.heap.size ≤ w4.heap.size ∧ w4.heap.size < w5.heap.size) := ⟨by rw [hw5]; exact ⟨HO.out.size, by simp⟩⟩
  rw [← hw5]
  obtain ⟨sb, hsb⟩ : ∃ g, w4.heap.size = g := ⟨_, rfl⟩
  rw [hsb] at S5 LS5
  rw [hsb]
  clear hsb hw5 hg4 hm4 RW HO BM4 G4
  refine start_ (n := 15) (S := fun w' => w'.cell? ⟨xb, 0, none⟩ = some (.slice AX lx.length cX)) (ds := [14]) #[false, false, false, false, false, false, false, false, false, false, false, false, false, false, false] (by kernel_rfl) rfl rfl ((blk_cell BM5.out 0)) (fun hHeld => ?_)
  refine pure_ (i := 0) (N := some 65) (v := ?_) (a' := ?_) #[true, false, false, false, false, false, false, false, false, false, false, false, false, false, false] rfl rfl (by kernel_rfl) (fun _ _ _ h => h) (Or.inl ⟨by rfl, ?_⟩) ?_ ?_
  rotate_left
  · intro w'
    go_simp
    with_reducible rfl
  rotate_left
  · simp only [Act.put, List.setIfInBounds_toArray, List.set_cons_zero, List.set_cons_succ, i64_w, i32_w]
    rfl
  refine pure_ (i := 1) (N := some 66) (v := ?_) (a' := ?_) #[true, true, false, false, false, false, false, false, false, false, false, false, false, false, false] rfl rfl (by kernel_rfl) (fun _ _ _ h => h) (Or.inl ⟨by rfl, ?_⟩) ?_ ?_
  rotate_left
  · intro w'
    go_simp
    with_reducible rfl
  rotate_left
  · simp only [Act.put, List.setIfInBounds_toArray, List.set_cons_zero, List.set_cons_succ, i64_w, i32_w]
    rfl
  refine pure_ (i := 2) (N := some 67) (v := ?_) (a' := ?_) #[true, true, true, false, false, false, false, false, false, false, false, false, false, false, false] rfl rfl (by kernel_rfl) (fun _ _ _ h => h) (Or.inl ⟨by rfl, ?_⟩) ?_ ?_
  rotate_left
  · intro w'
    go_simp
    with_reducible rfl
  rotate_left
  · simp only [Act.put, List.setIfInBounds_toArray, List.set_cons_zero, List.set_cons_succ, i64_w, i32_w]
    rfl
  refine pure_ (i := 3) (N := some 68) (v := ?_) (a' := ?_) #[true, true, true, true, false, false, false, false, false, false, false, false, false, false, false] rfl rfl (by kernel_rfl) (fun _ _ _ h => h) (Or.inl ⟨by rfl, ?_⟩) ?_ ?_
  rotate_left
  · intro w'
    go_simp
    with_reducible rfl
  rotate_left
  · simp only [Act.put, List.setIfInBounds_toArray, List.set_cons_zero, List.set_cons_succ, i64_w, i32_w]
    rfl
  refine pure_ (i := 4) (N := some 69) (v := ?_) (a' := ?_) #[true, true, true, true, true, false, false, false, false, false, false, false, false, false, false] rfl rfl (by kernel_rfl) (fun _ _ _ h => h) (Or.inl ⟨by rfl, ?_⟩) ?_ ?_
  rotate_left
  · intro w'
    go_simp
    with_reducible rfl
  rotate_left
  · simp only [Act.put, List.setIfInBounds_toArray, List.set_cons_zero, List.set_cons_succ, i64_w, i32_w]
    rfl
  refine pure_ (i := 8) (N := some 73) (v := ?_) (a' := ?_) #[true, true, true, true, true, false, false, false, true, false, false, false, false, false, false] rfl rfl (by kernel_rfl) (fun _ _ _ h => h) (Or.inl ⟨by rfl, ?_⟩) ?_ ?_
  rotate_left
  · intro w'
    go_simp
    with_reducible rfl
  rotate_left
  · simp only [Act.put, List.setIfInBounds_toArray, List.set_cons_zero, List.set_cons_succ, i64_w, i32_w]
    rfl
  refine take_ (i := 5) (N := some 70) (v := ?_) (a' := ?_) #[true, true, true, true, true, true, false, false, true, false, false, false, false, false, false] rfl rfl (by kernel_rfl) (fun _ _ _ h => h) (Or.inl ⟨by rfl, ?_⟩) hHeld ?_ ?_
  rotate_left
  · intro w' s0
    go_simp
    with_reducible rfl
  rotate_left
  · simp only [Act.put, List.setIfInBounds_toArray, List.set_cons_zero, List.set_cons_succ, i64_w, i32_w]
    rfl
  refine pure_ (i := 6) (N := some 71) (v := ?_) (a' := ?_) #[true, true, true, true, true, true, true, false, true, false, false, false, false, false, false] rfl rfl (by kernel_rfl) (fun _ _ _ h => h) (Or.inl ⟨by rfl, ?_⟩) ?_ ?_
  rotate_left
  · intro w'
    go_simp
    with_reducible rfl
  rotate_left
  · simp only [Act.put, List.setIfInBounds_toArray, List.set_cons_zero, List.set_cons_succ, i64_w, i32_w]
    rfl
  refine take_ (i := 9) (N := some 74) (v := ?_) (a' := ?_) #[true, true, true, true, true, true, true, false, true, true, false, false, false, false, false] rfl rfl (by kernel_rfl) (fun _ _ _ h => h) (Or.inl ⟨by rfl, ?_⟩) hHeld ?_ ?_
  rotate_left
  · intro w' s0
    go_simp
    with_reducible rfl
  rotate_left
  · simp only [Act.put, List.setIfInBounds_toArray, List.set_cons_zero, List.set_cons_succ, i64_w, i32_w]
    rfl
  refine pure_ (i := 10) (N := some 75) (v := ?_) (a' := ?_) #[true, true, true, true, true, true, true, false, true, true, true, false, false, false, false] rfl rfl (by kernel_rfl) (fun _ _ _ h => h) (Or.inl ⟨by rfl, ?_⟩) ?_ ?_
  rotate_left
  · intro w'
    go_simp
    with_reducible rfl
  rotate_left
  · simp only [Act.put, List.setIfInBounds_toArray, List.set_cons_zero, List.set_cons_succ, i64_w, i32_w]
    rfl
  refine join_ (σ := Value × Value × Value) 1 #[true, true, true, true, true, true, true, true, true, true, true, true, true, true, false] (fun s_ => [(72, s_.1), (76, s_.2.1), (11, s_.2.2), (77, .agg #[.bool false, .bool false, .bool false, .bool false, .int .i64 0, .int .u64 7, .int .i64 0, .int .u64 7, .int .i64 0, .int .u64 7, .int .i64 0, s_.1, s_.2.1])]) (fun s_ w' => (w'.cell? ⟨xb, 0, none⟩ = some (.slice AX lx.length cX)) ∧ (∃ D1 d1 D2 d2 wb, s_ = (.slice D1 lx.length d1, .slice D2 lx.length d2, .pointer (some ⟨wb, 0, none⟩)) ∧ (Kd.R Kd.bool 4 w' w5.heap.size (fun _ => True) (.slice D1 lx.length d1) (List.replicate lx.length false)) ∧ (Kd.R Kd.bool 4 w' w5.heap.size (fun _ => True) (.slice D2 lx.length d2) (List.replicate lx.length false)) ∧ (w'.heap[wb]? = some (.cells #[.bool false, .bool false, .bool false, .bool false, .int .i64 0, .int .u64 0, .int .i64 0, .int .u64 0, .int .i64 0, .int .u64 0, .int .i64 0, .slice none 0 0, .slice none 0 0] 39 (0, 0))) ∧ (w5.heap.size ≤ wb)) ∧ Below w5.heap.size w5 w') ?_ ?_
  rotate_left
  · intro hCont
    refine three_ (i := 7) (j := 11) (k := 13) (Ni := some 72) (Nj := some 76) (Nk := some 11) #[true, true, true, true, true, true, true, true, true, true, true, false, false, false, false] #[true, true, true, true, true, true, true, false, true, true, true, true, false, false, false] #[true, true, true, true, true, true, true, false, true, true, true, false, false, true, false] rfl rfl rfl rfl rfl rfl (by kernel_rfl) (by decide) (by decide) (by decide) (fun K hK => ?_) (fun K hK => ?_) (fun K hK => ?_)
    · skip
      refine makeB_step (base := w5.drew.heap.size) (w0 := w5.drew) (by rfl) rfl _ rfl lx.length rfl HNX.out (Below.refl _ _) (Nat.le_refl _) ?_
      intro D1 d1 wq1 ho hb hg_
      have h_R1 := Kd.R_lower ho (Nat.le_refl _)
      clear ho hg_
      have HQ1 := Aside0.mk (below_then (below_drew (Below.refl w5.heap.size w5)) (Nat.le_refl _) hb)
      have R1_1 := Aside0.mk h_R1
      clear hb h_R1
      refine hK.out _ _ ((pw_cell_below HQ1.out (blk_cell BM5.out 0))) (fun hHeld => ?_)
      clear hK K
      refine norm_ (a' := ?_) ?_ ?_
      rotate_left
      · show Act.put _ (some 72) _ = _
        simp only [Act.put, List.setIfInBounds_toArray, List.set_cons_zero, List.set_cons_succ, i64_w, i32_w]
        rfl
      refine two_ (i := 11) (j := 13) (Ni := some 76) (Nj := some 11) #[true, true, true, true, true, true, true, true, true, true, true, true, false, false, false] #[true, true, true, true, true, true, true, true, true, true, true, false, false, true, false] rfl rfl rfl rfl (by kernel_rfl) (by decide) (by decide) (fun K hK => ?_) (fun K hK => ?_)
      · skip
        refine makeB_step (base := wq1.heap.size) (w0 := wq1) (by rfl) rfl _ rfl lx.length rfl HNX.out (Below.refl _ _) (Nat.le_refl _) ?_
        intro D2 d2 wq2 ho hb hg_
        have h_R2 := Kd.R_lower ho HQ1.out.size
        clear ho hg_
        have HQ2 := Aside0.mk (below_then HQ1.out HQ1.out.size hb)
        have R2_2 := Aside0.mk h_R2
        have R1_2 := Aside0.mk (Kd.R_below R1_1.out hb)
        clear hb h_R2
        refine hK.out _ _ ((pw_cell_below HQ2.out (blk_cell BM5.out 0))) (fun hHeld => ?_)
        clear hK K
        refine norm_ (a' := ?_) ?_ ?_
        rotate_left
        · show Act.put _ (some 76) _ = _
          simp only [Act.put, List.setIfInBounds_toArray, List.set_cons_zero, List.set_cons_succ, i64_w, i32_w]
          rfl
        refine pure_ (i := 12) (N := some 77) (v := ?_) (a' := ?_) #[true, true, true, true, true, true, true, true, true, true, true, true, true, false, false] rfl rfl (by kernel_rfl) (fun _ _ _ h => h) (Or.inl ⟨by rfl, ?_⟩) ?_ ?_
        rotate_left
        · intro w'
          go_simp
          with_reducible rfl
        rotate_left
        · simp only [Act.put, List.setIfInBounds_toArray, List.set_cons_zero, List.set_cons_succ, i64_w, i32_w]
          rfl
        refine one_ (i := 13) (N := some 11) #[true, true, true, true, true, true, true, true, true, true, true, true, true, true, false] rfl rfl (by kernel_rfl) (by decide) (fun K hK => ?_)
        refine alloc_step (base := wq2.heap.size) (w0 := wq2) 39 #[.bool false, .bool false, .bool false, .bool false, .int .i64 0, .int .u64 0, .int .i64 0, .int .u64 0, .int .i64 0, .int .u64 0, .int .i64 0, .slice none 0 0, .slice none 0 0] (by rfl) rfl rfl (by kernel_rfl) (Below.refl _ _) (Nat.le_refl _) ?_
        intro wb wq3 h_GW hge hb hg_
        have h_GEGW : w5.heap.size ≤ wb := Nat.le_trans HQ2.out.size hge
        have hnew := hge
        clear hge hg_
        have HQ3 := Aside0.mk (below_then HQ2.out HQ2.out.size hb)
        have GW_3 := Aside0.mk h_GW
        have GEGW_3 := Aside0.mk h_GEGW
        have R1_3 := Aside0.mk (Kd.R_below R1_2.out hb)
        have R2_3 := Aside0.mk (Kd.R_below R2_2.out hb)
        clear hnew
        clear hb h_GW h_GEGW
        refine hK.out _ _ ((pw_cell_below HQ3.out (blk_cell BM5.out 0))) (fun hHeld => ?_)
        clear hK K
        refine norm_ (a' := ?_) ?_ ?_
        rotate_left
        · show Act.put _ (some 11) _ = _
          simp only [Act.put, List.setIfInBounds_toArray, List.set_cons_zero, List.set_cons_succ, i64_w, i32_w]
          rfl
        exact norm_ (by simp only [putAll, Act.put, List.setIfInBounds_toArray, List.set_cons_zero, List.set_cons_succ]) (hCont (.slice D1 lx.length d1, .slice D2 lx.length d2, .pointer (some ⟨wb, 0, none⟩)) _ ⟨hHeld, ⟨D1, d1, D2, d2, wb, rfl, R1_3.out, R2_3.out, GW_3.out, GEGW_3.out⟩, HQ3.out⟩)
      · skip
        refine alloc_step (base := wq1.heap.size) (w0 := wq1) 39 #[.bool false, .bool false, .bool false, .bool false, .int .i64 0, .int .u64 0, .int .i64 0, .int .u64 0, .int .i64 0, .int .u64 0, .int .i64 0, .slice none 0 0, .slice none 0 0] (by rfl) rfl rfl (by kernel_rfl) (Below.refl _ _) (Nat.le_refl _) ?_
        intro wb wq2 h_GW hge hb hg_
        have h_GEGW : w5.heap.size ≤ wb := Nat.le_trans HQ1.out.size hge
        have hnew := hge
        clear hge hg_
        have HQ2 := Aside0.mk (below_then HQ1.out HQ1.out.size hb)
        have GW_2 := Aside0.mk h_GW
        have GEGW_2 := Aside0.mk h_GEGW
        have R1_2 := Aside0.mk (Kd.R_below R1_1.out hb)
        clear hnew
        clear hb h_GW h_GEGW
        refine hK.out _ _ ((pw_cell_below HQ2.out (blk_cell BM5.out 0))) (fun hHeld => ?_)
        clear hK K
        refine norm_ (a' := ?_) ?_ ?_
        rotate_left
        · show Act.put _ (some 11) _ = _
          simp only [Act.put, List.setIfInBounds_toArray, List.set_cons_zero, List.set_cons_succ, i64_w, i32_w]
          rfl
        refine one_ (i := 11) (N := some 76) #[true, true, true, true, true, true, true, true, true, true, true, true, false, true, false] rfl rfl (by kernel_rfl) (by decide) (fun K hK => ?_)
        refine makeB_step (base := wq2.heap.size) (w0 := wq2) (by rfl) rfl _ rfl lx.length rfl HNX.out (Below.refl _ _) (Nat.le_refl _) ?_
        intro D2 d2 wq3 ho hb hg_
        have h_R2 := Kd.R_lower ho HQ2.out.size
        clear ho hg_
        have HQ3 := Aside0.mk (below_then HQ2.out HQ2.out.size hb)
        have R2_3 := Aside0.mk h_R2
        have R1_3 := Aside0.mk (Kd.R_below R1_2.out hb)
        have GW_3 := Aside0.mk (blk_below GW_2.out hb)
        have GEGW_3 := Aside0.mk (GEGW_2.out)
        clear hb h_R2
        refine hK.out _ _ ((pw_cell_below HQ3.out (blk_cell BM5.out 0))) (fun hHeld => ?_)
        clear hK K
        refine norm_ (a' := ?_) ?_ ?_
        rotate_left
        · show Act.put _ (some 76) _ = _
          simp only [Act.put, List.setIfInBounds_toArray, List.set_cons_zero, List.set_cons_succ, i64_w, i32_w]
          rfl
        refine pure_ (i := 12) (N := some 77) (v := ?_) (a' := ?_) #[true, true, true, true, true, true, true, true, true, true, true, true, true, true, false] rfl rfl (by kernel_rfl) (fun _ _ _ h => h) (Or.inl ⟨by rfl, ?_⟩) ?_ ?_
        rotate_left
        · intro w'
          go_simp
          with_reducible rfl
        rotate_left
        · simp only [Act.put, List.setIfInBounds_toArray, List.set_cons_zero, List.set_cons_succ, i64_w, i32_w]
          rfl
        exact norm_ (by simp only [putAll, Act.put, List.setIfInBounds_toArray, List.set_cons_zero, List.set_cons_succ]) (hCont (.slice D1 lx.length d1, .slice D2 lx.length d2, .pointer (some ⟨wb, 0, none⟩)) _ ⟨hHeld, ⟨D1, d1, D2, d2, wb, rfl, R1_3.out, R2_3.out, GW_3.out, GEGW_3.out⟩, HQ3.out⟩)
    · skip
      refine makeB_step (base := w5.drew.heap.size) (w0 := w5.drew) (by rfl) rfl _ rfl lx.length rfl HNX.out (Below.refl _ _) (Nat.le_refl _) ?_
      intro D2 d2 wq1 ho hb hg_
      have h_R2 := Kd.R_lower ho (Nat.le_refl _)
      clear ho hg_
      have HQ1 := Aside0.mk (below_then (below_drew (Below.refl w5.heap.size w5)) (Nat.le_refl _) hb)
      have R2_1 := Aside0.mk h_R2
      clear hb h_R2
      refine hK.out _ _ ((pw_cell_below HQ1.out (blk_cell BM5.out 0))) (fun hHeld => ?_)
      clear hK K
      refine norm_ (a' := ?_) ?_ ?_
      rotate_left
      · show Act.put _ (some 76) _ = _
        simp only [Act.put, List.setIfInBounds_toArray, List.set_cons_zero, List.set_cons_succ, i64_w, i32_w]
        rfl
      refine two_ (i := 7) (j := 13) (Ni := some 72) (Nj := some 11) #[true, true, true, true, true, true, true, true, true, true, true, true, false, false, false] #[true, true, true, true, true, true, true, false, true, true, true, true, false, true, false] rfl rfl rfl rfl (by kernel_rfl) (by decide) (by decide) (fun K hK => ?_) (fun K hK => ?_)
      · skip
        refine makeB_step (base := wq1.heap.size) (w0 := wq1) (by rfl) rfl _ rfl lx.length rfl HNX.out (Below.refl _ _) (Nat.le_refl _) ?_
        intro D1 d1 wq2 ho hb hg_
        have h_R1 := Kd.R_lower ho HQ1.out.size
        clear ho hg_
        have HQ2 := Aside0.mk (below_then HQ1.out HQ1.out.size hb)
        have R1_2 := Aside0.mk h_R1
        have R2_2 := Aside0.mk (Kd.R_below R2_1.out hb)
        clear hb h_R1
        refine hK.out _ _ ((pw_cell_below HQ2.out (blk_cell BM5.out 0))) (fun hHeld => ?_)
        clear hK K
        refine norm_ (a' := ?_) ?_ ?_
        rotate_left
        · show Act.put _ (some 72) _ = _
          simp only [Act.put, List.setIfInBounds_toArray, List.set_cons_zero, List.set_cons_succ, i64_w, i32_w]
          rfl
        refine pure_ (i := 12) (N := some 77) (v := ?_) (a' := ?_) #[true, true, true, true, true, true, true, true, true, true, true, true, true, false, false] rfl rfl (by kernel_rfl) (fun _ _ _ h => h) (Or.inl ⟨by rfl, ?_⟩) ?_ ?_
        rotate_left
        · intro w'
          go_simp
          with_reducible rfl
        rotate_left
        · simp only [Act.put, List.setIfInBounds_toArray, List.set_cons_zero, List.set_cons_succ, i64_w, i32_w]
          rfl
        refine one_ (i := 13) (N := some 11) #[true, true, true, true, true, true, true, true, true, true, true, true, true, true, false] rfl rfl (by kernel_rfl) (by decide) (fun K hK => ?_)
        refine alloc_step (base := wq2.heap.size) (w0 := wq2) 39 #[.bool false, .bool false, .bool false, .bool false, .int .i64 0, .int .u64 0, .int .i64 0, .int .u64 0, .int .i64 0, .int .u64 0, .int .i64 0, .slice none 0 0, .slice none 0 0] (by rfl) rfl rfl (by kernel_rfl) (Below.refl _ _) (Nat.le_refl _) ?_
        intro wb wq3 h_GW hge hb hg_
        have h_GEGW : w5.heap.size ≤ wb := Nat.le_trans HQ2.out.size hge
        have hnew := hge
        clear hge hg_
        have HQ3 := Aside0.mk (below_then HQ2.out HQ2.out.size hb)
        have GW_3 := Aside0.mk h_GW
        have GEGW_3 := Aside0.mk h_GEGW
        have R1_3 := Aside0.mk (Kd.R_below R1_2.out hb)
        have R2_3 := Aside0.mk (Kd.R_below R2_2.out hb)
        clear hnew
        clear hb h_GW h_GEGW
        refine hK.out _ _ ((pw_cell_below HQ3.out (blk_cell BM5.out 0))) (fun hHeld => ?_)
        clear hK K
        refine norm_ (a' := ?_) ?_ ?_
        rotate_left
        · show Act.put _ (some 11) _ = _
          simp only [Act.put, List.setIfInBounds_toArray, List.set_cons_zero, List.set_cons_succ, i64_w, i32_w]
          rfl
        exact norm_ (by simp only [putAll, Act.put, List.setIfInBounds_toArray, List.set_cons_zero, List.set_cons_succ]) (hCont (.slice D1 lx.length d1, .slice D2 lx.length d2, .pointer (some ⟨wb, 0, none⟩)) _ ⟨hHeld, ⟨D1, d1, D2, d2, wb, rfl, R1_3.out, R2_3.out, GW_3.out, GEGW_3.out⟩, HQ3.out⟩)
      · skip
        refine alloc_step (base := wq1.heap.size) (w0 := wq1) 39 #[.bool false, .bool false, .bool false, .bool false, .int .i64 0, .int .u64 0, .int .i64 0, .int .u64 0, .int .i64 0, .int .u64 0, .int .i64 0, .slice none 0 0, .slice none 0 0] (by rfl) rfl rfl (by kernel_rfl) (Below.refl _ _) (Nat.le_refl _) ?_
        intro wb wq2 h_GW hge hb hg_
        have h_GEGW : w5.heap.size ≤ wb := Nat.le_trans HQ1.out.size hge
        have hnew := hge
        clear hge hg_
        have HQ2 := Aside0.mk (below_then HQ1.out HQ1.out.size hb)
        have GW_2 := Aside0.mk h_GW
        have GEGW_2 := Aside0.mk h_GEGW
        have R2_2 := Aside0.mk (Kd.R_below R2_1.out hb)
        clear hnew
        clear hb h_GW h_GEGW
        refine hK.out _ _ ((pw_cell_below HQ2.out (blk_cell BM5.out 0))) (fun hHeld => ?_)
        clear hK K
        refine norm_ (a' := ?_) ?_ ?_
        rotate_left
        · show Act.put _ (some 11) _ = _
          simp only [Act.put, List.setIfInBounds_toArray, List.set_cons_zero, List.set_cons_succ, i64_w, i32_w]
          rfl
        refine one_ (i := 7) (N := some 72) #[true, true, true, true, true, true, true, true, true, true, true, true, false, true, false] rfl rfl (by kernel_rfl) (by decide) (fun K hK => ?_)
        refine makeB_step (base := wq2.heap.size) (w0 := wq2) (by rfl) rfl _ rfl lx.length rfl HNX.out (Below.refl _ _) (Nat.le_refl _) ?_
        intro D1 d1 wq3 ho hb hg_
        have h_R1 := Kd.R_lower ho HQ2.out.size
        clear ho hg_
        have HQ3 := Aside0.mk (below_then HQ2.out HQ2.out.size hb)
        have R1_3 := Aside0.mk h_R1
        have R2_3 := Aside0.mk (Kd.R_below R2_2.out hb)
        have GW_3 := Aside0.mk (blk_below GW_2.out hb)
        have GEGW_3 := Aside0.mk (GEGW_2.out)
        clear hb h_R1
        refine hK.out _ _ ((pw_cell_below HQ3.out (blk_cell BM5.out 0))) (fun hHeld => ?_)
        clear hK K
        refine norm_ (a' := ?_) ?_ ?_
        rotate_left
        · show Act.put _ (some 72) _ = _
          simp only [Act.put, List.setIfInBounds_toArray, List.set_cons_zero, List.set_cons_succ, i64_w, i32_w]
          rfl
        refine pure_ (i := 12) (N := some 77) (v := ?_) (a' := ?_) #[true, true, true, true, true, true, true, true, true, true, true, true, true, true, false] rfl rfl (by kernel_rfl) (fun _ _ _ h => h) (Or.inl ⟨by rfl, ?_⟩) ?_ ?_
        rotate_left
        · intro w'
          go_simp
          with_reducible rfl
        rotate_left
        · simp only [Act.put, List.setIfInBounds_toArray, List.set_cons_zero, List.set_cons_succ, i64_w, i32_w]
          rfl
        exact norm_ (by simp only [putAll, Act.put, List.setIfInBounds_toArray, List.set_cons_zero, List.set_cons_succ]) (hCont (.slice D1 lx.length d1, .slice D2 lx.length d2, .pointer (some ⟨wb, 0, none⟩)) _ ⟨hHeld, ⟨D1, d1, D2, d2, wb, rfl, R1_3.out, R2_3.out, GW_3.out, GEGW_3.out⟩, HQ3.out⟩)
    · skip
      refine alloc_step (base := w5.drew.heap.size) (w0 := w5.drew) 39 #[.bool false, .bool false, .bool false, .bool false, .int .i64 0, .int .u64 0, .int .i64 0, .int .u64 0, .int .i64 0, .int .u64 0, .int .i64 0, .slice none 0 0, .slice none 0 0] (by rfl) rfl rfl (by kernel_rfl) (Below.refl _ _) (Nat.le_refl _) ?_
      intro wb wq1 h_GW hge hb hg_
      have h_GEGW : w5.heap.size ≤ wb := Nat.le_trans (below_drew (Below.refl w5.heap.size w5)).size hge
      have hnew := hge
      clear hge hg_
      have HQ1 := Aside0.mk (below_then (below_drew (Below.refl w5.heap.size w5)) (Nat.le_refl _) hb)
      have GW_1 := Aside0.mk h_GW
      have GEGW_1 := Aside0.mk h_GEGW
      clear hnew
      clear hb h_GW h_GEGW
      refine hK.out _ _ ((pw_cell_below HQ1.out (blk_cell BM5.out 0))) (fun hHeld => ?_)
      clear hK K
      refine norm_ (a' := ?_) ?_ ?_
      rotate_left
      · show Act.put _ (some 11) _ = _
        simp only [Act.put, List.setIfInBounds_toArray, List.set_cons_zero, List.set_cons_succ, i64_w, i32_w]
        rfl
      refine two_ (i := 7) (j := 11) (Ni := some 72) (Nj := some 76) #[true, true, true, true, true, true, true, true, true, true, true, false, false, true, false] #[true, true, true, true, true, true, true, false, true, true, true, true, false, true, false] rfl rfl rfl rfl (by kernel_rfl) (by decide) (by decide) (fun K hK => ?_) (fun K hK => ?_)
      · skip
        refine makeB_step (base := wq1.heap.size) (w0 := wq1) (by rfl) rfl _ rfl lx.length rfl HNX.out (Below.refl _ _) (Nat.le_refl _) ?_
        intro D1 d1 wq2 ho hb hg_
        have h_R1 := Kd.R_lower ho HQ1.out.size
        clear ho hg_
        have HQ2 := Aside0.mk (below_then HQ1.out HQ1.out.size hb)
        have R1_2 := Aside0.mk h_R1
        have GW_2 := Aside0.mk (blk_below GW_1.out hb)
        have GEGW_2 := Aside0.mk (GEGW_1.out)
        clear hb h_R1
        refine hK.out _ _ ((pw_cell_below HQ2.out (blk_cell BM5.out 0))) (fun hHeld => ?_)
        clear hK K
        refine norm_ (a' := ?_) ?_ ?_
        rotate_left
        · show Act.put _ (some 72) _ = _
          simp only [Act.put, List.setIfInBounds_toArray, List.set_cons_zero, List.set_cons_succ, i64_w, i32_w]
          rfl
        refine one_ (i := 11) (N := some 76) #[true, true, true, true, true, true, true, true, true, true, true, true, false, true, false] rfl rfl (by kernel_rfl) (by decide) (fun K hK => ?_)
        refine makeB_step (base := wq2.heap.size) (w0 := wq2) (by rfl) rfl _ rfl lx.length rfl HNX.out (Below.refl _ _) (Nat.le_refl _) ?_
        intro D2 d2 wq3 ho hb hg_
        have h_R2 := Kd.R_lower ho HQ2.out.size
        clear ho hg_
        have HQ3 := Aside0.mk (below_then HQ2.out HQ2.out.size hb)
        have R2_3 := Aside0.mk h_R2
        have R1_3 := Aside0.mk (Kd.R_below R1_2.out hb)
        have GW_3 := Aside0.mk (blk_below GW_2.out hb)
        have GEGW_3 := Aside0.mk (GEGW_2.out)
        clear hb h_R2
        refine hK.out _ _ ((pw_cell_below HQ3.out (blk_cell BM5.out 0))) (fun hHeld => ?_)
        clear hK K
        refine norm_ (a' := ?_) ?_ ?_
        rotate_left
        · show Act.put _ (some 76) _ = _
          simp only [Act.put, List.setIfInBounds_toArray, List.set_cons_zero, List.set_cons_succ, i64_w, i32_w]
          rfl
        refine pure_ (i := 12) (N := some 77) (v := ?_) (a' := ?_) #[true, true, true, true, true, true, true, true, true, true, true, true, true, true, false] rfl rfl (by kernel_rfl) (fun _ _ _ h => h) (Or.inl ⟨by rfl, ?_⟩) ?_ ?_
        rotate_left
        · intro w'
          go_simp
          with_reducible rfl
        rotate_left
        · simp only [Act.put, List.setIfInBounds_toArray, List.set_cons_zero, List.set_cons_succ, i64_w, i32_w]
          rfl
        exact norm_ (by simp only [putAll, Act.put, List.setIfInBounds_toArray, List.set_cons_zero, List.set_cons_succ]) (hCont (.slice D1 lx.length d1, .slice D2 lx.length d2, .pointer (some ⟨wb, 0, none⟩)) _ ⟨hHeld, ⟨D1, d1, D2, d2, wb, rfl, R1_3.out, R2_3.out, GW_3.out, GEGW_3.out⟩, HQ3.out⟩)
      · skip
        refine makeB_step (base := wq1.heap.size) (w0 := wq1) (by rfl) rfl _ rfl lx.length rfl HNX.out (Below.refl _ _) (Nat.le_refl _) ?_
        intro D2 d2 wq2 ho hb hg_
        have h_R2 := Kd.R_lower ho HQ1.out.size
        clear ho hg_
        have HQ2 := Aside0.mk (below_then HQ1.out HQ1.out.size hb)
        have R2_2 := Aside0.mk h_R2
        have GW_2 := Aside0.mk (blk_below GW_1.out hb)
        have GEGW_2 := Aside0.mk (GEGW_1.out)
        clear hb h_R2
        refine hK.out _ _ ((pw_cell_below HQ2.out (blk_cell BM5.out 0))) (fun hHeld => ?_)
        clear hK K
        refine norm_ (a' := ?_) ?_ ?_
        rotate_left
        · show Act.put _ (some 76) _ = _
          simp only [Act.put, List.setIfInBounds_toArray, List.set_cons_zero, List.set_cons_succ, i64_w, i32_w]
          rfl
        refine one_ (i := 7) (N := some 72) #[true, true, true, true, true, true, true, true, true, true, true, true, false, true, false] rfl rfl (by kernel_rfl) (by decide) (fun K hK => ?_)
        refine makeB_step (base := wq2.heap.size) (w0 := wq2) (by rfl) rfl _ rfl lx.length rfl HNX.out (Below.refl _ _) (Nat.le_refl _) ?_
        intro D1 d1 wq3 ho hb hg_
        have h_R1 := Kd.R_lower ho HQ2.out.size
        clear ho hg_
        have HQ3 := Aside0.mk (below_then HQ2.out HQ2.out.size hb)
        have R1_3 := Aside0.mk h_R1
        have R2_3 := Aside0.mk (Kd.R_below R2_2.out hb)
        have GW_3 := Aside0.mk (blk_below GW_2.out hb)
        have GEGW_3 := Aside0.mk (GEGW_2.out)
        clear hb h_R1
        refine hK.out _ _ ((pw_cell_below HQ3.out (blk_cell BM5.out 0))) (fun hHeld => ?_)
        clear hK K
        refine norm_ (a' := ?_) ?_ ?_
        rotate_left
        · show Act.put _ (some 72) _ = _
          simp only [Act.put, List.setIfInBounds_toArray, List.set_cons_zero, List.set_cons_succ, i64_w, i32_w]
          rfl
        refine pure_ (i := 12) (N := some 77) (v := ?_) (a' := ?_) #[true, true, true, true, true, true, true, true, true, true, true, true, true, true, false] rfl rfl (by kernel_rfl) (fun _ _ _ h => h) (Or.inl ⟨by rfl, ?_⟩) ?_ ?_
        rotate_left
        · intro w'
          go_simp
          with_reducible rfl
        rotate_left
        · simp only [Act.put, List.setIfInBounds_toArray, List.set_cons_zero, List.set_cons_succ, i64_w, i32_w]
          rfl
        exact norm_ (by simp only [putAll, Act.put, List.setIfInBounds_toArray, List.set_cons_zero, List.set_cons_succ]) (hCont (.slice D1 lx.length d1, .slice D2 lx.length d2, .pointer (some ⟨wb, 0, none⟩)) _ ⟨hHeld, ⟨D1, d1, D2, d2, wb, rfl, R1_3.out, R2_3.out, GW_3.out, GEGW_3.out⟩, HQ3.out⟩)
  rintro s_ wj ⟨hS_, ⟨D1, d1, D2, d2, wb, rfl, h_R1, h_R2, h_GW, h_GEGW⟩, hbj⟩
  have R1 := Aside0.mk h_R1
  have R2 := Aside0.mk h_R2
  have GW := Aside0.mk h_GW
  have GEGW := Aside0.mk h_GEGW
  have HJ := Aside0.mk hbj
  clear hbj h_R1 h_R2 h_GW h_GEGW
  have hHeld : wj.cell? ⟨xb, 0, none⟩ = some (.slice AX lx.length cX) := hS_
  refine norm_ (a' := ?_) ?_ ?_
  rotate_left
  · simp only [putAll, Act.put, List.setIfInBounds_toArray, List.set_cons_zero, List.set_cons_succ]
    rfl
  refine last_ (i := 14) (N := none) #[true, true, true, true, true, true, true, true, true, true, true, true, true, true, true] rfl rfl (by kernel_rfl) (by decide) (fun K hK => ?_)
  refine store_step (by rfl) rfl 39 (.tmp 11) (.tmp 77) rfl wb 39 _ #[.bool false, .bool false, .bool false, .bool false, .int .i64 0, .int .u64 7, .int .i64 0, .int .u64 7, .int .i64 0, .int .u64 7, .int .i64 0, .slice D1 lx.length d1, .slice D2 lx.length d2] rfl rfl GW.out rfl (by kernel_rfl) (by simp [Value.oneCell']) ?_
  intro w6 hbk hgr
  have W6 := Aside0.mk hbk
  have HJ6 := Aside0.mk (HJ.out.grown hgr HJ.out.size (fun k hk => by cases hk; exact GEGW.out))
  have RZ1 := Aside0.mk (RB_over R1.out GW.out (by decide) hgr)
  have RZ2 := Aside0.mk (RB_over R2.out GW.out (by decide) hgr)
  clear hbk hgr
  refine hK.out _ _ ?_
  clear hK K
  refine done_ (by kernel_rfl) ?_
  have SC6 : Aside0 (ScIn w3 sb wb AX cX lx v (chainOf n) (openS 7 lx.length) (openS 7 lx.length) AB cB AN cN D1 d1 D2 d2 w6) := ⟨by
    have e1 : (openS 7 lx.length).bf.length = lx.length := List.length_replicate
    have e2 : (openS 7 lx.length).nw.length = lx.length := List.length_replicate
    have hs : w6.heap[sb]? = some (.cells (stC (openS 7 lx.length) AB cB AN cN) 39 (0, 0)) := by
      rw [blk_below S5.out HJ6.out]
      simp only [stC, e1, e2]
      rfl
    have hw : w6.heap[wb]? = some (.cells (stC (openS 7 lx.length) D1 d1 D2 d2) 39 (0, 0)) := by
      rw [W6.out]
      simp only [stC, e1, e2]
      rfl
    have h36 := below_then H35.out H35.out.size HJ6.out
    have l1 := GEGW.out
    have l2 := LS5.out
    exact ⟨h36, hs, hw, SI5.out.below HJ6.out, sin_of_rows (CN3.out.below h36) (by rw [e1]; exact RZ1.out) (by rw [e2]; exact RZ2.out) (by rw [e1]; exact HNX.out) (by rw [e2]; exact HNX.out) (by simp [openS]), CN3.out, l2.1, by omega, by omega⟩⟩
  have OK6 : Aside0 (ScOk lx.length sx (openS 7 lx.length) 0) := ⟨⟨by simp [openS], by simp [openS], by simp [openS, epOf, mx], by omega, List.length_replicate, List.length_replicate⟩⟩
  clear S5 SI5 RZ1 RZ2 W6 HJ6 GW GEGW R1 R2 HJ BM5 LS5 H35 XN3 CH3 hHeld
  have HAC : Aside0 (n1 ≤ 9223372036854775807) := ⟨by have := HA.out.le; have := HA.out.cap; omega⟩
  go_wp2_with fail
  go_loopg [10, 80] n1 (fun gk v10 v80 wr => ∃ (k : Nat) (slot : Int) (st : LS) (A : Option Addr) (a : Nat) (B : Option Addr) (b : Nat) (C : Option Addr) (c : Nat) (D : Option Addr) (d : Nat), k ≤ n1 ∧ gk = n1 - k ∧ v80 = .int .i64 k ∧ v10 = .int .i64 slot ∧ Aside0 (ScOk lx.length sx st slot) ∧ Aside0 (ScIn w3 sb wb AX cX lx v (chainOf n) st st A a B b C c D d wr))
  case atStart => exact ⟨0, 0, _, AB, cB, AN, cN, D1, d1, D2, d2, by omega, by omega, rfl, rfl, OK6, SC6⟩
  case round =>
    clear SC6 OK6
    obtain ⟨k, slot, st, A, a, B, b, C, c, D, d, hk, hgk, rfl, rfl, OK, SC⟩ := hrel
    subst hgk
    by_cases hlt : k < n1
    · skip
      have t9 : decide ((k : Int) < (n1 : Int)) = true := decide_eq_true (by omega)
      have hwk : wrap64 ((k : Int) + 1) = ((k + 1 : Nat) : Int) := by have := HAC.out; unfold wrap64; omega
      have HWK := Aside0.mk hwk
      have HBw : Aside0 (Below w.heap.size w wr) := ⟨below_then HB3.out HB3.out.size SC.out.bel⟩
      obtain ⟨ad, rfl, hd, hi⟩ := (HA.out.below HBw.out).at_ k hlt
      obtain ⟨q, hq⟩ : ∃ q, fa k = q := ⟨_, rfl⟩
      rw [hq] at hd hi
      obtain ⟨op, asl, vs, vh, vse, vsr, vte, vtr, AV, nV, cV, zV⟩ := q
      have HI := Aside0.mk hi
      have e0 := hd.c0
      have e1 := hd.c1
      have e2 := hd.c2
      have e3 := hd.c3
      have e4 := hd.c4
      have e5 := hd.c5
      have e6 := hd.c6
      have e7 := hd.c7
      have e8 := hd.c8
      simp only at e0 e1 e2 e3 e4 e5 e6 e7 e8
      clear hd hi hq hwk
      go_upto_region 13 with fail
      obtain ⟨wa, hwa⟩ : ∃ x, x = wr.alloc (.cells #[.int .u8 op, .int .u8 asl, .int .i64 vs, .int .u64 vh, .int .i64 vse, .int .u64 vsr, .int .i64 vte, .int .u64 vtr, .slice AV nV cV] 45) := ⟨_, rfl⟩
      have BA : Aside0 (wa.heap[wr.heap.size]? = some (.cells #[.int .u8 op, .int .u8 asl, .int .i64 vs, .int .u64 vh, .int .i64 vse, .int .u64 vsr, .int .i64 vte, .int .u64 vtr, .slice AV nV cV] 45 (0, 0))) := ⟨by rw [hwa]; exact heap_alloc_new _ _⟩
      have SA := Aside0.mk (SC.out.below (w1 := wa) (by rw [hwa]; exact below_alloc (Below.refl _ _) _))
      have IA := Aside0.mk (HI.out.below (w' := wa) (by rw [hwa]; exact below_alloc (Below.refl _ _) _))
      have LA : Aside0 (w3.heap.size ≤ wr.heap.size ∧ wr.heap.size ≠ sb ∧ wr.heap.size ≠ wb) := ⟨by have h1 := SC.out.lts; have h2 := SC.out.bel.size; omega⟩
      rw [← hwa]
      obtain ⟨ab, hab⟩ : ∃ g, wr.heap.size = g := ⟨_, rfl⟩
      rw [hab] at BA LA
      rw [hab]
      clear hwa hab e0 e1 e2 e3 e4 e5 e6 e7 e8 SC HI HBw
      have hba := blk_cell BA.out
      go_upto_if 87 with fail
      go_cut [10, 14, 15, 16, 17, 18, 19] (fun v10 v14 v15 v16 v17 v18 v19 wx => ∃ (slot : Int) (st : LS) (A : Option Addr) (a : Nat) (B : Option Addr) (b : Nat) (C : Option Addr) (c : Nat) (D : Option Addr) (d : Nat), v10 = .int .i64 slot ∧ Aside0 (ScOk lx.length sx st slot) ∧ Aside0 (ScIn w3 sb wb AX cX lx v (chainOf n) st st A a B b C c D d wx))
      case first =>
        obtain ⟨o0, ho0⟩ : ∃ o, (op.tmod 3 == 0) = o := ⟨_, rfl⟩
        cases o0
        rotate_left
        · skip
          have ASL : Aside0 (0 ≤ asl ∧ asl ≤ 255) := ⟨IA.out.bs⟩
          have hsx : 1 ≤ sx := HSL.out.1
          have hwa : wrap64 asl = asl := by have := ASL.out; unfold wrap64; omega
          have OKN := Aside0.mk (OK.out.advanced lx (chainOf n) hsx asl ASL.out)
          have ADV := Aside0.mk (OK.out.adv lx (chainOf n) hsx asl ASL.out)
          have RG := Aside0.mk (wrap_range (slot + asl))
          have EP := Aside0.mk (OK.out.er hsx)
          have hsb := blk_cell SA.out.bs
          have hxa := blk_cell (blk_below BM3.out SA.out.bel)
          have HWA := Aside0.mk hwa
          have HSX := Aside0.mk hsx
          clear hsx
          go_upto_region 15 with fail
          clear hwa
          obtain ⟨qs, hqs⟩ : ∃ x, wrap64 (slot + asl) = x := ⟨_, rfl⟩
          rw [hqs] at OKN ADV RG
          rw [hqs]
          clear hqs hba
          obtain ⟨m, hm⟩ : ∃ m, manyOf st qs sx = m := ⟨_, rfl⟩
          rw [hm] at ADV
          have HM := Aside0.mk hm
          clear hm
          go_upto_region 16 with (first
            | (go_at_call 13; with_reducible refine (advance_calls AX cX lx sx bx st A a B b qs v (chainOf n) _ SA.out.si RG.out).mono ?_; rintro x w7 ⟨A2, a2, B2, b2, rfl, hsi, hb⟩; have SI7 := Aside0.mk hsi; have S7 := Aside0.mk (SA.out.below hb); clear hsi hb hsb)
            | (refine Block.store_block rfl rfl 39 (.tmp 9) (.tmp 97) rfl sb 39 _ _ rfl rfl S7.out.bs rfl (by kernel_rfl) (by simp [stC, Value.oneCell']) ?_; intro w8 hbk hgr; have S8 := Aside0.mk (S7.out.putS SI7.out hbk hgr); have hw8 := blk_cell S8.out.bw 10; clear hbk hgr))
          go_wp2_with fail
          clear hw8 hxa SI7 S7
          go_loopg [14] m (fun gk v14 wr => ∃ (j : Nat) (C : Option Addr) (c : Nat) (D : Option Addr) (d : Nat), j ≤ m ∧ gk = m - j ∧ v14 = .int .i64 (st.ep + (j : Int)) ∧ Aside0 (ScIn w3 sb wb AX cX lx v (chainOf n) (advTo lx sx (chainOf n) st qs) ((epochs st.ep j).foldl (advStep lx sx (chainOf n)) st) A2 a2 B2 b2 C c D d wr))
          case atStart => exact ⟨0, C, c, D, d, by omega, by omega, by simp, S8⟩
          case round =>
            clear S8 SA
            obtain ⟨j, C, c, D, d, hj, hgj, rfl, SR⟩ := hrel
            subst hgj
            have BMr := Aside0.mk (blk_below BM3.out SR.out.bel)
            have hxr := blk_cell BMr.out
            have hz : ¬ sx = 0 := by have := HSX.out; omega
            have hz2 : (sx == 0) = false := by rw [beq_eq_false_iff_ne]; exact hz
            have htst := sc_test (s := st) (sl := sx) EP.out.1 HSX.out RG.out j
            rw [HM.out] at htst
            by_cases hjm : j < m
            · rw [decide_eq_true hjm] at htst
              have HE1 : Aside0 (-9223372036854775808 ≤ st.ep + (j : Int) + 1 ∧ st.ep + (j : Int) + 1 ≤ 9223372036854775807) := ⟨sc_far EP.out HSX.out RG.out (by rw [HM.out]; exact hjm)⟩
              obtain ⟨e1, he1⟩ : ∃ x, st.ep + (j : Int) = x := ⟨_, rfl⟩
              rw [he1] at htst HE1
              rw [he1]
              obtain ⟨t, ht⟩ : ∃ t, ((epochs st.ep j).foldl (advStep lx sx (chainOf n)) st) = t := ⟨_, rfl⟩
              rw [ht] at SR
              obtain ⟨⟨m0, m1, m2, m3, mpe, mpr, mce, mcr, mfe, mfr⟩, hpl⟩ : ∃ z, pullOf lx sx (chainOf n) t = z := ⟨_, rfl⟩
              have HPL := Aside0.mk hpl
              have HT := Aside0.mk ht
              have HEQ := Aside0.mk he1
              have hwe : wrap64 (e1 + 1) = e1 + 1 := by have := HE1.out; unfold wrap64; omega
              clear hpl ht he1
              go_upto_region 19 with fail
              clear hxr htst hz hz2
              refine start_ (n := 14) (S := fun w' => w'.cell? ⟨xb, 0, none⟩ = some (.slice AX lx.length cX) ∧ w'.cell? ⟨xb, 1, none⟩ = some (.int .i64 sx) ∧ w'.cell? ⟨xb, 2, none⟩ = some (.int .i64 bx) ∧ w'.cell? ⟨wb, 0, none⟩ = some (.bool t.j.b0) ∧ w'.cell? ⟨wb, 1, none⟩ = some (.bool t.j.b1) ∧ w'.cell? ⟨wb, 2, none⟩ = some (.bool t.j.b2) ∧ w'.cell? ⟨wb, 3, none⟩ = some (.bool t.j.b3) ∧ w'.cell? ⟨wb, 4, none⟩ = some (.int .i64 t.j.pe) ∧ w'.cell? ⟨wb, 5, none⟩ = some (.int .u64 t.j.pr) ∧ w'.cell? ⟨wb, 6, none⟩ = some (.int .i64 t.j.ce) ∧ w'.cell? ⟨wb, 7, none⟩ = some (.int .u64 t.j.cr) ∧ w'.cell? ⟨wb, 8, none⟩ = some (.int .i64 t.j.fe) ∧ w'.cell? ⟨wb, 9, none⟩ = some (.int .u64 t.j.fr) ∧ w'.cell? ⟨wb, 10, none⟩ = some (.int .i64 t.ep) ∧ w'.cell? ⟨wb, 11, none⟩ = some (.slice C t.bf.length c) ∧ w'.cell? ⟨wb, 12, none⟩ = some (.slice D t.nw.length d)) (ds := [13]) #[false, false, false, false, false, false, false, false, false, false, false, false, false, false] (by kernel_rfl) rfl rfl ⟨(blk_cell BMr.out 0), (blk_cell BMr.out 1), (blk_cell BMr.out 2), (blk_cell SR.out.bw 0), (blk_cell SR.out.bw 1), (blk_cell SR.out.bw 2), (blk_cell SR.out.bw 3), (blk_cell SR.out.bw 4), (blk_cell SR.out.bw 5), (blk_cell SR.out.bw 6), (blk_cell SR.out.bw 7), (blk_cell SR.out.bw 8), (blk_cell SR.out.bw 9), (blk_cell SR.out.bw 10), (blk_cell SR.out.bw 11), (blk_cell SR.out.bw 12)⟩ (fun hHeld => ?_)
              refine pure_ (i := 2) (N := some 110) (v := ?_) (a' := ?_) #[false, false, true, false, false, false, false, false, false, false, false, false, false, false] rfl rfl (by kernel_rfl) (fun _ _ _ h => h) (Or.inl ⟨by rfl, ?_⟩) ?_ ?_
              rotate_left
              · intro w'
                go_simp
                with_reducible rfl
              rotate_left
              · simp only [Act.put, List.setIfInBounds_toArray, List.set_cons_zero, List.set_cons_succ, i64_w, i32_w]
                rfl
              refine pure_ (i := 4) (N := some 112) (v := ?_) (a' := ?_) #[false, false, true, false, true, false, false, false, false, false, false, false, false, false] rfl rfl (by kernel_rfl) (fun _ _ _ h => h) (Or.inl ⟨by rfl, ?_⟩) ?_ ?_
              rotate_left
              · intro w'
                go_simp
                with_reducible rfl
              rotate_left
              · simp only [Act.put, List.setIfInBounds_toArray, List.set_cons_zero, List.set_cons_succ, i64_w, i32_w]
                rfl
              refine pure_ (i := 5) (N := some 113) (v := ?_) (a' := ?_) #[false, false, true, false, true, true, false, false, false, false, false, false, false, false] rfl rfl (by kernel_rfl) (fun _ _ _ h => h) (Or.inl ⟨by rfl, ?_⟩) ?_ ?_
              rotate_left
              · intro w'
                go_simp
                with_reducible rfl
              rotate_left
              · simp only [Act.put, List.setIfInBounds_toArray, List.set_cons_zero, List.set_cons_succ, i64_w, i32_w]
                rfl
              refine pure_ (i := 6) (N := some 114) (v := ?_) (a' := ?_) #[false, false, true, false, true, true, true, false, false, false, false, false, false, false] rfl rfl (by kernel_rfl) (fun _ _ _ h => h) (Or.inl ⟨by rfl, ?_⟩) ?_ ?_
              rotate_left
              · intro w'
                go_simp
                with_reducible rfl
              rotate_left
              · simp only [Act.put, List.setIfInBounds_toArray, List.set_cons_zero, List.set_cons_succ, i64_w, i32_w]
                rfl
              refine pure_ (i := 8) (N := some 116) (v := ?_) (a' := ?_) #[false, false, true, false, true, true, true, false, true, false, false, false, false, false] rfl rfl (by kernel_rfl) (fun _ _ _ h => h) (Or.inl ⟨by rfl, ?_⟩) ?_ ?_
              rotate_left
              · intro w'
                go_simp
                with_reducible rfl
              rotate_left
              · simp only [Act.put, List.setIfInBounds_toArray, List.set_cons_zero, List.set_cons_succ, i64_w, i32_w]
                rfl
              refine take_ (i := 0) (N := some 108) (v := ?_) (a' := ?_) #[true, false, true, false, true, true, true, false, true, false, false, false, false, false] rfl rfl (by kernel_rfl) (fun _ _ _ h => h) (Or.inl ⟨by rfl, ?_⟩) hHeld ?_ ?_
              rotate_left
              · rintro w' ⟨s0, s1, s2, s3, s4, s5, s6, s7, s8, s9, s10, s11, s12, s13, s14, s15⟩
                go_simp
                with_reducible rfl
              rotate_left
              · simp only [Act.put, List.setIfInBounds_toArray, List.set_cons_zero, List.set_cons_succ, i64_w, i32_w]
                rfl
              refine take_ (i := 1) (N := some 109) (v := ?_) (a' := ?_) #[true, true, true, false, true, true, true, false, true, false, false, false, false, false] rfl rfl (by kernel_rfl) (fun _ _ _ h => h) (Or.inl ⟨by rfl, ?_⟩) hHeld ?_ ?_
              rotate_left
              · rintro w' ⟨s0, s1, s2, s3, s4, s5, s6, s7, s8, s9, s10, s11, s12, s13, s14, s15⟩
                go_simp
                with_reducible rfl
              rotate_left
              · simp only [Act.put, List.setIfInBounds_toArray, List.set_cons_zero, List.set_cons_succ, i64_w, i32_w]
                rfl
              refine take_ (i := 7) (N := some 115) (v := ?_) (a' := ?_) #[true, true, true, false, true, true, true, true, true, false, false, false, false, false] rfl rfl (by kernel_rfl) (fun _ _ _ h => h) (Or.inl ⟨by rfl, ?_⟩) hHeld ?_ ?_
              rotate_left
              · rintro w' ⟨s0, s1, s2, s3, s4, s5, s6, s7, s8, s9, s10, s11, s12, s13, s14, s15⟩
                go_simp
                with_reducible rfl
              rotate_left
              · simp only [Act.put, List.setIfInBounds_toArray, List.set_cons_zero, List.set_cons_succ, i64_w, i32_w]
                rfl
              refine take_ (i := 9) (N := some 117) (v := ?_) (a' := ?_) #[true, true, true, false, true, true, true, true, true, true, false, false, false, false] rfl rfl (by kernel_rfl) (fun _ _ _ h => h) (Or.inl ⟨by rfl, ?_⟩) hHeld ?_ ?_
              rotate_left
              · rintro w' ⟨s0, s1, s2, s3, s4, s5, s6, s7, s8, s9, s10, s11, s12, s13, s14, s15⟩
                go_simp
                with_reducible rfl
              rotate_left
              · simp only [Act.put, List.setIfInBounds_toArray, List.set_cons_zero, List.set_cons_succ, i64_w, i32_w]
                rfl
              refine pure_ (i := 10) (N := some 118) (v := ?_) (a' := ?_) #[true, true, true, false, true, true, true, true, true, true, true, false, false, false] rfl rfl (by kernel_rfl) (fun _ _ _ h => h) (Or.inl ⟨by rfl, ?_⟩) ?_ ?_
              rotate_left
              · intro w'
                go_simp
                with_reducible rfl
              rotate_left
              · simp only [Act.put, List.setIfInBounds_toArray, List.set_cons_zero, List.set_cons_succ, i64_w, i32_w]
                rfl
              refine join_ (σ := Value × Value) 2 #[true, true, true, true, true, true, true, true, true, true, true, true, false, false] (fun s_ => [(111, s_.1), (119, s_.2)]) (fun s_ w' => (w'.cell? ⟨xb, 0, none⟩ = some (.slice AX lx.length cX) ∧ w'.cell? ⟨xb, 1, none⟩ = some (.int .i64 sx) ∧ w'.cell? ⟨xb, 2, none⟩ = some (.int .i64 bx) ∧ w'.cell? ⟨wb, 0, none⟩ = some (.bool t.j.b0) ∧ w'.cell? ⟨wb, 1, none⟩ = some (.bool t.j.b1) ∧ w'.cell? ⟨wb, 2, none⟩ = some (.bool t.j.b2) ∧ w'.cell? ⟨wb, 3, none⟩ = some (.bool t.j.b3) ∧ w'.cell? ⟨wb, 4, none⟩ = some (.int .i64 t.j.pe) ∧ w'.cell? ⟨wb, 5, none⟩ = some (.int .u64 t.j.pr) ∧ w'.cell? ⟨wb, 6, none⟩ = some (.int .i64 t.j.ce) ∧ w'.cell? ⟨wb, 7, none⟩ = some (.int .u64 t.j.cr) ∧ w'.cell? ⟨wb, 8, none⟩ = some (.int .i64 t.j.fe) ∧ w'.cell? ⟨wb, 9, none⟩ = some (.int .u64 t.j.fr) ∧ w'.cell? ⟨wb, 10, none⟩ = some (.int .i64 t.ep) ∧ w'.cell? ⟨wb, 11, none⟩ = some (.slice C t.bf.length c) ∧ w'.cell? ⟨wb, 12, none⟩ = some (.slice D t.nw.length d)) ∧ (∃ E e_, s_ = (.agg #[.bool m0, .bool m1, .bool m2, .bool m3, .int .i64 mpe, .int .u64 mpr, .int .i64 mce, .int .u64 mcr, .int .i64 mfe, .int .u64 mfr], .slice E lx.length e_) ∧ (Kd.R Kd.bool 4 w' wr.heap.size (fun _ => True) (.slice E lx.length e_) (List.replicate lx.length false))) ∧ Below wr.heap.size wr w') ?_ ?_
              rotate_left
              · intro hCont
                refine two_ (i := 3) (j := 11) (Ni := some 111) (Nj := some 119) #[true, true, true, true, true, true, true, true, true, true, true, false, false, false] #[true, true, true, false, true, true, true, true, true, true, true, true, false, false] rfl rfl rfl rfl (by kernel_rfl) (by decide) (by decide) (fun K hK => ?_) (fun K hK => ?_)
                · skip
                  refine goes_ Try.func14 (by kernel_rfl) rfl #[.agg #[.slice AX lx.length cX, .int .i64 sx, .int .i64 bx], .agg #[.bool t.j.b0, .bool t.j.b1, .bool t.j.b2, .bool t.j.b3, .int .i64 t.j.pe, .int .u64 t.j.pr, .int .i64 t.j.ce, .int .u64 t.j.cr, .int .i64 t.j.fe, .int .u64 t.j.fr, .int .i64 t.ep, .slice C t.bf.length c, .slice D t.nw.length d], v] (by rfl) rfl rfl (by simp only [List.map_toArray, List.map_cons, List.map_nil]; rfl) ?_
                  with_reducible refine (pull10_to HPL.out (SR.out.wi.below (below_drew (Below.refl wr.heap.size wr)))).mono ?_
                  rintro x wq1 ⟨rfl, hb⟩
                  refine ⟨_, rfl, ?_⟩
                  have HQ1 := Aside0.mk (below_then (below_drew (Below.refl wr.heap.size wr)) (Nat.le_refl _) hb)
                  clear hb 
                  refine hK.out _ _ ⟨(pw_cell_below HQ1.out (blk_cell BMr.out 0)), (pw_cell_below HQ1.out (blk_cell BMr.out 1)), (pw_cell_below HQ1.out (blk_cell BMr.out 2)), (pw_cell_below HQ1.out (blk_cell SR.out.bw 0)), (pw_cell_below HQ1.out (blk_cell SR.out.bw 1)), (pw_cell_below HQ1.out (blk_cell SR.out.bw 2)), (pw_cell_below HQ1.out (blk_cell SR.out.bw 3)), (pw_cell_below HQ1.out (blk_cell SR.out.bw 4)), (pw_cell_below HQ1.out (blk_cell SR.out.bw 5)), (pw_cell_below HQ1.out (blk_cell SR.out.bw 6)), (pw_cell_below HQ1.out (blk_cell SR.out.bw 7)), (pw_cell_below HQ1.out (blk_cell SR.out.bw 8)), (pw_cell_below HQ1.out (blk_cell SR.out.bw 9)), (pw_cell_below HQ1.out (blk_cell SR.out.bw 10)), (pw_cell_below HQ1.out (blk_cell SR.out.bw 11)), (pw_cell_below HQ1.out (blk_cell SR.out.bw 12))⟩ (fun hHeld => ?_)
                  clear hK K
                  refine norm_ (a' := ?_) ?_ ?_
                  rotate_left
                  · show Act.put _ (some 111) _ = _
                    simp only [Act.put, List.setIfInBounds_toArray, List.set_cons_zero, List.set_cons_succ, i64_w, i32_w]
                    rfl
                  refine one_ (i := 11) (N := some 119) #[true, true, true, true, true, true, true, true, true, true, true, true, false, false] rfl rfl (by kernel_rfl) (by decide) (fun K hK => ?_)
                  refine makeB_step (base := wq1.heap.size) (w0 := wq1) (by rfl) rfl _ rfl lx.length rfl HNX.out (Below.refl _ _) (Nat.le_refl _) ?_
                  intro E e_ wq2 ho hb hg_
                  have h_R1 := Kd.R_lower ho HQ1.out.size
                  clear ho hg_
                  have HQ2 := Aside0.mk (below_then HQ1.out HQ1.out.size hb)
                  have R1_2 := Aside0.mk h_R1
                  clear hb h_R1
                  refine hK.out _ _ ⟨(pw_cell_below HQ2.out (blk_cell BMr.out 0)), (pw_cell_below HQ2.out (blk_cell BMr.out 1)), (pw_cell_below HQ2.out (blk_cell BMr.out 2)), (pw_cell_below HQ2.out (blk_cell SR.out.bw 0)), (pw_cell_below HQ2.out (blk_cell SR.out.bw 1)), (pw_cell_below HQ2.out (blk_cell SR.out.bw 2)), (pw_cell_below HQ2.out (blk_cell SR.out.bw 3)), (pw_cell_below HQ2.out (blk_cell SR.out.bw 4)), (pw_cell_below HQ2.out (blk_cell SR.out.bw 5)), (pw_cell_below HQ2.out (blk_cell SR.out.bw 6)), (pw_cell_below HQ2.out (blk_cell SR.out.bw 7)), (pw_cell_below HQ2.out (blk_cell SR.out.bw 8)), (pw_cell_below HQ2.out (blk_cell SR.out.bw 9)), (pw_cell_below HQ2.out (blk_cell SR.out.bw 10)), (pw_cell_below HQ2.out (blk_cell SR.out.bw 11)), (pw_cell_below HQ2.out (blk_cell SR.out.bw 12))⟩ (fun hHeld => ?_)
                  clear hK K
                  refine norm_ (a' := ?_) ?_ ?_
                  rotate_left
                  · show Act.put _ (some 119) _ = _
                    simp only [Act.put, List.setIfInBounds_toArray, List.set_cons_zero, List.set_cons_succ, i64_w, i32_w]
                    rfl
                  exact norm_ (by simp only [putAll, Act.put, List.setIfInBounds_toArray, List.set_cons_zero, List.set_cons_succ]) (hCont (.agg #[.bool m0, .bool m1, .bool m2, .bool m3, .int .i64 mpe, .int .u64 mpr, .int .i64 mce, .int .u64 mcr, .int .i64 mfe, .int .u64 mfr], .slice E lx.length e_) _ ⟨hHeld, ⟨E, e_, rfl, R1_2.out⟩, HQ2.out⟩)
                · skip
                  refine makeB_step (base := wr.drew.heap.size) (w0 := wr.drew) (by rfl) rfl _ rfl lx.length rfl HNX.out (Below.refl _ _) (Nat.le_refl _) ?_
                  intro E e_ wq1 ho hb hg_
                  have h_R1 := Kd.R_lower ho (Nat.le_refl _)
                  clear ho hg_
                  have HQ1 := Aside0.mk (below_then (below_drew (Below.refl wr.heap.size wr)) (Nat.le_refl _) hb)
                  have R1_1 := Aside0.mk h_R1
                  clear hb h_R1
                  refine hK.out _ _ ⟨(pw_cell_below HQ1.out (blk_cell BMr.out 0)), (pw_cell_below HQ1.out (blk_cell BMr.out 1)), (pw_cell_below HQ1.out (blk_cell BMr.out 2)), (pw_cell_below HQ1.out (blk_cell SR.out.bw 0)), (pw_cell_below HQ1.out (blk_cell SR.out.bw 1)), (pw_cell_below HQ1.out (blk_cell SR.out.bw 2)), (pw_cell_below HQ1.out (blk_cell SR.out.bw 3)), (pw_cell_below HQ1.out (blk_cell SR.out.bw 4)), (pw_cell_below HQ1.out (blk_cell SR.out.bw 5)), (pw_cell_below HQ1.out (blk_cell SR.out.bw 6)), (pw_cell_below HQ1.out (blk_cell SR.out.bw 7)), (pw_cell_below HQ1.out (blk_cell SR.out.bw 8)), (pw_cell_below HQ1.out (blk_cell SR.out.bw 9)), (pw_cell_below HQ1.out (blk_cell SR.out.bw 10)), (pw_cell_below HQ1.out (blk_cell SR.out.bw 11)), (pw_cell_below HQ1.out (blk_cell SR.out.bw 12))⟩ (fun hHeld => ?_)
                  clear hK K
                  refine norm_ (a' := ?_) ?_ ?_
                  rotate_left
                  · show Act.put _ (some 119) _ = _
                    simp only [Act.put, List.setIfInBounds_toArray, List.set_cons_zero, List.set_cons_succ, i64_w, i32_w]
                    rfl
                  refine one_ (i := 3) (N := some 111) #[true, true, true, true, true, true, true, true, true, true, true, true, false, false] rfl rfl (by kernel_rfl) (by decide) (fun K hK => ?_)
                  refine goes_ Try.func14 (by kernel_rfl) rfl #[.agg #[.slice AX lx.length cX, .int .i64 sx, .int .i64 bx], .agg #[.bool t.j.b0, .bool t.j.b1, .bool t.j.b2, .bool t.j.b3, .int .i64 t.j.pe, .int .u64 t.j.pr, .int .i64 t.j.ce, .int .u64 t.j.cr, .int .i64 t.j.fe, .int .u64 t.j.fr, .int .i64 t.ep, .slice C t.bf.length c, .slice D t.nw.length d], v] (by rfl) rfl rfl (by simp only [List.map_toArray, List.map_cons, List.map_nil]; rfl) ?_
                  with_reducible refine (pull10_to HPL.out (SR.out.wi.below HQ1.out)).mono ?_
                  rintro x wq2 ⟨rfl, hb⟩
                  refine ⟨_, rfl, ?_⟩
                  have HQ2 := Aside0.mk (below_then HQ1.out HQ1.out.size hb)
                  have R1_2 := Aside0.mk (Kd.R_below R1_1.out hb)
                  clear hb 
                  refine hK.out _ _ ⟨(pw_cell_below HQ2.out (blk_cell BMr.out 0)), (pw_cell_below HQ2.out (blk_cell BMr.out 1)), (pw_cell_below HQ2.out (blk_cell BMr.out 2)), (pw_cell_below HQ2.out (blk_cell SR.out.bw 0)), (pw_cell_below HQ2.out (blk_cell SR.out.bw 1)), (pw_cell_below HQ2.out (blk_cell SR.out.bw 2)), (pw_cell_below HQ2.out (blk_cell SR.out.bw 3)), (pw_cell_below HQ2.out (blk_cell SR.out.bw 4)), (pw_cell_below HQ2.out (blk_cell SR.out.bw 5)), (pw_cell_below HQ2.out (blk_cell SR.out.bw 6)), (pw_cell_below HQ2.out (blk_cell SR.out.bw 7)), (pw_cell_below HQ2.out (blk_cell SR.out.bw 8)), (pw_cell_below HQ2.out (blk_cell SR.out.bw 9)), (pw_cell_below HQ2.out (blk_cell SR.out.bw 10)), (pw_cell_below HQ2.out (blk_cell SR.out.bw 11)), (pw_cell_below HQ2.out (blk_cell SR.out.bw 12))⟩ (fun hHeld => ?_)
                  clear hK K
                  refine norm_ (a' := ?_) ?_ ?_
                  rotate_left
                  · show Act.put _ (some 111) _ = _
                    simp only [Act.put, List.setIfInBounds_toArray, List.set_cons_zero, List.set_cons_succ, i64_w, i32_w]
                    rfl
                  exact norm_ (by simp only [putAll, Act.put, List.setIfInBounds_toArray, List.set_cons_zero, List.set_cons_succ]) (hCont (.agg #[.bool m0, .bool m1, .bool m2, .bool m3, .int .i64 mpe, .int .u64 mpr, .int .i64 mce, .int .u64 mcr, .int .i64 mfe, .int .u64 mfr], .slice E lx.length e_) _ ⟨hHeld, ⟨E, e_, rfl, R1_2.out⟩, HQ2.out⟩)
              rintro s_ wj ⟨hS_, ⟨E, e_, rfl, h_R1⟩, hbj⟩
              have R1 := Aside0.mk h_R1
              have HJ := Aside0.mk hbj
              clear hbj h_R1
              have hHeld : wj.cell? ⟨xb, 0, none⟩ = some (.slice AX lx.length cX) ∧ wj.cell? ⟨xb, 1, none⟩ = some (.int .i64 sx) ∧ wj.cell? ⟨xb, 2, none⟩ = some (.int .i64 bx) ∧ wj.cell? ⟨wb, 0, none⟩ = some (.bool t.j.b0) ∧ wj.cell? ⟨wb, 1, none⟩ = some (.bool t.j.b1) ∧ wj.cell? ⟨wb, 2, none⟩ = some (.bool t.j.b2) ∧ wj.cell? ⟨wb, 3, none⟩ = some (.bool t.j.b3) ∧ wj.cell? ⟨wb, 4, none⟩ = some (.int .i64 t.j.pe) ∧ wj.cell? ⟨wb, 5, none⟩ = some (.int .u64 t.j.pr) ∧ wj.cell? ⟨wb, 6, none⟩ = some (.int .i64 t.j.ce) ∧ wj.cell? ⟨wb, 7, none⟩ = some (.int .u64 t.j.cr) ∧ wj.cell? ⟨wb, 8, none⟩ = some (.int .i64 t.j.fe) ∧ wj.cell? ⟨wb, 9, none⟩ = some (.int .u64 t.j.fr) ∧ wj.cell? ⟨wb, 10, none⟩ = some (.int .i64 t.ep) ∧ wj.cell? ⟨wb, 11, none⟩ = some (.slice C t.bf.length c) ∧ wj.cell? ⟨wb, 12, none⟩ = some (.slice D t.nw.length d) := hS_
              refine norm_ (a' := ?_) ?_ ?_
              rotate_left
              · simp only [putAll, Act.put, List.setIfInBounds_toArray, List.set_cons_zero, List.set_cons_succ]
                rfl
              refine pure_ (i := 12) (N := some 120) (v := ?_) (a' := ?_) #[true, true, true, true, true, true, true, true, true, true, true, true, true, false] rfl rfl (by kernel_rfl) (fun _ _ _ h => h) (Or.inl ⟨by rfl, ?_⟩) ?_ ?_
              rotate_left
              · intro w'
                go_simp
                with_reducible rfl
              rotate_left
              · simp only [Act.put, List.setIfInBounds_toArray, List.set_cons_zero, List.set_cons_succ, i64_w, i32_w]
                rfl
              refine last_ (i := 13) (N := none) #[true, true, true, true, true, true, true, true, true, true, true, true, true, true] rfl rfl (by kernel_rfl) (by decide) (fun K hK => ?_)
              refine store_step (by rfl) rfl 39 (.tmp 11) (.tmp 120) rfl wb 39 _ #[.bool m0, .bool m1, .bool m2, .bool m3, .int .i64 mpe, .int .u64 mpr, .int .i64 mce, .int .u64 mcr, .int .i64 mfe, .int .u64 mfr, .int .i64 (e1 + 1), .slice D t.nw.length d, .slice E lx.length e_] rfl rfl (blk_below SR.out.bw HJ.out) rfl (by kernel_rfl) (by simp [Value.oneCell']) ?_
              intro wz hbk hgr
              have SJ := SR.out.below HJ.out
              have h1 : wz.heap[wb]? = some (.cells (stC (advStep lx sx (chainOf n) t e1) D d E e_) 39 (0, 0)) := by rw [hbk]; simp [stC, advStep, HPL.out]
              have S9 := Aside0.mk (SJ.putW (sin_step SJ.wi R1.out HE1.out) h1 hgr)
              clear hbk hgr SJ h1
              refine hK.out _ _ ?_
              clear hK K
              refine done_ (by kernel_rfl) ?_
              go_wp2_with fail
              go_roundg (m - (j + 1))
              case measure => omega
              case rel => exact ⟨j + 1, D, d, E, e_, by omega, rfl, congrArg (Value.int .i64) (by have := HEQ.out; omega), by rw [fold_next, HT.out, HEQ.out]; exact S9⟩
            · rw [decide_eq_false hjm] at htst
              obtain rfl : j = m := by omega
              go_wp2_with fail
              go_meet
              exact ⟨qs, (advTo lx sx (chainOf n) st qs), A2, a2, B2, b2, C, c, D, d, rfl, OKN, by have h := SR.out; rw [← ADV.out] at h; exact ⟨h⟩⟩
        · skip
          have hl : zV.length = nV := IA.out.row.1
          subst hl
          have HRV : Aside0 (Kd.C (Kd.int .i64) wa AV zV.length zV) := ⟨IA.out.row⟩
          have HCV : Aside0 (zV.length ≤ cV) := ⟨IA.out.le⟩
          have hsz := IA.out.size
          simp only at hsz
          obtain ⟨k5, hk5⟩ := (make5_f lx zV sx bx vs vh vse vsr vte vtr HLN.out.2 (by omega) IA.out.ws.1 IA.out.ws.2 IA.out.we.1 IA.out.we.2).rounds
          have R1_ := mkAt_in vs
          have R5_ := mkTe_in sx vs
          have RW_ := mkWho_len lx.length HLN.out.1 zV
          obtain ⟨r1, e1⟩ : ∃ x, mkAt vs = x := ⟨_, rfl⟩
          obtain ⟨r2, e2⟩ : ∃ x, Int.tmod vh 8 = x := ⟨_, rfl⟩
          obtain ⟨r3, e3⟩ : ∃ x, mkSe sx vs vse = x := ⟨_, rfl⟩
          obtain ⟨r4, e4⟩ : ∃ x, Int.tmod vsr 8 = x := ⟨_, rfl⟩
          obtain ⟨r5, e5⟩ : ∃ x, mkTe sx vs = x := ⟨_, rfl⟩
          obtain ⟨r6, e6⟩ : ∃ x, Int.tmod vtr 8 = x := ⟨_, rfl⟩
          obtain ⟨W, e7⟩ : ∃ x, mkWho lx.length zV = x := ⟨_, rfl⟩
          rw [e1, e2, e3, e4, e5, e6, e7] at hk5
          rw [e1] at R1_
          rw [e5] at R5_
          rw [e7] at RW_
          have HK5 := Aside0.mk hk5
          have HR := Aside0.mk (And.intro R1_ (And.intro R5_ RW_.2))
          clear hk5 R1_ R5_ RW_ e1 e2 e3 e4 e5 e6 e7 hsz
          have hxa := blk_cell (blk_below BM3.out SA.out.bel)
          go_upto_region 21 with (go_at_call 15; with_reducible refine (psephoslaw05_Make.calls k5 AX cX lx sx bx vs vh vse vsr vte vtr AV cV zV r1 r2 r3 r4 r5 r6 W _ SA.out.si.c.X HCX.out HRV.out HCV.out HK5.out).mono ?_; rintro x w7 ⟨v6, rfl, hR, hb⟩; obtain ⟨Av, cv, rfl⟩ := Kd.R_slice hR; have RW7 := Aside0.mk hR; have S7 := Aside0.mk (SA.out.below hb); have BA7 := Aside0.mk (blk_below BA.out hb); have SZ7 := Aside0.mk hb.size; clear hR hb hxa hba)
          obtain ⟨w8, hw8⟩ : ∃ x, x = w7.alloc (.cells #[.int .i64 r1, .int .u64 r2, .int .i64 r3, .int .u64 r4, .int .i64 r5, .int .u64 r6, .slice Av W.length cv] 43) := ⟨_, rfl⟩
          have V8 : Aside0 (w8.heap[w7.heap.size]? = some (.cells #[.int .i64 r1, .int .u64 r2, .int .i64 r3, .int .u64 r4, .int .i64 r5, .int .u64 r6, .slice Av W.length cv] 43 (0, 0))) := ⟨by rw [hw8]; exact heap_alloc_new _ _⟩
          have H78 : Aside0 (Below w7.heap.size w7 w8) := ⟨by rw [hw8]; exact below_alloc (Below.refl _ _) _⟩
          have S8 := Aside0.mk (S7.out.below H78.out)
          have BA8 := Aside0.mk (blk_below BA7.out H78.out)
          have RW8 := Aside0.mk (Kd.R_below RW7.out H78.out)
          have LV : Aside0 (w3.heap.size ≤ w7.heap.size ∧ w7.heap.size ≠ sb ∧ w7.heap.size ≠ wb ∧ w7.heap.size ≠ ab ∧ wa.heap.size ≤ w7.heap.size) := ⟨by have h1 := S7.out.lts; have h2 := S7.out.bel.size; have h3 := (Array.getElem?_eq_some_iff.1 BA7.out).1; have h4 := SZ7.out; omega⟩
          rw [← hw8]
          obtain ⟨vb, hvb⟩ : ∃ g, w7.heap.size = g := ⟨_, rfl⟩
          rw [hvb] at V8 LV
          rw [hvb]
          clear hw8 hvb S7 BA7 RW7 H78 SZ7
          have hba := blk_cell BA8.out
          go_upto_if 128 with fail
          go_cut [] (fun wx => ∃ (us use usr ute utr : Int), Aside0 (us ≤ 9223372036854775807 ∧ -9223372036854775808 ≤ ute ∧ ute ≤ 9223372036854775807) ∧ Aside0 (wx.heap[vb]? = some (.cells #[.int .i64 us, .int .u64 r2, .int .i64 use, .int .u64 usr, .int .i64 ute, .int .u64 utr, .slice Av W.length cv] 43 (0, 0))) ∧ Aside0 (ScIn w3 sb wb AX cX lx v (chainOf n) st st A a B b C c D d wx) ∧ Aside0 (Kd.R (Kd.int .i64) 3 wx wa.heap.size (fun _ => True) (.slice Av W.length cv) W))
          case first =>
            obtain ⟨o1, ho1⟩ : ∃ o, (op.tmod 3 == 1) = o := ⟨_, rfl⟩
            cases o1
            · go_wp2_with fail
              go_meet
              exact ⟨r1, r3, r4, r5, r6, ⟨by have := HR.out; omega⟩, V8, S8, RW8⟩
            · have hxa := blk_cell (blk_below BM3.out S8.out.bel)
              have hwb := blk_cell S8.out.bw
              obtain ⟨ev, hev⟩ : ∃ x, max 0 (wrap64 (st.ep - op.tdiv 64 % 2)) = x := ⟨_, rfl⟩
              have HEP : Aside0 (-9223372036854775808 ≤ ev ∧ ev ≤ 9223372036854775807) := ⟨by rw [← hev]; have := wrap_range (st.ep - op.tdiv 64 % 2); omega⟩
              have HST := Aside0.mk (start_f ev sx)
              have HSR := Aside0.mk (start_range ev sx)
              go_upto_region 25 with (first
                | (go_at_call 16; with_reducible refine (point10_calls AX _ cX sx bx ev v (chainOf n) _ S8.out.si.c.ch HEP.out).mono ?_; rintro x w9 ⟨rfl, hb⟩; have V9 := Aside0.mk (blk_below V8.out hb); have S9 := Aside0.mk (S8.out.below hb); have RW9 := Aside0.mk (Kd.R_below RW8.out hb); clear hb hxa hwb hba)
                | (refine store_at rfl rfl 34 (.tmp 141) (.tmp 140) rfl vb 4 43 _ [.int .i64 ev, .int .u64 (chainOf n (startOf ev sx))] (.agg #[.int .i64 ev, .int .u64 (chainOf n (startOf ev sx))]) rfl rfl rfl V9.out (by simp) (by kernel_rfl) (by simp [Value.oneCell']) #[.int .i64 r1, .int .u64 r2, .int .i64 r3, .int .u64 r4, .int .i64 ev, .int .u64 (chainOf n (startOf ev sx)), .slice Av W.length cv] rfl ?_; intro w10 hbk hgr; have V10 := Aside0.mk hbk; have S10 := Aside0.mk (S9.out.over V9.out (by decide) LV.out.2.1 LV.out.2.2.1 LV.out.1 hgr); have RW10 := Aside0.mk (RI_over RW9.out V9.out (by decide) hgr); have hv10 := blk_cell V10.out 4; have hw10 := blk_cell S10.out.bw; have hx10 := blk_cell (blk_below BM3.out S10.out.bel); clear hbk hgr)
                | (go_at_call 17; with_reducible refine (epoch_Start.calls ev sx _ _ HST.out).mono ?_; rintro x w11 ⟨rfl, hb⟩; have V11 := Aside0.mk (blk_below V10.out hb); have S11 := Aside0.mk (S10.out.below hb); have RW11 := Aside0.mk (Kd.R_below RW10.out hb); clear hb hv10 hw10 hx10)
                | (refine store_at rfl rfl 3 (.tmp 148) (.tmp 147) rfl vb 0 43 _ [.int .i64 (startOf ev sx)] (.int .i64 (startOf ev sx)) rfl rfl rfl V11.out (by simp) (by kernel_rfl) (by simp [Value.oneCell']) #[.int .i64 (startOf ev sx), .int .u64 r2, .int .i64 r3, .int .u64 r4, .int .i64 ev, .int .u64 (chainOf n (startOf ev sx)), .slice Av W.length cv] rfl ?_; intro w12 hbk hgr; have V12 := Aside0.mk hbk; have S12 := Aside0.mk (S11.out.over V11.out (by decide) LV.out.2.1 LV.out.2.2.1 LV.out.1 hgr); have RW12 := Aside0.mk (RI_over RW11.out V11.out (by decide) hgr); have hv12 := blk_cell V12.out 4; have hw12 := blk_cell S12.out.bw; have hx12 := blk_cell (blk_below BM3.out S12.out.bel); clear hbk hgr)
                | (refine store_at rfl rfl 34 (.tmp 152) (.tmp 151) rfl vb 2 43 _ [.int .i64 st.j.ce, .int .u64 st.j.cr] (.agg #[.int .i64 st.j.ce, .int .u64 st.j.cr]) rfl rfl rfl V12.out (by simp) (by kernel_rfl) (by simp [Value.oneCell']) #[.int .i64 (startOf ev sx), .int .u64 r2, .int .i64 st.j.ce, .int .u64 st.j.cr, .int .i64 ev, .int .u64 (chainOf n (startOf ev sx)), .slice Av W.length cv] rfl ?_; intro w13 hbk hgr; have V13 := Aside0.mk hbk; have S13 := Aside0.mk (S12.out.over V12.out (by decide) LV.out.2.1 LV.out.2.2.1 LV.out.1 hgr); have RW13 := Aside0.mk (RI_over RW12.out V12.out (by decide) hgr); have hv13 := blk_cell V13.out 4; have hw13 := blk_cell S13.out.bw; have hx13 := blk_cell (blk_below BM3.out S13.out.bel); clear hbk hgr))
              clear hv12 hw12 hx12 hx13
              by_cases he : ev = st.ep
              · have tb : (ev != st.ep) = false := by rw [he]; exact bne_self_eq_false _
                go_wp2_with fail
                go_meet
                exact ⟨(startOf ev sx), st.j.ce, st.j.cr, ev, (chainOf n (startOf ev sx)), ⟨HSR.out.2, HEP.out⟩, V13, S13, RW13⟩
              · have tb : (ev != st.ep) = true := by rw [bne_iff_ne]; exact he
                go_wp2_with (refine store_at rfl rfl 34 (.tmp 162) (.tmp 161) rfl vb 2 43 _ [.int .i64 st.j.pe, .int .u64 st.j.pr] (.agg #[.int .i64 st.j.pe, .int .u64 st.j.pr]) rfl rfl rfl V13.out (by simp) (by kernel_rfl) (by simp [Value.oneCell']) #[.int .i64 (startOf ev sx), .int .u64 r2, .int .i64 st.j.pe, .int .u64 st.j.pr, .int .i64 ev, .int .u64 (chainOf n (startOf ev sx)), .slice Av W.length cv] rfl ?_; intro w14 hbk hgr; have V14 := Aside0.mk hbk; have S14 := Aside0.mk (S13.out.over V13.out (by decide) LV.out.2.1 LV.out.2.2.1 LV.out.1 hgr); have RW14 := Aside0.mk (RI_over RW13.out V13.out (by decide) hgr); have hv14 := blk_cell V14.out 4; have hw14 := blk_cell S14.out.bw; have hx14 := blk_cell (blk_below BM3.out S14.out.bel); clear hbk hgr)
                go_meet
                exact ⟨(startOf ev sx), st.j.pe, st.j.pr, ev, (chainOf n (startOf ev sx)), ⟨HSR.out.2, HEP.out⟩, V14, S14, RW14⟩
          case rest =>
            obtain ⟨us, use, usr, ute, utr, HU, V9, S9, RW9⟩ := hcut
            rename World => w9
            clear S8 V8 BA8 RW8 SA BA IA HRV HCV
            have HWL : Aside0 (W.length ≤ 17592186043904) := ⟨by have h1 := HR.out.2.2; have h2 := HLN.out; omega⟩
            obtain ⟨rt, kr2, hrt, hro⟩ := sc_right lx W sx bx us r2 use usr ute utr (by have := HWL.out; omega) HU.out.1
            have HRT := Aside0.mk hrt
            obtain ⟨⟨s2, ob⟩, hc⟩ : ∃ z, countOf sx (chainOf n) st rt use usr ute utr W = z := ⟨_, rfl⟩
            have HC := Aside0.mk hc
            have OK2 : Aside0 (ScOk lx.length sx s2 slot) := ⟨by have h := OK.out.counted (chainOf n) rt use usr ute utr W; rw [hc] at h; exact h⟩
            have HIN : Aside0 (rt = true → ∀ j, j < W.length → 0 ≤ rd W (j : Int) ∧ rd W (j : Int) < (st.bf.length : Int) ∧ rd W (j : Int) < (st.nw.length : Int)) := ⟨fun e j hj => by have h := (hro e).2 j hj; rw [OK.out.bl, OK.out.nl]; exact ⟨h.1, h.2, h.2⟩⟩
            have HPO : Aside0 (rt = true → 0 ≤ ute) := ⟨fun e => (hro e).1⟩
            clear hrt hro hc
            have hx9 := blk_cell (blk_below BM3.out S9.out.bel)
            have hs9 := blk_cell S9.out.bs
            have hv9 := blk_cell V9.out
            go_upto_region 28 with (go_at_call 18; with_reducible refine (count_to HC.out S9.out.si (Kd.R_reads' RW9.out).2.2 (Kd.R_reads' RW9.out).2.1 HRT.out HIN.out HWL.out HU.out.2).mono ?_; rintro x w10 ⟨A2, a2, B2, b2, rfl, hsi, hb⟩; have SIT10 := Aside0.mk hsi; have S10 := Aside0.mk (S9.out.below hb); have V10 := Aside0.mk (blk_below V9.out hb); have RW10 := Aside0.mk (Kd.R_below RW9.out hb); clear hsi hb hx9 hs9 hv9)
            obtain ⟨w11, hw⟩ : ∃ x, x = w10.alloc (.cells (stC s2 A2 a2 B2 b2) 39) := ⟨_, rfl⟩
            have TB11 : Aside0 (w11.heap[w10.heap.size]? = some (.cells (stC s2 A2 a2 B2 b2) 39 (0, 0))) := ⟨by rw [hw]; exact heap_alloc_new _ _⟩
            have HBx : Aside0 (Below w10.heap.size w10 w11) := ⟨by rw [hw]; exact below_alloc (Below.refl _ _) _⟩
            rw [← hw]
            have S11 := Aside0.mk (S10.out.below HBx.out)
            have V11 := Aside0.mk (blk_below V10.out HBx.out)
            have RW11 := Aside0.mk (Kd.R_below RW10.out HBx.out)
            have SIT11 := Aside0.mk (SIT10.out.below HBx.out)
            have LT1 : Aside0 (w10.heap.size ≠ sb ∧ w10.heap.size ≠ wb) := ⟨by have h1 := S10.out.lts; omega⟩
            obtain ⟨tb, htb⟩ : ∃ g, w10.heap.size = g := ⟨_, rfl⟩
            rw [htb] at TB11 LT1
            rw [htb]
            clear hw htb HBx S10 V10 RW10 SIT10 S9 V9 RW9
            have hx11 := blk_cell (blk_below BM3.out S11.out.bel)
            have hs11 := blk_cell S11.out.bw
            have hv11 := blk_cell V11.out
            go_upto_region 29 with (go_at_call 19; with_reducible refine (cnt10_to HC.out S11.out.wi (Kd.R_reads' RW11.out).2.2 (Kd.R_reads' RW11.out).2.1 HRT.out HIN.out HWL.out HU.out.2 HPO.out).mono ?_; rintro x w12 ⟨C2, c2, D2, d2_, rfl, hsi, hb⟩; have SIU12 := Aside0.mk hsi; have S12 := Aside0.mk (S11.out.below hb); have TB12 := Aside0.mk (blk_below TB11.out hb); have SIT12 := Aside0.mk (SIT11.out.below hb); clear hsi hb hx11 hs11 hv11)
            obtain ⟨w13, hw⟩ : ∃ x, x = w12.alloc (.cells (stC s2 C2 c2 D2 d2_) 39) := ⟨_, rfl⟩
            have UB13 : Aside0 (w13.heap[w12.heap.size]? = some (.cells (stC s2 C2 c2 D2 d2_) 39 (0, 0))) := ⟨by rw [hw]; exact heap_alloc_new _ _⟩
            have HBx : Aside0 (Below w12.heap.size w12 w13) := ⟨by rw [hw]; exact below_alloc (Below.refl _ _) _⟩
            rw [← hw]
            have LT2 : Aside0 (w12.heap.size ≠ sb ∧ w12.heap.size ≠ wb) := ⟨by have h1 := S12.out.lts; omega⟩
            have HBD := Aside0.mk (below_then HBx.out HBx.out.size (below_drew (Below.refl w13.heap.size w13)))
            have SX_0 := Aside0.mk (S12.out.below HBD.out)
            have TB_0 := Aside0.mk (blk_below TB12.out HBD.out)
            have SIT_0 := Aside0.mk (SIT12.out.below HBD.out)
            have SIU_0 := Aside0.mk (SIU12.out.below HBD.out)
            have UB_0 := Aside0.mk (blk_below UB13.out (below_drew (Below.refl w13.heap.size w13)))
            obtain ⟨ub, hub⟩ : ∃ g, w12.heap.size = g := ⟨_, rfl⟩
            rw [hub] at UB13 UB_0 LT2
            rw [hub]
            have LT : Aside0 (tb ≠ sb ∧ tb ≠ wb ∧ ub ≠ sb ∧ ub ≠ wb) := ⟨⟨LT1.out.1, LT1.out.2, LT2.out.1, LT2.out.2⟩⟩
            clear hw hub HBx HBD S12 TB12 SIT12 SIU12 S11 V11 RW11 SIT11 TB11 UB13 LT1 LT2
            have tob : (ob != ob) = false := bne_self_eq_false _
            go_upto_region 31 with fail
            refine start_ (n := 4) (S := fun w' => w'.cell? ⟨tb, 0, none⟩ = some (.bool s2.j.b0) ∧ w'.cell? ⟨tb, 1, none⟩ = some (.bool s2.j.b1) ∧ w'.cell? ⟨tb, 2, none⟩ = some (.bool s2.j.b2) ∧ w'.cell? ⟨tb, 3, none⟩ = some (.bool s2.j.b3) ∧ w'.cell? ⟨tb, 4, none⟩ = some (.int .i64 s2.j.pe) ∧ w'.cell? ⟨tb, 5, none⟩ = some (.int .u64 s2.j.pr) ∧ w'.cell? ⟨tb, 6, none⟩ = some (.int .i64 s2.j.ce) ∧ w'.cell? ⟨tb, 7, none⟩ = some (.int .u64 s2.j.cr) ∧ w'.cell? ⟨tb, 8, none⟩ = some (.int .i64 s2.j.fe) ∧ w'.cell? ⟨tb, 9, none⟩ = some (.int .u64 s2.j.fr) ∧ w'.cell? ⟨tb, 10, none⟩ = some (.int .i64 s2.ep) ∧ w'.cell? ⟨tb, 11, none⟩ = some (.slice A2 s2.bf.length a2) ∧ w'.cell? ⟨tb, 12, none⟩ = some (.slice B2 s2.nw.length b2) ∧ w'.cell? ⟨ub, 0, none⟩ = some (.bool s2.j.b0) ∧ w'.cell? ⟨ub, 1, none⟩ = some (.bool s2.j.b1) ∧ w'.cell? ⟨ub, 2, none⟩ = some (.bool s2.j.b2) ∧ w'.cell? ⟨ub, 3, none⟩ = some (.bool s2.j.b3) ∧ w'.cell? ⟨ub, 4, none⟩ = some (.int .i64 s2.j.pe) ∧ w'.cell? ⟨ub, 5, none⟩ = some (.int .u64 s2.j.pr) ∧ w'.cell? ⟨ub, 6, none⟩ = some (.int .i64 s2.j.ce) ∧ w'.cell? ⟨ub, 7, none⟩ = some (.int .u64 s2.j.cr) ∧ w'.cell? ⟨ub, 8, none⟩ = some (.int .i64 s2.j.fe) ∧ w'.cell? ⟨ub, 9, none⟩ = some (.int .u64 s2.j.fr) ∧ w'.cell? ⟨ub, 10, none⟩ = some (.int .i64 s2.ep) ∧ w'.cell? ⟨ub, 11, none⟩ = some (.slice C2 s2.bf.length c2) ∧ w'.cell? ⟨ub, 12, none⟩ = some (.slice D2 s2.nw.length d2_)) (ds := []) #[false, false, false, false] (by kernel_rfl) rfl rfl ⟨(blk_cell TB_0.out 0), (blk_cell TB_0.out 1), (blk_cell TB_0.out 2), (blk_cell TB_0.out 3), (blk_cell TB_0.out 4), (blk_cell TB_0.out 5), (blk_cell TB_0.out 6), (blk_cell TB_0.out 7), (blk_cell TB_0.out 8), (blk_cell TB_0.out 9), (blk_cell TB_0.out 10), (blk_cell TB_0.out 11), (blk_cell TB_0.out 12), (blk_cell UB_0.out 0), (blk_cell UB_0.out 1), (blk_cell UB_0.out 2), (blk_cell UB_0.out 3), (blk_cell UB_0.out 4), (blk_cell UB_0.out 5), (blk_cell UB_0.out 6), (blk_cell UB_0.out 7), (blk_cell UB_0.out 8), (blk_cell UB_0.out 9), (blk_cell UB_0.out 10), (blk_cell UB_0.out 11), (blk_cell UB_0.out 12)⟩ (fun hHeld => ?_)
            refine take_ (i := 0) (N := some 182) (v := ?_) (a' := ?_) #[true, false, false, false] rfl rfl (by kernel_rfl) (fun _ _ _ h => h) (Or.inl ⟨by rfl, ?_⟩) hHeld ?_ ?_
            rotate_left
            · rintro w' ⟨s0, s1, s2, s3, s4, s5, s6, s7, s8, s9, s10, s11, s12, s13, s14, s15, s16, s17, s18, s19, s20, s21, s22, s23, s24, s25⟩
              go_simp
              with_reducible rfl
            rotate_left
            · simp only [Act.put, List.setIfInBounds_toArray, List.set_cons_zero, List.set_cons_succ, i64_w, i32_w]
              rfl
            refine take_ (i := 1) (N := some 183) (v := ?_) (a' := ?_) #[true, true, false, false] rfl rfl (by kernel_rfl) (fun _ _ _ h => h) (Or.inl ⟨by rfl, ?_⟩) hHeld ?_ ?_
            rotate_left
            · rintro w' ⟨s0, s1, s2, s3, s4, s5, s6, s7, s8, s9, s10, s11, s12, s13, s14, s15, s16, s17, s18, s19, s20, s21, s22, s23, s24, s25⟩
              go_simp
              with_reducible rfl
            rotate_left
            · simp only [Act.put, List.setIfInBounds_toArray, List.set_cons_zero, List.set_cons_succ, i64_w, i32_w]
              rfl
            refine one_ (i := 2) (N := none) #[true, true, true, false] rfl rfl (by kernel_rfl) (by decide) (fun K hK => ?_)
            refine store_step (by rfl) rfl 39 (.tmp 9) (.tmp 182) rfl sb 39 _ #[.bool s2.j.b0, .bool s2.j.b1, .bool s2.j.b2, .bool s2.j.b3, .int .i64 s2.j.pe, .int .u64 s2.j.pr, .int .i64 s2.j.ce, .int .u64 s2.j.cr, .int .i64 s2.j.fe, .int .u64 s2.j.fr, .int .i64 s2.ep, .slice A2 s2.bf.length a2, .slice B2 s2.nw.length b2] rfl rfl SX_0.out.bs rfl (by kernel_rfl) (by simp [Value.oneCell']) ?_
            intro wq1 hbk hgr
            have SX_1 := Aside0.mk (SX_0.out.putS SIT_0.out hbk hgr)
            have TB_1 := Aside0.mk (blk_grown TB_0.out hgr (fun e => by injection e with e; have := LT.out; omega))
            have UB_1 := Aside0.mk (blk_grown UB_0.out hgr (fun e => by injection e with e; have := LT.out; omega))
            have SIT_1 := Aside0.mk (SIT_0.out.over CN3.out SX_0.out.bs (by decide) hgr SX_1.out.bel)
            have SIU_1 := Aside0.mk (SIU_0.out.over CN3.out SX_0.out.bs (by decide) hgr SX_1.out.bel)
            clear hbk hgr
            refine hK.out _ _ ⟨(blk_cell TB_1.out 0), (blk_cell TB_1.out 1), (blk_cell TB_1.out 2), (blk_cell TB_1.out 3), (blk_cell TB_1.out 4), (blk_cell TB_1.out 5), (blk_cell TB_1.out 6), (blk_cell TB_1.out 7), (blk_cell TB_1.out 8), (blk_cell TB_1.out 9), (blk_cell TB_1.out 10), (blk_cell TB_1.out 11), (blk_cell TB_1.out 12), (blk_cell UB_1.out 0), (blk_cell UB_1.out 1), (blk_cell UB_1.out 2), (blk_cell UB_1.out 3), (blk_cell UB_1.out 4), (blk_cell UB_1.out 5), (blk_cell UB_1.out 6), (blk_cell UB_1.out 7), (blk_cell UB_1.out 8), (blk_cell UB_1.out 9), (blk_cell UB_1.out 10), (blk_cell UB_1.out 11), (blk_cell UB_1.out 12)⟩ (fun hHeld => ?_)
            clear hK K
            refine one_ (i := 3) (N := none) #[true, true, true, true] rfl rfl (by kernel_rfl) (by decide) (fun K hK => ?_)
            refine store_step (by rfl) rfl 39 (.tmp 11) (.tmp 183) rfl wb 39 _ #[.bool s2.j.b0, .bool s2.j.b1, .bool s2.j.b2, .bool s2.j.b3, .int .i64 s2.j.pe, .int .u64 s2.j.pr, .int .i64 s2.j.ce, .int .u64 s2.j.cr, .int .i64 s2.j.fe, .int .u64 s2.j.fr, .int .i64 s2.ep, .slice C2 s2.bf.length c2, .slice D2 s2.nw.length d2_] rfl rfl SX_1.out.bw rfl (by kernel_rfl) (by simp [Value.oneCell']) ?_
            intro wq2 hbk hgr
            have SX_2 := Aside0.mk (SX_1.out.putW SIU_1.out hbk hgr)
            have TB_2 := Aside0.mk (blk_grown TB_1.out hgr (fun e => by injection e with e; have := LT.out; omega))
            have UB_2 := Aside0.mk (blk_grown UB_1.out hgr (fun e => by injection e with e; have := LT.out; omega))
            have SIT_2 := Aside0.mk (SIT_1.out.over CN3.out SX_1.out.bw (by decide) hgr SX_2.out.bel)
            have SIU_2 := Aside0.mk (SIU_1.out.over CN3.out SX_1.out.bw (by decide) hgr SX_2.out.bel)
            clear hbk hgr
            refine hK.out _ _ ⟨(blk_cell TB_2.out 0), (blk_cell TB_2.out 1), (blk_cell TB_2.out 2), (blk_cell TB_2.out 3), (blk_cell TB_2.out 4), (blk_cell TB_2.out 5), (blk_cell TB_2.out 6), (blk_cell TB_2.out 7), (blk_cell TB_2.out 8), (blk_cell TB_2.out 9), (blk_cell TB_2.out 10), (blk_cell TB_2.out 11), (blk_cell TB_2.out 12), (blk_cell UB_2.out 0), (blk_cell UB_2.out 1), (blk_cell UB_2.out 2), (blk_cell UB_2.out 3), (blk_cell UB_2.out 4), (blk_cell UB_2.out 5), (blk_cell UB_2.out 6), (blk_cell UB_2.out 7), (blk_cell UB_2.out 8), (blk_cell UB_2.out 9), (blk_cell UB_2.out 10), (blk_cell UB_2.out 11), (blk_cell UB_2.out 12)⟩ (fun hHeld => ?_)
            clear hK K
            refine done_ (by kernel_rfl) ?_
            go_wp2_with fail
            go_meet
            exact ⟨slot, s2, A2, a2, B2, b2, C2, c2, D2, d2_, rfl, OK2, SX_2⟩
      case rest =>
        clear SA BA IA LA OK hba
        obtain ⟨slot, st, A, a, B, b, C, c, D, d, rfl, OK, SC⟩ := hcut
        rename World => wc_
        have BMc := Aside0.mk (blk_below BM3.out SC.out.bel)
        obtain ⟨⟨m0, m1, m2, m3, mpe, mpr, mce, mcr, mfe, mfr⟩, hpl⟩ : ∃ z, pullOf lx sx (chainOf n) st = z := ⟨_, rfl⟩
        have HPL := Aside0.mk hpl
        clear hpl
        go_upto_region 32 with fail
        refine start_ (n := 15) (S := fun w' => w'.cell? ⟨xb, 0, none⟩ = some (.slice AX lx.length cX) ∧ w'.cell? ⟨xb, 1, none⟩ = some (.int .i64 sx) ∧ w'.cell? ⟨xb, 2, none⟩ = some (.int .i64 bx) ∧ w'.cell? ⟨sb, 0, none⟩ = some (.bool st.j.b0) ∧ w'.cell? ⟨sb, 1, none⟩ = some (.bool st.j.b1) ∧ w'.cell? ⟨sb, 2, none⟩ = some (.bool st.j.b2) ∧ w'.cell? ⟨sb, 3, none⟩ = some (.bool st.j.b3) ∧ w'.cell? ⟨sb, 4, none⟩ = some (.int .i64 st.j.pe) ∧ w'.cell? ⟨sb, 5, none⟩ = some (.int .u64 st.j.pr) ∧ w'.cell? ⟨sb, 6, none⟩ = some (.int .i64 st.j.ce) ∧ w'.cell? ⟨sb, 7, none⟩ = some (.int .u64 st.j.cr) ∧ w'.cell? ⟨sb, 8, none⟩ = some (.int .i64 st.j.fe) ∧ w'.cell? ⟨sb, 9, none⟩ = some (.int .u64 st.j.fr) ∧ w'.cell? ⟨sb, 10, none⟩ = some (.int .i64 st.ep) ∧ w'.cell? ⟨sb, 11, none⟩ = some (.slice A st.bf.length a) ∧ w'.cell? ⟨sb, 12, none⟩ = some (.slice B st.nw.length b) ∧ w'.cell? ⟨wb, 0, none⟩ = some (.bool st.j.b0) ∧ w'.cell? ⟨wb, 1, none⟩ = some (.bool st.j.b1) ∧ w'.cell? ⟨wb, 2, none⟩ = some (.bool st.j.b2) ∧ w'.cell? ⟨wb, 3, none⟩ = some (.bool st.j.b3) ∧ w'.cell? ⟨wb, 4, none⟩ = some (.int .i64 st.j.pe) ∧ w'.cell? ⟨wb, 5, none⟩ = some (.int .u64 st.j.pr) ∧ w'.cell? ⟨wb, 6, none⟩ = some (.int .i64 st.j.ce) ∧ w'.cell? ⟨wb, 7, none⟩ = some (.int .u64 st.j.cr) ∧ w'.cell? ⟨wb, 8, none⟩ = some (.int .i64 st.j.fe) ∧ w'.cell? ⟨wb, 9, none⟩ = some (.int .u64 st.j.fr) ∧ w'.cell? ⟨wb, 10, none⟩ = some (.int .i64 st.ep) ∧ w'.cell? ⟨wb, 11, none⟩ = some (.slice C st.bf.length c) ∧ w'.cell? ⟨wb, 12, none⟩ = some (.slice D st.nw.length d)) (ds := []) #[false, false, false, false, false, false, false, false, false, false, false, false, false, false, false] (by kernel_rfl) rfl rfl ⟨(blk_cell BMc.out 0), (blk_cell BMc.out 1), (blk_cell BMc.out 2), (blk_cell SC.out.bs 0), (blk_cell SC.out.bs 1), (blk_cell SC.out.bs 2), (blk_cell SC.out.bs 3), (blk_cell SC.out.bs 4), (blk_cell SC.out.bs 5), (blk_cell SC.out.bs 6), (blk_cell SC.out.bs 7), (blk_cell SC.out.bs 8), (blk_cell SC.out.bs 9), (blk_cell SC.out.bs 10), (blk_cell SC.out.bs 11), (blk_cell SC.out.bs 12), (blk_cell SC.out.bw 0), (blk_cell SC.out.bw 1), (blk_cell SC.out.bw 2), (blk_cell SC.out.bw 3), (blk_cell SC.out.bw 4), (blk_cell SC.out.bw 5), (blk_cell SC.out.bw 6), (blk_cell SC.out.bw 7), (blk_cell SC.out.bw 8), (blk_cell SC.out.bw 9), (blk_cell SC.out.bw 10), (blk_cell SC.out.bw 11), (blk_cell SC.out.bw 12)⟩ (fun hHeld => ?_)
        refine take_ (i := 0) (N := some 184) (v := ?_) (a' := ?_) #[true, false, false, false, false, false, false, false, false, false, false, false, false, false, false] rfl rfl (by kernel_rfl) (fun _ _ _ h => h) (Or.inl ⟨by rfl, ?_⟩) hHeld ?_ ?_
        rotate_left
        · rintro w' ⟨s0, s1, s2, s3, s4, s5, s6, s7, s8, s9, s10, s11, s12, s13, s14, s15, s16, s17, s18, s19, s20, s21, s22, s23, s24, s25, s26, s27, s28⟩
          go_simp
          with_reducible rfl
        rotate_left
        · simp only [Act.put, List.setIfInBounds_toArray, List.set_cons_zero, List.set_cons_succ, i64_w, i32_w]
          rfl
        refine take_ (i := 1) (N := some 185) (v := ?_) (a' := ?_) #[true, true, false, false, false, false, false, false, false, false, false, false, false, false, false] rfl rfl (by kernel_rfl) (fun _ _ _ h => h) (Or.inl ⟨by rfl, ?_⟩) hHeld ?_ ?_
        rotate_left
        · rintro w' ⟨s0, s1, s2, s3, s4, s5, s6, s7, s8, s9, s10, s11, s12, s13, s14, s15, s16, s17, s18, s19, s20, s21, s22, s23, s24, s25, s26, s27, s28⟩
          go_simp
          with_reducible rfl
        rotate_left
        · simp only [Act.put, List.setIfInBounds_toArray, List.set_cons_zero, List.set_cons_succ, i64_w, i32_w]
          rfl
        refine one_ (i := 2) (N := some 186) #[true, true, true, false, false, false, false, false, false, false, false, false, false, false, false] rfl rfl (by kernel_rfl) (by decide) (fun K hK => ?_)
        refine goes_ Try.func20 (by kernel_rfl) rfl #[.agg #[.bool st.j.b0, .bool st.j.b1, .bool st.j.b2, .bool st.j.b3, .int .i64 st.j.pe, .int .u64 st.j.pr, .int .i64 st.j.ce, .int .u64 st.j.cr, .int .i64 st.j.fe, .int .u64 st.j.fr, .int .i64 st.ep, .slice A st.bf.length a, .slice B st.nw.length b], .agg #[.bool st.j.b0, .bool st.j.b1, .bool st.j.b2, .bool st.j.b3, .int .i64 st.j.pe, .int .u64 st.j.pr, .int .i64 st.j.ce, .int .u64 st.j.cr, .int .i64 st.j.fe, .int .u64 st.j.fr, .int .i64 st.ep, .slice C st.bf.length c, .slice D st.nw.length d]] (by rfl) rfl rfl (by simp only [List.map_toArray, List.map_cons, List.map_nil]; rfl) ?_
        with_reducible refine (same_calls st A a B b C c D d _ (SIn.same (SC.out.si.below (below_drew (Below.refl wc_.heap.size wc_))) (SC.out.wi.below (below_drew (Below.refl wc_.heap.size wc_))))).mono ?_
        rintro x wq0 ⟨rfl, hb⟩
        refine ⟨_, rfl, ?_⟩
        have HQ0 := Aside0.mk (below_then (below_drew (Below.refl wc_.heap.size wc_)) (Nat.le_refl _) hb)
        clear hb
        refine hK.out _ _ ⟨(pw_cell_below HQ0.out (blk_cell BMc.out 0)), (pw_cell_below HQ0.out (blk_cell BMc.out 1)), (pw_cell_below HQ0.out (blk_cell BMc.out 2)), (pw_cell_below HQ0.out (blk_cell SC.out.bs 0)), (pw_cell_below HQ0.out (blk_cell SC.out.bs 1)), (pw_cell_below HQ0.out (blk_cell SC.out.bs 2)), (pw_cell_below HQ0.out (blk_cell SC.out.bs 3)), (pw_cell_below HQ0.out (blk_cell SC.out.bs 4)), (pw_cell_below HQ0.out (blk_cell SC.out.bs 5)), (pw_cell_below HQ0.out (blk_cell SC.out.bs 6)), (pw_cell_below HQ0.out (blk_cell SC.out.bs 7)), (pw_cell_below HQ0.out (blk_cell SC.out.bs 8)), (pw_cell_below HQ0.out (blk_cell SC.out.bs 9)), (pw_cell_below HQ0.out (blk_cell SC.out.bs 10)), (pw_cell_below HQ0.out (blk_cell SC.out.bs 11)), (pw_cell_below HQ0.out (blk_cell SC.out.bs 12)), (pw_cell_below HQ0.out (blk_cell SC.out.bw 0)), (pw_cell_below HQ0.out (blk_cell SC.out.bw 1)), (pw_cell_below HQ0.out (blk_cell SC.out.bw 2)), (pw_cell_below HQ0.out (blk_cell SC.out.bw 3)), (pw_cell_below HQ0.out (blk_cell SC.out.bw 4)), (pw_cell_below HQ0.out (blk_cell SC.out.bw 5)), (pw_cell_below HQ0.out (blk_cell SC.out.bw 6)), (pw_cell_below HQ0.out (blk_cell SC.out.bw 7)), (pw_cell_below HQ0.out (blk_cell SC.out.bw 8)), (pw_cell_below HQ0.out (blk_cell SC.out.bw 9)), (pw_cell_below HQ0.out (blk_cell SC.out.bw 10)), (pw_cell_below HQ0.out (blk_cell SC.out.bw 11)), (pw_cell_below HQ0.out (blk_cell SC.out.bw 12))⟩ (fun hHeld => ?_)
        clear hK K
        refine norm_ (a' := ?_) ?_ ?_
        rotate_left
        · show Act.put _ (some 186) _ = _
          simp only [Act.put, List.setIfInBounds_toArray, List.set_cons_zero, List.set_cons_succ, i64_w, i32_w]
          rfl
        refine pure_ (i := 3) (N := some 187) (v := ?_) (a' := ?_) #[true, true, true, true, false, false, false, false, false, false, false, false, false, false, false] rfl rfl (by kernel_rfl) (fun _ _ _ h => h) (Or.inl ⟨by rfl, ?_⟩) ?_ ?_
        rotate_left
        · intro w'
          go_simp
          with_reducible rfl
        rotate_left
        · simp only [Act.put, List.setIfInBounds_toArray, List.set_cons_zero, List.set_cons_succ, i64_w, i32_w]
          rfl
        refine pure_ (i := 4) (N := some 188) (v := ?_) (a' := ?_) #[true, true, true, true, true, false, false, false, false, false, false, false, false, false, false] rfl rfl (by kernel_rfl) (fun _ _ _ h => h) (Or.inl ⟨by rfl, ?_⟩) ?_ ?_
        rotate_left
        · intro w'
          go_simp
          with_reducible rfl
        rotate_left
        · simp only [Act.put, List.setIfInBounds_toArray, List.set_cons_zero, List.set_cons_succ, i64_w, i32_w]
          rfl
        refine pure_ (i := 7) (N := some 191) (v := ?_) (a' := ?_) #[true, true, true, true, true, false, false, true, false, false, false, false, false, false, false] rfl rfl (by kernel_rfl) (fun _ _ _ h => h) (Or.inl ⟨by rfl, ?_⟩) ?_ ?_
        rotate_left
        · intro w'
          go_simp
          with_reducible rfl
        rotate_left
        · simp only [Act.put, List.setIfInBounds_toArray, List.set_cons_zero, List.set_cons_succ, i64_w, i32_w]
          rfl
        refine pure_ (i := 11) (N := some 195) (v := ?_) (a' := ?_) #[true, true, true, true, true, false, false, true, false, false, false, true, false, false, false] rfl rfl (by kernel_rfl) (fun _ _ _ h => h) (Or.inl ⟨by rfl, ?_⟩) ?_ ?_
        rotate_left
        · intro w'
          go_simp
          with_reducible rfl
        rotate_left
        · simp only [Act.put, List.setIfInBounds_toArray, List.set_cons_zero, List.set_cons_succ, i64_w, i32_w]
          rfl
        refine take_ (i := 5) (N := some 189) (v := ?_) (a' := ?_) #[true, true, true, true, true, true, false, true, false, false, false, true, false, false, false] rfl rfl (by kernel_rfl) (fun _ _ _ h => h) (Or.inl ⟨by rfl, ?_⟩) hHeld ?_ ?_
        rotate_left
        · rintro w' ⟨s0, s1, s2, s3, s4, s5, s6, s7, s8, s9, s10, s11, s12, s13, s14, s15, s16, s17, s18, s19, s20, s21, s22, s23, s24, s25, s26, s27, s28⟩
          go_simp
          with_reducible rfl
        rotate_left
        · simp only [Act.put, List.setIfInBounds_toArray, List.set_cons_zero, List.set_cons_succ, i64_w, i32_w]
          rfl
        refine take_ (i := 6) (N := some 190) (v := ?_) (a' := ?_) #[true, true, true, true, true, true, true, true, false, false, false, true, false, false, false] rfl rfl (by kernel_rfl) (fun _ _ _ h => h) (Or.inl ⟨by rfl, ?_⟩) hHeld ?_ ?_
        rotate_left
        · rintro w' ⟨s0, s1, s2, s3, s4, s5, s6, s7, s8, s9, s10, s11, s12, s13, s14, s15, s16, s17, s18, s19, s20, s21, s22, s23, s24, s25, s26, s27, s28⟩
          go_simp
          with_reducible rfl
        rotate_left
        · simp only [Act.put, List.setIfInBounds_toArray, List.set_cons_zero, List.set_cons_succ, i64_w, i32_w]
          rfl
        refine take_ (i := 9) (N := some 193) (v := ?_) (a' := ?_) #[true, true, true, true, true, true, true, true, false, true, false, true, false, false, false] rfl rfl (by kernel_rfl) (fun _ _ _ h => h) (Or.inl ⟨by rfl, ?_⟩) hHeld ?_ ?_
        rotate_left
        · rintro w' ⟨s0, s1, s2, s3, s4, s5, s6, s7, s8, s9, s10, s11, s12, s13, s14, s15, s16, s17, s18, s19, s20, s21, s22, s23, s24, s25, s26, s27, s28⟩
          go_simp
          with_reducible rfl
        rotate_left
        · simp only [Act.put, List.setIfInBounds_toArray, List.set_cons_zero, List.set_cons_succ, i64_w, i32_w]
          rfl
        refine take_ (i := 10) (N := some 194) (v := ?_) (a' := ?_) #[true, true, true, true, true, true, true, true, false, true, true, true, false, false, false] rfl rfl (by kernel_rfl) (fun _ _ _ h => h) (Or.inl ⟨by rfl, ?_⟩) hHeld ?_ ?_
        rotate_left
        · rintro w' ⟨s0, s1, s2, s3, s4, s5, s6, s7, s8, s9, s10, s11, s12, s13, s14, s15, s16, s17, s18, s19, s20, s21, s22, s23, s24, s25, s26, s27, s28⟩
          go_simp
          with_reducible rfl
        rotate_left
        · simp only [Act.put, List.setIfInBounds_toArray, List.set_cons_zero, List.set_cons_succ, i64_w, i32_w]
          rfl
        refine one_ (i := 8) (N := some 192) #[true, true, true, true, true, true, true, true, true, true, true, true, false, false, false] rfl rfl (by kernel_rfl) (by decide) (fun K hK => ?_)
        refine goes_ Try.func21 (by kernel_rfl) rfl #[.agg #[.slice AX lx.length cX, .int .i64 sx, .int .i64 bx], .agg #[.bool st.j.b0, .bool st.j.b1, .bool st.j.b2, .bool st.j.b3, .int .i64 st.j.pe, .int .u64 st.j.pr, .int .i64 st.j.ce, .int .u64 st.j.cr, .int .i64 st.j.fe, .int .u64 st.j.fr, .int .i64 st.ep, .slice A st.bf.length a, .slice B st.nw.length b], v] (by rfl) rfl rfl (by simp only [List.map_toArray, List.map_cons, List.map_nil]; rfl) ?_
        with_reducible refine (pull_to' HPL.out (SC.out.si.below HQ0.out)).mono ?_
        rintro x wq1 ⟨rfl, hb⟩
        refine ⟨_, rfl, ?_⟩
        have HQ1 := Aside0.mk (below_then HQ0.out HQ0.out.size hb)
        clear hb
        refine hK.out _ _ ⟨(pw_cell_below HQ1.out (blk_cell BMc.out 0)), (pw_cell_below HQ1.out (blk_cell BMc.out 1)), (pw_cell_below HQ1.out (blk_cell BMc.out 2)), (pw_cell_below HQ1.out (blk_cell SC.out.bs 0)), (pw_cell_below HQ1.out (blk_cell SC.out.bs 1)), (pw_cell_below HQ1.out (blk_cell SC.out.bs 2)), (pw_cell_below HQ1.out (blk_cell SC.out.bs 3)), (pw_cell_below HQ1.out (blk_cell SC.out.bs 4)), (pw_cell_below HQ1.out (blk_cell SC.out.bs 5)), (pw_cell_below HQ1.out (blk_cell SC.out.bs 6)), (pw_cell_below HQ1.out (blk_cell SC.out.bs 7)), (pw_cell_below HQ1.out (blk_cell SC.out.bs 8)), (pw_cell_below HQ1.out (blk_cell SC.out.bs 9)), (pw_cell_below HQ1.out (blk_cell SC.out.bs 10)), (pw_cell_below HQ1.out (blk_cell SC.out.bs 11)), (pw_cell_below HQ1.out (blk_cell SC.out.bs 12)), (pw_cell_below HQ1.out (blk_cell SC.out.bw 0)), (pw_cell_below HQ1.out (blk_cell SC.out.bw 1)), (pw_cell_below HQ1.out (blk_cell SC.out.bw 2)), (pw_cell_below HQ1.out (blk_cell SC.out.bw 3)), (pw_cell_below HQ1.out (blk_cell SC.out.bw 4)), (pw_cell_below HQ1.out (blk_cell SC.out.bw 5)), (pw_cell_below HQ1.out (blk_cell SC.out.bw 6)), (pw_cell_below HQ1.out (blk_cell SC.out.bw 7)), (pw_cell_below HQ1.out (blk_cell SC.out.bw 8)), (pw_cell_below HQ1.out (blk_cell SC.out.bw 9)), (pw_cell_below HQ1.out (blk_cell SC.out.bw 10)), (pw_cell_below HQ1.out (blk_cell SC.out.bw 11)), (pw_cell_below HQ1.out (blk_cell SC.out.bw 12))⟩ (fun hHeld => ?_)
        clear hK K
        refine norm_ (a' := ?_) ?_ ?_
        rotate_left
        · show Act.put _ (some 192) _ = _
          simp only [Act.put, List.setIfInBounds_toArray, List.set_cons_zero, List.set_cons_succ, i64_w, i32_w]
          rfl
        refine one_ (i := 12) (N := some 196) #[true, true, true, true, true, true, true, true, true, true, true, true, true, false, false] rfl rfl (by kernel_rfl) (by decide) (fun K hK => ?_)
        refine goes_ Try.func14 (by kernel_rfl) rfl #[.agg #[.slice AX lx.length cX, .int .i64 sx, .int .i64 bx], .agg #[.bool st.j.b0, .bool st.j.b1, .bool st.j.b2, .bool st.j.b3, .int .i64 st.j.pe, .int .u64 st.j.pr, .int .i64 st.j.ce, .int .u64 st.j.cr, .int .i64 st.j.fe, .int .u64 st.j.fr, .int .i64 st.ep, .slice C st.bf.length c, .slice D st.nw.length d], v] (by rfl) rfl rfl (by simp only [List.map_toArray, List.map_cons, List.map_nil]; rfl) ?_
        with_reducible refine (pull10_to HPL.out (SC.out.wi.below HQ1.out)).mono ?_
        rintro x wq2 ⟨rfl, hb⟩
        refine ⟨_, rfl, ?_⟩
        have HQ2 := Aside0.mk (below_then HQ1.out HQ1.out.size hb)
        clear hb
        refine hK.out _ _ ⟨(pw_cell_below HQ2.out (blk_cell BMc.out 0)), (pw_cell_below HQ2.out (blk_cell BMc.out 1)), (pw_cell_below HQ2.out (blk_cell BMc.out 2)), (pw_cell_below HQ2.out (blk_cell SC.out.bs 0)), (pw_cell_below HQ2.out (blk_cell SC.out.bs 1)), (pw_cell_below HQ2.out (blk_cell SC.out.bs 2)), (pw_cell_below HQ2.out (blk_cell SC.out.bs 3)), (pw_cell_below HQ2.out (blk_cell SC.out.bs 4)), (pw_cell_below HQ2.out (blk_cell SC.out.bs 5)), (pw_cell_below HQ2.out (blk_cell SC.out.bs 6)), (pw_cell_below HQ2.out (blk_cell SC.out.bs 7)), (pw_cell_below HQ2.out (blk_cell SC.out.bs 8)), (pw_cell_below HQ2.out (blk_cell SC.out.bs 9)), (pw_cell_below HQ2.out (blk_cell SC.out.bs 10)), (pw_cell_below HQ2.out (blk_cell SC.out.bs 11)), (pw_cell_below HQ2.out (blk_cell SC.out.bs 12)), (pw_cell_below HQ2.out (blk_cell SC.out.bw 0)), (pw_cell_below HQ2.out (blk_cell SC.out.bw 1)), (pw_cell_below HQ2.out (blk_cell SC.out.bw 2)), (pw_cell_below HQ2.out (blk_cell SC.out.bw 3)), (pw_cell_below HQ2.out (blk_cell SC.out.bw 4)), (pw_cell_below HQ2.out (blk_cell SC.out.bw 5)), (pw_cell_below HQ2.out (blk_cell SC.out.bw 6)), (pw_cell_below HQ2.out (blk_cell SC.out.bw 7)), (pw_cell_below HQ2.out (blk_cell SC.out.bw 8)), (pw_cell_below HQ2.out (blk_cell SC.out.bw 9)), (pw_cell_below HQ2.out (blk_cell SC.out.bw 10)), (pw_cell_below HQ2.out (blk_cell SC.out.bw 11)), (pw_cell_below HQ2.out (blk_cell SC.out.bw 12))⟩ (fun hHeld => ?_)
        clear hK K
        refine norm_ (a' := ?_) ?_ ?_
        rotate_left
        · show Act.put _ (some 196) _ = _
          simp only [Act.put, List.setIfInBounds_toArray, List.set_cons_zero, List.set_cons_succ, i64_w, i32_w]
          rfl
        refine pure_ (i := 13) (N := some 197) (v := ?_) (a' := ?_) #[true, true, true, true, true, true, true, true, true, true, true, true, true, true, false] rfl rfl (by kernel_rfl) (fun _ _ _ h => h) (Or.inl ⟨by rfl, ?_⟩) ?_ ?_
        rotate_left
        · intro w'
          go_simp
          with_reducible rfl
        rotate_left
        · simp only [Act.put, List.setIfInBounds_toArray, List.set_cons_zero, List.set_cons_succ, i64_w, i32_w]
          rfl
        refine pure_ (i := 14) (N := some 198) (v := ?_) (a' := ?_) #[true, true, true, true, true, true, true, true, true, true, true, true, true, true, true] rfl rfl (by kernel_rfl) (fun _ _ _ h => h) (Or.inl ⟨by rfl, ?_⟩) ?_ ?_
        rotate_left
        · intro w'
          go_simp
          with_reducible rfl
        rotate_left
        · simp only [Act.put, List.setIfInBounds_toArray, List.set_cons_zero, List.set_cons_succ, i64_w, i32_w]
          rfl
        refine done_ (by kernel_rfl) ?_
        go_wp2_with fail
        go_roundg (n1 - (k + 1))
        case measure => omega
        case rel => exact ⟨k + 1, slot, st, A, a, B, b, C, c, D, d, by omega, rfl, by rw [HWK.out], rfl, OK, ⟨SC.out.below HQ2.out⟩⟩
    · have t9 : decide ((k : Int) < (n1 : Int)) = false := decide_eq_false (by omega)
      go_wp2_with fail
      go_ret
      exact ⟨rfl, below_then HB3.out HB3.out.size SC.out.bel⟩
theorem ledgerScript_args {A0 : Option Addr} {n0 c0 : Nat} {z0 : List Int} {sl bo n : Int} {A2 : Option Addr} {n2 c2 : Nat} {f2 : Nat → Open.DV} {w : World} (g0 : Open.ConfigArg w A0 n0 c0 z0 sl bo) (w1 : (Lit.int .u8 n).wf = true) (g2 : Open.ActsArg w A2 n2 c2 f2) :
    Calls Try.prog 3 #[.agg #[.slice A0 n0 c0, .int .i64 sl, .int .i64 bo], .int .u8 n, .slice A2 n2 c2] w fun x w' => x = .returned (.bool true) ∧ Below w.heap.size w w' :=
  ledgerScript_law A0 n0 c0 z0 sl bo n A2 n2 c2 f2 w (Kd.C_of_reads (d := (0 : Int)) (h1 := fun _ => rfl) g0.row.reads) g0.row.le (by have := g0.row.size; omega) (bd_i64 g0.ws) (bd_i64 g0.wb) (fun z hz => (bd_u64 (g0.row.wf z hz)).1) (bd_u8 w1) g2
end Go.Proofs.Ytiklbldanidfiaa.QL
