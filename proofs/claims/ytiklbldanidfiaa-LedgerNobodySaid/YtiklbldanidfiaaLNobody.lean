/-
  The law LedgerNobody of package psephoslaw10: where nobody votes nothing but the first block is ever justified, or final.
-/
import Derived.Test.YtiklbldanidfiaaLF
import Derived.Test.YtiklbldanidfiaaVoteM3
import Derived.Test.YtiklbldanidfiaaOpenStruct
import Derived.Test.YtiklbldanidfiaaWEqStruct
import Derived.Test.YtiklbldanidfiaaQLx12
namespace Go.Proofs.Ytiklbldanidfiaa.QL
open Go.RowKit Go.Proofs.YtiklbldanidfiaaW.PrintWords Go.Proofs.YtiklbldanidfiaaW.PrintLast Go.Proofs.YtiklbldanidfiaaW.PrintMore Go.Proofs.Ytiklbldanidfiaa.Own Go.Proofs.Ytiklbldanidfiaa.Justify Go.Proofs.Ytiklbldanidfiaa.QLV
set_option linter.unusedVariables false
set_option linter.unusedSimpArgs false
attribute [local go_sem] max2_is min2_is max_pair min_pair
attribute [local go_sem high] eqA34

set_option maxHeartbeats 16000000 in
set_option maxRecDepth 100000 in
theorem ledgerNobody_law (A0 : Option Addr) (n0 c0 : Nat) (z0 : List Int) (sl bo : Int) (n slots : Int) (w : World) (h0 : Kd.C (Kd.int .u64) w A0 n0 z0) (hc0 : n0 ≤ c0) (hn0 : n0 ≤ 17592186043904) (hs : -9223372036854775808 ≤ sl ∧ sl ≤ 9223372036854775807) (hb : -9223372036854775808 ≤ bo ∧ bo ≤ 9223372036854775807) (hp : ∀ z ∈ z0, 0 ≤ z) (h1 : 0 ≤ n ∧ n ≤ 255) (h2 : 0 ≤ slots ∧ slots ≤ 65535) :
    Calls Try.prog 6 #[.agg #[.slice A0 n0 c0, .int .i64 sl, .int .i64 bo], .int .u8 n, .int .u16 slots] w fun x w' => x = .returned (.bool true) ∧ Below w.heap.size w w' := by
  have HN := Aside0.mk h1
  have HSLT : Aside0 (-9223372036854775808 ≤ wrap64 slots ∧ wrap64 slots ≤ 9223372036854775807) := ⟨wrap_range slots⟩
  have HS2 := Aside0.mk h2
  have E8 : Aside0 (wrap64 slots = slots) := ⟨by unfold wrap64; omega⟩
  have hl0 : z0.length = n0 := h0.1
  subst hl0
  obtain ⟨kr, hkr⟩ := (make3_f z0 sl bo hn0 hb.1 hb.2).rounds
  have HKR := Aside0.mk hkr
  have H0 := Aside0.mk h0
  have HP := Aside0.mk (mkBal_mem z0 hp)
  have HLN := Aside0.mk (mkBal_len z0)
  have HSL := Aside0.mk (mkSlots_in sl)
  clear hkr h0 hp hs hb h1 h2
  go_enter Try.func6, Try.ntmps6
  go_upto_region 4 with (first
    | (go_at_call 9; refine (awake_calls _).mono ?_; rintro x w1 ⟨rfl, hb⟩; have HB1 := Aside0.mk (below_then (below_alloc (Below.refl w.heap.size w) _) (by simp) hb); have HBK := Aside0.mk (blk_below (heap_alloc_new w _) hb); have hcg := blk_cell HBK.out; clear hb)
    | (go_at_call 10; refine (psephoslaw03_Make.calls kr A0 c0 z0 sl bo _ _ _ _ (Kd.C_below H0.out HB1.out) hc0 HKR.out).mono ?_; rintro x w2 ⟨v0, rfl, hR, hb⟩; have HB2 := Aside0.mk (below_then HB1.out HB1.out.size hb); obtain ⟨AX, cX, rfl, hcx, hC⟩ := Kd.R_reads hR; have HX := Aside0.mk hC; have HCX := Aside0.mk hcx; clear hb hR hC hcx))
  obtain ⟨lx, hlx⟩ : ∃ l, mkBal z0 = l := ⟨_, rfl⟩
  obtain ⟨sx, hsx⟩ : ∃ l, mkSlots sl = l := ⟨_, rfl⟩
  obtain ⟨bx, hbx⟩ : ∃ l, mkBoost bo = l := ⟨_, rfl⟩
  rw [hlx] at HP HLN HX HCX
  rw [hsx] at HSL
  rw [hlx, hsx, hbx]
  have HNX : Aside0 (lx.length ≤ 17592186043904) := ⟨by have := HLN.out; omega⟩
  obtain ⟨wr, hwr⟩ : ∃ wr, wr = w2.alloc (.cells #[.slice AX lx.length cX, .int .i64 sx, .int .i64 bx] 24) := ⟨_, rfl⟩
  obtain ⟨xb, hxb⟩ : ∃ g, w2.heap.size = g := ⟨_, rfl⟩
  have BM : Aside0 (wr.heap[xb]? = some (.cells #[.slice AX lx.length cX, .int .i64 sx, .int .i64 bx] 24 (0, 0))) := ⟨by rw [hwr, ← hxb]; exact heap_alloc_new _ _⟩
  have HBR : Aside0 (Below w.heap.size w wr) := ⟨by rw [hwr]; exact below_alloc HB2.out _⟩
  have XN : Aside0 (Kd.C (Kd.int .u64) wr AX lx.length lx) := ⟨Kd.C_below HX.out (by rw [hwr]; exact below_alloc (Below.refl _ _) _)⟩
  have XB : Aside0 (xb < wr.heap.size) := ⟨(Array.getElem?_eq_some_iff.1 BM.out).1⟩
  rw [← hwr, hxb]
  clear hwr hxb hlx hsx hbx HX HB1 HBK hcg HKR
  rename_i K Q a0_
  refine start_ (n := 10) (S := fun w' => w'.cell? ⟨xb, 0, none⟩ = some (.slice AX lx.length cX) ∧ w'.cell? ⟨xb, 1, none⟩ = some (.int .i64 sx) ∧ w'.cell? ⟨xb, 2, none⟩ = some (.int .i64 bx)) (ds := [9]) #[false, false, false, false, false, false, false, false, false, false] (by kernel_rfl) rfl rfl ⟨(blk_cell BM.out 0), (blk_cell BM.out 1), (blk_cell BM.out 2)⟩ (fun hHeld => ?_)
  refine pure_ (i := 3) (N := some 17) (v := ?_) (a' := ?_) #[false, false, false, true, false, false, false, false, false, false] rfl rfl (by kernel_rfl) (fun _ _ _ h => h) (Or.inl ⟨by rfl, ?_⟩) ?_ ?_
  rotate_left
  · intro w'
    go_simp
    with_reducible rfl
  rotate_left
  · simp only [Act.put, List.setIfInBounds_toArray, List.set_cons_zero, List.set_cons_succ, i64_w, i32_w]
    rfl
  refine pure_ (i := 4) (N := some 18) (v := ?_) (a' := ?_) #[false, false, false, true, true, false, false, false, false, false] rfl rfl (by kernel_rfl) (fun _ _ _ h => h) (Or.inl ⟨by rfl, ?_⟩) ?_ ?_
  rotate_left
  · intro w'
    go_simp
    with_reducible rfl
  rotate_left
  · simp only [Act.put, List.setIfInBounds_toArray, List.set_cons_zero, List.set_cons_succ, i64_w, i32_w]
    rfl
  refine pure_ (i := 5) (N := some 19) (v := ?_) (a' := ?_) #[false, false, false, true, true, true, false, false, false, false] rfl rfl (by kernel_rfl) (fun _ _ _ h => h) (Or.inl ⟨by rfl, ?_⟩) ?_ ?_
  rotate_left
  · intro w'
    go_simp
    with_reducible rfl
  rotate_left
  · simp only [Act.put, List.setIfInBounds_toArray, List.set_cons_zero, List.set_cons_succ, i64_w, i32_w]
    rfl
  refine take_ (i := 0) (N := some 14) (v := ?_) (a' := ?_) #[true, false, false, true, true, true, false, false, false, false] rfl rfl (by kernel_rfl) (fun _ _ _ h => h) (Or.inl ⟨by rfl, ?_⟩) hHeld ?_ ?_
  rotate_left
  · rintro w' ⟨s0, s1, s2⟩
    go_simp
    with_reducible rfl
  rotate_left
  · simp only [Act.put, List.setIfInBounds_toArray, List.set_cons_zero, List.set_cons_succ, i64_w, i32_w]
    rfl
  refine take_ (i := 1) (N := some 15) (v := ?_) (a' := ?_) #[true, true, false, true, true, true, false, false, false, false] rfl rfl (by kernel_rfl) (fun _ _ _ h => h) (Or.inl ⟨by rfl, ?_⟩) hHeld ?_ ?_
  rotate_left
  · rintro w' ⟨s0, s1, s2⟩
    go_simp
    with_reducible rfl
  rotate_left
  · simp only [Act.put, List.setIfInBounds_toArray, List.set_cons_zero, List.set_cons_succ, i64_w, i32_w]
    rfl
  refine join_ (σ := Value × Value × Value × Value) 1 #[true, true, true, true, true, true, true, true, true, false] (fun s_ => [(16, s_.1), (20, s_.2.1), (21, s_.2.2.1), (8, s_.2.2.2)]) (fun s_ w' => (w'.cell? ⟨xb, 0, none⟩ = some (.slice AX lx.length cX) ∧ w'.cell? ⟨xb, 1, none⟩ = some (.int .i64 sx) ∧ w'.cell? ⟨xb, 2, none⟩ = some (.int .i64 bx)) ∧ (∃ AB cB AN cN v AB2 cB2 AN2 cN2 g, s_ = (.agg (stC (openS 7 lx.length) AB cB AN cN), v, .agg (stC (advTo lx sx (chainOf n) (openS 7 lx.length) (wrap64 slots)) AB2 cB2 AN2 cN2), .pointer (some ⟨g, 0, none⟩)) ∧ (∃ b, Rows2 b (openS 7 lx.length) AB cB AN cN w') ∧ (ChainAt v (chainOf n) w') ∧ (SIn AX cX lx (advTo lx sx (chainOf n) (openS 7 lx.length) (wrap64 slots)) AB2 cB2 AN2 cN2 v (chainOf n) w') ∧ (w'.heap[g]? = some (.cells #[.bool false, .bool false, .bool false, .bool false, .int .i64 0, .int .u64 0, .int .i64 0, .int .u64 0, .int .i64 0, .int .u64 0, .int .i64 0, .slice none 0 0, .slice none 0 0] 39 (0, 0))) ∧ (wr.heap.size ≤ g)) ∧ Below wr.heap.size wr w') ?_ ?_
  rotate_left
  · intro hCont
    refine two_ (i := 2) (j := 8) (Ni := some 16) (Nj := some 8) #[true, true, true, true, true, true, false, false, false, false] #[true, true, false, true, true, true, false, false, true, false] rfl rfl rfl rfl (by kernel_rfl) (by decide) (by decide) (fun K hK => ?_) (fun K hK => ?_)
    · skip
      refine goes_ Try.func12 (by kernel_rfl) rfl #[.agg #[.slice AX lx.length cX, .int .i64 sx, .int .i64 bx], .int .u64 7] (by rfl) rfl rfl (by simp only [List.map_toArray, List.map_cons, List.map_nil]; rfl) ?_
      with_reducible refine (open_calls AX cX lx sx bx 7 _ HNX.out).mono ?_
      rintro x wq1 ⟨AB, cB, AN, cN, rfl, h_RW, hb⟩
      refine ⟨_, rfl, ?_⟩
      have h_RW := rows_ex h_RW
      have HQ1 := Aside0.mk (below_then (below_drew (Below.refl wr.heap.size wr)) (Nat.le_refl _) hb)
      have RW_1 := Aside0.mk h_RW
      clear hb h_RW
      refine hK.out _ _ ⟨(pw_cell_below HQ1.out (blk_cell BM.out 0)), (pw_cell_below HQ1.out (blk_cell BM.out 1)), (pw_cell_below HQ1.out (blk_cell BM.out 2))⟩ (fun hHeld => ?_)
      clear hK K
      refine norm_ (a' := ?_) ?_ ?_
      rotate_left
      · show Act.put _ (some 16) _ = _
        simp only [Act.put, List.setIfInBounds_toArray, List.set_cons_zero, List.set_cons_succ, i64_w, i32_w]
        rfl
      refine two_ (i := 6) (j := 8) (Ni := some 20) (Nj := some 8) #[true, true, true, true, true, true, true, false, false, false] #[true, true, true, true, true, true, false, false, true, false] rfl rfl rfl rfl (by kernel_rfl) (by decide) (by decide) (fun K hK => ?_) (fun K hK => ?_)
      · skip
        refine goes_ Try.func11 (by kernel_rfl) rfl #[.int .u8 n] (by rfl) rfl rfl (by simp only [List.map_toArray, List.map_cons, List.map_nil]; rfl) ?_
        with_reducible refine (Chain_calls n HN.out _).mono ?_
        rintro x wq2 ⟨v, rfl, h_CH, hb⟩
        refine ⟨_, rfl, ?_⟩
        have HQ2 := Aside0.mk (below_then HQ1.out HQ1.out.size hb)
        have CH_2 := Aside0.mk h_CH
        have RW_2 := Aside0.mk (rows_below RW_1.out hb)
        clear hb h_CH
        refine hK.out _ _ ⟨(pw_cell_below HQ2.out (blk_cell BM.out 0)), (pw_cell_below HQ2.out (blk_cell BM.out 1)), (pw_cell_below HQ2.out (blk_cell BM.out 2))⟩ (fun hHeld => ?_)
        clear hK K
        refine norm_ (a' := ?_) ?_ ?_
        rotate_left
        · show Act.put _ (some 20) _ = _
          simp only [Act.put, List.setIfInBounds_toArray, List.set_cons_zero, List.set_cons_succ, i64_w, i32_w]
          rfl
        refine two_ (i := 7) (j := 8) (Ni := some 21) (Nj := some 8) #[true, true, true, true, true, true, true, true, false, false] #[true, true, true, true, true, true, true, false, true, false] rfl rfl rfl rfl (by kernel_rfl) (by decide) (by decide) (fun K hK => ?_) (fun K hK => ?_)
        · skip
          obtain ⟨rb, RWx⟩ := RW_2.out
          refine goes_ Try.func13 (by kernel_rfl) rfl #[.agg #[.slice AX lx.length cX, .int .i64 sx, .int .i64 bx], .agg (stC (openS 7 lx.length) AB cB AN cN), .int .i64 (wrap64 slots), v] (by rfl) rfl rfl (by simp only [List.map_toArray, List.map_cons, List.map_nil]; rfl) ?_
          with_reducible refine (advance_calls AX cX lx sx bx (openS 7 lx.length) AB cB AN cN (wrap64 slots) v (chainOf n) _ (RWx.sin ⟨Kd.C_below XN.out HQ2.out, HCX.out, HNX.out, CH_2.out⟩ (by simp [openS]; exact HNX.out) (by simp [openS]; exact HNX.out) (by simp [openS])) HSLT.out).mono ?_
          rintro x wq3 ⟨AB2, cB2, AN2, cN2, rfl, h_SI, hb⟩
          refine ⟨_, rfl, ?_⟩
          clear RWx
          have HQ3 := Aside0.mk (below_then HQ2.out HQ2.out.size hb)
          have SI_3 := Aside0.mk h_SI
          have RW_3 := Aside0.mk (rows_below RW_2.out hb)
          have CH_3 := Aside0.mk (ChainAt.below CH_2.out hb)
          clear hb h_SI
          refine hK.out _ _ ⟨(pw_cell_below HQ3.out (blk_cell BM.out 0)), (pw_cell_below HQ3.out (blk_cell BM.out 1)), (pw_cell_below HQ3.out (blk_cell BM.out 2))⟩ (fun hHeld => ?_)
          clear hK K
          refine norm_ (a' := ?_) ?_ ?_
          rotate_left
          · show Act.put _ (some 21) _ = _
            simp only [Act.put, List.setIfInBounds_toArray, List.set_cons_zero, List.set_cons_succ, i64_w, i32_w]
            rfl
          refine one_ (i := 8) (N := some 8) #[true, true, true, true, true, true, true, true, true, false] rfl rfl (by kernel_rfl) (by decide) (fun K hK => ?_)
          refine alloc_step (base := wq3.heap.size) (w0 := wq3) 39 #[.bool false, .bool false, .bool false, .bool false, .int .i64 0, .int .u64 0, .int .i64 0, .int .u64 0, .int .i64 0, .int .u64 0, .int .i64 0, .slice none 0 0, .slice none 0 0] (by rfl) rfl rfl (by kernel_rfl) (Below.refl _ _) (Nat.le_refl _) ?_
          intro g wq4 h_GZ hge hb hg_
          have h_GEGZ : wr.heap.size ≤ g := Nat.le_trans HQ3.out.size hge
          clear hge hg_
          have HQ4 := Aside0.mk (below_then HQ3.out HQ3.out.size hb)
          have GZ_4 := Aside0.mk h_GZ
          have GEGZ_4 := Aside0.mk h_GEGZ
          have RW_4 := Aside0.mk (rows_below RW_3.out hb)
          have CH_4 := Aside0.mk (ChainAt.below CH_3.out hb)
          have SI_4 := Aside0.mk (SIn.below SI_3.out hb)
          clear hb h_GZ h_GEGZ
          refine hK.out _ _ ⟨(pw_cell_below HQ4.out (blk_cell BM.out 0)), (pw_cell_below HQ4.out (blk_cell BM.out 1)), (pw_cell_below HQ4.out (blk_cell BM.out 2))⟩ (fun hHeld => ?_)
          clear hK K
          refine norm_ (a' := ?_) ?_ ?_
          rotate_left
          · show Act.put _ (some 8) _ = _
            simp only [Act.put, List.setIfInBounds_toArray, List.set_cons_zero, List.set_cons_succ, i64_w, i32_w]
            rfl
          exact norm_ (by simp only [putAll, Act.put, List.setIfInBounds_toArray, List.set_cons_zero, List.set_cons_succ]) (hCont (.agg (stC (openS 7 lx.length) AB cB AN cN), v, .agg (stC (advTo lx sx (chainOf n) (openS 7 lx.length) (wrap64 slots)) AB2 cB2 AN2 cN2), .pointer (some ⟨g, 0, none⟩)) _ ⟨hHeld, ⟨AB, cB, AN, cN, v, AB2, cB2, AN2, cN2, g, rfl, RW_4.out, CH_4.out, SI_4.out, GZ_4.out, GEGZ_4.out⟩, HQ4.out⟩)
        · skip
          refine alloc_step (base := wq2.heap.size) (w0 := wq2) 39 #[.bool false, .bool false, .bool false, .bool false, .int .i64 0, .int .u64 0, .int .i64 0, .int .u64 0, .int .i64 0, .int .u64 0, .int .i64 0, .slice none 0 0, .slice none 0 0] (by rfl) rfl rfl (by kernel_rfl) (Below.refl _ _) (Nat.le_refl _) ?_
          intro g wq3 h_GZ hge hb hg_
          have h_GEGZ : wr.heap.size ≤ g := Nat.le_trans HQ2.out.size hge
          clear hge hg_
          have HQ3 := Aside0.mk (below_then HQ2.out HQ2.out.size hb)
          have GZ_3 := Aside0.mk h_GZ
          have GEGZ_3 := Aside0.mk h_GEGZ
          have RW_3 := Aside0.mk (rows_below RW_2.out hb)
          have CH_3 := Aside0.mk (ChainAt.below CH_2.out hb)
          clear hb h_GZ h_GEGZ
          refine hK.out _ _ ⟨(pw_cell_below HQ3.out (blk_cell BM.out 0)), (pw_cell_below HQ3.out (blk_cell BM.out 1)), (pw_cell_below HQ3.out (blk_cell BM.out 2))⟩ (fun hHeld => ?_)
          clear hK K
          refine norm_ (a' := ?_) ?_ ?_
          rotate_left
          · show Act.put _ (some 8) _ = _
            simp only [Act.put, List.setIfInBounds_toArray, List.set_cons_zero, List.set_cons_succ, i64_w, i32_w]
            rfl
          refine one_ (i := 7) (N := some 21) #[true, true, true, true, true, true, true, true, true, false] rfl rfl (by kernel_rfl) (by decide) (fun K hK => ?_)
          obtain ⟨rb, RWx⟩ := RW_3.out
          refine goes_ Try.func13 (by kernel_rfl) rfl #[.agg #[.slice AX lx.length cX, .int .i64 sx, .int .i64 bx], .agg (stC (openS 7 lx.length) AB cB AN cN), .int .i64 (wrap64 slots), v] (by rfl) rfl rfl (by simp only [List.map_toArray, List.map_cons, List.map_nil]; rfl) ?_
          with_reducible refine (advance_calls AX cX lx sx bx (openS 7 lx.length) AB cB AN cN (wrap64 slots) v (chainOf n) _ (RWx.sin ⟨Kd.C_below XN.out HQ3.out, HCX.out, HNX.out, CH_3.out⟩ (by simp [openS]; exact HNX.out) (by simp [openS]; exact HNX.out) (by simp [openS])) HSLT.out).mono ?_
          rintro x wq4 ⟨AB2, cB2, AN2, cN2, rfl, h_SI, hb⟩
          refine ⟨_, rfl, ?_⟩
          clear RWx
          have HQ4 := Aside0.mk (below_then HQ3.out HQ3.out.size hb)
          have SI_4 := Aside0.mk h_SI
          have RW_4 := Aside0.mk (rows_below RW_3.out hb)
          have CH_4 := Aside0.mk (ChainAt.below CH_3.out hb)
          have GZ_4 := Aside0.mk (blk_below GZ_3.out hb)
          have GEGZ_4 := Aside0.mk (GEGZ_3.out)
          clear hb h_SI
          refine hK.out _ _ ⟨(pw_cell_below HQ4.out (blk_cell BM.out 0)), (pw_cell_below HQ4.out (blk_cell BM.out 1)), (pw_cell_below HQ4.out (blk_cell BM.out 2))⟩ (fun hHeld => ?_)
          clear hK K
          refine norm_ (a' := ?_) ?_ ?_
          rotate_left
          · show Act.put _ (some 21) _ = _
            simp only [Act.put, List.setIfInBounds_toArray, List.set_cons_zero, List.set_cons_succ, i64_w, i32_w]
            rfl
          exact norm_ (by simp only [putAll, Act.put, List.setIfInBounds_toArray, List.set_cons_zero, List.set_cons_succ]) (hCont (.agg (stC (openS 7 lx.length) AB cB AN cN), v, .agg (stC (advTo lx sx (chainOf n) (openS 7 lx.length) (wrap64 slots)) AB2 cB2 AN2 cN2), .pointer (some ⟨g, 0, none⟩)) _ ⟨hHeld, ⟨AB, cB, AN, cN, v, AB2, cB2, AN2, cN2, g, rfl, RW_4.out, CH_4.out, SI_4.out, GZ_4.out, GEGZ_4.out⟩, HQ4.out⟩)
      · skip
        refine alloc_step (base := wq1.heap.size) (w0 := wq1) 39 #[.bool false, .bool false, .bool false, .bool false, .int .i64 0, .int .u64 0, .int .i64 0, .int .u64 0, .int .i64 0, .int .u64 0, .int .i64 0, .slice none 0 0, .slice none 0 0] (by rfl) rfl rfl (by kernel_rfl) (Below.refl _ _) (Nat.le_refl _) ?_
        intro g wq2 h_GZ hge hb hg_
        have h_GEGZ : wr.heap.size ≤ g := Nat.le_trans HQ1.out.size hge
        clear hge hg_
        have HQ2 := Aside0.mk (below_then HQ1.out HQ1.out.size hb)
        have GZ_2 := Aside0.mk h_GZ
        have GEGZ_2 := Aside0.mk h_GEGZ
        have RW_2 := Aside0.mk (rows_below RW_1.out hb)
        clear hb h_GZ h_GEGZ
        refine hK.out _ _ ⟨(pw_cell_below HQ2.out (blk_cell BM.out 0)), (pw_cell_below HQ2.out (blk_cell BM.out 1)), (pw_cell_below HQ2.out (blk_cell BM.out 2))⟩ (fun hHeld => ?_)
        clear hK K
        refine norm_ (a' := ?_) ?_ ?_
        rotate_left
        · show Act.put _ (some 8) _ = _
          simp only [Act.put, List.setIfInBounds_toArray, List.set_cons_zero, List.set_cons_succ, i64_w, i32_w]
          rfl
        refine one_ (i := 6) (N := some 20) #[true, true, true, true, true, true, true, false, true, false] rfl rfl (by kernel_rfl) (by decide) (fun K hK => ?_)
        refine goes_ Try.func11 (by kernel_rfl) rfl #[.int .u8 n] (by rfl) rfl rfl (by simp only [List.map_toArray, List.map_cons, List.map_nil]; rfl) ?_
        with_reducible refine (Chain_calls n HN.out _).mono ?_
        rintro x wq3 ⟨v, rfl, h_CH, hb⟩
        refine ⟨_, rfl, ?_⟩
        have HQ3 := Aside0.mk (below_then HQ2.out HQ2.out.size hb)
        have CH_3 := Aside0.mk h_CH
        have RW_3 := Aside0.mk (rows_below RW_2.out hb)
        have GZ_3 := Aside0.mk (blk_below GZ_2.out hb)
        have GEGZ_3 := Aside0.mk (GEGZ_2.out)
        clear hb h_CH
        refine hK.out _ _ ⟨(pw_cell_below HQ3.out (blk_cell BM.out 0)), (pw_cell_below HQ3.out (blk_cell BM.out 1)), (pw_cell_below HQ3.out (blk_cell BM.out 2))⟩ (fun hHeld => ?_)
        clear hK K
        refine norm_ (a' := ?_) ?_ ?_
        rotate_left
        · show Act.put _ (some 20) _ = _
          simp only [Act.put, List.setIfInBounds_toArray, List.set_cons_zero, List.set_cons_succ, i64_w, i32_w]
          rfl
        refine one_ (i := 7) (N := some 21) #[true, true, true, true, true, true, true, true, true, false] rfl rfl (by kernel_rfl) (by decide) (fun K hK => ?_)
        obtain ⟨rb, RWx⟩ := RW_3.out
        refine goes_ Try.func13 (by kernel_rfl) rfl #[.agg #[.slice AX lx.length cX, .int .i64 sx, .int .i64 bx], .agg (stC (openS 7 lx.length) AB cB AN cN), .int .i64 (wrap64 slots), v] (by rfl) rfl rfl (by simp only [List.map_toArray, List.map_cons, List.map_nil]; rfl) ?_
        with_reducible refine (advance_calls AX cX lx sx bx (openS 7 lx.length) AB cB AN cN (wrap64 slots) v (chainOf n) _ (RWx.sin ⟨Kd.C_below XN.out HQ3.out, HCX.out, HNX.out, CH_3.out⟩ (by simp [openS]; exact HNX.out) (by simp [openS]; exact HNX.out) (by simp [openS])) HSLT.out).mono ?_
        rintro x wq4 ⟨AB2, cB2, AN2, cN2, rfl, h_SI, hb⟩
        refine ⟨_, rfl, ?_⟩
        clear RWx
        have HQ4 := Aside0.mk (below_then HQ3.out HQ3.out.size hb)
        have SI_4 := Aside0.mk h_SI
        have RW_4 := Aside0.mk (rows_below RW_3.out hb)
        have CH_4 := Aside0.mk (ChainAt.below CH_3.out hb)
        have GZ_4 := Aside0.mk (blk_below GZ_3.out hb)
        have GEGZ_4 := Aside0.mk (GEGZ_3.out)
        clear hb h_SI
        refine hK.out _ _ ⟨(pw_cell_below HQ4.out (blk_cell BM.out 0)), (pw_cell_below HQ4.out (blk_cell BM.out 1)), (pw_cell_below HQ4.out (blk_cell BM.out 2))⟩ (fun hHeld => ?_)
        clear hK K
        refine norm_ (a' := ?_) ?_ ?_
        rotate_left
        · show Act.put _ (some 21) _ = _
          simp only [Act.put, List.setIfInBounds_toArray, List.set_cons_zero, List.set_cons_succ, i64_w, i32_w]
          rfl
        exact norm_ (by simp only [putAll, Act.put, List.setIfInBounds_toArray, List.set_cons_zero, List.set_cons_succ]) (hCont (.agg (stC (openS 7 lx.length) AB cB AN cN), v, .agg (stC (advTo lx sx (chainOf n) (openS 7 lx.length) (wrap64 slots)) AB2 cB2 AN2 cN2), .pointer (some ⟨g, 0, none⟩)) _ ⟨hHeld, ⟨AB, cB, AN, cN, v, AB2, cB2, AN2, cN2, g, rfl, RW_4.out, CH_4.out, SI_4.out, GZ_4.out, GEGZ_4.out⟩, HQ4.out⟩)
    · skip
      refine alloc_step (base := wr.drew.heap.size) (w0 := wr.drew) 39 #[.bool false, .bool false, .bool false, .bool false, .int .i64 0, .int .u64 0, .int .i64 0, .int .u64 0, .int .i64 0, .int .u64 0, .int .i64 0, .slice none 0 0, .slice none 0 0] (by rfl) rfl rfl (by kernel_rfl) (Below.refl _ _) (Nat.le_refl _) ?_
      intro g wq1 h_GZ hge hb hg_
      have h_GEGZ : wr.heap.size ≤ g := Nat.le_trans (below_drew (Below.refl wr.heap.size wr)).size hge
      clear hge hg_
      have HQ1 := Aside0.mk (below_then (below_drew (Below.refl wr.heap.size wr)) (Nat.le_refl _) hb)
      have GZ_1 := Aside0.mk h_GZ
      have GEGZ_1 := Aside0.mk h_GEGZ
      clear hb h_GZ h_GEGZ
      refine hK.out _ _ ⟨(pw_cell_below HQ1.out (blk_cell BM.out 0)), (pw_cell_below HQ1.out (blk_cell BM.out 1)), (pw_cell_below HQ1.out (blk_cell BM.out 2))⟩ (fun hHeld => ?_)
      clear hK K
      refine norm_ (a' := ?_) ?_ ?_
      rotate_left
      · show Act.put _ (some 8) _ = _
        simp only [Act.put, List.setIfInBounds_toArray, List.set_cons_zero, List.set_cons_succ, i64_w, i32_w]
        rfl
      refine one_ (i := 2) (N := some 16) #[true, true, true, true, true, true, false, false, true, false] rfl rfl (by kernel_rfl) (by decide) (fun K hK => ?_)
      refine goes_ Try.func12 (by kernel_rfl) rfl #[.agg #[.slice AX lx.length cX, .int .i64 sx, .int .i64 bx], .int .u64 7] (by rfl) rfl rfl (by simp only [List.map_toArray, List.map_cons, List.map_nil]; rfl) ?_
      with_reducible refine (open_calls AX cX lx sx bx 7 _ HNX.out).mono ?_
      rintro x wq2 ⟨AB, cB, AN, cN, rfl, h_RW, hb⟩
      refine ⟨_, rfl, ?_⟩
      have h_RW := rows_ex h_RW
      have HQ2 := Aside0.mk (below_then HQ1.out HQ1.out.size hb)
      have RW_2 := Aside0.mk h_RW
      have GZ_2 := Aside0.mk (blk_below GZ_1.out hb)
      have GEGZ_2 := Aside0.mk (GEGZ_1.out)
      clear hb h_RW
      refine hK.out _ _ ⟨(pw_cell_below HQ2.out (blk_cell BM.out 0)), (pw_cell_below HQ2.out (blk_cell BM.out 1)), (pw_cell_below HQ2.out (blk_cell BM.out 2))⟩ (fun hHeld => ?_)
      clear hK K
      refine norm_ (a' := ?_) ?_ ?_
      rotate_left
      · show Act.put _ (some 16) _ = _
        simp only [Act.put, List.setIfInBounds_toArray, List.set_cons_zero, List.set_cons_succ, i64_w, i32_w]
        rfl
      refine one_ (i := 6) (N := some 20) #[true, true, true, true, true, true, true, false, true, false] rfl rfl (by kernel_rfl) (by decide) (fun K hK => ?_)
      refine goes_ Try.func11 (by kernel_rfl) rfl #[.int .u8 n] (by rfl) rfl rfl (by simp only [List.map_toArray, List.map_cons, List.map_nil]; rfl) ?_
      with_reducible refine (Chain_calls n HN.out _).mono ?_
      rintro x wq3 ⟨v, rfl, h_CH, hb⟩
      refine ⟨_, rfl, ?_⟩
      have HQ3 := Aside0.mk (below_then HQ2.out HQ2.out.size hb)
      have CH_3 := Aside0.mk h_CH
      have RW_3 := Aside0.mk (rows_below RW_2.out hb)
      have GZ_3 := Aside0.mk (blk_below GZ_2.out hb)
      have GEGZ_3 := Aside0.mk (GEGZ_2.out)
      clear hb h_CH
      refine hK.out _ _ ⟨(pw_cell_below HQ3.out (blk_cell BM.out 0)), (pw_cell_below HQ3.out (blk_cell BM.out 1)), (pw_cell_below HQ3.out (blk_cell BM.out 2))⟩ (fun hHeld => ?_)
      clear hK K
      refine norm_ (a' := ?_) ?_ ?_
      rotate_left
      · show Act.put _ (some 20) _ = _
        simp only [Act.put, List.setIfInBounds_toArray, List.set_cons_zero, List.set_cons_succ, i64_w, i32_w]
        rfl
      refine one_ (i := 7) (N := some 21) #[true, true, true, true, true, true, true, true, true, false] rfl rfl (by kernel_rfl) (by decide) (fun K hK => ?_)
      obtain ⟨rb, RWx⟩ := RW_3.out
      refine goes_ Try.func13 (by kernel_rfl) rfl #[.agg #[.slice AX lx.length cX, .int .i64 sx, .int .i64 bx], .agg (stC (openS 7 lx.length) AB cB AN cN), .int .i64 (wrap64 slots), v] (by rfl) rfl rfl (by simp only [List.map_toArray, List.map_cons, List.map_nil]; rfl) ?_
      with_reducible refine (advance_calls AX cX lx sx bx (openS 7 lx.length) AB cB AN cN (wrap64 slots) v (chainOf n) _ (RWx.sin ⟨Kd.C_below XN.out HQ3.out, HCX.out, HNX.out, CH_3.out⟩ (by simp [openS]; exact HNX.out) (by simp [openS]; exact HNX.out) (by simp [openS])) HSLT.out).mono ?_
      rintro x wq4 ⟨AB2, cB2, AN2, cN2, rfl, h_SI, hb⟩
      refine ⟨_, rfl, ?_⟩
      clear RWx
      have HQ4 := Aside0.mk (below_then HQ3.out HQ3.out.size hb)
      have SI_4 := Aside0.mk h_SI
      have RW_4 := Aside0.mk (rows_below RW_3.out hb)
      have CH_4 := Aside0.mk (ChainAt.below CH_3.out hb)
      have GZ_4 := Aside0.mk (blk_below GZ_3.out hb)
      have GEGZ_4 := Aside0.mk (GEGZ_3.out)
      clear hb h_SI
      refine hK.out _ _ ⟨(pw_cell_below HQ4.out (blk_cell BM.out 0)), (pw_cell_below HQ4.out (blk_cell BM.out 1)), (pw_cell_below HQ4.out (blk_cell BM.out 2))⟩ (fun hHeld => ?_)
      clear hK K
      refine norm_ (a' := ?_) ?_ ?_
      rotate_left
      · show Act.put _ (some 21) _ = _
        simp only [Act.put, List.setIfInBounds_toArray, List.set_cons_zero, List.set_cons_succ, i64_w, i32_w]
        rfl
      exact norm_ (by simp only [putAll, Act.put, List.setIfInBounds_toArray, List.set_cons_zero, List.set_cons_succ]) (hCont (.agg (stC (openS 7 lx.length) AB cB AN cN), v, .agg (stC (advTo lx sx (chainOf n) (openS 7 lx.length) (wrap64 slots)) AB2 cB2 AN2 cN2), .pointer (some ⟨g, 0, none⟩)) _ ⟨hHeld, ⟨AB, cB, AN, cN, v, AB2, cB2, AN2, cN2, g, rfl, RW_4.out, CH_4.out, SI_4.out, GZ_4.out, GEGZ_4.out⟩, HQ4.out⟩)
  rintro s_ wj ⟨hS_, ⟨AB, cB, AN, cN, v, AB2, cB2, AN2, cN2, g, rfl, h_RW, h_CH, h_SI, h_GZ, h_GEGZ⟩, hbj⟩
  have RW := Aside0.mk h_RW
  have CH := Aside0.mk h_CH
  have SI := Aside0.mk h_SI
  have GZ := Aside0.mk h_GZ
  have GEGZ := Aside0.mk h_GEGZ
  have HJ := Aside0.mk hbj
  clear hbj h_RW h_CH h_SI h_GZ h_GEGZ
  have hHeld : wj.cell? ⟨xb, 0, none⟩ = some (.slice AX lx.length cX) ∧ wj.cell? ⟨xb, 1, none⟩ = some (.int .i64 sx) ∧ wj.cell? ⟨xb, 2, none⟩ = some (.int .i64 bx) := hS_
  refine norm_ (a' := ?_) ?_ ?_
  rotate_left
  · simp only [putAll, Act.put, List.setIfInBounds_toArray, List.set_cons_zero, List.set_cons_succ]
    rfl
  refine last_ (i := 9) (N := none) #[true, true, true, true, true, true, true, true, true, true] rfl rfl (by kernel_rfl) (by decide) (fun K hK => ?_)
  refine store_step (by rfl) rfl 39 (.tmp 8) (.tmp 21) rfl g 39 _ (stC (advTo lx sx (chainOf n) (openS 7 lx.length) (wrap64 slots)) AB2 cB2 AN2 cN2) rfl rfl GZ.out rfl (by kernel_rfl) (by simp [stC, Value.oneCell']) ?_
  intro wz hbk hgr
  have G9 := Aside0.mk hbk
  have HZ := Aside0.mk ((below_then HBR.out HBR.out.size HJ.out).grown hgr (below_then HBR.out HBR.out.size HJ.out).size (fun k hk => by cases hk; have := GEGZ.out; have := HBR.out.size; omega))
  have BMz := Aside0.mk (blk_grown (blk_below BM.out HJ.out) hgr (fun e => by injection e with e; have := GEGZ.out; have := XB.out; omega))
  clear hbk hgr
  refine hK.out _ _ ?_
  clear hK K
  refine done_ (by kernel_rfl) ?_
  obtain ⟨s, hs⟩ : ∃ s, advTo lx sx (chainOf n) (openS 7 lx.length) (wrap64 slots) = s := ⟨_, rfl⟩
  rw [hs] at G9 SI
  rw [hs]
  rw [E8.out] at hs
  have hbare : Bare lx.length 7 s := by rw [← hs]; exact bare_adv ⟨rfl, rfl, rfl, rfl, rfl, rfl, rfl, rfl, rfl⟩
  have hep : s.ep = min (mx 0 slots / mx 1 sx) 4096 := by rw [← hs]; exact adv_ep rfl (by have := HS2.out; omega)
  obtain ⟨b0, b1, b2, b3, b4, b5, b6, b7, b8⟩ := hbare
  have h9 := G9.out
  unfold stC at h9
  rw [b1, b2, b3, b4, b5, b6, hep] at h9
  have hmin : min (mx 0 slots / mx 1 sx) 4096 = min (slots / sx) 4096 := by
    have h1 := HS2.out
    have h2 := HSL.out
    have e1 : mx 0 slots = slots := by unfold mx; omega
    have e2 : mx 1 sx = sx := by unfold mx; omega
    rw [e1, e2]
  rw [hmin] at h9
  have hdv : wrap64 (slots.tdiv sx) = slots / sx := by
    have h1 := HS2.out
    have h2 := HSL.out
    rw [Int.tdiv_eq_ediv_of_nonneg h1.1]
    have h3 := Int.ediv_nonneg h1.1 (show 0 ≤ sx by omega)
    have h4 := Int.ediv_le_self sx h1.1
    generalize slots / sx = q at h3 h4 ⊢
    unfold wrap64
    omega
  have hnz : ¬ sx = 0 := by have := HSL.out; omega
  obtain ⟨ep, hepn⟩ : ∃ e, min (slots / sx) 4096 = e := ⟨_, rfl⟩
  rw [hepn] at h9
  have G8 := Aside0.mk h9
  have HEP := Aside0.mk hepn
  clear b0 b1 b2 b3 b4 b5 b6 b7 b8 h9 hs hep hmin hepn G9 RW CH SI GZ GEGZ HJ hHeld
  have e8 := E8.out
  go_upto_region 6 with fail
  obtain ⟨wv, hwv⟩ : ∃ wv, wv = wz.alloc (.cells #[.int .i64 0, .int .u64 7] 34) := ⟨_, rfl⟩
  obtain ⟨pb, hpb⟩ : ∃ g, wz.heap.size = g := ⟨_, rfl⟩
  have hb7 : Below wz.heap.size wz wv := by rw [hwv]; exact below_alloc (Below.refl _ _) _
  have G7 := Aside0.mk (blk_below G8.out hb7)
  have BM7 := Aside0.mk (blk_below BMz.out hb7)
  have BP : Aside0 (wv.heap[pb]? = some (.cells #[.int .i64 0, .int .u64 7] 34 (0, 0))) := ⟨by rw [hwv, ← hpb]; exact heap_alloc_new _ _⟩
  have HZ7 := Aside0.mk (below_then HZ.out HZ.out.size hb7)
  rw [← hwv, hpb]
  clear hwv hpb hb7
  have t6 : (ep == min (slots / sx) 4096) = true := by rw [HEP.out]; simp
  refine start_ (n := 31) (S := fun w' => w'.cell? ⟨g, 4, none⟩ = some (.int .i64 0) ∧ w'.cell? ⟨g, 5, none⟩ = some (.int .u64 7) ∧ w'.cell? ⟨g, 6, none⟩ = some (.int .i64 0) ∧ w'.cell? ⟨g, 7, none⟩ = some (.int .u64 7) ∧ w'.cell? ⟨g, 8, none⟩ = some (.int .i64 0) ∧ w'.cell? ⟨g, 9, none⟩ = some (.int .u64 7) ∧ w'.cell? ⟨g, 10, none⟩ = some (.int .i64 ep) ∧ w'.cell? ⟨pb, 0, none⟩ = some (.int .i64 0) ∧ w'.cell? ⟨pb, 1, none⟩ = some (.int .u64 7) ∧ w'.cell? ⟨xb, 1, none⟩ = some (.int .i64 sx)) (ds := []) #[false, false, false, false, false, false, false, false, false, false, false, false, false, false, false, false, false, false, false, false, false, false, false, false, false, false, false, false, false, false, false] (by kernel_rfl) rfl rfl ⟨(blk_cell G7.out 4), (blk_cell G7.out 5), (blk_cell G7.out 6), (blk_cell G7.out 7), (blk_cell G7.out 8), (blk_cell G7.out 9), (blk_cell G7.out 10), (blk_cell BP.out 0), (blk_cell BP.out 1), (blk_cell BM7.out 1)⟩ (fun hHeld => ?_)
  refine pure_ (i := 0) (N := some 23) (v := ?_) (a' := ?_) #[true, false, false, false, false, false, false, false, false, false, false, false, false, false, false, false, false, false, false, false, false, false, false, false, false, false, false, false, false, false, false] rfl rfl (by kernel_rfl) (fun _ _ _ h => h) (Or.inl ⟨by rfl, ?_⟩) ?_ ?_
  rotate_left
  · intro w'
    go_simp
    with_reducible rfl
  rotate_left
  · simp only [Act.put, List.setIfInBounds_toArray, List.set_cons_zero, List.set_cons_succ, i64_w, i32_w]
    rfl
  refine pure_ (i := 1) (N := some 24) (v := ?_) (a' := ?_) #[true, true, false, false, false, false, false, false, false, false, false, false, false, false, false, false, false, false, false, false, false, false, false, false, false, false, false, false, false, false, false] rfl rfl (by kernel_rfl) (fun _ _ _ h => h) (Or.inl ⟨by rfl, ?_⟩) ?_ ?_
  rotate_left
  · intro w'
    go_simp
    with_reducible rfl
  rotate_left
  · simp only [Act.put, List.setIfInBounds_toArray, List.set_cons_zero, List.set_cons_succ, i64_w, i32_w]
    rfl
  refine take_ (i := 2) (N := some 25) (v := ?_) (a' := ?_) #[true, true, true, false, false, false, false, false, false, false, false, false, false, false, false, false, false, false, false, false, false, false, false, false, false, false, false, false, false, false, false] rfl rfl (by kernel_rfl) (fun _ _ _ h => h) (Or.inl ⟨by rfl, ?_⟩) hHeld ?_ ?_
  rotate_left
  · rintro w' ⟨s0, s1, s2, s3, s4, s5, s6, s7, s8, s9⟩
    go_simp
    with_reducible rfl
  rotate_left
  · simp only [Act.put, List.setIfInBounds_toArray, List.set_cons_zero, List.set_cons_succ, i64_w, i32_w]
    rfl
  refine take_ (i := 3) (N := some 26) (v := ?_) (a' := ?_) #[true, true, true, true, false, false, false, false, false, false, false, false, false, false, false, false, false, false, false, false, false, false, false, false, false, false, false, false, false, false, false] rfl rfl (by kernel_rfl) (fun _ _ _ h => h) (Or.inl ⟨by rfl, ?_⟩) hHeld ?_ ?_
  rotate_left
  · rintro w' ⟨s0, s1, s2, s3, s4, s5, s6, s7, s8, s9⟩
    go_simp
    with_reducible rfl
  rotate_left
  · simp only [Act.put, List.setIfInBounds_toArray, List.set_cons_zero, List.set_cons_succ, i64_w, i32_w]
    rfl
  refine pure_ (i := 4) (N := some 27) (v := ?_) (a' := ?_) #[true, true, true, true, true, false, false, false, false, false, false, false, false, false, false, false, false, false, false, false, false, false, false, false, false, false, false, false, false, false, false] rfl rfl (by kernel_rfl) (fun _ _ _ h => h) (Or.inl ⟨by rfl, ?_⟩) ?_ ?_
  rotate_left
  · intro w'
    go_simp
    with_reducible rfl
  rotate_left
  · simp only [Act.put, List.setIfInBounds_toArray, List.set_cons_zero, List.set_cons_succ, i64_w, i32_w]
    rfl
  refine pure_ (i := 5) (N := some 28) (v := ?_) (a' := ?_) #[true, true, true, true, true, true, false, false, false, false, false, false, false, false, false, false, false, false, false, false, false, false, false, false, false, false, false, false, false, false, false] rfl rfl (by kernel_rfl) (fun _ _ _ h => h) (Or.inl ⟨by rfl, ?_⟩) ?_ ?_
  rotate_left
  · intro w'
    go_simp
    with_reducible rfl
  rotate_left
  · simp only [Act.put, List.setIfInBounds_toArray, List.set_cons_zero, List.set_cons_succ, i64_w, i32_w]
    rfl
  refine pure_ (i := 6) (N := some 29) (v := ?_) (a' := ?_) #[true, true, true, true, true, true, true, false, false, false, false, false, false, false, false, false, false, false, false, false, false, false, false, false, false, false, false, false, false, false, false] rfl rfl (by kernel_rfl) (fun _ _ _ h => h) (Or.inl ⟨by rfl, ?_⟩) ?_ ?_
  rotate_left
  · intro w'
    go_simp
    with_reducible rfl
  rotate_left
  · simp only [Act.put, List.setIfInBounds_toArray, List.set_cons_zero, List.set_cons_succ, i64_w, i32_w]
    rfl
  refine pure_ (i := 7) (N := some 30) (v := ?_) (a' := ?_) #[true, true, true, true, true, true, true, true, false, false, false, false, false, false, false, false, false, false, false, false, false, false, false, false, false, false, false, false, false, false, false] rfl rfl (by kernel_rfl) (fun _ _ _ h => h) (Or.inl ⟨by rfl, ?_⟩) ?_ ?_
  rotate_left
  · intro w'
    go_simp
    with_reducible rfl
  rotate_left
  · simp only [Act.put, List.setIfInBounds_toArray, List.set_cons_zero, List.set_cons_succ, i64_w, i32_w]
    rfl
  refine take_ (i := 8) (N := some 31) (v := ?_) (a' := ?_) #[true, true, true, true, true, true, true, true, true, false, false, false, false, false, false, false, false, false, false, false, false, false, false, false, false, false, false, false, false, false, false] rfl rfl (by kernel_rfl) (fun _ _ _ h => h) (Or.inl ⟨by rfl, ?_⟩) hHeld ?_ ?_
  rotate_left
  · rintro w' ⟨s0, s1, s2, s3, s4, s5, s6, s7, s8, s9⟩
    go_simp
    with_reducible rfl
  rotate_left
  · simp only [Act.put, List.setIfInBounds_toArray, List.set_cons_zero, List.set_cons_succ, i64_w, i32_w]
    rfl
  refine take_ (i := 9) (N := some 32) (v := ?_) (a' := ?_) #[true, true, true, true, true, true, true, true, true, true, false, false, false, false, false, false, false, false, false, false, false, false, false, false, false, false, false, false, false, false, false] rfl rfl (by kernel_rfl) (fun _ _ _ h => h) (Or.inl ⟨by rfl, ?_⟩) hHeld ?_ ?_
  rotate_left
  · rintro w' ⟨s0, s1, s2, s3, s4, s5, s6, s7, s8, s9⟩
    go_simp
    with_reducible rfl
  rotate_left
  · simp only [Act.put, List.setIfInBounds_toArray, List.set_cons_zero, List.set_cons_succ, i64_w, i32_w]
    rfl
  refine pure_ (i := 10) (N := some 33) (v := ?_) (a' := ?_) #[true, true, true, true, true, true, true, true, true, true, true, false, false, false, false, false, false, false, false, false, false, false, false, false, false, false, false, false, false, false, false] rfl rfl (by kernel_rfl) (fun _ _ _ h => h) (Or.inl ⟨by rfl, ?_⟩) ?_ ?_
  rotate_left
  · intro w'
    go_simp
    with_reducible rfl
  rotate_left
  · simp only [Act.put, List.setIfInBounds_toArray, List.set_cons_zero, List.set_cons_succ, i64_w, i32_w]
    rfl
  refine pure_ (i := 11) (N := some 34) (v := ?_) (a' := ?_) #[true, true, true, true, true, true, true, true, true, true, true, true, false, false, false, false, false, false, false, false, false, false, false, false, false, false, false, false, false, false, false] rfl rfl (by kernel_rfl) (fun _ _ _ h => h) (Or.inl ⟨by rfl, ?_⟩) ?_ ?_
  rotate_left
  · intro w'
    go_simp
    with_reducible rfl
  rotate_left
  · simp only [Act.put, List.setIfInBounds_toArray, List.set_cons_zero, List.set_cons_succ, i64_w, i32_w]
    rfl
  refine pure_ (i := 12) (N := some 35) (v := ?_) (a' := ?_) #[true, true, true, true, true, true, true, true, true, true, true, true, true, false, false, false, false, false, false, false, false, false, false, false, false, false, false, false, false, false, false] rfl rfl (by kernel_rfl) (fun _ _ _ h => h) (Or.inl ⟨by rfl, ?_⟩) ?_ ?_
  rotate_left
  · intro w'
    go_simp
    with_reducible rfl
  rotate_left
  · simp only [Act.put, List.setIfInBounds_toArray, List.set_cons_zero, List.set_cons_succ, i64_w, i32_w]
    rfl
  refine pure_ (i := 13) (N := some 36) (v := ?_) (a' := ?_) #[true, true, true, true, true, true, true, true, true, true, true, true, true, true, false, false, false, false, false, false, false, false, false, false, false, false, false, false, false, false, false] rfl rfl (by kernel_rfl) (fun _ _ _ h => h) (Or.inl ⟨by rfl, ?_⟩) ?_ ?_
  rotate_left
  · intro w'
    go_simp
    with_reducible rfl
  rotate_left
  · simp only [Act.put, List.setIfInBounds_toArray, List.set_cons_zero, List.set_cons_succ, i64_w, i32_w]
    rfl
  refine pure_ (i := 14) (N := some 37) (v := ?_) (a' := ?_) #[true, true, true, true, true, true, true, true, true, true, true, true, true, true, true, false, false, false, false, false, false, false, false, false, false, false, false, false, false, false, false] rfl rfl (by kernel_rfl) (fun _ _ _ h => h) (Or.inl ⟨by rfl, ?_⟩) ?_ ?_
  rotate_left
  · intro w'
    go_simp
    with_reducible rfl
  rotate_left
  · simp only [Act.put, List.setIfInBounds_toArray, List.set_cons_zero, List.set_cons_succ, i64_w, i32_w]
    rfl
  refine take_ (i := 15) (N := some 38) (v := ?_) (a' := ?_) #[true, true, true, true, true, true, true, true, true, true, true, true, true, true, true, true, false, false, false, false, false, false, false, false, false, false, false, false, false, false, false] rfl rfl (by kernel_rfl) (fun _ _ _ h => h) (Or.inl ⟨by rfl, ?_⟩) hHeld ?_ ?_
  rotate_left
  · rintro w' ⟨s0, s1, s2, s3, s4, s5, s6, s7, s8, s9⟩
    go_simp
    with_reducible rfl
  rotate_left
  · simp only [Act.put, List.setIfInBounds_toArray, List.set_cons_zero, List.set_cons_succ, i64_w, i32_w]
    rfl
  refine take_ (i := 16) (N := some 39) (v := ?_) (a' := ?_) #[true, true, true, true, true, true, true, true, true, true, true, true, true, true, true, true, true, false, false, false, false, false, false, false, false, false, false, false, false, false, false] rfl rfl (by kernel_rfl) (fun _ _ _ h => h) (Or.inl ⟨by rfl, ?_⟩) hHeld ?_ ?_
  rotate_left
  · rintro w' ⟨s0, s1, s2, s3, s4, s5, s6, s7, s8, s9⟩
    go_simp
    with_reducible rfl
  rotate_left
  · simp only [Act.put, List.setIfInBounds_toArray, List.set_cons_zero, List.set_cons_succ, i64_w, i32_w]
    rfl
  refine pure_ (i := 17) (N := some 40) (v := ?_) (a' := ?_) #[true, true, true, true, true, true, true, true, true, true, true, true, true, true, true, true, true, true, false, false, false, false, false, false, false, false, false, false, false, false, false] rfl rfl (by kernel_rfl) (fun _ _ _ h => h) (Or.inl ⟨by rfl, ?_⟩) ?_ ?_
  rotate_left
  · intro w'
    go_simp
    with_reducible rfl
  rotate_left
  · simp only [Act.put, List.setIfInBounds_toArray, List.set_cons_zero, List.set_cons_succ, i64_w, i32_w]
    rfl
  refine pure_ (i := 18) (N := some 41) (v := ?_) (a' := ?_) #[true, true, true, true, true, true, true, true, true, true, true, true, true, true, true, true, true, true, true, false, false, false, false, false, false, false, false, false, false, false, false] rfl rfl (by kernel_rfl) (fun _ _ _ h => h) (Or.inl ⟨by rfl, ?_⟩) ?_ ?_
  rotate_left
  · intro w'
    go_simp
    with_reducible rfl
  rotate_left
  · simp only [Act.put, List.setIfInBounds_toArray, List.set_cons_zero, List.set_cons_succ, i64_w, i32_w]
    rfl
  refine pure_ (i := 19) (N := some 42) (v := ?_) (a' := ?_) #[true, true, true, true, true, true, true, true, true, true, true, true, true, true, true, true, true, true, true, true, false, false, false, false, false, false, false, false, false, false, false] rfl rfl (by kernel_rfl) (fun _ _ _ h => h) (Or.inl ⟨by rfl, ?_⟩) ?_ ?_
  rotate_left
  · intro w'
    go_simp
    with_reducible rfl
  rotate_left
  · simp only [Act.put, List.setIfInBounds_toArray, List.set_cons_zero, List.set_cons_succ, i64_w, i32_w]
    rfl
  refine pure_ (i := 20) (N := some 43) (v := ?_) (a' := ?_) #[true, true, true, true, true, true, true, true, true, true, true, true, true, true, true, true, true, true, true, true, true, false, false, false, false, false, false, false, false, false, false] rfl rfl (by kernel_rfl) (fun _ _ _ h => h) (Or.inl ⟨by rfl, ?_⟩) ?_ ?_
  rotate_left
  · intro w'
    go_simp
    with_reducible rfl
  rotate_left
  · simp only [Act.put, List.setIfInBounds_toArray, List.set_cons_zero, List.set_cons_succ, i64_w, i32_w]
    rfl
  refine pure_ (i := 22) (N := some 45) (v := ?_) (a' := ?_) #[true, true, true, true, true, true, true, true, true, true, true, true, true, true, true, true, true, true, true, true, true, false, true, false, false, false, false, false, false, false, false] rfl rfl (by kernel_rfl) (fun _ _ _ h => h) (Or.inl ⟨by rfl, ?_⟩) ?_ ?_
  rotate_left
  · intro w'
    go_simp
    with_reducible rfl
  rotate_left
  · simp only [Act.put, List.setIfInBounds_toArray, List.set_cons_zero, List.set_cons_succ, i64_w, i32_w]
    rfl
  refine pure_ (i := 23) (N := some 46) (v := ?_) (a' := ?_) #[true, true, true, true, true, true, true, true, true, true, true, true, true, true, true, true, true, true, true, true, true, false, true, true, false, false, false, false, false, false, false] rfl rfl (by kernel_rfl) (fun _ _ _ h => h) (Or.inl ⟨by rfl, ?_⟩) ?_ ?_
  rotate_left
  · intro w'
    go_simp
    with_reducible rfl
  rotate_left
  · simp only [Act.put, List.setIfInBounds_toArray, List.set_cons_zero, List.set_cons_succ, i64_w, i32_w]
    rfl
  refine pure_ (i := 24) (N := some 47) (v := ?_) (a' := ?_) #[true, true, true, true, true, true, true, true, true, true, true, true, true, true, true, true, true, true, true, true, true, false, true, true, true, false, false, false, false, false, false] rfl rfl (by kernel_rfl) (fun _ _ _ h => h) (Or.inl ⟨by rfl, ?_⟩) ?_ ?_
  rotate_left
  · intro w'
    go_simp
    with_reducible rfl
  rotate_left
  · simp only [Act.put, List.setIfInBounds_toArray, List.set_cons_zero, List.set_cons_succ, i64_w, i32_w]
    rfl
  refine take_ (i := 21) (N := some 44) (v := ?_) (a' := ?_) #[true, true, true, true, true, true, true, true, true, true, true, true, true, true, true, true, true, true, true, true, true, true, true, true, true, false, false, false, false, false, false] rfl rfl (by kernel_rfl) (fun _ _ _ h => h) (Or.inl ⟨by rfl, ?_⟩) hHeld ?_ ?_
  rotate_left
  · rintro w' ⟨s0, s1, s2, s3, s4, s5, s6, s7, s8, s9⟩
    go_simp
    with_reducible rfl
  rotate_left
  · simp only [Act.put, List.setIfInBounds_toArray, List.set_cons_zero, List.set_cons_succ, i64_w, i32_w]
    rfl
  refine take_ (i := 25) (N := some 48) (v := ?_) (a' := ?_) #[true, true, true, true, true, true, true, true, true, true, true, true, true, true, true, true, true, true, true, true, true, true, true, true, true, true, false, false, false, false, false] rfl rfl (by kernel_rfl) (fun _ _ _ h => h) (Or.inl ⟨by rfl, ?_⟩) hHeld ?_ ?_
  rotate_left
  · rintro w' ⟨s0, s1, s2, s3, s4, s5, s6, s7, s8, s9⟩
    go_simp
    with_reducible rfl
  rotate_left
  · simp only [Act.put, List.setIfInBounds_toArray, List.set_cons_zero, List.set_cons_succ, i64_w, i32_w]
    rfl
  refine pure_ (i := 26) (N := some 49) (v := ?_) (a' := ?_) #[true, true, true, true, true, true, true, true, true, true, true, true, true, true, true, true, true, true, true, true, true, true, true, true, true, true, true, false, false, false, false] rfl rfl (by kernel_rfl) (fun _ _ _ h => h) (Or.inl ⟨by rfl, ?_⟩) ?_ ?_
  rotate_left
  · intro w'
    go_simp
    with_reducible rfl
  rotate_left
  · simp only [Act.put, List.setIfInBounds_toArray, List.set_cons_zero, List.set_cons_succ, i64_w, i32_w]
    rfl
  refine pure_ (i := 27) (N := some 50) (v := ?_) (a' := ?_) #[true, true, true, true, true, true, true, true, true, true, true, true, true, true, true, true, true, true, true, true, true, true, true, true, true, true, true, true, false, false, false] rfl rfl (by kernel_rfl) (fun _ _ _ h => h) (Or.inl ⟨by rfl, ?_⟩) ?_ ?_
  rotate_left
  · intro w'
    go_simp
    with_reducible rfl
  rotate_left
  · simp only [Act.put, List.setIfInBounds_toArray, List.set_cons_zero, List.set_cons_succ, i64_w, i32_w]
    rfl
  refine pure_ (i := 28) (N := some 51) (v := ?_) (a' := ?_) #[true, true, true, true, true, true, true, true, true, true, true, true, true, true, true, true, true, true, true, true, true, true, true, true, true, true, true, true, true, false, false] rfl rfl (by kernel_rfl) (fun _ _ _ h => h) (Or.inl ⟨by rfl, ?_⟩) ?_ ?_
  rotate_left
  · intro w'
    go_simp
    with_reducible rfl
  rotate_left
  · simp only [Act.put, List.setIfInBounds_toArray, List.set_cons_zero, List.set_cons_succ, i64_w, i32_w]
    rfl
  refine pure_ (i := 29) (N := some 52) (v := ?_) (a' := ?_) #[true, true, true, true, true, true, true, true, true, true, true, true, true, true, true, true, true, true, true, true, true, true, true, true, true, true, true, true, true, true, false] rfl rfl (by kernel_rfl) (fun _ _ _ h => h) (Or.inl ⟨by rfl, ?_⟩) ?_ ?_
  rotate_left
  · intro w'
    go_simp
    with_reducible rfl
  rotate_left
  · simp only [Act.put, List.setIfInBounds_toArray, List.set_cons_zero, List.set_cons_succ, i64_w, i32_w]
    rfl
  refine pure_ (i := 30) (N := some 6) (v := ?_) (a' := ?_) #[true, true, true, true, true, true, true, true, true, true, true, true, true, true, true, true, true, true, true, true, true, true, true, true, true, true, true, true, true, true, true] rfl rfl (by kernel_rfl) (fun _ _ _ h => h) (Or.inl ⟨by rfl, ?_⟩) ?_ ?_
  rotate_left
  · intro w'
    go_simp
    with_reducible rfl
  rotate_left
  · simp only [Act.put, List.setIfInBounds_toArray, List.set_cons_zero, List.set_cons_succ, i64_w, i32_w]
    rfl
  refine done_ (by kernel_rfl) ?_
  go_wp2_with fail
  go_ret
  exact ⟨rfl, below_then HZ7.out HZ7.out.size (below_drew (Below.refl _ _))⟩
theorem ledgerNobody_args {A0 : Option Addr} {n0 c0 : Nat} {z0 : List Int} {sl bo n slots : Int} {w : World} (g0 : Open.ConfigArg w A0 n0 c0 z0 sl bo) (w1 : (Lit.int .u8 n).wf = true) (w2 : (Lit.int .u16 slots).wf = true) :
    Calls Try.prog 6 #[.agg #[.slice A0 n0 c0, .int .i64 sl, .int .i64 bo], .int .u8 n, .int .u16 slots] w fun x w' => x = .returned (.bool true) ∧ Below w.heap.size w w' :=
  ledgerNobody_law A0 n0 c0 z0 sl bo n slots w (Kd.C_of_reads (d := (0 : Int)) (h1 := fun _ => rfl) g0.row.reads) g0.row.le (by have := g0.row.size; omega) (bd_i64 g0.ws) (bd_i64 g0.wb) (fun z hz => (bd_u64 (g0.row.wf z hz)).1) (bd_u8 w1) (bd_u16 w2)
end Go.Proofs.Ytiklbldanidfiaa.QL
