/-
  The law LedgerKeeps of package psephoslaw10: a vote that is counted leaves the state that was as it was; counted twice it counts once, and two in whatever order.
-/
import Derived.Test.YtiklbldanidfiaaKeepP
import Derived.Laws.EntriesVeiled
import Derived.Test.YtiklbldanidfiaaVoteM3
import Derived.Test.YtiklbldanidfiaaOpenStruct
import Derived.Test.YtiklbldanidfiaaWEqStruct
import Derived.Test.YtiklbldanidfiaaQLx10
import Derived.Test.YtiklbldanidfiaaQLx12
namespace Go.Proofs.Ytiklbldanidfiaa.QL
open Go.RowKit Go.Proofs.YtiklbldanidfiaaW.PrintWords Go.Proofs.YtiklbldanidfiaaW.PrintLast Go.Proofs.YtiklbldanidfiaaW.PrintMore Go.Proofs.Ytiklbldanidfiaa.Own Go.Proofs.Ytiklbldanidfiaa.Justify Go.Proofs.Ytiklbldanidfiaa.QLV
set_option linter.unusedVariables false
set_option linter.unusedSimpArgs false
attribute [local go_sem] max2_is min2_is max_pair min_pair
attribute [local go_sem high] eqA34
abbrev qK0 : Array Bool := #[false, false, false, false, false, false]
abbrev qK1 : Array Bool := #[true, false, false, false, false, false]
abbrev qK2 : Array Bool := #[true, true, false, false, false, false]
abbrev qK3 : Array Bool := #[true, true, true, true, true, false]
abbrev qK4 : Array Bool := #[true, true, true, false, false, false]
abbrev qK5 : Array Bool := #[true, true, false, false, true, false]
abbrev qK6 : Array Bool := #[true, true, true, true, false, false]
abbrev qK7 : Array Bool := #[true, true, true, false, true, false]
abbrev qK8 : Array Bool := #[true, true, true, true, true, true]
abbrev qK9 : Array Bool := #[false, false, false, false, false, false, false, false, false, false]
abbrev qK10 : Array Bool := #[true, false, false, false, false, false, false, false, false, false]
abbrev qK11 : Array Bool := #[true, false, false, true, false, false, false, false, false, false]
abbrev qK12 : Array Bool := #[true, true, false, true, false, false, false, false, false, false]
abbrev qK13 : Array Bool := #[true, true, false, true, true, false, false, false, false, false]
abbrev qK14 : Array Bool := #[true, true, true, true, true, true, true, true, false, false]
abbrev qK15 : Array Bool := #[true, true, true, true, true, false, false, false, false, false]
abbrev qK16 : Array Bool := #[true, true, false, true, true, false, true, false, false, false]
abbrev qK17 : Array Bool := #[true, true, false, true, true, false, false, true, false, false]
abbrev qK18 : Array Bool := #[true, true, true, true, true, true, false, false, false, false]
abbrev qK19 : Array Bool := #[true, true, true, true, true, false, true, false, false, false]
abbrev qK20 : Array Bool := #[true, true, true, true, true, false, false, true, false, false]
abbrev qK21 : Array Bool := #[true, true, true, true, true, true, true, false, false, false]
abbrev qK22 : Array Bool := #[true, true, true, true, true, true, false, true, false, false]
abbrev qK23 : Array Bool := #[true, true, true, true, true, false, true, true, false, false]
abbrev qK24 : Array Bool := #[true, true, false, true, true, false, true, true, false, false]
abbrev qK25 : Array Bool := #[true, true, true, true, true, true, true, true, true, false]
abbrev qK26 : Array Bool := #[true, true, true, true, true, true, true, true, true, true]
abbrev qK27 : Array Bool := #[false, false, false, false, false, false, false, false, false, false, false, false, false, false, false, false, false, false, false, false, false, false, false]
abbrev qK28 : Array Bool := #[true, false, false, false, false, false, false, false, false, false, false, false, false, false, false, false, false, false, false, false, false, false, false]
abbrev qK29 : Array Bool := #[true, true, false, false, false, false, false, false, false, false, false, false, false, false, false, false, false, false, false, false, false, false, false]
abbrev qK30 : Array Bool := #[true, true, true, false, false, false, false, false, false, false, false, false, false, false, false, false, false, false, false, false, false, false, false]
abbrev qK31 : Array Bool := #[true, true, true, true, false, false, false, false, false, false, false, false, false, false, false, false, false, false, false, false, false, false, false]
abbrev qK32 : Array Bool := #[true, true, true, true, true, false, false, false, false, false, false, false, false, false, false, false, false, false, false, false, false, false, false]
abbrev qK33 : Array Bool := #[true, true, true, true, true, true, false, false, false, false, false, false, false, false, false, false, false, false, false, false, false, false, false]
abbrev qK34 : Array Bool := #[true, true, true, true, true, true, true, false, false, false, false, false, false, false, false, false, false, false, false, false, false, false, false]
abbrev qK35 : Array Bool := #[true, true, true, true, true, true, true, true, false, false, false, false, false, false, false, false, false, false, false, false, false, false, false]
abbrev qK36 : Array Bool := #[true, true, true, true, true, true, true, true, true, false, false, false, false, false, false, false, false, false, false, false, false, false, false]
abbrev qK37 : Array Bool := #[true, true, true, true, true, true, true, true, true, true, false, false, false, false, false, false, false, false, false, false, false, false, false]
abbrev qK38 : Array Bool := #[true, true, true, true, true, true, true, true, true, true, true, false, false, false, false, false, false, false, false, false, false, false, false]
abbrev qK39 : Array Bool := #[true, true, true, true, true, true, true, true, true, true, true, true, false, false, false, false, false, false, false, false, false, false, false]
abbrev qK40 : Array Bool := #[true, true, true, true, true, true, true, true, true, true, true, true, true, false, false, false, false, false, false, false, false, false, false]
abbrev qK41 : Array Bool := #[true, true, true, true, true, true, true, true, true, true, true, true, true, true, false, false, false, false, false, false, false, false, false]
abbrev qK42 : Array Bool := #[true, true, true, true, true, true, true, true, true, true, true, true, true, true, true, false, false, false, false, false, false, false, false]
abbrev qK43 : Array Bool := #[true, true, true, true, true, true, true, true, true, true, true, true, true, true, true, true, false, false, false, false, false, false, false]
abbrev qK44 : Array Bool := #[true, true, true, true, true, true, true, true, true, true, true, true, true, true, true, true, true, false, false, false, false, false, false]
abbrev qK45 : Array Bool := #[true, true, true, true, true, true, true, true, true, true, true, true, true, true, true, true, true, true, false, false, false, false, false]
abbrev qK46 : Array Bool := #[true, true, true, true, true, true, true, true, true, true, true, true, true, true, true, true, true, true, true, false, false, false, false]
abbrev qK47 : Array Bool := #[true, true, true, true, true, true, true, true, true, true, true, true, true, true, true, true, true, true, true, true, false, false, false]
abbrev qK48 : Array Bool := #[true, true, true, true, true, true, true, true, true, true, true, true, true, true, true, true, true, true, true, true, true, false, false]
abbrev qK49 : Array Bool := #[true, true, true, true, true, true, true, true, true, true, true, true, true, true, true, true, true, true, true, true, true, true, false]
abbrev qK50 : Array Bool := #[true, true, true, true, true, true, true, true, true, true, true, true, true, true, true, true, true, true, true, true, true, true, true]

set_option maxHeartbeats 16000000 in
set_option maxRecDepth 100000 in
theorem ledgerKeeps_law (A0 : Option Addr) (n0 c0 : Nat) (z0 : List Int) (sl bo : Int) (n : Int) (vs vh vse vsr vte vtr : Int) (A3 : Option Addr) (n3 c3 : Nat) (z3 : List Int) (us uh use usr ute utr : Int) (A4 : Option Addr) (n4 c4 : Nat) (z4 : List Int) (w : World) (h0 : Kd.C (Kd.int .u64) w A0 n0 z0) (hc0 : n0 ≤ c0) (hn0 : n0 ≤ 17592186043904) (hs : -9223372036854775808 ≤ sl ∧ sl ≤ 9223372036854775807) (hb : -9223372036854775808 ≤ bo ∧ bo ≤ 9223372036854775807) (hp : ∀ z ∈ z0, 0 ≤ z) (h1 : 0 ≤ n ∧ n ≤ 255) (h3 : Kd.C (Kd.int .i64) w A3 n3 z3) (hc3 : n3 ≤ c3) (hn3 : n3 ≤ 17592186043904) (h4 : Kd.C (Kd.int .i64) w A4 n4 z4) (hc4 : n4 ≤ c4) (hn4 : n4 ≤ 17592186043904) (h_vs : -9223372036854775808 ≤ vs ∧ vs ≤ 9223372036854775807) (h_vse : -9223372036854775808 ≤ vse ∧ vse ≤ 9223372036854775807) (h_us : -9223372036854775808 ≤ us ∧ us ≤ 9223372036854775807) (h_use : -9223372036854775808 ≤ use ∧ use ≤ 9223372036854775807) :
    Calls Try.prog 5 #[.agg #[.slice A0 n0 c0, .int .i64 sl, .int .i64 bo], .int .u8 n, .agg #[.int .i64 vs, .int .u64 vh, .int .i64 vse, .int .u64 vsr, .int .i64 vte, .int .u64 vtr, .slice A3 n3 c3], .agg #[.int .i64 us, .int .u64 uh, .int .i64 use, .int .u64 usr, .int .i64 ute, .int .u64 utr, .slice A4 n4 c4]] w fun x w' => x = .returned (.bool true) ∧ Below w.heap.size w w' := by
  have HN := Aside0.mk h1
  have hl3 : z3.length = n3 := h3.1
  have hl4 : z4.length = n4 := h4.1
  subst hl3 hl4
  have H3 := Aside0.mk h3
  have H4 := Aside0.mk h4
  have HC3 := Aside0.mk hc3
  have HC4 := Aside0.mk hc4
  obtain ⟨k1, hk1⟩ := (make5_f (mkBal z0) z3 (mkSlots sl) (mkBoost bo) vs vh vse vsr vte vtr (mkBal_len z0).2 (by omega) h_vs.1 h_vs.2 h_vse.1 h_vse.2).rounds
  obtain ⟨k2, hk2⟩ := (make5_f (mkBal z0) z4 (mkSlots sl) (mkBoost bo) us uh use usr ute utr (mkBal_len z0).2 (by omega) h_us.1 h_us.2 h_use.1 h_use.2).rounds
  have HK1 := Aside0.mk hk1
  have HK2 := Aside0.mk hk2
  have hl0 : z0.length = n0 := h0.1
  subst hl0
  obtain ⟨kr, hkr⟩ := (make3_f z0 sl bo hn0 hb.1 hb.2).rounds
  have HKR := Aside0.mk hkr
  have H0 := Aside0.mk h0
  have HP := Aside0.mk (mkBal_mem z0 hp)
  have HLN := Aside0.mk (mkBal_len z0)
  have HSL := Aside0.mk (mkSlots_in sl)
  clear hkr h0 hp hs hb h1 h3 h4 hc3 hc4 hn3 hn4 hk1 hk2 h_vs h_vse h_us h_use
  go_enter Try.func5, Try.ntmps5
  go_upto_region 4 with (first
    | (go_at_call 9; refine (awake_calls _).mono ?_; rintro x w1 ⟨rfl, hb⟩; have HB1 := Aside0.mk (below_then (below_alloc (below_alloc (below_alloc (Below.refl w.heap.size w) _) _) _) (by simp; omega) hb); have qb := Block.box3 w #[.slice A0 z0.length c0, .int .i64 sl, .int .i64 bo] #[.int .i64 vs, .int .u64 vh, .int .i64 vse, .int .u64 vsr, .int .i64 vte, .int .u64 vtr, .slice A3 z3.length c3] #[.int .i64 us, .int .u64 uh, .int .i64 use, .int .u64 usr, .int .i64 ute, .int .u64 utr, .slice A4 z4.length c4] 24 43 43; have HBK := Aside0.mk (blk_below qb.1 hb); have VA1 := Aside0.mk (blk_below qb.2.1 hb); have VB1 := Aside0.mk (blk_below qb.2.2 hb); have hcg := blk_cell HBK.out; clear hb qb)
    | (go_at_call 10; refine (psephoslaw03_Make.calls kr A0 c0 z0 sl bo _ _ _ _ (Kd.C_below H0.out HB1.out) hc0 HKR.out).mono ?_; rintro x w2 ⟨v0, rfl, hR, hb⟩; have VA2 := Aside0.mk (blk_below VA1.out hb); have VB2 := Aside0.mk (blk_below VB1.out hb); have HB2 := Aside0.mk (below_then HB1.out HB1.out.size hb); obtain ⟨AX, cX, rfl, hcx, hC⟩ := Kd.R_reads hR; have HX := Aside0.mk hC; have HCX := Aside0.mk hcx; clear hb hR hC hcx))
  obtain ⟨lx, hlx⟩ : ∃ l, mkBal z0 = l := ⟨_, rfl⟩
  obtain ⟨sx, hsx⟩ : ∃ l, mkSlots sl = l := ⟨_, rfl⟩
  obtain ⟨bx, hbx⟩ : ∃ l, mkBoost bo = l := ⟨_, rfl⟩
  rw [hlx] at HP HLN HX HCX HK1 HK2
  rw [hsx] at HSL HK1 HK2
  rw [hbx] at HK1 HK2
  rw [hlx, hsx, hbx]
  have HNX : Aside0 (lx.length ≤ 17592186043904) := ⟨by have := HLN.out; omega⟩
  obtain ⟨wr, hwr⟩ : ∃ wr, wr = w2.alloc (.cells #[.slice AX lx.length cX, .int .i64 sx, .int .i64 bx] 24) := ⟨_, rfl⟩
  obtain ⟨xb, hxb⟩ : ∃ g, w2.heap.size = g := ⟨_, rfl⟩
  have BM : Aside0 (wr.heap[xb]? = some (.cells #[.slice AX lx.length cX, .int .i64 sx, .int .i64 bx] 24 (0, 0))) := ⟨by rw [hwr, ← hxb]; exact heap_alloc_new _ _⟩
  have VBr : Aside0 (wr.heap[w.heap.size + 1 + 1]? = some (.cells #[.int .i64 us, .int .u64 uh, .int .i64 use, .int .u64 usr, .int .i64 ute, .int .u64 utr, .slice A4 z4.length c4] 43 (0, 0))) := ⟨by rw [hwr]; exact blk_alloc VB2.out _⟩
  have VAr : Aside0 (wr.heap[w.heap.size + 1]? = some (.cells #[.int .i64 vs, .int .u64 vh, .int .i64 vse, .int .u64 vsr, .int .i64 vte, .int .u64 vtr, .slice A3 z3.length c3] 43 (0, 0))) := ⟨by rw [hwr]; exact blk_alloc VA2.out _⟩
  have HBR : Aside0 (Below w.heap.size w wr) := ⟨by rw [hwr]; exact below_alloc HB2.out _⟩
  have XN : Aside0 (Kd.C (Kd.int .u64) wr AX lx.length lx) := ⟨Kd.C_below HX.out (by rw [hwr]; exact below_alloc (Below.refl _ _) _)⟩
  have XB : Aside0 (xb < wr.heap.size) := ⟨(Array.getElem?_eq_some_iff.1 BM.out).1⟩
  rw [← hwr, hxb]
  clear hwr hxb hlx hsx hbx HX HB1 HBK hcg HKR VA1 VB1 VA2 VB2
  have hm0 := blk_cell BM.out
  go_upto_region 5 with (go_at_call 11; refine (Chain_calls n HN.out _).mono ?_; rintro x w3 ⟨v, rfl, hch, hb⟩; obtain ⟨f, C, hv⟩ : ∃ f C, v = .func (.func f) #[] C := (by obtain ⟨f, C, h, _⟩ := hch; exact ⟨f, C, h⟩); subst hv; have CH3 := Aside0.mk hch; have HW3 := Aside0.mk hb; clear hch hb hm0)
  obtain ⟨w4, hw4⟩ : ∃ x, x = w3.alloc (.cells #[.func (.func f) #[] C] 29) := ⟨_, rfl⟩
  obtain ⟨cb, hcb⟩ : ∃ g, w3.heap.size = g := ⟨_, rfl⟩
  have hb34 : Below w3.heap.size w3 w4 := by rw [hw4]; exact below_alloc (Below.refl _ _) _
  have HW4 := Aside0.mk (below_then HW3.out HW3.out.size hb34)
  have CB4 : Aside0 (w4.heap[cb]? = some (.cells #[.func (.func f) #[] C] 29 (0, 0))) := ⟨by rw [hw4, ← hcb]; exact heap_alloc_new _ _⟩
  have CH4 := Aside0.mk (CH3.out.below hb34)
  have BM4 := Aside0.mk (blk_below BM.out HW4.out)
  have VA4 := Aside0.mk (blk_below VAr.out HW4.out)
  have VB4 := Aside0.mk (blk_below VBr.out HW4.out)
  have X4 := Aside0.mk (Kd.C_below XN.out HW4.out)
  have HB4 := Aside0.mk (below_then HBR.out HBR.out.size HW4.out)
  rw [← hw4, hcb]
  clear hw4 hcb hb34 CH3 HW3
  refine start_ (n := 6) (S := fun w' => w'.cell? ⟨xb, 0, none⟩ = some (.slice AX lx.length cX) ∧ w'.cell? ⟨xb, 1, none⟩ = some (.int .i64 sx) ∧ w'.cell? ⟨xb, 2, none⟩ = some (.int .i64 bx) ∧ w'.cell? ⟨cb, 0, none⟩ = some (.func (.func f) #[] C)) (ds := [5]) qK0 (by kernel_rfl) rfl rfl ⟨(blk_cell BM4.out 0), (blk_cell BM4.out 1), (blk_cell BM4.out 2), (blk_cell CB4.out 0)⟩ (fun hHeld => ?_)
  refine take_ (i := 0) (N := some 29) (v := ?_) (a' := ?_) qK1 rfl rfl (by kernel_rfl) (fun _ _ _ h => h) (Or.inl ⟨by rfl, ?_⟩) hHeld ?_ ?_
  rotate_left
  · rintro w' ⟨s0, s1, s2, s3⟩
    go_simp
    with_reducible rfl
  rotate_left
  · simp only [Act.put, List.setIfInBounds_toArray, List.set_cons_zero, List.set_cons_succ, i64_w, i32_w]
    rfl
  refine take_ (i := 1) (N := some 30) (v := ?_) (a' := ?_) qK2 rfl rfl (by kernel_rfl) (fun _ _ _ h => h) (Or.inl ⟨by rfl, ?_⟩) hHeld ?_ ?_
  rotate_left
  · rintro w' ⟨s0, s1, s2, s3⟩
    go_simp
    with_reducible rfl
  rotate_left
  · simp only [Act.put, List.setIfInBounds_toArray, List.set_cons_zero, List.set_cons_succ, i64_w, i32_w]
    rfl
  refine join_ (σ := Value × Value × Value) 1 qK3 (fun s_ => [(31, s_.1), (32, s_.2.1), (11, s_.2.2)]) (fun s_ w' => (w'.cell? ⟨xb, 0, none⟩ = some (.slice AX lx.length cX) ∧ w'.cell? ⟨xb, 1, none⟩ = some (.int .i64 sx) ∧ w'.cell? ⟨xb, 2, none⟩ = some (.int .i64 bx) ∧ w'.cell? ⟨cb, 0, none⟩ = some (.func (.func f) #[] C)) ∧ (∃ AB cB AN cN sb, s_ = (.int .u64 (chainOf n 0), .agg (stC (openS (chainOf n 0) lx.length) AB cB AN cN), .pointer (some ⟨sb, 0, none⟩)) ∧ (∃ b, Rows2 b (openS (chainOf n 0) lx.length) AB cB AN cN w') ∧ (w'.heap[sb]? = some (.cells #[.bool false, .bool false, .bool false, .bool false, .int .i64 0, .int .u64 0, .int .i64 0, .int .u64 0, .int .i64 0, .int .u64 0, .int .i64 0, .slice none 0 0, .slice none 0 0] 39 (0, 0))) ∧ (w4.heap.size ≤ sb)) ∧ Below w4.heap.size w4 w') ?_ ?_
  rotate_left
  · intro hCont
    refine two_ (i := 2) (j := 4) (Ni := some 31) (Nj := some 11) qK4 qK5 rfl rfl rfl rfl (by kernel_rfl) (by decide) (by decide) (fun K hK => ?_) (fun K hK => ?_)
    · skip
      refine fireD_ (by rfl) rfl rfl 0 rfl CH4.out (below_drew (Below.refl w4.heap.size w4)) (by omega) ?_
      intro wq1 hb
      have HQ1 := Aside0.mk (below_then (below_drew (Below.refl w4.heap.size w4)) (Nat.le_refl _) hb)
      clear hb 
      refine hK.out _ _ ⟨(pw_cell_below HQ1.out (blk_cell BM4.out 0)), (pw_cell_below HQ1.out (blk_cell BM4.out 1)), (pw_cell_below HQ1.out (blk_cell BM4.out 2)), (pw_cell_below HQ1.out (blk_cell CB4.out 0))⟩ (fun hHeld => ?_)
      clear hK K
      refine norm_ (a' := ?_) ?_ ?_
      rotate_left
      · show Act.put _ (some 31) _ = _
        simp only [Act.put, List.setIfInBounds_toArray, List.set_cons_zero, List.set_cons_succ, i64_w, i32_w]
        rfl
      refine two_ (i := 3) (j := 4) (Ni := some 32) (Nj := some 11) qK6 qK7 rfl rfl rfl rfl (by kernel_rfl) (by decide) (by decide) (fun K hK => ?_) (fun K hK => ?_)
      · skip
        refine goes_ Try.func12 (by kernel_rfl) rfl #[.agg #[.slice AX lx.length cX, .int .i64 sx, .int .i64 bx], .int .u64 (chainOf n 0)] (by rfl) rfl rfl (by simp only [List.map_toArray, List.map_cons, List.map_nil]; rfl) ?_
        with_reducible refine (open_calls AX cX lx sx bx (chainOf n 0) _ HNX.out).mono ?_
        rintro x wq2 ⟨AB, cB, AN, cN, rfl, h_RW, hb⟩
        refine ⟨_, rfl, ?_⟩
        have h_RW := rows_ex h_RW
        have HQ2 := Aside0.mk (below_then HQ1.out HQ1.out.size hb)
        have RW_2 := Aside0.mk h_RW
        clear hb h_RW
        refine hK.out _ _ ⟨(pw_cell_below HQ2.out (blk_cell BM4.out 0)), (pw_cell_below HQ2.out (blk_cell BM4.out 1)), (pw_cell_below HQ2.out (blk_cell BM4.out 2)), (pw_cell_below HQ2.out (blk_cell CB4.out 0))⟩ (fun hHeld => ?_)
        clear hK K
        refine norm_ (a' := ?_) ?_ ?_
        rotate_left
        · show Act.put _ (some 32) _ = _
          simp only [Act.put, List.setIfInBounds_toArray, List.set_cons_zero, List.set_cons_succ, i64_w, i32_w]
          rfl
        refine one_ (i := 4) (N := some 11) qK3 rfl rfl (by kernel_rfl) (by decide) (fun K hK => ?_)
        refine alloc_step (base := wq2.heap.size) (w0 := wq2) 39 #[.bool false, .bool false, .bool false, .bool false, .int .i64 0, .int .u64 0, .int .i64 0, .int .u64 0, .int .i64 0, .int .u64 0, .int .i64 0, .slice none 0 0, .slice none 0 0] (by rfl) rfl rfl (by kernel_rfl) (Below.refl _ _) (Nat.le_refl _) ?_
        intro sb wq3 h_GS hge hb hg_
        have h_GEGS : w4.heap.size ≤ sb := Nat.le_trans HQ2.out.size hge
        have hnew := hge
        clear hge hg_
        have HQ3 := Aside0.mk (below_then HQ2.out HQ2.out.size hb)
        have GS_3 := Aside0.mk h_GS
        have GEGS_3 := Aside0.mk h_GEGS
        have RW_3 := Aside0.mk (rows_below RW_2.out hb)
        clear hnew
        clear hb h_GS h_GEGS
        refine hK.out _ _ ⟨(pw_cell_below HQ3.out (blk_cell BM4.out 0)), (pw_cell_below HQ3.out (blk_cell BM4.out 1)), (pw_cell_below HQ3.out (blk_cell BM4.out 2)), (pw_cell_below HQ3.out (blk_cell CB4.out 0))⟩ (fun hHeld => ?_)
        clear hK K
        refine norm_ (a' := ?_) ?_ ?_
        rotate_left
        · show Act.put _ (some 11) _ = _
          simp only [Act.put, List.setIfInBounds_toArray, List.set_cons_zero, List.set_cons_succ, i64_w, i32_w]
          rfl
        exact norm_ (by simp only [putAll, Act.put, List.setIfInBounds_toArray, List.set_cons_zero, List.set_cons_succ]) (hCont (.int .u64 (chainOf n 0), .agg (stC (openS (chainOf n 0) lx.length) AB cB AN cN), .pointer (some ⟨sb, 0, none⟩)) _ ⟨hHeld, ⟨AB, cB, AN, cN, sb, rfl, RW_3.out, GS_3.out, GEGS_3.out⟩, HQ3.out⟩)
      · skip
        refine alloc_step (base := wq1.heap.size) (w0 := wq1) 39 #[.bool false, .bool false, .bool false, .bool false, .int .i64 0, .int .u64 0, .int .i64 0, .int .u64 0, .int .i64 0, .int .u64 0, .int .i64 0, .slice none 0 0, .slice none 0 0] (by rfl) rfl rfl (by kernel_rfl) (Below.refl _ _) (Nat.le_refl _) ?_
        intro sb wq2 h_GS hge hb hg_
        have h_GEGS : w4.heap.size ≤ sb := Nat.le_trans HQ1.out.size hge
        have hnew := hge
        clear hge hg_
        have HQ2 := Aside0.mk (below_then HQ1.out HQ1.out.size hb)
        have GS_2 := Aside0.mk h_GS
        have GEGS_2 := Aside0.mk h_GEGS
        clear hnew
        clear hb h_GS h_GEGS
        refine hK.out _ _ ⟨(pw_cell_below HQ2.out (blk_cell BM4.out 0)), (pw_cell_below HQ2.out (blk_cell BM4.out 1)), (pw_cell_below HQ2.out (blk_cell BM4.out 2)), (pw_cell_below HQ2.out (blk_cell CB4.out 0))⟩ (fun hHeld => ?_)
        clear hK K
        refine norm_ (a' := ?_) ?_ ?_
        rotate_left
        · show Act.put _ (some 11) _ = _
          simp only [Act.put, List.setIfInBounds_toArray, List.set_cons_zero, List.set_cons_succ, i64_w, i32_w]
          rfl
        refine one_ (i := 3) (N := some 32) qK3 rfl rfl (by kernel_rfl) (by decide) (fun K hK => ?_)
        refine goes_ Try.func12 (by kernel_rfl) rfl #[.agg #[.slice AX lx.length cX, .int .i64 sx, .int .i64 bx], .int .u64 (chainOf n 0)] (by rfl) rfl rfl (by simp only [List.map_toArray, List.map_cons, List.map_nil]; rfl) ?_
        with_reducible refine (open_calls AX cX lx sx bx (chainOf n 0) _ HNX.out).mono ?_
        rintro x wq3 ⟨AB, cB, AN, cN, rfl, h_RW, hb⟩
        refine ⟨_, rfl, ?_⟩
        have h_RW := rows_ex h_RW
        have HQ3 := Aside0.mk (below_then HQ2.out HQ2.out.size hb)
        have RW_3 := Aside0.mk h_RW
        have GS_3 := Aside0.mk (blk_below GS_2.out hb)
        have GEGS_3 := Aside0.mk (GEGS_2.out)
        clear hb h_RW
        refine hK.out _ _ ⟨(pw_cell_below HQ3.out (blk_cell BM4.out 0)), (pw_cell_below HQ3.out (blk_cell BM4.out 1)), (pw_cell_below HQ3.out (blk_cell BM4.out 2)), (pw_cell_below HQ3.out (blk_cell CB4.out 0))⟩ (fun hHeld => ?_)
        clear hK K
        refine norm_ (a' := ?_) ?_ ?_
        rotate_left
        · show Act.put _ (some 32) _ = _
          simp only [Act.put, List.setIfInBounds_toArray, List.set_cons_zero, List.set_cons_succ, i64_w, i32_w]
          rfl
        exact norm_ (by simp only [putAll, Act.put, List.setIfInBounds_toArray, List.set_cons_zero, List.set_cons_succ]) (hCont (.int .u64 (chainOf n 0), .agg (stC (openS (chainOf n 0) lx.length) AB cB AN cN), .pointer (some ⟨sb, 0, none⟩)) _ ⟨hHeld, ⟨AB, cB, AN, cN, sb, rfl, RW_3.out, GS_3.out, GEGS_3.out⟩, HQ3.out⟩)
    · skip
      refine alloc_step (base := w4.drew.heap.size) (w0 := w4.drew) 39 #[.bool false, .bool false, .bool false, .bool false, .int .i64 0, .int .u64 0, .int .i64 0, .int .u64 0, .int .i64 0, .int .u64 0, .int .i64 0, .slice none 0 0, .slice none 0 0] (by rfl) rfl rfl (by kernel_rfl) (Below.refl _ _) (Nat.le_refl _) ?_
      intro sb wq1 h_GS hge hb hg_
      have h_GEGS : w4.heap.size ≤ sb := Nat.le_trans (below_drew (Below.refl w4.heap.size w4)).size hge
      have hnew := hge
      clear hge hg_
      have HQ1 := Aside0.mk (below_then (below_drew (Below.refl w4.heap.size w4)) (Nat.le_refl _) hb)
      have GS_1 := Aside0.mk h_GS
      have GEGS_1 := Aside0.mk h_GEGS
      clear hnew
      clear hb h_GS h_GEGS
      refine hK.out _ _ ⟨(pw_cell_below HQ1.out (blk_cell BM4.out 0)), (pw_cell_below HQ1.out (blk_cell BM4.out 1)), (pw_cell_below HQ1.out (blk_cell BM4.out 2)), (pw_cell_below HQ1.out (blk_cell CB4.out 0))⟩ (fun hHeld => ?_)
      clear hK K
      refine norm_ (a' := ?_) ?_ ?_
      rotate_left
      · show Act.put _ (some 11) _ = _
        simp only [Act.put, List.setIfInBounds_toArray, List.set_cons_zero, List.set_cons_succ, i64_w, i32_w]
        rfl
      refine one_ (i := 2) (N := some 31) qK7 rfl rfl (by kernel_rfl) (by decide) (fun K hK => ?_)
      refine fireD_ (by rfl) rfl rfl 0 rfl CH4.out HQ1.out (by omega) ?_
      intro wq2 hb
      have HQ2 := Aside0.mk (below_then HQ1.out HQ1.out.size hb)
      have GS_2 := Aside0.mk (blk_below GS_1.out hb)
      have GEGS_2 := Aside0.mk (GEGS_1.out)
      clear hb 
      refine hK.out _ _ ⟨(pw_cell_below HQ2.out (blk_cell BM4.out 0)), (pw_cell_below HQ2.out (blk_cell BM4.out 1)), (pw_cell_below HQ2.out (blk_cell BM4.out 2)), (pw_cell_below HQ2.out (blk_cell CB4.out 0))⟩ (fun hHeld => ?_)
      clear hK K
      refine norm_ (a' := ?_) ?_ ?_
      rotate_left
      · show Act.put _ (some 31) _ = _
        simp only [Act.put, List.setIfInBounds_toArray, List.set_cons_zero, List.set_cons_succ, i64_w, i32_w]
        rfl
      refine one_ (i := 3) (N := some 32) qK3 rfl rfl (by kernel_rfl) (by decide) (fun K hK => ?_)
      refine goes_ Try.func12 (by kernel_rfl) rfl #[.agg #[.slice AX lx.length cX, .int .i64 sx, .int .i64 bx], .int .u64 (chainOf n 0)] (by rfl) rfl rfl (by simp only [List.map_toArray, List.map_cons, List.map_nil]; rfl) ?_
      with_reducible refine (open_calls AX cX lx sx bx (chainOf n 0) _ HNX.out).mono ?_
      rintro x wq3 ⟨AB, cB, AN, cN, rfl, h_RW, hb⟩
      refine ⟨_, rfl, ?_⟩
      have h_RW := rows_ex h_RW
      have HQ3 := Aside0.mk (below_then HQ2.out HQ2.out.size hb)
      have RW_3 := Aside0.mk h_RW
      have GS_3 := Aside0.mk (blk_below GS_2.out hb)
      have GEGS_3 := Aside0.mk (GEGS_2.out)
      clear hb h_RW
      refine hK.out _ _ ⟨(pw_cell_below HQ3.out (blk_cell BM4.out 0)), (pw_cell_below HQ3.out (blk_cell BM4.out 1)), (pw_cell_below HQ3.out (blk_cell BM4.out 2)), (pw_cell_below HQ3.out (blk_cell CB4.out 0))⟩ (fun hHeld => ?_)
      clear hK K
      refine norm_ (a' := ?_) ?_ ?_
      rotate_left
      · show Act.put _ (some 32) _ = _
        simp only [Act.put, List.setIfInBounds_toArray, List.set_cons_zero, List.set_cons_succ, i64_w, i32_w]
        rfl
      exact norm_ (by simp only [putAll, Act.put, List.setIfInBounds_toArray, List.set_cons_zero, List.set_cons_succ]) (hCont (.int .u64 (chainOf n 0), .agg (stC (openS (chainOf n 0) lx.length) AB cB AN cN), .pointer (some ⟨sb, 0, none⟩)) _ ⟨hHeld, ⟨AB, cB, AN, cN, sb, rfl, RW_3.out, GS_3.out, GEGS_3.out⟩, HQ3.out⟩)
  rintro s_ wj ⟨hS_, ⟨AB, cB, AN, cN, sb, rfl, h_RW, h_GS, h_GEGS⟩, hbj⟩
  have RW := Aside0.mk h_RW
  have GS := Aside0.mk h_GS
  have GEGS := Aside0.mk h_GEGS
  have HJ := Aside0.mk hbj
  clear hbj h_RW h_GS h_GEGS
  have hHeld : wj.cell? ⟨xb, 0, none⟩ = some (.slice AX lx.length cX) ∧ wj.cell? ⟨xb, 1, none⟩ = some (.int .i64 sx) ∧ wj.cell? ⟨xb, 2, none⟩ = some (.int .i64 bx) ∧ wj.cell? ⟨cb, 0, none⟩ = some (.func (.func f) #[] C) := hS_
  refine norm_ (a' := ?_) ?_ ?_
  rotate_left
  · simp only [putAll, Act.put, List.setIfInBounds_toArray, List.set_cons_zero, List.set_cons_succ]
    rfl
  refine last_ (i := 5) (N := none) qK8 rfl rfl (by kernel_rfl) (by decide) (fun K hK => ?_)
  refine store_step (by rfl) rfl 39 (.tmp 11) (.tmp 32) rfl sb 39 _ (stC (openS (chainOf n 0) lx.length) AB cB AN cN) rfl rfl GS.out rfl (by kernel_rfl) (by simp [stC, Value.oneCell']) ?_
  intro w5 hbk hgr
  have S5 := Aside0.mk hbk
  have HJ5 := Aside0.mk (HJ.out.grown hgr HJ.out.size (fun k hk => by cases hk; exact GEGS.out))
  obtain ⟨rb, RWx⟩ := RW.out
  have RW5 : Aside0 (∃ b, Rows2 b (openS (chainOf n 0) lx.length) AB cB AN cN w5) := ⟨rb, RB_over RWx.r1 GS.out (by decide) hgr, RB_over RWx.r2 GS.out (by decide) hgr, RWx.ne⟩
  clear hbk hgr RWx
  refine hK.out _ _ ?_
  clear hK K
  refine done_ (by kernel_rfl) ?_
  obtain ⟨s, hs⟩ : ∃ s, openS (chainOf n 0) lx.length = s := ⟨_, rfl⟩
  rw [hs] at S5 RW5
  rw [hs]
  have HSO := Aside0.mk hs
  have HSF : Aside0 (s.ep = 0 ∧ s.bf.length = lx.length ∧ s.nw.length = lx.length ∧ s.j.ce = 0) := ⟨by rw [← hs]; simp [openS]⟩
  have BM5 := Aside0.mk (blk_below BM4.out HJ5.out)
  have CB5 := Aside0.mk (blk_below CB4.out HJ5.out)
  have VA5 := Aside0.mk (blk_below VA4.out HJ5.out)
  have VB5 := Aside0.mk (blk_below VB4.out HJ5.out)
  have CH5 := Aside0.mk (CH4.out.below HJ5.out)
  have X5 := Aside0.mk (Kd.C_below X4.out HJ5.out)
  have HB5 := Aside0.mk (below_then HB4.out HB4.out.size HJ5.out)
  have R3 := Aside0.mk (Kd.C_below H3.out HB5.out)
  have R4 := Aside0.mk (Kd.C_below H4.out HB5.out)
  have SI5 : Aside0 (SIn AX cX lx s AB cB AN cN (.func (.func f) #[] C) (chainOf n) w5) := ⟨by obtain ⟨rb, h⟩ := RW5.out; exact h.sin ⟨X5.out, HCX.out, HNX.out, CH5.out⟩ (by rw [HSF.out.2.1]; exact HNX.out) (by rw [HSF.out.2.2.1]; exact HNX.out) (by rw [HSF.out.1]; omega)⟩
  clear hs hHeld RW GS HJ
  obtain ⟨W1, hW1⟩ : ∃ W, mkWho lx.length z3 = W := ⟨_, rfl⟩
  obtain ⟨W2, hW2⟩ : ∃ W, mkWho lx.length z4 = W := ⟨_, rfl⟩
  have WF1 := Aside0.mk hW1
  have WF2 := Aside0.mk hW2
  rw [hW1] at HK1
  rw [hW2] at HK2
  clear hW1 hW2
  go_upto_region 7 with fail
  refine start_ (n := 10) (S := fun w' => w'.cell? ⟨w.heap.size + 1, 0, none⟩ = some (.int .i64 vs) ∧ w'.cell? ⟨w.heap.size + 1, 1, none⟩ = some (.int .u64 vh) ∧ w'.cell? ⟨w.heap.size + 1, 2, none⟩ = some (.int .i64 vse) ∧ w'.cell? ⟨w.heap.size + 1, 3, none⟩ = some (.int .u64 vsr) ∧ w'.cell? ⟨w.heap.size + 1, 4, none⟩ = some (.int .i64 vte) ∧ w'.cell? ⟨w.heap.size + 1, 5, none⟩ = some (.int .u64 vtr) ∧ w'.cell? ⟨w.heap.size + 1, 6, none⟩ = some (.slice A3 z3.length c3) ∧ w'.cell? ⟨w.heap.size + 1 + 1, 0, none⟩ = some (.int .i64 us) ∧ w'.cell? ⟨w.heap.size + 1 + 1, 1, none⟩ = some (.int .u64 uh) ∧ w'.cell? ⟨w.heap.size + 1 + 1, 2, none⟩ = some (.int .i64 use) ∧ w'.cell? ⟨w.heap.size + 1 + 1, 3, none⟩ = some (.int .u64 usr) ∧ w'.cell? ⟨w.heap.size + 1 + 1, 4, none⟩ = some (.int .i64 ute) ∧ w'.cell? ⟨w.heap.size + 1 + 1, 5, none⟩ = some (.int .u64 utr) ∧ w'.cell? ⟨w.heap.size + 1 + 1, 6, none⟩ = some (.slice A4 z4.length c4)) (ds := [8, 9]) qK9 (by kernel_rfl) rfl rfl ⟨(blk_cell VA5.out 0), (blk_cell VA5.out 1), (blk_cell VA5.out 2), (blk_cell VA5.out 3), (blk_cell VA5.out 4), (blk_cell VA5.out 5), (blk_cell VA5.out 6), (blk_cell VB5.out 0), (blk_cell VB5.out 1), (blk_cell VB5.out 2), (blk_cell VB5.out 3), (blk_cell VB5.out 4), (blk_cell VB5.out 5), (blk_cell VB5.out 6)⟩ (fun hHeld => ?_)
  refine pure_ (i := 0) (N := some 34) (v := ?_) (a' := ?_) qK10 rfl rfl (by kernel_rfl) (fun _ _ _ h => h) (Or.inl ⟨by rfl, ?_⟩) ?_ ?_
  rotate_left
  · intro w'
    go_simp
    with_reducible rfl
  rotate_left
  · simp only [Act.put, List.setIfInBounds_toArray, List.set_cons_zero, List.set_cons_succ, i64_w, i32_w]
    rfl
  refine pure_ (i := 3) (N := some 37) (v := ?_) (a' := ?_) qK11 rfl rfl (by kernel_rfl) (fun _ _ _ h => h) (Or.inl ⟨by rfl, ?_⟩) ?_ ?_
  rotate_left
  · intro w'
    go_simp
    with_reducible rfl
  rotate_left
  · simp only [Act.put, List.setIfInBounds_toArray, List.set_cons_zero, List.set_cons_succ, i64_w, i32_w]
    rfl
  refine take_ (i := 1) (N := some 35) (v := ?_) (a' := ?_) qK12 rfl rfl (by kernel_rfl) (fun _ _ _ h => h) (Or.inl ⟨by rfl, ?_⟩) hHeld ?_ ?_
  rotate_left
  · rintro w' ⟨s0, s1, s2, s3, s4, s5, s6, s7, s8, s9, s10, s11, s12, s13⟩
    go_simp
    with_reducible rfl
  rotate_left
  · simp only [Act.put, List.setIfInBounds_toArray, List.set_cons_zero, List.set_cons_succ, i64_w, i32_w]
    rfl
  refine take_ (i := 4) (N := some 38) (v := ?_) (a' := ?_) qK13 rfl rfl (by kernel_rfl) (fun _ _ _ h => h) (Or.inl ⟨by rfl, ?_⟩) hHeld ?_ ?_
  rotate_left
  · rintro w' ⟨s0, s1, s2, s3, s4, s5, s6, s7, s8, s9, s10, s11, s12, s13⟩
    go_simp
    with_reducible rfl
  rotate_left
  · simp only [Act.put, List.setIfInBounds_toArray, List.set_cons_zero, List.set_cons_succ, i64_w, i32_w]
    rfl
  refine join_ (σ := Value × Value × Value × Value) 2 qK14 (fun s_ => [(36, s_.1), (39, s_.2.1), (13, s_.2.2.1), (14, s_.2.2.2)]) (fun s_ w' => (w'.cell? ⟨w.heap.size + 1, 0, none⟩ = some (.int .i64 vs) ∧ w'.cell? ⟨w.heap.size + 1, 1, none⟩ = some (.int .u64 vh) ∧ w'.cell? ⟨w.heap.size + 1, 2, none⟩ = some (.int .i64 vse) ∧ w'.cell? ⟨w.heap.size + 1, 3, none⟩ = some (.int .u64 vsr) ∧ w'.cell? ⟨w.heap.size + 1, 4, none⟩ = some (.int .i64 vte) ∧ w'.cell? ⟨w.heap.size + 1, 5, none⟩ = some (.int .u64 vtr) ∧ w'.cell? ⟨w.heap.size + 1, 6, none⟩ = some (.slice A3 z3.length c3) ∧ w'.cell? ⟨w.heap.size + 1 + 1, 0, none⟩ = some (.int .i64 us) ∧ w'.cell? ⟨w.heap.size + 1 + 1, 1, none⟩ = some (.int .u64 uh) ∧ w'.cell? ⟨w.heap.size + 1 + 1, 2, none⟩ = some (.int .i64 use) ∧ w'.cell? ⟨w.heap.size + 1 + 1, 3, none⟩ = some (.int .u64 usr) ∧ w'.cell? ⟨w.heap.size + 1 + 1, 4, none⟩ = some (.int .i64 ute) ∧ w'.cell? ⟨w.heap.size + 1 + 1, 5, none⟩ = some (.int .u64 utr) ∧ w'.cell? ⟨w.heap.size + 1 + 1, 6, none⟩ = some (.slice A4 z4.length c4)) ∧ (∃ AP cP AQ cQ ga gb, s_ = (.agg #[.int .i64 0, .int .u64 (Int.tmod vh 8), .int .i64 s.j.ce, .int .u64 s.j.cr, .int .i64 0, .int .u64 (chainOf n (startOf 0 sx)), .slice AP W1.length cP], .agg #[.int .i64 0, .int .u64 (Int.tmod uh 8), .int .i64 s.j.ce, .int .u64 s.j.cr, .int .i64 0, .int .u64 (chainOf n (startOf 0 sx)), .slice AQ W2.length cQ], .pointer (some ⟨ga, 0, none⟩), .pointer (some ⟨gb, 0, none⟩)) ∧ (TyI w' AP W1.length) ∧ (Kd.C (Kd.int .i64) w' AP W1.length W1) ∧ (W1.length ≤ cP) ∧ (TyI w' AQ W2.length) ∧ (Kd.C (Kd.int .i64) w' AQ W2.length W2) ∧ (W2.length ≤ cQ) ∧ (w'.heap[ga]? = some (.cells #[.int .i64 0, .int .u64 0, .int .i64 0, .int .u64 0, .int .i64 0, .int .u64 0, .slice none 0 0] 43 (0, 0))) ∧ (w5.heap.size ≤ ga) ∧ (w'.heap[gb]? = some (.cells #[.int .i64 0, .int .u64 0, .int .i64 0, .int .u64 0, .int .i64 0, .int .u64 0, .slice none 0 0] 43 (0, 0))) ∧ (w5.heap.size ≤ gb) ∧ ga ≠ gb) ∧ Below w5.heap.size w5 w') ?_ ?_
  rotate_left
  · intro hCont
    refine three_ (i := 2) (j := 6) (k := 7) (Ni := some 36) (Nj := some 13) (Nk := some 14) qK15 qK16 qK17 rfl rfl rfl rfl rfl rfl (by kernel_rfl) (by decide) (by decide) (by decide) (fun K hK => ?_) (fun K hK => ?_) (fun K hK => ?_)
    · skip
      refine goesV_ (by rfl) rfl 22 #[.pointer (some ⟨xb, 0, none⟩), .pointer (some ⟨sb, 0, none⟩), .pointer (some ⟨cb, 0, none⟩)] #[.agg #[.int .i64 vs, .int .u64 vh, .int .i64 vse, .int .u64 vsr, .int .i64 vte, .int .u64 vtr, .slice A3 z3.length c3], .pointer (some ⟨xb, 0, none⟩), .pointer (some ⟨sb, 0, none⟩), .pointer (some ⟨cb, 0, none⟩)] (.agg #[.int .i64 vs, .int .u64 vh, .int .i64 vse, .int .u64 vsr, .int .i64 vte, .int .u64 vtr, .slice A3 z3.length c3]) rfl rfl rfl (fun _ _ => rfl) ?_
      with_reducible refine (fix_calls AX cX lx sx bx s AB cB AN cN xb sb cb f C (chainOf n) vs vh vse vsr vte vtr A3 c3 z3 _ _ _ _ _ _ _ _ _ (blk_below BM5.out (below_drew (Below.refl w5.heap.size w5))) (blk_below S5.out (below_drew (Below.refl w5.heap.size w5))) (blk_below CB5.out (below_drew (Below.refl w5.heap.size w5))) (Kd.C_below X5.out (below_drew (Below.refl w5.heap.size w5))) HCX.out (CH5.out.below (below_drew (Below.refl w5.heap.size w5))) (Kd.C_below R3.out (below_drew (Below.refl w5.heap.size w5))) HC3.out HK1.out).mono ?_
      rintro x wq1 ⟨AP, cP, rfl, h_WAP, h_LAP, h_TAP, hb⟩
      refine ⟨_, rfl, ?_⟩
      have HQ1 := Aside0.mk (below_then (below_drew (Below.refl w5.heap.size w5)) (Nat.le_refl _) hb)
      have TAP_1 := Aside0.mk h_TAP
      have WAP_1 := Aside0.mk h_WAP
      have LAP_1 := Aside0.mk h_LAP
      clear hb h_TAP h_WAP h_LAP
      refine hK.out _ _ ⟨(pw_cell_below HQ1.out (blk_cell VA5.out 0)), (pw_cell_below HQ1.out (blk_cell VA5.out 1)), (pw_cell_below HQ1.out (blk_cell VA5.out 2)), (pw_cell_below HQ1.out (blk_cell VA5.out 3)), (pw_cell_below HQ1.out (blk_cell VA5.out 4)), (pw_cell_below HQ1.out (blk_cell VA5.out 5)), (pw_cell_below HQ1.out (blk_cell VA5.out 6)), (pw_cell_below HQ1.out (blk_cell VB5.out 0)), (pw_cell_below HQ1.out (blk_cell VB5.out 1)), (pw_cell_below HQ1.out (blk_cell VB5.out 2)), (pw_cell_below HQ1.out (blk_cell VB5.out 3)), (pw_cell_below HQ1.out (blk_cell VB5.out 4)), (pw_cell_below HQ1.out (blk_cell VB5.out 5)), (pw_cell_below HQ1.out (blk_cell VB5.out 6))⟩ (fun hHeld => ?_)
      clear hK K
      refine norm_ (a' := ?_) ?_ ?_
      rotate_left
      · show Act.put _ (some 36) _ = _
        simp only [Act.put, List.setIfInBounds_toArray, List.set_cons_zero, List.set_cons_succ, i64_w, i32_w]
        rfl
      refine three_ (i := 5) (j := 6) (k := 7) (Ni := some 39) (Nj := some 13) (Nk := some 14) qK18 qK19 qK20 rfl rfl rfl rfl rfl rfl (by kernel_rfl) (by decide) (by decide) (by decide) (fun K hK => ?_) (fun K hK => ?_) (fun K hK => ?_)
      · skip
        refine goesV_ (by rfl) rfl 22 #[.pointer (some ⟨xb, 0, none⟩), .pointer (some ⟨sb, 0, none⟩), .pointer (some ⟨cb, 0, none⟩)] #[.agg #[.int .i64 us, .int .u64 uh, .int .i64 use, .int .u64 usr, .int .i64 ute, .int .u64 utr, .slice A4 z4.length c4], .pointer (some ⟨xb, 0, none⟩), .pointer (some ⟨sb, 0, none⟩), .pointer (some ⟨cb, 0, none⟩)] (.agg #[.int .i64 us, .int .u64 uh, .int .i64 use, .int .u64 usr, .int .i64 ute, .int .u64 utr, .slice A4 z4.length c4]) rfl rfl rfl (fun _ _ => rfl) ?_
        with_reducible refine (fix_calls AX cX lx sx bx s AB cB AN cN xb sb cb f C (chainOf n) us uh use usr ute utr A4 c4 z4 _ _ _ _ _ _ _ _ _ (blk_below BM5.out HQ1.out) (blk_below S5.out HQ1.out) (blk_below CB5.out HQ1.out) (Kd.C_below X5.out HQ1.out) HCX.out (CH5.out.below HQ1.out) (Kd.C_below R4.out HQ1.out) HC4.out HK2.out).mono ?_
        rintro x wq2 ⟨AQ, cQ, rfl, h_WAQ, h_LAQ, h_TAQ, hb⟩
        refine ⟨_, rfl, ?_⟩
        have HQ2 := Aside0.mk (below_then HQ1.out HQ1.out.size hb)
        have TAQ_2 := Aside0.mk h_TAQ
        have WAQ_2 := Aside0.mk h_WAQ
        have LAQ_2 := Aside0.mk h_LAQ
        have TAP_2 := Aside0.mk (TyI.below TAP_1.out hb)
        have WAP_2 := Aside0.mk (Kd.C_below WAP_1.out hb)
        have LAP_2 := Aside0.mk (LAP_1.out)
        clear hb h_TAQ h_WAQ h_LAQ
        refine hK.out _ _ ⟨(pw_cell_below HQ2.out (blk_cell VA5.out 0)), (pw_cell_below HQ2.out (blk_cell VA5.out 1)), (pw_cell_below HQ2.out (blk_cell VA5.out 2)), (pw_cell_below HQ2.out (blk_cell VA5.out 3)), (pw_cell_below HQ2.out (blk_cell VA5.out 4)), (pw_cell_below HQ2.out (blk_cell VA5.out 5)), (pw_cell_below HQ2.out (blk_cell VA5.out 6)), (pw_cell_below HQ2.out (blk_cell VB5.out 0)), (pw_cell_below HQ2.out (blk_cell VB5.out 1)), (pw_cell_below HQ2.out (blk_cell VB5.out 2)), (pw_cell_below HQ2.out (blk_cell VB5.out 3)), (pw_cell_below HQ2.out (blk_cell VB5.out 4)), (pw_cell_below HQ2.out (blk_cell VB5.out 5)), (pw_cell_below HQ2.out (blk_cell VB5.out 6))⟩ (fun hHeld => ?_)
        clear hK K
        refine norm_ (a' := ?_) ?_ ?_
        rotate_left
        · show Act.put _ (some 39) _ = _
          simp only [Act.put, List.setIfInBounds_toArray, List.set_cons_zero, List.set_cons_succ, i64_w, i32_w]
          rfl
        refine two_ (i := 6) (j := 7) (Ni := some 13) (Nj := some 14) qK21 qK22 rfl rfl rfl rfl (by kernel_rfl) (by decide) (by decide) (fun K hK => ?_) (fun K hK => ?_)
        · skip
          refine alloc_step (base := wq2.heap.size) (w0 := wq2) 43 #[.int .i64 0, .int .u64 0, .int .i64 0, .int .u64 0, .int .i64 0, .int .u64 0, .slice none 0 0] (by rfl) rfl rfl (by kernel_rfl) (Below.refl _ _) (Nat.le_refl _) ?_
          intro ga wq3 h_GA hge hb hg_
          have h_GEGA : w5.heap.size ≤ ga := Nat.le_trans HQ2.out.size hge
          have hnew := hge
          clear hge hg_
          have HQ3 := Aside0.mk (below_then HQ2.out HQ2.out.size hb)
          have GA_3 := Aside0.mk h_GA
          have GEGA_3 := Aside0.mk h_GEGA
          have TAP_3 := Aside0.mk (TyI.below TAP_2.out hb)
          have WAP_3 := Aside0.mk (Kd.C_below WAP_2.out hb)
          have LAP_3 := Aside0.mk (LAP_2.out)
          have TAQ_3 := Aside0.mk (TyI.below TAQ_2.out hb)
          have WAQ_3 := Aside0.mk (Kd.C_below WAQ_2.out hb)
          have LAQ_3 := Aside0.mk (LAQ_2.out)
          clear hnew
          clear hb h_GA h_GEGA
          refine hK.out _ _ ⟨(pw_cell_below HQ3.out (blk_cell VA5.out 0)), (pw_cell_below HQ3.out (blk_cell VA5.out 1)), (pw_cell_below HQ3.out (blk_cell VA5.out 2)), (pw_cell_below HQ3.out (blk_cell VA5.out 3)), (pw_cell_below HQ3.out (blk_cell VA5.out 4)), (pw_cell_below HQ3.out (blk_cell VA5.out 5)), (pw_cell_below HQ3.out (blk_cell VA5.out 6)), (pw_cell_below HQ3.out (blk_cell VB5.out 0)), (pw_cell_below HQ3.out (blk_cell VB5.out 1)), (pw_cell_below HQ3.out (blk_cell VB5.out 2)), (pw_cell_below HQ3.out (blk_cell VB5.out 3)), (pw_cell_below HQ3.out (blk_cell VB5.out 4)), (pw_cell_below HQ3.out (blk_cell VB5.out 5)), (pw_cell_below HQ3.out (blk_cell VB5.out 6))⟩ (fun hHeld => ?_)
          clear hK K
          refine norm_ (a' := ?_) ?_ ?_
          rotate_left
          · show Act.put _ (some 13) _ = _
            simp only [Act.put, List.setIfInBounds_toArray, List.set_cons_zero, List.set_cons_succ, i64_w, i32_w]
            rfl
          refine one_ (i := 7) (N := some 14) qK14 rfl rfl (by kernel_rfl) (by decide) (fun K hK => ?_)
          refine alloc_step (base := wq3.heap.size) (w0 := wq3) 43 #[.int .i64 0, .int .u64 0, .int .i64 0, .int .u64 0, .int .i64 0, .int .u64 0, .slice none 0 0] (by rfl) rfl rfl (by kernel_rfl) (Below.refl _ _) (Nat.le_refl _) ?_
          intro gb wq4 h_GB hge hb hg_
          have h_GEGB : w5.heap.size ≤ gb := Nat.le_trans HQ3.out.size hge
          have hnew := hge
          clear hge hg_
          have HQ4 := Aside0.mk (below_then HQ3.out HQ3.out.size hb)
          have GB_4 := Aside0.mk h_GB
          have GEGB_4 := Aside0.mk h_GEGB
          have TAP_4 := Aside0.mk (TyI.below TAP_3.out hb)
          have WAP_4 := Aside0.mk (Kd.C_below WAP_3.out hb)
          have LAP_4 := Aside0.mk (LAP_3.out)
          have TAQ_4 := Aside0.mk (TyI.below TAQ_3.out hb)
          have WAQ_4 := Aside0.mk (Kd.C_below WAQ_3.out hb)
          have LAQ_4 := Aside0.mk (LAQ_3.out)
          have GA_4 := Aside0.mk (blk_below GA_3.out hb)
          have GEGA_4 := Aside0.mk (GEGA_3.out)
          have NAB_4 : Aside0 (ga ≠ gb) := ⟨fun e => by have h1 := (Array.getElem?_eq_some_iff.1 GA_3.out).1; have h2 := hnew; omega⟩
          clear hnew
          clear hb h_GB h_GEGB
          refine hK.out _ _ ⟨(pw_cell_below HQ4.out (blk_cell VA5.out 0)), (pw_cell_below HQ4.out (blk_cell VA5.out 1)), (pw_cell_below HQ4.out (blk_cell VA5.out 2)), (pw_cell_below HQ4.out (blk_cell VA5.out 3)), (pw_cell_below HQ4.out (blk_cell VA5.out 4)), (pw_cell_below HQ4.out (blk_cell VA5.out 5)), (pw_cell_below HQ4.out (blk_cell VA5.out 6)), (pw_cell_below HQ4.out (blk_cell VB5.out 0)), (pw_cell_below HQ4.out (blk_cell VB5.out 1)), (pw_cell_below HQ4.out (blk_cell VB5.out 2)), (pw_cell_below HQ4.out (blk_cell VB5.out 3)), (pw_cell_below HQ4.out (blk_cell VB5.out 4)), (pw_cell_below HQ4.out (blk_cell VB5.out 5)), (pw_cell_below HQ4.out (blk_cell VB5.out 6))⟩ (fun hHeld => ?_)
          clear hK K
          refine norm_ (a' := ?_) ?_ ?_
          rotate_left
          · show Act.put _ (some 14) _ = _
            simp only [Act.put, List.setIfInBounds_toArray, List.set_cons_zero, List.set_cons_succ, i64_w, i32_w]
            rfl
          exact norm_ (by simp only [putAll, Act.put, List.setIfInBounds_toArray, List.set_cons_zero, List.set_cons_succ]) (hCont (.agg #[.int .i64 0, .int .u64 (Int.tmod vh 8), .int .i64 s.j.ce, .int .u64 s.j.cr, .int .i64 0, .int .u64 (chainOf n (startOf 0 sx)), .slice AP W1.length cP], .agg #[.int .i64 0, .int .u64 (Int.tmod uh 8), .int .i64 s.j.ce, .int .u64 s.j.cr, .int .i64 0, .int .u64 (chainOf n (startOf 0 sx)), .slice AQ W2.length cQ], .pointer (some ⟨ga, 0, none⟩), .pointer (some ⟨gb, 0, none⟩)) _ ⟨hHeld, ⟨AP, cP, AQ, cQ, ga, gb, rfl, TAP_4.out, WAP_4.out, LAP_4.out, TAQ_4.out, WAQ_4.out, LAQ_4.out, GA_4.out, GEGA_4.out, GB_4.out, GEGB_4.out, NAB_4.out⟩, HQ4.out⟩)
        · skip
          refine alloc_step (base := wq2.heap.size) (w0 := wq2) 43 #[.int .i64 0, .int .u64 0, .int .i64 0, .int .u64 0, .int .i64 0, .int .u64 0, .slice none 0 0] (by rfl) rfl rfl (by kernel_rfl) (Below.refl _ _) (Nat.le_refl _) ?_
          intro gb wq3 h_GB hge hb hg_
          have h_GEGB : w5.heap.size ≤ gb := Nat.le_trans HQ2.out.size hge
          have hnew := hge
          clear hge hg_
          have HQ3 := Aside0.mk (below_then HQ2.out HQ2.out.size hb)
          have GB_3 := Aside0.mk h_GB
          have GEGB_3 := Aside0.mk h_GEGB
          have TAP_3 := Aside0.mk (TyI.below TAP_2.out hb)
          have WAP_3 := Aside0.mk (Kd.C_below WAP_2.out hb)
          have LAP_3 := Aside0.mk (LAP_2.out)
          have TAQ_3 := Aside0.mk (TyI.below TAQ_2.out hb)
          have WAQ_3 := Aside0.mk (Kd.C_below WAQ_2.out hb)
          have LAQ_3 := Aside0.mk (LAQ_2.out)
          clear hnew
          clear hb h_GB h_GEGB
          refine hK.out _ _ ⟨(pw_cell_below HQ3.out (blk_cell VA5.out 0)), (pw_cell_below HQ3.out (blk_cell VA5.out 1)), (pw_cell_below HQ3.out (blk_cell VA5.out 2)), (pw_cell_below HQ3.out (blk_cell VA5.out 3)), (pw_cell_below HQ3.out (blk_cell VA5.out 4)), (pw_cell_below HQ3.out (blk_cell VA5.out 5)), (pw_cell_below HQ3.out (blk_cell VA5.out 6)), (pw_cell_below HQ3.out (blk_cell VB5.out 0)), (pw_cell_below HQ3.out (blk_cell VB5.out 1)), (pw_cell_below HQ3.out (blk_cell VB5.out 2)), (pw_cell_below HQ3.out (blk_cell VB5.out 3)), (pw_cell_below HQ3.out (blk_cell VB5.out 4)), (pw_cell_below HQ3.out (blk_cell VB5.out 5)), (pw_cell_below HQ3.out (blk_cell VB5.out 6))⟩ (fun hHeld => ?_)
          clear hK K
          refine norm_ (a' := ?_) ?_ ?_
          rotate_left
          · show Act.put _ (some 14) _ = _
            simp only [Act.put, List.setIfInBounds_toArray, List.set_cons_zero, List.set_cons_succ, i64_w, i32_w]
            rfl
          refine one_ (i := 6) (N := some 13) qK14 rfl rfl (by kernel_rfl) (by decide) (fun K hK => ?_)
          refine alloc_step (base := wq3.heap.size) (w0 := wq3) 43 #[.int .i64 0, .int .u64 0, .int .i64 0, .int .u64 0, .int .i64 0, .int .u64 0, .slice none 0 0] (by rfl) rfl rfl (by kernel_rfl) (Below.refl _ _) (Nat.le_refl _) ?_
          intro ga wq4 h_GA hge hb hg_
          have h_GEGA : w5.heap.size ≤ ga := Nat.le_trans HQ3.out.size hge
          have hnew := hge
          clear hge hg_
          have HQ4 := Aside0.mk (below_then HQ3.out HQ3.out.size hb)
          have GA_4 := Aside0.mk h_GA
          have GEGA_4 := Aside0.mk h_GEGA
          have TAP_4 := Aside0.mk (TyI.below TAP_3.out hb)
          have WAP_4 := Aside0.mk (Kd.C_below WAP_3.out hb)
          have LAP_4 := Aside0.mk (LAP_3.out)
          have TAQ_4 := Aside0.mk (TyI.below TAQ_3.out hb)
          have WAQ_4 := Aside0.mk (Kd.C_below WAQ_3.out hb)
          have LAQ_4 := Aside0.mk (LAQ_3.out)
          have GB_4 := Aside0.mk (blk_below GB_3.out hb)
          have GEGB_4 := Aside0.mk (GEGB_3.out)
          have NAB_4 : Aside0 (ga ≠ gb) := ⟨fun e => by have h1 := (Array.getElem?_eq_some_iff.1 GB_3.out).1; have h2 := hnew; omega⟩
          clear hnew
          clear hb h_GA h_GEGA
          refine hK.out _ _ ⟨(pw_cell_below HQ4.out (blk_cell VA5.out 0)), (pw_cell_below HQ4.out (blk_cell VA5.out 1)), (pw_cell_below HQ4.out (blk_cell VA5.out 2)), (pw_cell_below HQ4.out (blk_cell VA5.out 3)), (pw_cell_below HQ4.out (blk_cell VA5.out 4)), (pw_cell_below HQ4.out (blk_cell VA5.out 5)), (pw_cell_below HQ4.out (blk_cell VA5.out 6)), (pw_cell_below HQ4.out (blk_cell VB5.out 0)), (pw_cell_below HQ4.out (blk_cell VB5.out 1)), (pw_cell_below HQ4.out (blk_cell VB5.out 2)), (pw_cell_below HQ4.out (blk_cell VB5.out 3)), (pw_cell_below HQ4.out (blk_cell VB5.out 4)), (pw_cell_below HQ4.out (blk_cell VB5.out 5)), (pw_cell_below HQ4.out (blk_cell VB5.out 6))⟩ (fun hHeld => ?_)
          clear hK K
          refine norm_ (a' := ?_) ?_ ?_
          rotate_left
          · show Act.put _ (some 13) _ = _
            simp only [Act.put, List.setIfInBounds_toArray, List.set_cons_zero, List.set_cons_succ, i64_w, i32_w]
            rfl
          exact norm_ (by simp only [putAll, Act.put, List.setIfInBounds_toArray, List.set_cons_zero, List.set_cons_succ]) (hCont (.agg #[.int .i64 0, .int .u64 (Int.tmod vh 8), .int .i64 s.j.ce, .int .u64 s.j.cr, .int .i64 0, .int .u64 (chainOf n (startOf 0 sx)), .slice AP W1.length cP], .agg #[.int .i64 0, .int .u64 (Int.tmod uh 8), .int .i64 s.j.ce, .int .u64 s.j.cr, .int .i64 0, .int .u64 (chainOf n (startOf 0 sx)), .slice AQ W2.length cQ], .pointer (some ⟨ga, 0, none⟩), .pointer (some ⟨gb, 0, none⟩)) _ ⟨hHeld, ⟨AP, cP, AQ, cQ, ga, gb, rfl, TAP_4.out, WAP_4.out, LAP_4.out, TAQ_4.out, WAQ_4.out, LAQ_4.out, GA_4.out, GEGA_4.out, GB_4.out, GEGB_4.out, NAB_4.out⟩, HQ4.out⟩)
      · skip
        refine alloc_step (base := wq1.heap.size) (w0 := wq1) 43 #[.int .i64 0, .int .u64 0, .int .i64 0, .int .u64 0, .int .i64 0, .int .u64 0, .slice none 0 0] (by rfl) rfl rfl (by kernel_rfl) (Below.refl _ _) (Nat.le_refl _) ?_
        intro ga wq2 h_GA hge hb hg_
        have h_GEGA : w5.heap.size ≤ ga := Nat.le_trans HQ1.out.size hge
        have hnew := hge
        clear hge hg_
        have HQ2 := Aside0.mk (below_then HQ1.out HQ1.out.size hb)
        have GA_2 := Aside0.mk h_GA
        have GEGA_2 := Aside0.mk h_GEGA
        have TAP_2 := Aside0.mk (TyI.below TAP_1.out hb)
        have WAP_2 := Aside0.mk (Kd.C_below WAP_1.out hb)
        have LAP_2 := Aside0.mk (LAP_1.out)
        clear hnew
        clear hb h_GA h_GEGA
        refine hK.out _ _ ⟨(pw_cell_below HQ2.out (blk_cell VA5.out 0)), (pw_cell_below HQ2.out (blk_cell VA5.out 1)), (pw_cell_below HQ2.out (blk_cell VA5.out 2)), (pw_cell_below HQ2.out (blk_cell VA5.out 3)), (pw_cell_below HQ2.out (blk_cell VA5.out 4)), (pw_cell_below HQ2.out (blk_cell VA5.out 5)), (pw_cell_below HQ2.out (blk_cell VA5.out 6)), (pw_cell_below HQ2.out (blk_cell VB5.out 0)), (pw_cell_below HQ2.out (blk_cell VB5.out 1)), (pw_cell_below HQ2.out (blk_cell VB5.out 2)), (pw_cell_below HQ2.out (blk_cell VB5.out 3)), (pw_cell_below HQ2.out (blk_cell VB5.out 4)), (pw_cell_below HQ2.out (blk_cell VB5.out 5)), (pw_cell_below HQ2.out (blk_cell VB5.out 6))⟩ (fun hHeld => ?_)
        clear hK K
        refine norm_ (a' := ?_) ?_ ?_
        rotate_left
        · show Act.put _ (some 13) _ = _
          simp only [Act.put, List.setIfInBounds_toArray, List.set_cons_zero, List.set_cons_succ, i64_w, i32_w]
          rfl
        refine two_ (i := 5) (j := 7) (Ni := some 39) (Nj := some 14) qK21 qK23 rfl rfl rfl rfl (by kernel_rfl) (by decide) (by decide) (fun K hK => ?_) (fun K hK => ?_)
        · skip
          refine goesV_ (by rfl) rfl 22 #[.pointer (some ⟨xb, 0, none⟩), .pointer (some ⟨sb, 0, none⟩), .pointer (some ⟨cb, 0, none⟩)] #[.agg #[.int .i64 us, .int .u64 uh, .int .i64 use, .int .u64 usr, .int .i64 ute, .int .u64 utr, .slice A4 z4.length c4], .pointer (some ⟨xb, 0, none⟩), .pointer (some ⟨sb, 0, none⟩), .pointer (some ⟨cb, 0, none⟩)] (.agg #[.int .i64 us, .int .u64 uh, .int .i64 use, .int .u64 usr, .int .i64 ute, .int .u64 utr, .slice A4 z4.length c4]) rfl rfl rfl (fun _ _ => rfl) ?_
          with_reducible refine (fix_calls AX cX lx sx bx s AB cB AN cN xb sb cb f C (chainOf n) us uh use usr ute utr A4 c4 z4 _ _ _ _ _ _ _ _ _ (blk_below BM5.out HQ2.out) (blk_below S5.out HQ2.out) (blk_below CB5.out HQ2.out) (Kd.C_below X5.out HQ2.out) HCX.out (CH5.out.below HQ2.out) (Kd.C_below R4.out HQ2.out) HC4.out HK2.out).mono ?_
          rintro x wq3 ⟨AQ, cQ, rfl, h_WAQ, h_LAQ, h_TAQ, hb⟩
          refine ⟨_, rfl, ?_⟩
          have HQ3 := Aside0.mk (below_then HQ2.out HQ2.out.size hb)
          have TAQ_3 := Aside0.mk h_TAQ
          have WAQ_3 := Aside0.mk h_WAQ
          have LAQ_3 := Aside0.mk h_LAQ
          have TAP_3 := Aside0.mk (TyI.below TAP_2.out hb)
          have WAP_3 := Aside0.mk (Kd.C_below WAP_2.out hb)
          have LAP_3 := Aside0.mk (LAP_2.out)
          have GA_3 := Aside0.mk (blk_below GA_2.out hb)
          have GEGA_3 := Aside0.mk (GEGA_2.out)
          clear hb h_TAQ h_WAQ h_LAQ
          refine hK.out _ _ ⟨(pw_cell_below HQ3.out (blk_cell VA5.out 0)), (pw_cell_below HQ3.out (blk_cell VA5.out 1)), (pw_cell_below HQ3.out (blk_cell VA5.out 2)), (pw_cell_below HQ3.out (blk_cell VA5.out 3)), (pw_cell_below HQ3.out (blk_cell VA5.out 4)), (pw_cell_below HQ3.out (blk_cell VA5.out 5)), (pw_cell_below HQ3.out (blk_cell VA5.out 6)), (pw_cell_below HQ3.out (blk_cell VB5.out 0)), (pw_cell_below HQ3.out (blk_cell VB5.out 1)), (pw_cell_below HQ3.out (blk_cell VB5.out 2)), (pw_cell_below HQ3.out (blk_cell VB5.out 3)), (pw_cell_below HQ3.out (blk_cell VB5.out 4)), (pw_cell_below HQ3.out (blk_cell VB5.out 5)), (pw_cell_below HQ3.out (blk_cell VB5.out 6))⟩ (fun hHeld => ?_)
          clear hK K
          refine norm_ (a' := ?_) ?_ ?_
          rotate_left
          · show Act.put _ (some 39) _ = _
            simp only [Act.put, List.setIfInBounds_toArray, List.set_cons_zero, List.set_cons_succ, i64_w, i32_w]
            rfl
          refine one_ (i := 7) (N := some 14) qK14 rfl rfl (by kernel_rfl) (by decide) (fun K hK => ?_)
          refine alloc_step (base := wq3.heap.size) (w0 := wq3) 43 #[.int .i64 0, .int .u64 0, .int .i64 0, .int .u64 0, .int .i64 0, .int .u64 0, .slice none 0 0] (by rfl) rfl rfl (by kernel_rfl) (Below.refl _ _) (Nat.le_refl _) ?_
          intro gb wq4 h_GB hge hb hg_
          have h_GEGB : w5.heap.size ≤ gb := Nat.le_trans HQ3.out.size hge
          have hnew := hge
          clear hge hg_
          have HQ4 := Aside0.mk (below_then HQ3.out HQ3.out.size hb)
          have GB_4 := Aside0.mk h_GB
          have GEGB_4 := Aside0.mk h_GEGB
          have TAP_4 := Aside0.mk (TyI.below TAP_3.out hb)
          have WAP_4 := Aside0.mk (Kd.C_below WAP_3.out hb)
          have LAP_4 := Aside0.mk (LAP_3.out)
          have TAQ_4 := Aside0.mk (TyI.below TAQ_3.out hb)
          have WAQ_4 := Aside0.mk (Kd.C_below WAQ_3.out hb)
          have LAQ_4 := Aside0.mk (LAQ_3.out)
          have GA_4 := Aside0.mk (blk_below GA_3.out hb)
          have GEGA_4 := Aside0.mk (GEGA_3.out)
          have NAB_4 : Aside0 (ga ≠ gb) := ⟨fun e => by have h1 := (Array.getElem?_eq_some_iff.1 GA_3.out).1; have h2 := hnew; omega⟩
          clear hnew
          clear hb h_GB h_GEGB
          refine hK.out _ _ ⟨(pw_cell_below HQ4.out (blk_cell VA5.out 0)), (pw_cell_below HQ4.out (blk_cell VA5.out 1)), (pw_cell_below HQ4.out (blk_cell VA5.out 2)), (pw_cell_below HQ4.out (blk_cell VA5.out 3)), (pw_cell_below HQ4.out (blk_cell VA5.out 4)), (pw_cell_below HQ4.out (blk_cell VA5.out 5)), (pw_cell_below HQ4.out (blk_cell VA5.out 6)), (pw_cell_below HQ4.out (blk_cell VB5.out 0)), (pw_cell_below HQ4.out (blk_cell VB5.out 1)), (pw_cell_below HQ4.out (blk_cell VB5.out 2)), (pw_cell_below HQ4.out (blk_cell VB5.out 3)), (pw_cell_below HQ4.out (blk_cell VB5.out 4)), (pw_cell_below HQ4.out (blk_cell VB5.out 5)), (pw_cell_below HQ4.out (blk_cell VB5.out 6))⟩ (fun hHeld => ?_)
          clear hK K
          refine norm_ (a' := ?_) ?_ ?_
          rotate_left
          · show Act.put _ (some 14) _ = _
            simp only [Act.put, List.setIfInBounds_toArray, List.set_cons_zero, List.set_cons_succ, i64_w, i32_w]
            rfl
          exact norm_ (by simp only [putAll, Act.put, List.setIfInBounds_toArray, List.set_cons_zero, List.set_cons_succ]) (hCont (.agg #[.int .i64 0, .int .u64 (Int.tmod vh 8), .int .i64 s.j.ce, .int .u64 s.j.cr, .int .i64 0, .int .u64 (chainOf n (startOf 0 sx)), .slice AP W1.length cP], .agg #[.int .i64 0, .int .u64 (Int.tmod uh 8), .int .i64 s.j.ce, .int .u64 s.j.cr, .int .i64 0, .int .u64 (chainOf n (startOf 0 sx)), .slice AQ W2.length cQ], .pointer (some ⟨ga, 0, none⟩), .pointer (some ⟨gb, 0, none⟩)) _ ⟨hHeld, ⟨AP, cP, AQ, cQ, ga, gb, rfl, TAP_4.out, WAP_4.out, LAP_4.out, TAQ_4.out, WAQ_4.out, LAQ_4.out, GA_4.out, GEGA_4.out, GB_4.out, GEGB_4.out, NAB_4.out⟩, HQ4.out⟩)
        · skip
          refine alloc_step (base := wq2.heap.size) (w0 := wq2) 43 #[.int .i64 0, .int .u64 0, .int .i64 0, .int .u64 0, .int .i64 0, .int .u64 0, .slice none 0 0] (by rfl) rfl rfl (by kernel_rfl) (Below.refl _ _) (Nat.le_refl _) ?_
          intro gb wq3 h_GB hge hb hg_
          have h_GEGB : w5.heap.size ≤ gb := Nat.le_trans HQ2.out.size hge
          have hnew := hge
          clear hge hg_
          have HQ3 := Aside0.mk (below_then HQ2.out HQ2.out.size hb)
          have GB_3 := Aside0.mk h_GB
          have GEGB_3 := Aside0.mk h_GEGB
          have TAP_3 := Aside0.mk (TyI.below TAP_2.out hb)
          have WAP_3 := Aside0.mk (Kd.C_below WAP_2.out hb)
          have LAP_3 := Aside0.mk (LAP_2.out)
          have GA_3 := Aside0.mk (blk_below GA_2.out hb)
          have GEGA_3 := Aside0.mk (GEGA_2.out)
          have NAB_3 : Aside0 (ga ≠ gb) := ⟨fun e => by have h1 := (Array.getElem?_eq_some_iff.1 GA_2.out).1; have h2 := hnew; omega⟩
          clear hnew
          clear hb h_GB h_GEGB
          refine hK.out _ _ ⟨(pw_cell_below HQ3.out (blk_cell VA5.out 0)), (pw_cell_below HQ3.out (blk_cell VA5.out 1)), (pw_cell_below HQ3.out (blk_cell VA5.out 2)), (pw_cell_below HQ3.out (blk_cell VA5.out 3)), (pw_cell_below HQ3.out (blk_cell VA5.out 4)), (pw_cell_below HQ3.out (blk_cell VA5.out 5)), (pw_cell_below HQ3.out (blk_cell VA5.out 6)), (pw_cell_below HQ3.out (blk_cell VB5.out 0)), (pw_cell_below HQ3.out (blk_cell VB5.out 1)), (pw_cell_below HQ3.out (blk_cell VB5.out 2)), (pw_cell_below HQ3.out (blk_cell VB5.out 3)), (pw_cell_below HQ3.out (blk_cell VB5.out 4)), (pw_cell_below HQ3.out (blk_cell VB5.out 5)), (pw_cell_below HQ3.out (blk_cell VB5.out 6))⟩ (fun hHeld => ?_)
          clear hK K
          refine norm_ (a' := ?_) ?_ ?_
          rotate_left
          · show Act.put _ (some 14) _ = _
            simp only [Act.put, List.setIfInBounds_toArray, List.set_cons_zero, List.set_cons_succ, i64_w, i32_w]
            rfl
          refine one_ (i := 5) (N := some 39) qK14 rfl rfl (by kernel_rfl) (by decide) (fun K hK => ?_)
          refine goesV_ (by rfl) rfl 22 #[.pointer (some ⟨xb, 0, none⟩), .pointer (some ⟨sb, 0, none⟩), .pointer (some ⟨cb, 0, none⟩)] #[.agg #[.int .i64 us, .int .u64 uh, .int .i64 use, .int .u64 usr, .int .i64 ute, .int .u64 utr, .slice A4 z4.length c4], .pointer (some ⟨xb, 0, none⟩), .pointer (some ⟨sb, 0, none⟩), .pointer (some ⟨cb, 0, none⟩)] (.agg #[.int .i64 us, .int .u64 uh, .int .i64 use, .int .u64 usr, .int .i64 ute, .int .u64 utr, .slice A4 z4.length c4]) rfl rfl rfl (fun _ _ => rfl) ?_
          with_reducible refine (fix_calls AX cX lx sx bx s AB cB AN cN xb sb cb f C (chainOf n) us uh use usr ute utr A4 c4 z4 _ _ _ _ _ _ _ _ _ (blk_below BM5.out HQ3.out) (blk_below S5.out HQ3.out) (blk_below CB5.out HQ3.out) (Kd.C_below X5.out HQ3.out) HCX.out (CH5.out.below HQ3.out) (Kd.C_below R4.out HQ3.out) HC4.out HK2.out).mono ?_
          rintro x wq4 ⟨AQ, cQ, rfl, h_WAQ, h_LAQ, h_TAQ, hb⟩
          refine ⟨_, rfl, ?_⟩
          have HQ4 := Aside0.mk (below_then HQ3.out HQ3.out.size hb)
          have TAQ_4 := Aside0.mk h_TAQ
          have WAQ_4 := Aside0.mk h_WAQ
          have LAQ_4 := Aside0.mk h_LAQ
          have TAP_4 := Aside0.mk (TyI.below TAP_3.out hb)
          have WAP_4 := Aside0.mk (Kd.C_below WAP_3.out hb)
          have LAP_4 := Aside0.mk (LAP_3.out)
          have GA_4 := Aside0.mk (blk_below GA_3.out hb)
          have GEGA_4 := Aside0.mk (GEGA_3.out)
          have GB_4 := Aside0.mk (blk_below GB_3.out hb)
          have GEGB_4 := Aside0.mk (GEGB_3.out)
          have NAB_4 := NAB_3
          clear hb h_TAQ h_WAQ h_LAQ
          refine hK.out _ _ ⟨(pw_cell_below HQ4.out (blk_cell VA5.out 0)), (pw_cell_below HQ4.out (blk_cell VA5.out 1)), (pw_cell_below HQ4.out (blk_cell VA5.out 2)), (pw_cell_below HQ4.out (blk_cell VA5.out 3)), (pw_cell_below HQ4.out (blk_cell VA5.out 4)), (pw_cell_below HQ4.out (blk_cell VA5.out 5)), (pw_cell_below HQ4.out (blk_cell VA5.out 6)), (pw_cell_below HQ4.out (blk_cell VB5.out 0)), (pw_cell_below HQ4.out (blk_cell VB5.out 1)), (pw_cell_below HQ4.out (blk_cell VB5.out 2)), (pw_cell_below HQ4.out (blk_cell VB5.out 3)), (pw_cell_below HQ4.out (blk_cell VB5.out 4)), (pw_cell_below HQ4.out (blk_cell VB5.out 5)), (pw_cell_below HQ4.out (blk_cell VB5.out 6))⟩ (fun hHeld => ?_)
          clear hK K
          refine norm_ (a' := ?_) ?_ ?_
          rotate_left
          · show Act.put _ (some 39) _ = _
            simp only [Act.put, List.setIfInBounds_toArray, List.set_cons_zero, List.set_cons_succ, i64_w, i32_w]
            rfl
          exact norm_ (by simp only [putAll, Act.put, List.setIfInBounds_toArray, List.set_cons_zero, List.set_cons_succ]) (hCont (.agg #[.int .i64 0, .int .u64 (Int.tmod vh 8), .int .i64 s.j.ce, .int .u64 s.j.cr, .int .i64 0, .int .u64 (chainOf n (startOf 0 sx)), .slice AP W1.length cP], .agg #[.int .i64 0, .int .u64 (Int.tmod uh 8), .int .i64 s.j.ce, .int .u64 s.j.cr, .int .i64 0, .int .u64 (chainOf n (startOf 0 sx)), .slice AQ W2.length cQ], .pointer (some ⟨ga, 0, none⟩), .pointer (some ⟨gb, 0, none⟩)) _ ⟨hHeld, ⟨AP, cP, AQ, cQ, ga, gb, rfl, TAP_4.out, WAP_4.out, LAP_4.out, TAQ_4.out, WAQ_4.out, LAQ_4.out, GA_4.out, GEGA_4.out, GB_4.out, GEGB_4.out, NAB_4.out⟩, HQ4.out⟩)
      · skip
        refine alloc_step (base := wq1.heap.size) (w0 := wq1) 43 #[.int .i64 0, .int .u64 0, .int .i64 0, .int .u64 0, .int .i64 0, .int .u64 0, .slice none 0 0] (by rfl) rfl rfl (by kernel_rfl) (Below.refl _ _) (Nat.le_refl _) ?_
        intro gb wq2 h_GB hge hb hg_
        have h_GEGB : w5.heap.size ≤ gb := Nat.le_trans HQ1.out.size hge
        have hnew := hge
        clear hge hg_
        have HQ2 := Aside0.mk (below_then HQ1.out HQ1.out.size hb)
        have GB_2 := Aside0.mk h_GB
        have GEGB_2 := Aside0.mk h_GEGB
        have TAP_2 := Aside0.mk (TyI.below TAP_1.out hb)
        have WAP_2 := Aside0.mk (Kd.C_below WAP_1.out hb)
        have LAP_2 := Aside0.mk (LAP_1.out)
        clear hnew
        clear hb h_GB h_GEGB
        refine hK.out _ _ ⟨(pw_cell_below HQ2.out (blk_cell VA5.out 0)), (pw_cell_below HQ2.out (blk_cell VA5.out 1)), (pw_cell_below HQ2.out (blk_cell VA5.out 2)), (pw_cell_below HQ2.out (blk_cell VA5.out 3)), (pw_cell_below HQ2.out (blk_cell VA5.out 4)), (pw_cell_below HQ2.out (blk_cell VA5.out 5)), (pw_cell_below HQ2.out (blk_cell VA5.out 6)), (pw_cell_below HQ2.out (blk_cell VB5.out 0)), (pw_cell_below HQ2.out (blk_cell VB5.out 1)), (pw_cell_below HQ2.out (blk_cell VB5.out 2)), (pw_cell_below HQ2.out (blk_cell VB5.out 3)), (pw_cell_below HQ2.out (blk_cell VB5.out 4)), (pw_cell_below HQ2.out (blk_cell VB5.out 5)), (pw_cell_below HQ2.out (blk_cell VB5.out 6))⟩ (fun hHeld => ?_)
        clear hK K
        refine norm_ (a' := ?_) ?_ ?_
        rotate_left
        · show Act.put _ (some 14) _ = _
          simp only [Act.put, List.setIfInBounds_toArray, List.set_cons_zero, List.set_cons_succ, i64_w, i32_w]
          rfl
        refine two_ (i := 5) (j := 6) (Ni := some 39) (Nj := some 13) qK22 qK23 rfl rfl rfl rfl (by kernel_rfl) (by decide) (by decide) (fun K hK => ?_) (fun K hK => ?_)
        · skip
          refine goesV_ (by rfl) rfl 22 #[.pointer (some ⟨xb, 0, none⟩), .pointer (some ⟨sb, 0, none⟩), .pointer (some ⟨cb, 0, none⟩)] #[.agg #[.int .i64 us, .int .u64 uh, .int .i64 use, .int .u64 usr, .int .i64 ute, .int .u64 utr, .slice A4 z4.length c4], .pointer (some ⟨xb, 0, none⟩), .pointer (some ⟨sb, 0, none⟩), .pointer (some ⟨cb, 0, none⟩)] (.agg #[.int .i64 us, .int .u64 uh, .int .i64 use, .int .u64 usr, .int .i64 ute, .int .u64 utr, .slice A4 z4.length c4]) rfl rfl rfl (fun _ _ => rfl) ?_
          with_reducible refine (fix_calls AX cX lx sx bx s AB cB AN cN xb sb cb f C (chainOf n) us uh use usr ute utr A4 c4 z4 _ _ _ _ _ _ _ _ _ (blk_below BM5.out HQ2.out) (blk_below S5.out HQ2.out) (blk_below CB5.out HQ2.out) (Kd.C_below X5.out HQ2.out) HCX.out (CH5.out.below HQ2.out) (Kd.C_below R4.out HQ2.out) HC4.out HK2.out).mono ?_
          rintro x wq3 ⟨AQ, cQ, rfl, h_WAQ, h_LAQ, h_TAQ, hb⟩
          refine ⟨_, rfl, ?_⟩
          have HQ3 := Aside0.mk (below_then HQ2.out HQ2.out.size hb)
          have TAQ_3 := Aside0.mk h_TAQ
          have WAQ_3 := Aside0.mk h_WAQ
          have LAQ_3 := Aside0.mk h_LAQ
          have TAP_3 := Aside0.mk (TyI.below TAP_2.out hb)
          have WAP_3 := Aside0.mk (Kd.C_below WAP_2.out hb)
          have LAP_3 := Aside0.mk (LAP_2.out)
          have GB_3 := Aside0.mk (blk_below GB_2.out hb)
          have GEGB_3 := Aside0.mk (GEGB_2.out)
          clear hb h_TAQ h_WAQ h_LAQ
          refine hK.out _ _ ⟨(pw_cell_below HQ3.out (blk_cell VA5.out 0)), (pw_cell_below HQ3.out (blk_cell VA5.out 1)), (pw_cell_below HQ3.out (blk_cell VA5.out 2)), (pw_cell_below HQ3.out (blk_cell VA5.out 3)), (pw_cell_below HQ3.out (blk_cell VA5.out 4)), (pw_cell_below HQ3.out (blk_cell VA5.out 5)), (pw_cell_below HQ3.out (blk_cell VA5.out 6)), (pw_cell_below HQ3.out (blk_cell VB5.out 0)), (pw_cell_below HQ3.out (blk_cell VB5.out 1)), (pw_cell_below HQ3.out (blk_cell VB5.out 2)), (pw_cell_below HQ3.out (blk_cell VB5.out 3)), (pw_cell_below HQ3.out (blk_cell VB5.out 4)), (pw_cell_below HQ3.out (blk_cell VB5.out 5)), (pw_cell_below HQ3.out (blk_cell VB5.out 6))⟩ (fun hHeld => ?_)
          clear hK K
          refine norm_ (a' := ?_) ?_ ?_
          rotate_left
          · show Act.put _ (some 39) _ = _
            simp only [Act.put, List.setIfInBounds_toArray, List.set_cons_zero, List.set_cons_succ, i64_w, i32_w]
            rfl
          refine one_ (i := 6) (N := some 13) qK14 rfl rfl (by kernel_rfl) (by decide) (fun K hK => ?_)
          refine alloc_step (base := wq3.heap.size) (w0 := wq3) 43 #[.int .i64 0, .int .u64 0, .int .i64 0, .int .u64 0, .int .i64 0, .int .u64 0, .slice none 0 0] (by rfl) rfl rfl (by kernel_rfl) (Below.refl _ _) (Nat.le_refl _) ?_
          intro ga wq4 h_GA hge hb hg_
          have h_GEGA : w5.heap.size ≤ ga := Nat.le_trans HQ3.out.size hge
          have hnew := hge
          clear hge hg_
          have HQ4 := Aside0.mk (below_then HQ3.out HQ3.out.size hb)
          have GA_4 := Aside0.mk h_GA
          have GEGA_4 := Aside0.mk h_GEGA
          have TAP_4 := Aside0.mk (TyI.below TAP_3.out hb)
          have WAP_4 := Aside0.mk (Kd.C_below WAP_3.out hb)
          have LAP_4 := Aside0.mk (LAP_3.out)
          have TAQ_4 := Aside0.mk (TyI.below TAQ_3.out hb)
          have WAQ_4 := Aside0.mk (Kd.C_below WAQ_3.out hb)
          have LAQ_4 := Aside0.mk (LAQ_3.out)
          have GB_4 := Aside0.mk (blk_below GB_3.out hb)
          have GEGB_4 := Aside0.mk (GEGB_3.out)
          have NAB_4 : Aside0 (ga ≠ gb) := ⟨fun e => by have h1 := (Array.getElem?_eq_some_iff.1 GB_3.out).1; have h2 := hnew; omega⟩
          clear hnew
          clear hb h_GA h_GEGA
          refine hK.out _ _ ⟨(pw_cell_below HQ4.out (blk_cell VA5.out 0)), (pw_cell_below HQ4.out (blk_cell VA5.out 1)), (pw_cell_below HQ4.out (blk_cell VA5.out 2)), (pw_cell_below HQ4.out (blk_cell VA5.out 3)), (pw_cell_below HQ4.out (blk_cell VA5.out 4)), (pw_cell_below HQ4.out (blk_cell VA5.out 5)), (pw_cell_below HQ4.out (blk_cell VA5.out 6)), (pw_cell_below HQ4.out (blk_cell VB5.out 0)), (pw_cell_below HQ4.out (blk_cell VB5.out 1)), (pw_cell_below HQ4.out (blk_cell VB5.out 2)), (pw_cell_below HQ4.out (blk_cell VB5.out 3)), (pw_cell_below HQ4.out (blk_cell VB5.out 4)), (pw_cell_below HQ4.out (blk_cell VB5.out 5)), (pw_cell_below HQ4.out (blk_cell VB5.out 6))⟩ (fun hHeld => ?_)
          clear hK K
          refine norm_ (a' := ?_) ?_ ?_
          rotate_left
          · show Act.put _ (some 13) _ = _
            simp only [Act.put, List.setIfInBounds_toArray, List.set_cons_zero, List.set_cons_succ, i64_w, i32_w]
            rfl
          exact norm_ (by simp only [putAll, Act.put, List.setIfInBounds_toArray, List.set_cons_zero, List.set_cons_succ]) (hCont (.agg #[.int .i64 0, .int .u64 (Int.tmod vh 8), .int .i64 s.j.ce, .int .u64 s.j.cr, .int .i64 0, .int .u64 (chainOf n (startOf 0 sx)), .slice AP W1.length cP], .agg #[.int .i64 0, .int .u64 (Int.tmod uh 8), .int .i64 s.j.ce, .int .u64 s.j.cr, .int .i64 0, .int .u64 (chainOf n (startOf 0 sx)), .slice AQ W2.length cQ], .pointer (some ⟨ga, 0, none⟩), .pointer (some ⟨gb, 0, none⟩)) _ ⟨hHeld, ⟨AP, cP, AQ, cQ, ga, gb, rfl, TAP_4.out, WAP_4.out, LAP_4.out, TAQ_4.out, WAQ_4.out, LAQ_4.out, GA_4.out, GEGA_4.out, GB_4.out, GEGB_4.out, NAB_4.out⟩, HQ4.out⟩)
        · skip
          refine alloc_step (base := wq2.heap.size) (w0 := wq2) 43 #[.int .i64 0, .int .u64 0, .int .i64 0, .int .u64 0, .int .i64 0, .int .u64 0, .slice none 0 0] (by rfl) rfl rfl (by kernel_rfl) (Below.refl _ _) (Nat.le_refl _) ?_
          intro ga wq3 h_GA hge hb hg_
          have h_GEGA : w5.heap.size ≤ ga := Nat.le_trans HQ2.out.size hge
          have hnew := hge
          clear hge hg_
          have HQ3 := Aside0.mk (below_then HQ2.out HQ2.out.size hb)
          have GA_3 := Aside0.mk h_GA
          have GEGA_3 := Aside0.mk h_GEGA
          have TAP_3 := Aside0.mk (TyI.below TAP_2.out hb)
          have WAP_3 := Aside0.mk (Kd.C_below WAP_2.out hb)
          have LAP_3 := Aside0.mk (LAP_2.out)
          have GB_3 := Aside0.mk (blk_below GB_2.out hb)
          have GEGB_3 := Aside0.mk (GEGB_2.out)
          have NAB_3 : Aside0 (ga ≠ gb) := ⟨fun e => by have h1 := (Array.getElem?_eq_some_iff.1 GB_2.out).1; have h2 := hnew; omega⟩
          clear hnew
          clear hb h_GA h_GEGA
          refine hK.out _ _ ⟨(pw_cell_below HQ3.out (blk_cell VA5.out 0)), (pw_cell_below HQ3.out (blk_cell VA5.out 1)), (pw_cell_below HQ3.out (blk_cell VA5.out 2)), (pw_cell_below HQ3.out (blk_cell VA5.out 3)), (pw_cell_below HQ3.out (blk_cell VA5.out 4)), (pw_cell_below HQ3.out (blk_cell VA5.out 5)), (pw_cell_below HQ3.out (blk_cell VA5.out 6)), (pw_cell_below HQ3.out (blk_cell VB5.out 0)), (pw_cell_below HQ3.out (blk_cell VB5.out 1)), (pw_cell_below HQ3.out (blk_cell VB5.out 2)), (pw_cell_below HQ3.out (blk_cell VB5.out 3)), (pw_cell_below HQ3.out (blk_cell VB5.out 4)), (pw_cell_below HQ3.out (blk_cell VB5.out 5)), (pw_cell_below HQ3.out (blk_cell VB5.out 6))⟩ (fun hHeld => ?_)
          clear hK K
          refine norm_ (a' := ?_) ?_ ?_
          rotate_left
          · show Act.put _ (some 13) _ = _
            simp only [Act.put, List.setIfInBounds_toArray, List.set_cons_zero, List.set_cons_succ, i64_w, i32_w]
            rfl
          refine one_ (i := 5) (N := some 39) qK14 rfl rfl (by kernel_rfl) (by decide) (fun K hK => ?_)
          refine goesV_ (by rfl) rfl 22 #[.pointer (some ⟨xb, 0, none⟩), .pointer (some ⟨sb, 0, none⟩), .pointer (some ⟨cb, 0, none⟩)] #[.agg #[.int .i64 us, .int .u64 uh, .int .i64 use, .int .u64 usr, .int .i64 ute, .int .u64 utr, .slice A4 z4.length c4], .pointer (some ⟨xb, 0, none⟩), .pointer (some ⟨sb, 0, none⟩), .pointer (some ⟨cb, 0, none⟩)] (.agg #[.int .i64 us, .int .u64 uh, .int .i64 use, .int .u64 usr, .int .i64 ute, .int .u64 utr, .slice A4 z4.length c4]) rfl rfl rfl (fun _ _ => rfl) ?_
          with_reducible refine (fix_calls AX cX lx sx bx s AB cB AN cN xb sb cb f C (chainOf n) us uh use usr ute utr A4 c4 z4 _ _ _ _ _ _ _ _ _ (blk_below BM5.out HQ3.out) (blk_below S5.out HQ3.out) (blk_below CB5.out HQ3.out) (Kd.C_below X5.out HQ3.out) HCX.out (CH5.out.below HQ3.out) (Kd.C_below R4.out HQ3.out) HC4.out HK2.out).mono ?_
          rintro x wq4 ⟨AQ, cQ, rfl, h_WAQ, h_LAQ, h_TAQ, hb⟩
          refine ⟨_, rfl, ?_⟩
          have HQ4 := Aside0.mk (below_then HQ3.out HQ3.out.size hb)
          have TAQ_4 := Aside0.mk h_TAQ
          have WAQ_4 := Aside0.mk h_WAQ
          have LAQ_4 := Aside0.mk h_LAQ
          have TAP_4 := Aside0.mk (TyI.below TAP_3.out hb)
          have WAP_4 := Aside0.mk (Kd.C_below WAP_3.out hb)
          have LAP_4 := Aside0.mk (LAP_3.out)
          have GA_4 := Aside0.mk (blk_below GA_3.out hb)
          have GEGA_4 := Aside0.mk (GEGA_3.out)
          have GB_4 := Aside0.mk (blk_below GB_3.out hb)
          have GEGB_4 := Aside0.mk (GEGB_3.out)
          have NAB_4 := NAB_3
          clear hb h_TAQ h_WAQ h_LAQ
          refine hK.out _ _ ⟨(pw_cell_below HQ4.out (blk_cell VA5.out 0)), (pw_cell_below HQ4.out (blk_cell VA5.out 1)), (pw_cell_below HQ4.out (blk_cell VA5.out 2)), (pw_cell_below HQ4.out (blk_cell VA5.out 3)), (pw_cell_below HQ4.out (blk_cell VA5.out 4)), (pw_cell_below HQ4.out (blk_cell VA5.out 5)), (pw_cell_below HQ4.out (blk_cell VA5.out 6)), (pw_cell_below HQ4.out (blk_cell VB5.out 0)), (pw_cell_below HQ4.out (blk_cell VB5.out 1)), (pw_cell_below HQ4.out (blk_cell VB5.out 2)), (pw_cell_below HQ4.out (blk_cell VB5.out 3)), (pw_cell_below HQ4.out (blk_cell VB5.out 4)), (pw_cell_below HQ4.out (blk_cell VB5.out 5)), (pw_cell_below HQ4.out (blk_cell VB5.out 6))⟩ (fun hHeld => ?_)
          clear hK K
          refine norm_ (a' := ?_) ?_ ?_
          rotate_left
          · show Act.put _ (some 39) _ = _
            simp only [Act.put, List.setIfInBounds_toArray, List.set_cons_zero, List.set_cons_succ, i64_w, i32_w]
            rfl
          exact norm_ (by simp only [putAll, Act.put, List.setIfInBounds_toArray, List.set_cons_zero, List.set_cons_succ]) (hCont (.agg #[.int .i64 0, .int .u64 (Int.tmod vh 8), .int .i64 s.j.ce, .int .u64 s.j.cr, .int .i64 0, .int .u64 (chainOf n (startOf 0 sx)), .slice AP W1.length cP], .agg #[.int .i64 0, .int .u64 (Int.tmod uh 8), .int .i64 s.j.ce, .int .u64 s.j.cr, .int .i64 0, .int .u64 (chainOf n (startOf 0 sx)), .slice AQ W2.length cQ], .pointer (some ⟨ga, 0, none⟩), .pointer (some ⟨gb, 0, none⟩)) _ ⟨hHeld, ⟨AP, cP, AQ, cQ, ga, gb, rfl, TAP_4.out, WAP_4.out, LAP_4.out, TAQ_4.out, WAQ_4.out, LAQ_4.out, GA_4.out, GEGA_4.out, GB_4.out, GEGB_4.out, NAB_4.out⟩, HQ4.out⟩)
    · skip
      refine alloc_step (base := w5.drew.heap.size) (w0 := w5.drew) 43 #[.int .i64 0, .int .u64 0, .int .i64 0, .int .u64 0, .int .i64 0, .int .u64 0, .slice none 0 0] (by rfl) rfl rfl (by kernel_rfl) (Below.refl _ _) (Nat.le_refl _) ?_
      intro ga wq1 h_GA hge hb hg_
      have h_GEGA : w5.heap.size ≤ ga := Nat.le_trans (below_drew (Below.refl w5.heap.size w5)).size hge
      have hnew := hge
      clear hge hg_
      have HQ1 := Aside0.mk (below_then (below_drew (Below.refl w5.heap.size w5)) (Nat.le_refl _) hb)
      have GA_1 := Aside0.mk h_GA
      have GEGA_1 := Aside0.mk h_GEGA
      clear hnew
      clear hb h_GA h_GEGA
      refine hK.out _ _ ⟨(pw_cell_below HQ1.out (blk_cell VA5.out 0)), (pw_cell_below HQ1.out (blk_cell VA5.out 1)), (pw_cell_below HQ1.out (blk_cell VA5.out 2)), (pw_cell_below HQ1.out (blk_cell VA5.out 3)), (pw_cell_below HQ1.out (blk_cell VA5.out 4)), (pw_cell_below HQ1.out (blk_cell VA5.out 5)), (pw_cell_below HQ1.out (blk_cell VA5.out 6)), (pw_cell_below HQ1.out (blk_cell VB5.out 0)), (pw_cell_below HQ1.out (blk_cell VB5.out 1)), (pw_cell_below HQ1.out (blk_cell VB5.out 2)), (pw_cell_below HQ1.out (blk_cell VB5.out 3)), (pw_cell_below HQ1.out (blk_cell VB5.out 4)), (pw_cell_below HQ1.out (blk_cell VB5.out 5)), (pw_cell_below HQ1.out (blk_cell VB5.out 6))⟩ (fun hHeld => ?_)
      clear hK K
      refine norm_ (a' := ?_) ?_ ?_
      rotate_left
      · show Act.put _ (some 13) _ = _
        simp only [Act.put, List.setIfInBounds_toArray, List.set_cons_zero, List.set_cons_succ, i64_w, i32_w]
        rfl
      refine two_ (i := 2) (j := 7) (Ni := some 36) (Nj := some 14) qK19 qK24 rfl rfl rfl rfl (by kernel_rfl) (by decide) (by decide) (fun K hK => ?_) (fun K hK => ?_)
      · skip
        refine goesV_ (by rfl) rfl 22 #[.pointer (some ⟨xb, 0, none⟩), .pointer (some ⟨sb, 0, none⟩), .pointer (some ⟨cb, 0, none⟩)] #[.agg #[.int .i64 vs, .int .u64 vh, .int .i64 vse, .int .u64 vsr, .int .i64 vte, .int .u64 vtr, .slice A3 z3.length c3], .pointer (some ⟨xb, 0, none⟩), .pointer (some ⟨sb, 0, none⟩), .pointer (some ⟨cb, 0, none⟩)] (.agg #[.int .i64 vs, .int .u64 vh, .int .i64 vse, .int .u64 vsr, .int .i64 vte, .int .u64 vtr, .slice A3 z3.length c3]) rfl rfl rfl (fun _ _ => rfl) ?_
        with_reducible refine (fix_calls AX cX lx sx bx s AB cB AN cN xb sb cb f C (chainOf n) vs vh vse vsr vte vtr A3 c3 z3 _ _ _ _ _ _ _ _ _ (blk_below BM5.out HQ1.out) (blk_below S5.out HQ1.out) (blk_below CB5.out HQ1.out) (Kd.C_below X5.out HQ1.out) HCX.out (CH5.out.below HQ1.out) (Kd.C_below R3.out HQ1.out) HC3.out HK1.out).mono ?_
        rintro x wq2 ⟨AP, cP, rfl, h_WAP, h_LAP, h_TAP, hb⟩
        refine ⟨_, rfl, ?_⟩
        have HQ2 := Aside0.mk (below_then HQ1.out HQ1.out.size hb)
        have TAP_2 := Aside0.mk h_TAP
        have WAP_2 := Aside0.mk h_WAP
        have LAP_2 := Aside0.mk h_LAP
        have GA_2 := Aside0.mk (blk_below GA_1.out hb)
        have GEGA_2 := Aside0.mk (GEGA_1.out)
        clear hb h_TAP h_WAP h_LAP
        refine hK.out _ _ ⟨(pw_cell_below HQ2.out (blk_cell VA5.out 0)), (pw_cell_below HQ2.out (blk_cell VA5.out 1)), (pw_cell_below HQ2.out (blk_cell VA5.out 2)), (pw_cell_below HQ2.out (blk_cell VA5.out 3)), (pw_cell_below HQ2.out (blk_cell VA5.out 4)), (pw_cell_below HQ2.out (blk_cell VA5.out 5)), (pw_cell_below HQ2.out (blk_cell VA5.out 6)), (pw_cell_below HQ2.out (blk_cell VB5.out 0)), (pw_cell_below HQ2.out (blk_cell VB5.out 1)), (pw_cell_below HQ2.out (blk_cell VB5.out 2)), (pw_cell_below HQ2.out (blk_cell VB5.out 3)), (pw_cell_below HQ2.out (blk_cell VB5.out 4)), (pw_cell_below HQ2.out (blk_cell VB5.out 5)), (pw_cell_below HQ2.out (blk_cell VB5.out 6))⟩ (fun hHeld => ?_)
        clear hK K
        refine norm_ (a' := ?_) ?_ ?_
        rotate_left
        · show Act.put _ (some 36) _ = _
          simp only [Act.put, List.setIfInBounds_toArray, List.set_cons_zero, List.set_cons_succ, i64_w, i32_w]
          rfl
        refine two_ (i := 5) (j := 7) (Ni := some 39) (Nj := some 14) qK21 qK23 rfl rfl rfl rfl (by kernel_rfl) (by decide) (by decide) (fun K hK => ?_) (fun K hK => ?_)
        · skip
          refine goesV_ (by rfl) rfl 22 #[.pointer (some ⟨xb, 0, none⟩), .pointer (some ⟨sb, 0, none⟩), .pointer (some ⟨cb, 0, none⟩)] #[.agg #[.int .i64 us, .int .u64 uh, .int .i64 use, .int .u64 usr, .int .i64 ute, .int .u64 utr, .slice A4 z4.length c4], .pointer (some ⟨xb, 0, none⟩), .pointer (some ⟨sb, 0, none⟩), .pointer (some ⟨cb, 0, none⟩)] (.agg #[.int .i64 us, .int .u64 uh, .int .i64 use, .int .u64 usr, .int .i64 ute, .int .u64 utr, .slice A4 z4.length c4]) rfl rfl rfl (fun _ _ => rfl) ?_
          with_reducible refine (fix_calls AX cX lx sx bx s AB cB AN cN xb sb cb f C (chainOf n) us uh use usr ute utr A4 c4 z4 _ _ _ _ _ _ _ _ _ (blk_below BM5.out HQ2.out) (blk_below S5.out HQ2.out) (blk_below CB5.out HQ2.out) (Kd.C_below X5.out HQ2.out) HCX.out (CH5.out.below HQ2.out) (Kd.C_below R4.out HQ2.out) HC4.out HK2.out).mono ?_
          rintro x wq3 ⟨AQ, cQ, rfl, h_WAQ, h_LAQ, h_TAQ, hb⟩
          refine ⟨_, rfl, ?_⟩
          have HQ3 := Aside0.mk (below_then HQ2.out HQ2.out.size hb)
          have TAQ_3 := Aside0.mk h_TAQ
          have WAQ_3 := Aside0.mk h_WAQ
          have LAQ_3 := Aside0.mk h_LAQ
          have TAP_3 := Aside0.mk (TyI.below TAP_2.out hb)
          have WAP_3 := Aside0.mk (Kd.C_below WAP_2.out hb)
          have LAP_3 := Aside0.mk (LAP_2.out)
          have GA_3 := Aside0.mk (blk_below GA_2.out hb)
          have GEGA_3 := Aside0.mk (GEGA_2.out)
          clear hb h_TAQ h_WAQ h_LAQ
          refine hK.out _ _ ⟨(pw_cell_below HQ3.out (blk_cell VA5.out 0)), (pw_cell_below HQ3.out (blk_cell VA5.out 1)), (pw_cell_below HQ3.out (blk_cell VA5.out 2)), (pw_cell_below HQ3.out (blk_cell VA5.out 3)), (pw_cell_below HQ3.out (blk_cell VA5.out 4)), (pw_cell_below HQ3.out (blk_cell VA5.out 5)), (pw_cell_below HQ3.out (blk_cell VA5.out 6)), (pw_cell_below HQ3.out (blk_cell VB5.out 0)), (pw_cell_below HQ3.out (blk_cell VB5.out 1)), (pw_cell_below HQ3.out (blk_cell VB5.out 2)), (pw_cell_below HQ3.out (blk_cell VB5.out 3)), (pw_cell_below HQ3.out (blk_cell VB5.out 4)), (pw_cell_below HQ3.out (blk_cell VB5.out 5)), (pw_cell_below HQ3.out (blk_cell VB5.out 6))⟩ (fun hHeld => ?_)
          clear hK K
          refine norm_ (a' := ?_) ?_ ?_
          rotate_left
          · show Act.put _ (some 39) _ = _
            simp only [Act.put, List.setIfInBounds_toArray, List.set_cons_zero, List.set_cons_succ, i64_w, i32_w]
            rfl
          refine one_ (i := 7) (N := some 14) qK14 rfl rfl (by kernel_rfl) (by decide) (fun K hK => ?_)
          refine alloc_step (base := wq3.heap.size) (w0 := wq3) 43 #[.int .i64 0, .int .u64 0, .int .i64 0, .int .u64 0, .int .i64 0, .int .u64 0, .slice none 0 0] (by rfl) rfl rfl (by kernel_rfl) (Below.refl _ _) (Nat.le_refl _) ?_
          intro gb wq4 h_GB hge hb hg_
          have h_GEGB : w5.heap.size ≤ gb := Nat.le_trans HQ3.out.size hge
          have hnew := hge
          clear hge hg_
          have HQ4 := Aside0.mk (below_then HQ3.out HQ3.out.size hb)
          have GB_4 := Aside0.mk h_GB
          have GEGB_4 := Aside0.mk h_GEGB
          have TAP_4 := Aside0.mk (TyI.below TAP_3.out hb)
          have WAP_4 := Aside0.mk (Kd.C_below WAP_3.out hb)
          have LAP_4 := Aside0.mk (LAP_3.out)
          have TAQ_4 := Aside0.mk (TyI.below TAQ_3.out hb)
          have WAQ_4 := Aside0.mk (Kd.C_below WAQ_3.out hb)
          have LAQ_4 := Aside0.mk (LAQ_3.out)
          have GA_4 := Aside0.mk (blk_below GA_3.out hb)
          have GEGA_4 := Aside0.mk (GEGA_3.out)
          have NAB_4 : Aside0 (ga ≠ gb) := ⟨fun e => by have h1 := (Array.getElem?_eq_some_iff.1 GA_3.out).1; have h2 := hnew; omega⟩
          clear hnew
          clear hb h_GB h_GEGB
          refine hK.out _ _ ⟨(pw_cell_below HQ4.out (blk_cell VA5.out 0)), (pw_cell_below HQ4.out (blk_cell VA5.out 1)), (pw_cell_below HQ4.out (blk_cell VA5.out 2)), (pw_cell_below HQ4.out (blk_cell VA5.out 3)), (pw_cell_below HQ4.out (blk_cell VA5.out 4)), (pw_cell_below HQ4.out (blk_cell VA5.out 5)), (pw_cell_below HQ4.out (blk_cell VA5.out 6)), (pw_cell_below HQ4.out (blk_cell VB5.out 0)), (pw_cell_below HQ4.out (blk_cell VB5.out 1)), (pw_cell_below HQ4.out (blk_cell VB5.out 2)), (pw_cell_below HQ4.out (blk_cell VB5.out 3)), (pw_cell_below HQ4.out (blk_cell VB5.out 4)), (pw_cell_below HQ4.out (blk_cell VB5.out 5)), (pw_cell_below HQ4.out (blk_cell VB5.out 6))⟩ (fun hHeld => ?_)
          clear hK K
          refine norm_ (a' := ?_) ?_ ?_
          rotate_left
          · show Act.put _ (some 14) _ = _
            simp only [Act.put, List.setIfInBounds_toArray, List.set_cons_zero, List.set_cons_succ, i64_w, i32_w]
            rfl
          exact norm_ (by simp only [putAll, Act.put, List.setIfInBounds_toArray, List.set_cons_zero, List.set_cons_succ]) (hCont (.agg #[.int .i64 0, .int .u64 (Int.tmod vh 8), .int .i64 s.j.ce, .int .u64 s.j.cr, .int .i64 0, .int .u64 (chainOf n (startOf 0 sx)), .slice AP W1.length cP], .agg #[.int .i64 0, .int .u64 (Int.tmod uh 8), .int .i64 s.j.ce, .int .u64 s.j.cr, .int .i64 0, .int .u64 (chainOf n (startOf 0 sx)), .slice AQ W2.length cQ], .pointer (some ⟨ga, 0, none⟩), .pointer (some ⟨gb, 0, none⟩)) _ ⟨hHeld, ⟨AP, cP, AQ, cQ, ga, gb, rfl, TAP_4.out, WAP_4.out, LAP_4.out, TAQ_4.out, WAQ_4.out, LAQ_4.out, GA_4.out, GEGA_4.out, GB_4.out, GEGB_4.out, NAB_4.out⟩, HQ4.out⟩)
        · skip
          refine alloc_step (base := wq2.heap.size) (w0 := wq2) 43 #[.int .i64 0, .int .u64 0, .int .i64 0, .int .u64 0, .int .i64 0, .int .u64 0, .slice none 0 0] (by rfl) rfl rfl (by kernel_rfl) (Below.refl _ _) (Nat.le_refl _) ?_
          intro gb wq3 h_GB hge hb hg_
          have h_GEGB : w5.heap.size ≤ gb := Nat.le_trans HQ2.out.size hge
          have hnew := hge
          clear hge hg_
          have HQ3 := Aside0.mk (below_then HQ2.out HQ2.out.size hb)
          have GB_3 := Aside0.mk h_GB
          have GEGB_3 := Aside0.mk h_GEGB
          have TAP_3 := Aside0.mk (TyI.below TAP_2.out hb)
          have WAP_3 := Aside0.mk (Kd.C_below WAP_2.out hb)
          have LAP_3 := Aside0.mk (LAP_2.out)
          have GA_3 := Aside0.mk (blk_below GA_2.out hb)
          have GEGA_3 := Aside0.mk (GEGA_2.out)
          have NAB_3 : Aside0 (ga ≠ gb) := ⟨fun e => by have h1 := (Array.getElem?_eq_some_iff.1 GA_2.out).1; have h2 := hnew; omega⟩
          clear hnew
          clear hb h_GB h_GEGB
          refine hK.out _ _ ⟨(pw_cell_below HQ3.out (blk_cell VA5.out 0)), (pw_cell_below HQ3.out (blk_cell VA5.out 1)), (pw_cell_below HQ3.out (blk_cell VA5.out 2)), (pw_cell_below HQ3.out (blk_cell VA5.out 3)), (pw_cell_below HQ3.out (blk_cell VA5.out 4)), (pw_cell_below HQ3.out (blk_cell VA5.out 5)), (pw_cell_below HQ3.out (blk_cell VA5.out 6)), (pw_cell_below HQ3.out (blk_cell VB5.out 0)), (pw_cell_below HQ3.out (blk_cell VB5.out 1)), (pw_cell_below HQ3.out (blk_cell VB5.out 2)), (pw_cell_below HQ3.out (blk_cell VB5.out 3)), (pw_cell_below HQ3.out (blk_cell VB5.out 4)), (pw_cell_below HQ3.out (blk_cell VB5.out 5)), (pw_cell_below HQ3.out (blk_cell VB5.out 6))⟩ (fun hHeld => ?_)
          clear hK K
          refine norm_ (a' := ?_) ?_ ?_
          rotate_left
          · show Act.put _ (some 14) _ = _
            simp only [Act.put, List.setIfInBounds_toArray, List.set_cons_zero, List.set_cons_succ, i64_w, i32_w]
            rfl
          refine one_ (i := 5) (N := some 39) qK14 rfl rfl (by kernel_rfl) (by decide) (fun K hK => ?_)
          refine goesV_ (by rfl) rfl 22 #[.pointer (some ⟨xb, 0, none⟩), .pointer (some ⟨sb, 0, none⟩), .pointer (some ⟨cb, 0, none⟩)] #[.agg #[.int .i64 us, .int .u64 uh, .int .i64 use, .int .u64 usr, .int .i64 ute, .int .u64 utr, .slice A4 z4.length c4], .pointer (some ⟨xb, 0, none⟩), .pointer (some ⟨sb, 0, none⟩), .pointer (some ⟨cb, 0, none⟩)] (.agg #[.int .i64 us, .int .u64 uh, .int .i64 use, .int .u64 usr, .int .i64 ute, .int .u64 utr, .slice A4 z4.length c4]) rfl rfl rfl (fun _ _ => rfl) ?_
          with_reducible refine (fix_calls AX cX lx sx bx s AB cB AN cN xb sb cb f C (chainOf n) us uh use usr ute utr A4 c4 z4 _ _ _ _ _ _ _ _ _ (blk_below BM5.out HQ3.out) (blk_below S5.out HQ3.out) (blk_below CB5.out HQ3.out) (Kd.C_below X5.out HQ3.out) HCX.out (CH5.out.below HQ3.out) (Kd.C_below R4.out HQ3.out) HC4.out HK2.out).mono ?_
          rintro x wq4 ⟨AQ, cQ, rfl, h_WAQ, h_LAQ, h_TAQ, hb⟩
          refine ⟨_, rfl, ?_⟩
          have HQ4 := Aside0.mk (below_then HQ3.out HQ3.out.size hb)
          have TAQ_4 := Aside0.mk h_TAQ
          have WAQ_4 := Aside0.mk h_WAQ
          have LAQ_4 := Aside0.mk h_LAQ
          have TAP_4 := Aside0.mk (TyI.below TAP_3.out hb)
          have WAP_4 := Aside0.mk (Kd.C_below WAP_3.out hb)
          have LAP_4 := Aside0.mk (LAP_3.out)
          have GA_4 := Aside0.mk (blk_below GA_3.out hb)
          have GEGA_4 := Aside0.mk (GEGA_3.out)
          have GB_4 := Aside0.mk (blk_below GB_3.out hb)
          have GEGB_4 := Aside0.mk (GEGB_3.out)
          have NAB_4 := NAB_3
          clear hb h_TAQ h_WAQ h_LAQ
          refine hK.out _ _ ⟨(pw_cell_below HQ4.out (blk_cell VA5.out 0)), (pw_cell_below HQ4.out (blk_cell VA5.out 1)), (pw_cell_below HQ4.out (blk_cell VA5.out 2)), (pw_cell_below HQ4.out (blk_cell VA5.out 3)), (pw_cell_below HQ4.out (blk_cell VA5.out 4)), (pw_cell_below HQ4.out (blk_cell VA5.out 5)), (pw_cell_below HQ4.out (blk_cell VA5.out 6)), (pw_cell_below HQ4.out (blk_cell VB5.out 0)), (pw_cell_below HQ4.out (blk_cell VB5.out 1)), (pw_cell_below HQ4.out (blk_cell VB5.out 2)), (pw_cell_below HQ4.out (blk_cell VB5.out 3)), (pw_cell_below HQ4.out (blk_cell VB5.out 4)), (pw_cell_below HQ4.out (blk_cell VB5.out 5)), (pw_cell_below HQ4.out (blk_cell VB5.out 6))⟩ (fun hHeld => ?_)
          clear hK K
          refine norm_ (a' := ?_) ?_ ?_
          rotate_left
          · show Act.put _ (some 39) _ = _
            simp only [Act.put, List.setIfInBounds_toArray, List.set_cons_zero, List.set_cons_succ, i64_w, i32_w]
            rfl
          exact norm_ (by simp only [putAll, Act.put, List.setIfInBounds_toArray, List.set_cons_zero, List.set_cons_succ]) (hCont (.agg #[.int .i64 0, .int .u64 (Int.tmod vh 8), .int .i64 s.j.ce, .int .u64 s.j.cr, .int .i64 0, .int .u64 (chainOf n (startOf 0 sx)), .slice AP W1.length cP], .agg #[.int .i64 0, .int .u64 (Int.tmod uh 8), .int .i64 s.j.ce, .int .u64 s.j.cr, .int .i64 0, .int .u64 (chainOf n (startOf 0 sx)), .slice AQ W2.length cQ], .pointer (some ⟨ga, 0, none⟩), .pointer (some ⟨gb, 0, none⟩)) _ ⟨hHeld, ⟨AP, cP, AQ, cQ, ga, gb, rfl, TAP_4.out, WAP_4.out, LAP_4.out, TAQ_4.out, WAQ_4.out, LAQ_4.out, GA_4.out, GEGA_4.out, GB_4.out, GEGB_4.out, NAB_4.out⟩, HQ4.out⟩)
      · skip
        refine alloc_step (base := wq1.heap.size) (w0 := wq1) 43 #[.int .i64 0, .int .u64 0, .int .i64 0, .int .u64 0, .int .i64 0, .int .u64 0, .slice none 0 0] (by rfl) rfl rfl (by kernel_rfl) (Below.refl _ _) (Nat.le_refl _) ?_
        intro gb wq2 h_GB hge hb hg_
        have h_GEGB : w5.heap.size ≤ gb := Nat.le_trans HQ1.out.size hge
        have hnew := hge
        clear hge hg_
        have HQ2 := Aside0.mk (below_then HQ1.out HQ1.out.size hb)
        have GB_2 := Aside0.mk h_GB
        have GEGB_2 := Aside0.mk h_GEGB
        have GA_2 := Aside0.mk (blk_below GA_1.out hb)
        have GEGA_2 := Aside0.mk (GEGA_1.out)
        have NAB_2 : Aside0 (ga ≠ gb) := ⟨fun e => by have h1 := (Array.getElem?_eq_some_iff.1 GA_1.out).1; have h2 := hnew; omega⟩
        clear hnew
        clear hb h_GB h_GEGB
        refine hK.out _ _ ⟨(pw_cell_below HQ2.out (blk_cell VA5.out 0)), (pw_cell_below HQ2.out (blk_cell VA5.out 1)), (pw_cell_below HQ2.out (blk_cell VA5.out 2)), (pw_cell_below HQ2.out (blk_cell VA5.out 3)), (pw_cell_below HQ2.out (blk_cell VA5.out 4)), (pw_cell_below HQ2.out (blk_cell VA5.out 5)), (pw_cell_below HQ2.out (blk_cell VA5.out 6)), (pw_cell_below HQ2.out (blk_cell VB5.out 0)), (pw_cell_below HQ2.out (blk_cell VB5.out 1)), (pw_cell_below HQ2.out (blk_cell VB5.out 2)), (pw_cell_below HQ2.out (blk_cell VB5.out 3)), (pw_cell_below HQ2.out (blk_cell VB5.out 4)), (pw_cell_below HQ2.out (blk_cell VB5.out 5)), (pw_cell_below HQ2.out (blk_cell VB5.out 6))⟩ (fun hHeld => ?_)
        clear hK K
        refine norm_ (a' := ?_) ?_ ?_
        rotate_left
        · show Act.put _ (some 14) _ = _
          simp only [Act.put, List.setIfInBounds_toArray, List.set_cons_zero, List.set_cons_succ, i64_w, i32_w]
          rfl
        refine one_ (i := 2) (N := some 36) qK23 rfl rfl (by kernel_rfl) (by decide) (fun K hK => ?_)
        refine goesV_ (by rfl) rfl 22 #[.pointer (some ⟨xb, 0, none⟩), .pointer (some ⟨sb, 0, none⟩), .pointer (some ⟨cb, 0, none⟩)] #[.agg #[.int .i64 vs, .int .u64 vh, .int .i64 vse, .int .u64 vsr, .int .i64 vte, .int .u64 vtr, .slice A3 z3.length c3], .pointer (some ⟨xb, 0, none⟩), .pointer (some ⟨sb, 0, none⟩), .pointer (some ⟨cb, 0, none⟩)] (.agg #[.int .i64 vs, .int .u64 vh, .int .i64 vse, .int .u64 vsr, .int .i64 vte, .int .u64 vtr, .slice A3 z3.length c3]) rfl rfl rfl (fun _ _ => rfl) ?_
        with_reducible refine (fix_calls AX cX lx sx bx s AB cB AN cN xb sb cb f C (chainOf n) vs vh vse vsr vte vtr A3 c3 z3 _ _ _ _ _ _ _ _ _ (blk_below BM5.out HQ2.out) (blk_below S5.out HQ2.out) (blk_below CB5.out HQ2.out) (Kd.C_below X5.out HQ2.out) HCX.out (CH5.out.below HQ2.out) (Kd.C_below R3.out HQ2.out) HC3.out HK1.out).mono ?_
        rintro x wq3 ⟨AP, cP, rfl, h_WAP, h_LAP, h_TAP, hb⟩
        refine ⟨_, rfl, ?_⟩
        have HQ3 := Aside0.mk (below_then HQ2.out HQ2.out.size hb)
        have TAP_3 := Aside0.mk h_TAP
        have WAP_3 := Aside0.mk h_WAP
        have LAP_3 := Aside0.mk h_LAP
        have GA_3 := Aside0.mk (blk_below GA_2.out hb)
        have GEGA_3 := Aside0.mk (GEGA_2.out)
        have GB_3 := Aside0.mk (blk_below GB_2.out hb)
        have GEGB_3 := Aside0.mk (GEGB_2.out)
        have NAB_3 := NAB_2
        clear hb h_TAP h_WAP h_LAP
        refine hK.out _ _ ⟨(pw_cell_below HQ3.out (blk_cell VA5.out 0)), (pw_cell_below HQ3.out (blk_cell VA5.out 1)), (pw_cell_below HQ3.out (blk_cell VA5.out 2)), (pw_cell_below HQ3.out (blk_cell VA5.out 3)), (pw_cell_below HQ3.out (blk_cell VA5.out 4)), (pw_cell_below HQ3.out (blk_cell VA5.out 5)), (pw_cell_below HQ3.out (blk_cell VA5.out 6)), (pw_cell_below HQ3.out (blk_cell VB5.out 0)), (pw_cell_below HQ3.out (blk_cell VB5.out 1)), (pw_cell_below HQ3.out (blk_cell VB5.out 2)), (pw_cell_below HQ3.out (blk_cell VB5.out 3)), (pw_cell_below HQ3.out (blk_cell VB5.out 4)), (pw_cell_below HQ3.out (blk_cell VB5.out 5)), (pw_cell_below HQ3.out (blk_cell VB5.out 6))⟩ (fun hHeld => ?_)
        clear hK K
        refine norm_ (a' := ?_) ?_ ?_
        rotate_left
        · show Act.put _ (some 36) _ = _
          simp only [Act.put, List.setIfInBounds_toArray, List.set_cons_zero, List.set_cons_succ, i64_w, i32_w]
          rfl
        refine one_ (i := 5) (N := some 39) qK14 rfl rfl (by kernel_rfl) (by decide) (fun K hK => ?_)
        refine goesV_ (by rfl) rfl 22 #[.pointer (some ⟨xb, 0, none⟩), .pointer (some ⟨sb, 0, none⟩), .pointer (some ⟨cb, 0, none⟩)] #[.agg #[.int .i64 us, .int .u64 uh, .int .i64 use, .int .u64 usr, .int .i64 ute, .int .u64 utr, .slice A4 z4.length c4], .pointer (some ⟨xb, 0, none⟩), .pointer (some ⟨sb, 0, none⟩), .pointer (some ⟨cb, 0, none⟩)] (.agg #[.int .i64 us, .int .u64 uh, .int .i64 use, .int .u64 usr, .int .i64 ute, .int .u64 utr, .slice A4 z4.length c4]) rfl rfl rfl (fun _ _ => rfl) ?_
        with_reducible refine (fix_calls AX cX lx sx bx s AB cB AN cN xb sb cb f C (chainOf n) us uh use usr ute utr A4 c4 z4 _ _ _ _ _ _ _ _ _ (blk_below BM5.out HQ3.out) (blk_below S5.out HQ3.out) (blk_below CB5.out HQ3.out) (Kd.C_below X5.out HQ3.out) HCX.out (CH5.out.below HQ3.out) (Kd.C_below R4.out HQ3.out) HC4.out HK2.out).mono ?_
        rintro x wq4 ⟨AQ, cQ, rfl, h_WAQ, h_LAQ, h_TAQ, hb⟩
        refine ⟨_, rfl, ?_⟩
        have HQ4 := Aside0.mk (below_then HQ3.out HQ3.out.size hb)
        have TAQ_4 := Aside0.mk h_TAQ
        have WAQ_4 := Aside0.mk h_WAQ
        have LAQ_4 := Aside0.mk h_LAQ
        have TAP_4 := Aside0.mk (TyI.below TAP_3.out hb)
        have WAP_4 := Aside0.mk (Kd.C_below WAP_3.out hb)
        have LAP_4 := Aside0.mk (LAP_3.out)
        have GA_4 := Aside0.mk (blk_below GA_3.out hb)
        have GEGA_4 := Aside0.mk (GEGA_3.out)
        have GB_4 := Aside0.mk (blk_below GB_3.out hb)
        have GEGB_4 := Aside0.mk (GEGB_3.out)
        have NAB_4 := NAB_3
        clear hb h_TAQ h_WAQ h_LAQ
        refine hK.out _ _ ⟨(pw_cell_below HQ4.out (blk_cell VA5.out 0)), (pw_cell_below HQ4.out (blk_cell VA5.out 1)), (pw_cell_below HQ4.out (blk_cell VA5.out 2)), (pw_cell_below HQ4.out (blk_cell VA5.out 3)), (pw_cell_below HQ4.out (blk_cell VA5.out 4)), (pw_cell_below HQ4.out (blk_cell VA5.out 5)), (pw_cell_below HQ4.out (blk_cell VA5.out 6)), (pw_cell_below HQ4.out (blk_cell VB5.out 0)), (pw_cell_below HQ4.out (blk_cell VB5.out 1)), (pw_cell_below HQ4.out (blk_cell VB5.out 2)), (pw_cell_below HQ4.out (blk_cell VB5.out 3)), (pw_cell_below HQ4.out (blk_cell VB5.out 4)), (pw_cell_below HQ4.out (blk_cell VB5.out 5)), (pw_cell_below HQ4.out (blk_cell VB5.out 6))⟩ (fun hHeld => ?_)
        clear hK K
        refine norm_ (a' := ?_) ?_ ?_
        rotate_left
        · show Act.put _ (some 39) _ = _
          simp only [Act.put, List.setIfInBounds_toArray, List.set_cons_zero, List.set_cons_succ, i64_w, i32_w]
          rfl
        exact norm_ (by simp only [putAll, Act.put, List.setIfInBounds_toArray, List.set_cons_zero, List.set_cons_succ]) (hCont (.agg #[.int .i64 0, .int .u64 (Int.tmod vh 8), .int .i64 s.j.ce, .int .u64 s.j.cr, .int .i64 0, .int .u64 (chainOf n (startOf 0 sx)), .slice AP W1.length cP], .agg #[.int .i64 0, .int .u64 (Int.tmod uh 8), .int .i64 s.j.ce, .int .u64 s.j.cr, .int .i64 0, .int .u64 (chainOf n (startOf 0 sx)), .slice AQ W2.length cQ], .pointer (some ⟨ga, 0, none⟩), .pointer (some ⟨gb, 0, none⟩)) _ ⟨hHeld, ⟨AP, cP, AQ, cQ, ga, gb, rfl, TAP_4.out, WAP_4.out, LAP_4.out, TAQ_4.out, WAQ_4.out, LAQ_4.out, GA_4.out, GEGA_4.out, GB_4.out, GEGB_4.out, NAB_4.out⟩, HQ4.out⟩)
    · skip
      refine alloc_step (base := w5.drew.heap.size) (w0 := w5.drew) 43 #[.int .i64 0, .int .u64 0, .int .i64 0, .int .u64 0, .int .i64 0, .int .u64 0, .slice none 0 0] (by rfl) rfl rfl (by kernel_rfl) (Below.refl _ _) (Nat.le_refl _) ?_
      intro gb wq1 h_GB hge hb hg_
      have h_GEGB : w5.heap.size ≤ gb := Nat.le_trans (below_drew (Below.refl w5.heap.size w5)).size hge
      have hnew := hge
      clear hge hg_
      have HQ1 := Aside0.mk (below_then (below_drew (Below.refl w5.heap.size w5)) (Nat.le_refl _) hb)
      have GB_1 := Aside0.mk h_GB
      have GEGB_1 := Aside0.mk h_GEGB
      clear hnew
      clear hb h_GB h_GEGB
      refine hK.out _ _ ⟨(pw_cell_below HQ1.out (blk_cell VA5.out 0)), (pw_cell_below HQ1.out (blk_cell VA5.out 1)), (pw_cell_below HQ1.out (blk_cell VA5.out 2)), (pw_cell_below HQ1.out (blk_cell VA5.out 3)), (pw_cell_below HQ1.out (blk_cell VA5.out 4)), (pw_cell_below HQ1.out (blk_cell VA5.out 5)), (pw_cell_below HQ1.out (blk_cell VA5.out 6)), (pw_cell_below HQ1.out (blk_cell VB5.out 0)), (pw_cell_below HQ1.out (blk_cell VB5.out 1)), (pw_cell_below HQ1.out (blk_cell VB5.out 2)), (pw_cell_below HQ1.out (blk_cell VB5.out 3)), (pw_cell_below HQ1.out (blk_cell VB5.out 4)), (pw_cell_below HQ1.out (blk_cell VB5.out 5)), (pw_cell_below HQ1.out (blk_cell VB5.out 6))⟩ (fun hHeld => ?_)
      clear hK K
      refine norm_ (a' := ?_) ?_ ?_
      rotate_left
      · show Act.put _ (some 14) _ = _
        simp only [Act.put, List.setIfInBounds_toArray, List.set_cons_zero, List.set_cons_succ, i64_w, i32_w]
        rfl
      refine two_ (i := 2) (j := 6) (Ni := some 36) (Nj := some 13) qK20 qK24 rfl rfl rfl rfl (by kernel_rfl) (by decide) (by decide) (fun K hK => ?_) (fun K hK => ?_)
      · skip
        refine goesV_ (by rfl) rfl 22 #[.pointer (some ⟨xb, 0, none⟩), .pointer (some ⟨sb, 0, none⟩), .pointer (some ⟨cb, 0, none⟩)] #[.agg #[.int .i64 vs, .int .u64 vh, .int .i64 vse, .int .u64 vsr, .int .i64 vte, .int .u64 vtr, .slice A3 z3.length c3], .pointer (some ⟨xb, 0, none⟩), .pointer (some ⟨sb, 0, none⟩), .pointer (some ⟨cb, 0, none⟩)] (.agg #[.int .i64 vs, .int .u64 vh, .int .i64 vse, .int .u64 vsr, .int .i64 vte, .int .u64 vtr, .slice A3 z3.length c3]) rfl rfl rfl (fun _ _ => rfl) ?_
        with_reducible refine (fix_calls AX cX lx sx bx s AB cB AN cN xb sb cb f C (chainOf n) vs vh vse vsr vte vtr A3 c3 z3 _ _ _ _ _ _ _ _ _ (blk_below BM5.out HQ1.out) (blk_below S5.out HQ1.out) (blk_below CB5.out HQ1.out) (Kd.C_below X5.out HQ1.out) HCX.out (CH5.out.below HQ1.out) (Kd.C_below R3.out HQ1.out) HC3.out HK1.out).mono ?_
        rintro x wq2 ⟨AP, cP, rfl, h_WAP, h_LAP, h_TAP, hb⟩
        refine ⟨_, rfl, ?_⟩
        have HQ2 := Aside0.mk (below_then HQ1.out HQ1.out.size hb)
        have TAP_2 := Aside0.mk h_TAP
        have WAP_2 := Aside0.mk h_WAP
        have LAP_2 := Aside0.mk h_LAP
        have GB_2 := Aside0.mk (blk_below GB_1.out hb)
        have GEGB_2 := Aside0.mk (GEGB_1.out)
        clear hb h_TAP h_WAP h_LAP
        refine hK.out _ _ ⟨(pw_cell_below HQ2.out (blk_cell VA5.out 0)), (pw_cell_below HQ2.out (blk_cell VA5.out 1)), (pw_cell_below HQ2.out (blk_cell VA5.out 2)), (pw_cell_below HQ2.out (blk_cell VA5.out 3)), (pw_cell_below HQ2.out (blk_cell VA5.out 4)), (pw_cell_below HQ2.out (blk_cell VA5.out 5)), (pw_cell_below HQ2.out (blk_cell VA5.out 6)), (pw_cell_below HQ2.out (blk_cell VB5.out 0)), (pw_cell_below HQ2.out (blk_cell VB5.out 1)), (pw_cell_below HQ2.out (blk_cell VB5.out 2)), (pw_cell_below HQ2.out (blk_cell VB5.out 3)), (pw_cell_below HQ2.out (blk_cell VB5.out 4)), (pw_cell_below HQ2.out (blk_cell VB5.out 5)), (pw_cell_below HQ2.out (blk_cell VB5.out 6))⟩ (fun hHeld => ?_)
        clear hK K
        refine norm_ (a' := ?_) ?_ ?_
        rotate_left
        · show Act.put _ (some 36) _ = _
          simp only [Act.put, List.setIfInBounds_toArray, List.set_cons_zero, List.set_cons_succ, i64_w, i32_w]
          rfl
        refine two_ (i := 5) (j := 6) (Ni := some 39) (Nj := some 13) qK22 qK23 rfl rfl rfl rfl (by kernel_rfl) (by decide) (by decide) (fun K hK => ?_) (fun K hK => ?_)
        · skip
          refine goesV_ (by rfl) rfl 22 #[.pointer (some ⟨xb, 0, none⟩), .pointer (some ⟨sb, 0, none⟩), .pointer (some ⟨cb, 0, none⟩)] #[.agg #[.int .i64 us, .int .u64 uh, .int .i64 use, .int .u64 usr, .int .i64 ute, .int .u64 utr, .slice A4 z4.length c4], .pointer (some ⟨xb, 0, none⟩), .pointer (some ⟨sb, 0, none⟩), .pointer (some ⟨cb, 0, none⟩)] (.agg #[.int .i64 us, .int .u64 uh, .int .i64 use, .int .u64 usr, .int .i64 ute, .int .u64 utr, .slice A4 z4.length c4]) rfl rfl rfl (fun _ _ => rfl) ?_
          with_reducible refine (fix_calls AX cX lx sx bx s AB cB AN cN xb sb cb f C (chainOf n) us uh use usr ute utr A4 c4 z4 _ _ _ _ _ _ _ _ _ (blk_below BM5.out HQ2.out) (blk_below S5.out HQ2.out) (blk_below CB5.out HQ2.out) (Kd.C_below X5.out HQ2.out) HCX.out (CH5.out.below HQ2.out) (Kd.C_below R4.out HQ2.out) HC4.out HK2.out).mono ?_
          rintro x wq3 ⟨AQ, cQ, rfl, h_WAQ, h_LAQ, h_TAQ, hb⟩
          refine ⟨_, rfl, ?_⟩
          have HQ3 := Aside0.mk (below_then HQ2.out HQ2.out.size hb)
          have TAQ_3 := Aside0.mk h_TAQ
          have WAQ_3 := Aside0.mk h_WAQ
          have LAQ_3 := Aside0.mk h_LAQ
          have TAP_3 := Aside0.mk (TyI.below TAP_2.out hb)
          have WAP_3 := Aside0.mk (Kd.C_below WAP_2.out hb)
          have LAP_3 := Aside0.mk (LAP_2.out)
          have GB_3 := Aside0.mk (blk_below GB_2.out hb)
          have GEGB_3 := Aside0.mk (GEGB_2.out)
          clear hb h_TAQ h_WAQ h_LAQ
          refine hK.out _ _ ⟨(pw_cell_below HQ3.out (blk_cell VA5.out 0)), (pw_cell_below HQ3.out (blk_cell VA5.out 1)), (pw_cell_below HQ3.out (blk_cell VA5.out 2)), (pw_cell_below HQ3.out (blk_cell VA5.out 3)), (pw_cell_below HQ3.out (blk_cell VA5.out 4)), (pw_cell_below HQ3.out (blk_cell VA5.out 5)), (pw_cell_below HQ3.out (blk_cell VA5.out 6)), (pw_cell_below HQ3.out (blk_cell VB5.out 0)), (pw_cell_below HQ3.out (blk_cell VB5.out 1)), (pw_cell_below HQ3.out (blk_cell VB5.out 2)), (pw_cell_below HQ3.out (blk_cell VB5.out 3)), (pw_cell_below HQ3.out (blk_cell VB5.out 4)), (pw_cell_below HQ3.out (blk_cell VB5.out 5)), (pw_cell_below HQ3.out (blk_cell VB5.out 6))⟩ (fun hHeld => ?_)
          clear hK K
          refine norm_ (a' := ?_) ?_ ?_
          rotate_left
          · show Act.put _ (some 39) _ = _
            simp only [Act.put, List.setIfInBounds_toArray, List.set_cons_zero, List.set_cons_succ, i64_w, i32_w]
            rfl
          refine one_ (i := 6) (N := some 13) qK14 rfl rfl (by kernel_rfl) (by decide) (fun K hK => ?_)
          refine alloc_step (base := wq3.heap.size) (w0 := wq3) 43 #[.int .i64 0, .int .u64 0, .int .i64 0, .int .u64 0, .int .i64 0, .int .u64 0, .slice none 0 0] (by rfl) rfl rfl (by kernel_rfl) (Below.refl _ _) (Nat.le_refl _) ?_
          intro ga wq4 h_GA hge hb hg_
          have h_GEGA : w5.heap.size ≤ ga := Nat.le_trans HQ3.out.size hge
          have hnew := hge
          clear hge hg_
          have HQ4 := Aside0.mk (below_then HQ3.out HQ3.out.size hb)
          have GA_4 := Aside0.mk h_GA
          have GEGA_4 := Aside0.mk h_GEGA
          have TAP_4 := Aside0.mk (TyI.below TAP_3.out hb)
          have WAP_4 := Aside0.mk (Kd.C_below WAP_3.out hb)
          have LAP_4 := Aside0.mk (LAP_3.out)
          have TAQ_4 := Aside0.mk (TyI.below TAQ_3.out hb)
          have WAQ_4 := Aside0.mk (Kd.C_below WAQ_3.out hb)
          have LAQ_4 := Aside0.mk (LAQ_3.out)
          have GB_4 := Aside0.mk (blk_below GB_3.out hb)
          have GEGB_4 := Aside0.mk (GEGB_3.out)
          have NAB_4 : Aside0 (ga ≠ gb) := ⟨fun e => by have h1 := (Array.getElem?_eq_some_iff.1 GB_3.out).1; have h2 := hnew; omega⟩
          clear hnew
          clear hb h_GA h_GEGA
          refine hK.out _ _ ⟨(pw_cell_below HQ4.out (blk_cell VA5.out 0)), (pw_cell_below HQ4.out (blk_cell VA5.out 1)), (pw_cell_below HQ4.out (blk_cell VA5.out 2)), (pw_cell_below HQ4.out (blk_cell VA5.out 3)), (pw_cell_below HQ4.out (blk_cell VA5.out 4)), (pw_cell_below HQ4.out (blk_cell VA5.out 5)), (pw_cell_below HQ4.out (blk_cell VA5.out 6)), (pw_cell_below HQ4.out (blk_cell VB5.out 0)), (pw_cell_below HQ4.out (blk_cell VB5.out 1)), (pw_cell_below HQ4.out (blk_cell VB5.out 2)), (pw_cell_below HQ4.out (blk_cell VB5.out 3)), (pw_cell_below HQ4.out (blk_cell VB5.out 4)), (pw_cell_below HQ4.out (blk_cell VB5.out 5)), (pw_cell_below HQ4.out (blk_cell VB5.out 6))⟩ (fun hHeld => ?_)
          clear hK K
          refine norm_ (a' := ?_) ?_ ?_
          rotate_left
          · show Act.put _ (some 13) _ = _
            simp only [Act.put, List.setIfInBounds_toArray, List.set_cons_zero, List.set_cons_succ, i64_w, i32_w]
            rfl
          exact norm_ (by simp only [putAll, Act.put, List.setIfInBounds_toArray, List.set_cons_zero, List.set_cons_succ]) (hCont (.agg #[.int .i64 0, .int .u64 (Int.tmod vh 8), .int .i64 s.j.ce, .int .u64 s.j.cr, .int .i64 0, .int .u64 (chainOf n (startOf 0 sx)), .slice AP W1.length cP], .agg #[.int .i64 0, .int .u64 (Int.tmod uh 8), .int .i64 s.j.ce, .int .u64 s.j.cr, .int .i64 0, .int .u64 (chainOf n (startOf 0 sx)), .slice AQ W2.length cQ], .pointer (some ⟨ga, 0, none⟩), .pointer (some ⟨gb, 0, none⟩)) _ ⟨hHeld, ⟨AP, cP, AQ, cQ, ga, gb, rfl, TAP_4.out, WAP_4.out, LAP_4.out, TAQ_4.out, WAQ_4.out, LAQ_4.out, GA_4.out, GEGA_4.out, GB_4.out, GEGB_4.out, NAB_4.out⟩, HQ4.out⟩)
        · skip
          refine alloc_step (base := wq2.heap.size) (w0 := wq2) 43 #[.int .i64 0, .int .u64 0, .int .i64 0, .int .u64 0, .int .i64 0, .int .u64 0, .slice none 0 0] (by rfl) rfl rfl (by kernel_rfl) (Below.refl _ _) (Nat.le_refl _) ?_
          intro ga wq3 h_GA hge hb hg_
          have h_GEGA : w5.heap.size ≤ ga := Nat.le_trans HQ2.out.size hge
          have hnew := hge
          clear hge hg_
          have HQ3 := Aside0.mk (below_then HQ2.out HQ2.out.size hb)
          have GA_3 := Aside0.mk h_GA
          have GEGA_3 := Aside0.mk h_GEGA
          have TAP_3 := Aside0.mk (TyI.below TAP_2.out hb)
          have WAP_3 := Aside0.mk (Kd.C_below WAP_2.out hb)
          have LAP_3 := Aside0.mk (LAP_2.out)
          have GB_3 := Aside0.mk (blk_below GB_2.out hb)
          have GEGB_3 := Aside0.mk (GEGB_2.out)
          have NAB_3 : Aside0 (ga ≠ gb) := ⟨fun e => by have h1 := (Array.getElem?_eq_some_iff.1 GB_2.out).1; have h2 := hnew; omega⟩
          clear hnew
          clear hb h_GA h_GEGA
          refine hK.out _ _ ⟨(pw_cell_below HQ3.out (blk_cell VA5.out 0)), (pw_cell_below HQ3.out (blk_cell VA5.out 1)), (pw_cell_below HQ3.out (blk_cell VA5.out 2)), (pw_cell_below HQ3.out (blk_cell VA5.out 3)), (pw_cell_below HQ3.out (blk_cell VA5.out 4)), (pw_cell_below HQ3.out (blk_cell VA5.out 5)), (pw_cell_below HQ3.out (blk_cell VA5.out 6)), (pw_cell_below HQ3.out (blk_cell VB5.out 0)), (pw_cell_below HQ3.out (blk_cell VB5.out 1)), (pw_cell_below HQ3.out (blk_cell VB5.out 2)), (pw_cell_below HQ3.out (blk_cell VB5.out 3)), (pw_cell_below HQ3.out (blk_cell VB5.out 4)), (pw_cell_below HQ3.out (blk_cell VB5.out 5)), (pw_cell_below HQ3.out (blk_cell VB5.out 6))⟩ (fun hHeld => ?_)
          clear hK K
          refine norm_ (a' := ?_) ?_ ?_
          rotate_left
          · show Act.put _ (some 13) _ = _
            simp only [Act.put, List.setIfInBounds_toArray, List.set_cons_zero, List.set_cons_succ, i64_w, i32_w]
            rfl
          refine one_ (i := 5) (N := some 39) qK14 rfl rfl (by kernel_rfl) (by decide) (fun K hK => ?_)
          refine goesV_ (by rfl) rfl 22 #[.pointer (some ⟨xb, 0, none⟩), .pointer (some ⟨sb, 0, none⟩), .pointer (some ⟨cb, 0, none⟩)] #[.agg #[.int .i64 us, .int .u64 uh, .int .i64 use, .int .u64 usr, .int .i64 ute, .int .u64 utr, .slice A4 z4.length c4], .pointer (some ⟨xb, 0, none⟩), .pointer (some ⟨sb, 0, none⟩), .pointer (some ⟨cb, 0, none⟩)] (.agg #[.int .i64 us, .int .u64 uh, .int .i64 use, .int .u64 usr, .int .i64 ute, .int .u64 utr, .slice A4 z4.length c4]) rfl rfl rfl (fun _ _ => rfl) ?_
          with_reducible refine (fix_calls AX cX lx sx bx s AB cB AN cN xb sb cb f C (chainOf n) us uh use usr ute utr A4 c4 z4 _ _ _ _ _ _ _ _ _ (blk_below BM5.out HQ3.out) (blk_below S5.out HQ3.out) (blk_below CB5.out HQ3.out) (Kd.C_below X5.out HQ3.out) HCX.out (CH5.out.below HQ3.out) (Kd.C_below R4.out HQ3.out) HC4.out HK2.out).mono ?_
          rintro x wq4 ⟨AQ, cQ, rfl, h_WAQ, h_LAQ, h_TAQ, hb⟩
          refine ⟨_, rfl, ?_⟩
          have HQ4 := Aside0.mk (below_then HQ3.out HQ3.out.size hb)
          have TAQ_4 := Aside0.mk h_TAQ
          have WAQ_4 := Aside0.mk h_WAQ
          have LAQ_4 := Aside0.mk h_LAQ
          have TAP_4 := Aside0.mk (TyI.below TAP_3.out hb)
          have WAP_4 := Aside0.mk (Kd.C_below WAP_3.out hb)
          have LAP_4 := Aside0.mk (LAP_3.out)
          have GA_4 := Aside0.mk (blk_below GA_3.out hb)
          have GEGA_4 := Aside0.mk (GEGA_3.out)
          have GB_4 := Aside0.mk (blk_below GB_3.out hb)
          have GEGB_4 := Aside0.mk (GEGB_3.out)
          have NAB_4 := NAB_3
          clear hb h_TAQ h_WAQ h_LAQ
          refine hK.out _ _ ⟨(pw_cell_below HQ4.out (blk_cell VA5.out 0)), (pw_cell_below HQ4.out (blk_cell VA5.out 1)), (pw_cell_below HQ4.out (blk_cell VA5.out 2)), (pw_cell_below HQ4.out (blk_cell VA5.out 3)), (pw_cell_below HQ4.out (blk_cell VA5.out 4)), (pw_cell_below HQ4.out (blk_cell VA5.out 5)), (pw_cell_below HQ4.out (blk_cell VA5.out 6)), (pw_cell_below HQ4.out (blk_cell VB5.out 0)), (pw_cell_below HQ4.out (blk_cell VB5.out 1)), (pw_cell_below HQ4.out (blk_cell VB5.out 2)), (pw_cell_below HQ4.out (blk_cell VB5.out 3)), (pw_cell_below HQ4.out (blk_cell VB5.out 4)), (pw_cell_below HQ4.out (blk_cell VB5.out 5)), (pw_cell_below HQ4.out (blk_cell VB5.out 6))⟩ (fun hHeld => ?_)
          clear hK K
          refine norm_ (a' := ?_) ?_ ?_
          rotate_left
          · show Act.put _ (some 39) _ = _
            simp only [Act.put, List.setIfInBounds_toArray, List.set_cons_zero, List.set_cons_succ, i64_w, i32_w]
            rfl
          exact norm_ (by simp only [putAll, Act.put, List.setIfInBounds_toArray, List.set_cons_zero, List.set_cons_succ]) (hCont (.agg #[.int .i64 0, .int .u64 (Int.tmod vh 8), .int .i64 s.j.ce, .int .u64 s.j.cr, .int .i64 0, .int .u64 (chainOf n (startOf 0 sx)), .slice AP W1.length cP], .agg #[.int .i64 0, .int .u64 (Int.tmod uh 8), .int .i64 s.j.ce, .int .u64 s.j.cr, .int .i64 0, .int .u64 (chainOf n (startOf 0 sx)), .slice AQ W2.length cQ], .pointer (some ⟨ga, 0, none⟩), .pointer (some ⟨gb, 0, none⟩)) _ ⟨hHeld, ⟨AP, cP, AQ, cQ, ga, gb, rfl, TAP_4.out, WAP_4.out, LAP_4.out, TAQ_4.out, WAQ_4.out, LAQ_4.out, GA_4.out, GEGA_4.out, GB_4.out, GEGB_4.out, NAB_4.out⟩, HQ4.out⟩)
      · skip
        refine alloc_step (base := wq1.heap.size) (w0 := wq1) 43 #[.int .i64 0, .int .u64 0, .int .i64 0, .int .u64 0, .int .i64 0, .int .u64 0, .slice none 0 0] (by rfl) rfl rfl (by kernel_rfl) (Below.refl _ _) (Nat.le_refl _) ?_
        intro ga wq2 h_GA hge hb hg_
        have h_GEGA : w5.heap.size ≤ ga := Nat.le_trans HQ1.out.size hge
        have hnew := hge
        clear hge hg_
        have HQ2 := Aside0.mk (below_then HQ1.out HQ1.out.size hb)
        have GA_2 := Aside0.mk h_GA
        have GEGA_2 := Aside0.mk h_GEGA
        have GB_2 := Aside0.mk (blk_below GB_1.out hb)
        have GEGB_2 := Aside0.mk (GEGB_1.out)
        have NAB_2 : Aside0 (ga ≠ gb) := ⟨fun e => by have h1 := (Array.getElem?_eq_some_iff.1 GB_1.out).1; have h2 := hnew; omega⟩
        clear hnew
        clear hb h_GA h_GEGA
        refine hK.out _ _ ⟨(pw_cell_below HQ2.out (blk_cell VA5.out 0)), (pw_cell_below HQ2.out (blk_cell VA5.out 1)), (pw_cell_below HQ2.out (blk_cell VA5.out 2)), (pw_cell_below HQ2.out (blk_cell VA5.out 3)), (pw_cell_below HQ2.out (blk_cell VA5.out 4)), (pw_cell_below HQ2.out (blk_cell VA5.out 5)), (pw_cell_below HQ2.out (blk_cell VA5.out 6)), (pw_cell_below HQ2.out (blk_cell VB5.out 0)), (pw_cell_below HQ2.out (blk_cell VB5.out 1)), (pw_cell_below HQ2.out (blk_cell VB5.out 2)), (pw_cell_below HQ2.out (blk_cell VB5.out 3)), (pw_cell_below HQ2.out (blk_cell VB5.out 4)), (pw_cell_below HQ2.out (blk_cell VB5.out 5)), (pw_cell_below HQ2.out (blk_cell VB5.out 6))⟩ (fun hHeld => ?_)
        clear hK K
        refine norm_ (a' := ?_) ?_ ?_
        rotate_left
        · show Act.put _ (some 13) _ = _
          simp only [Act.put, List.setIfInBounds_toArray, List.set_cons_zero, List.set_cons_succ, i64_w, i32_w]
          rfl
        refine one_ (i := 2) (N := some 36) qK23 rfl rfl (by kernel_rfl) (by decide) (fun K hK => ?_)
        refine goesV_ (by rfl) rfl 22 #[.pointer (some ⟨xb, 0, none⟩), .pointer (some ⟨sb, 0, none⟩), .pointer (some ⟨cb, 0, none⟩)] #[.agg #[.int .i64 vs, .int .u64 vh, .int .i64 vse, .int .u64 vsr, .int .i64 vte, .int .u64 vtr, .slice A3 z3.length c3], .pointer (some ⟨xb, 0, none⟩), .pointer (some ⟨sb, 0, none⟩), .pointer (some ⟨cb, 0, none⟩)] (.agg #[.int .i64 vs, .int .u64 vh, .int .i64 vse, .int .u64 vsr, .int .i64 vte, .int .u64 vtr, .slice A3 z3.length c3]) rfl rfl rfl (fun _ _ => rfl) ?_
        with_reducible refine (fix_calls AX cX lx sx bx s AB cB AN cN xb sb cb f C (chainOf n) vs vh vse vsr vte vtr A3 c3 z3 _ _ _ _ _ _ _ _ _ (blk_below BM5.out HQ2.out) (blk_below S5.out HQ2.out) (blk_below CB5.out HQ2.out) (Kd.C_below X5.out HQ2.out) HCX.out (CH5.out.below HQ2.out) (Kd.C_below R3.out HQ2.out) HC3.out HK1.out).mono ?_
        rintro x wq3 ⟨AP, cP, rfl, h_WAP, h_LAP, h_TAP, hb⟩
        refine ⟨_, rfl, ?_⟩
        have HQ3 := Aside0.mk (below_then HQ2.out HQ2.out.size hb)
        have TAP_3 := Aside0.mk h_TAP
        have WAP_3 := Aside0.mk h_WAP
        have LAP_3 := Aside0.mk h_LAP
        have GA_3 := Aside0.mk (blk_below GA_2.out hb)
        have GEGA_3 := Aside0.mk (GEGA_2.out)
        have GB_3 := Aside0.mk (blk_below GB_2.out hb)
        have GEGB_3 := Aside0.mk (GEGB_2.out)
        have NAB_3 := NAB_2
        clear hb h_TAP h_WAP h_LAP
        refine hK.out _ _ ⟨(pw_cell_below HQ3.out (blk_cell VA5.out 0)), (pw_cell_below HQ3.out (blk_cell VA5.out 1)), (pw_cell_below HQ3.out (blk_cell VA5.out 2)), (pw_cell_below HQ3.out (blk_cell VA5.out 3)), (pw_cell_below HQ3.out (blk_cell VA5.out 4)), (pw_cell_below HQ3.out (blk_cell VA5.out 5)), (pw_cell_below HQ3.out (blk_cell VA5.out 6)), (pw_cell_below HQ3.out (blk_cell VB5.out 0)), (pw_cell_below HQ3.out (blk_cell VB5.out 1)), (pw_cell_below HQ3.out (blk_cell VB5.out 2)), (pw_cell_below HQ3.out (blk_cell VB5.out 3)), (pw_cell_below HQ3.out (blk_cell VB5.out 4)), (pw_cell_below HQ3.out (blk_cell VB5.out 5)), (pw_cell_below HQ3.out (blk_cell VB5.out 6))⟩ (fun hHeld => ?_)
        clear hK K
        refine norm_ (a' := ?_) ?_ ?_
        rotate_left
        · show Act.put _ (some 36) _ = _
          simp only [Act.put, List.setIfInBounds_toArray, List.set_cons_zero, List.set_cons_succ, i64_w, i32_w]
          rfl
        refine one_ (i := 5) (N := some 39) qK14 rfl rfl (by kernel_rfl) (by decide) (fun K hK => ?_)
        refine goesV_ (by rfl) rfl 22 #[.pointer (some ⟨xb, 0, none⟩), .pointer (some ⟨sb, 0, none⟩), .pointer (some ⟨cb, 0, none⟩)] #[.agg #[.int .i64 us, .int .u64 uh, .int .i64 use, .int .u64 usr, .int .i64 ute, .int .u64 utr, .slice A4 z4.length c4], .pointer (some ⟨xb, 0, none⟩), .pointer (some ⟨sb, 0, none⟩), .pointer (some ⟨cb, 0, none⟩)] (.agg #[.int .i64 us, .int .u64 uh, .int .i64 use, .int .u64 usr, .int .i64 ute, .int .u64 utr, .slice A4 z4.length c4]) rfl rfl rfl (fun _ _ => rfl) ?_
        with_reducible refine (fix_calls AX cX lx sx bx s AB cB AN cN xb sb cb f C (chainOf n) us uh use usr ute utr A4 c4 z4 _ _ _ _ _ _ _ _ _ (blk_below BM5.out HQ3.out) (blk_below S5.out HQ3.out) (blk_below CB5.out HQ3.out) (Kd.C_below X5.out HQ3.out) HCX.out (CH5.out.below HQ3.out) (Kd.C_below R4.out HQ3.out) HC4.out HK2.out).mono ?_
        rintro x wq4 ⟨AQ, cQ, rfl, h_WAQ, h_LAQ, h_TAQ, hb⟩
        refine ⟨_, rfl, ?_⟩
        have HQ4 := Aside0.mk (below_then HQ3.out HQ3.out.size hb)
        have TAQ_4 := Aside0.mk h_TAQ
        have WAQ_4 := Aside0.mk h_WAQ
        have LAQ_4 := Aside0.mk h_LAQ
        have TAP_4 := Aside0.mk (TyI.below TAP_3.out hb)
        have WAP_4 := Aside0.mk (Kd.C_below WAP_3.out hb)
        have LAP_4 := Aside0.mk (LAP_3.out)
        have GA_4 := Aside0.mk (blk_below GA_3.out hb)
        have GEGA_4 := Aside0.mk (GEGA_3.out)
        have GB_4 := Aside0.mk (blk_below GB_3.out hb)
        have GEGB_4 := Aside0.mk (GEGB_3.out)
        have NAB_4 := NAB_3
        clear hb h_TAQ h_WAQ h_LAQ
        refine hK.out _ _ ⟨(pw_cell_below HQ4.out (blk_cell VA5.out 0)), (pw_cell_below HQ4.out (blk_cell VA5.out 1)), (pw_cell_below HQ4.out (blk_cell VA5.out 2)), (pw_cell_below HQ4.out (blk_cell VA5.out 3)), (pw_cell_below HQ4.out (blk_cell VA5.out 4)), (pw_cell_below HQ4.out (blk_cell VA5.out 5)), (pw_cell_below HQ4.out (blk_cell VA5.out 6)), (pw_cell_below HQ4.out (blk_cell VB5.out 0)), (pw_cell_below HQ4.out (blk_cell VB5.out 1)), (pw_cell_below HQ4.out (blk_cell VB5.out 2)), (pw_cell_below HQ4.out (blk_cell VB5.out 3)), (pw_cell_below HQ4.out (blk_cell VB5.out 4)), (pw_cell_below HQ4.out (blk_cell VB5.out 5)), (pw_cell_below HQ4.out (blk_cell VB5.out 6))⟩ (fun hHeld => ?_)
        clear hK K
        refine norm_ (a' := ?_) ?_ ?_
        rotate_left
        · show Act.put _ (some 39) _ = _
          simp only [Act.put, List.setIfInBounds_toArray, List.set_cons_zero, List.set_cons_succ, i64_w, i32_w]
          rfl
        exact norm_ (by simp only [putAll, Act.put, List.setIfInBounds_toArray, List.set_cons_zero, List.set_cons_succ]) (hCont (.agg #[.int .i64 0, .int .u64 (Int.tmod vh 8), .int .i64 s.j.ce, .int .u64 s.j.cr, .int .i64 0, .int .u64 (chainOf n (startOf 0 sx)), .slice AP W1.length cP], .agg #[.int .i64 0, .int .u64 (Int.tmod uh 8), .int .i64 s.j.ce, .int .u64 s.j.cr, .int .i64 0, .int .u64 (chainOf n (startOf 0 sx)), .slice AQ W2.length cQ], .pointer (some ⟨ga, 0, none⟩), .pointer (some ⟨gb, 0, none⟩)) _ ⟨hHeld, ⟨AP, cP, AQ, cQ, ga, gb, rfl, TAP_4.out, WAP_4.out, LAP_4.out, TAQ_4.out, WAQ_4.out, LAQ_4.out, GA_4.out, GEGA_4.out, GB_4.out, GEGB_4.out, NAB_4.out⟩, HQ4.out⟩)
  rintro s_ wj ⟨hS_, ⟨AP, cP, AQ, cQ, ga, gb, rfl, h_TAP, h_WAP, h_LAP, h_TAQ, h_WAQ, h_LAQ, h_GA, h_GEGA, h_GB, h_GEGB, h_NAB⟩, hbj⟩
  have TAP := Aside0.mk h_TAP
  have WAP := Aside0.mk h_WAP
  have LAP := Aside0.mk h_LAP
  have TAQ := Aside0.mk h_TAQ
  have WAQ := Aside0.mk h_WAQ
  have LAQ := Aside0.mk h_LAQ
  have GA := Aside0.mk h_GA
  have GEGA := Aside0.mk h_GEGA
  have GB := Aside0.mk h_GB
  have GEGB := Aside0.mk h_GEGB
  have NAB := Aside0.mk h_NAB
  have HJ := Aside0.mk hbj
  clear hbj h_TAP h_WAP h_LAP h_TAQ h_WAQ h_LAQ h_GA h_GEGA h_GB h_GEGB h_NAB
  have hHeld : wj.cell? ⟨w.heap.size + 1, 0, none⟩ = some (.int .i64 vs) ∧ wj.cell? ⟨w.heap.size + 1, 1, none⟩ = some (.int .u64 vh) ∧ wj.cell? ⟨w.heap.size + 1, 2, none⟩ = some (.int .i64 vse) ∧ wj.cell? ⟨w.heap.size + 1, 3, none⟩ = some (.int .u64 vsr) ∧ wj.cell? ⟨w.heap.size + 1, 4, none⟩ = some (.int .i64 vte) ∧ wj.cell? ⟨w.heap.size + 1, 5, none⟩ = some (.int .u64 vtr) ∧ wj.cell? ⟨w.heap.size + 1, 6, none⟩ = some (.slice A3 z3.length c3) ∧ wj.cell? ⟨w.heap.size + 1 + 1, 0, none⟩ = some (.int .i64 us) ∧ wj.cell? ⟨w.heap.size + 1 + 1, 1, none⟩ = some (.int .u64 uh) ∧ wj.cell? ⟨w.heap.size + 1 + 1, 2, none⟩ = some (.int .i64 use) ∧ wj.cell? ⟨w.heap.size + 1 + 1, 3, none⟩ = some (.int .u64 usr) ∧ wj.cell? ⟨w.heap.size + 1 + 1, 4, none⟩ = some (.int .i64 ute) ∧ wj.cell? ⟨w.heap.size + 1 + 1, 5, none⟩ = some (.int .u64 utr) ∧ wj.cell? ⟨w.heap.size + 1 + 1, 6, none⟩ = some (.slice A4 z4.length c4) := hS_
  refine norm_ (a' := ?_) ?_ ?_
  rotate_left
  · simp only [putAll, Act.put, List.setIfInBounds_toArray, List.set_cons_zero, List.set_cons_succ]
    rfl
  refine last_ (i := 8) (N := none) qK25 rfl rfl (by kernel_rfl) (by decide) (fun K hK => ?_)
  refine store_step (by rfl) rfl 43 (.tmp 13) (.tmp 36) rfl ga 43 _ #[.int .i64 0, .int .u64 (Int.tmod vh 8), .int .i64 s.j.ce, .int .u64 s.j.cr, .int .i64 0, .int .u64 (chainOf n (startOf 0 sx)), .slice AP W1.length cP] rfl rfl GA.out rfl (by kernel_rfl) (by simp [Value.oneCell']) ?_
  intro w6 hbk hgr
  have A6 := Aside0.mk hbk
  have HJ6 := Aside0.mk (HJ.out.grown hgr HJ.out.size (fun k hk => by cases hk; exact GEGA.out))
  have GB6 := Aside0.mk (blk_grown GB.out hgr (fun e => by injection e with e; exact NAB.out e.symm))
  have WP6 := Aside0.mk (CI_over WAP.out TAP.out GA.out (by decide) hgr)
  have WQ6 := Aside0.mk (CI_over WAQ.out TAQ.out GA.out (by decide) hgr)
  have TP6 := Aside0.mk (TAP.out.over GA.out (by decide) hgr)
  have TQ6 := Aside0.mk (TAQ.out.over GA.out (by decide) hgr)
  clear hbk hgr
  refine hK.out _ _ ?_
  clear hK K
  refine last_ (i := 9) (N := none) qK26 rfl rfl (by kernel_rfl) (by decide) (fun K hK => ?_)
  refine store_step (by rfl) rfl 43 (.tmp 14) (.tmp 39) rfl gb 43 _ #[.int .i64 0, .int .u64 (Int.tmod uh 8), .int .i64 s.j.ce, .int .u64 s.j.cr, .int .i64 0, .int .u64 (chainOf n (startOf 0 sx)), .slice AQ W2.length cQ] rfl rfl GB6.out rfl (by kernel_rfl) (by simp [Value.oneCell']) ?_
  intro w7 hbk hgr
  have B7 := Aside0.mk hbk
  have HJ7 := Aside0.mk (HJ6.out.grown hgr HJ6.out.size (fun k hk => by cases hk; exact GEGB.out))
  have A7 := Aside0.mk (blk_grown A6.out hgr (fun e => by injection e with e; exact NAB.out e))
  have WP7 := Aside0.mk (CI_over WP6.out TP6.out GB6.out (by decide) hgr)
  have TYP7 := Aside0.mk (TP6.out.over GB6.out (by decide) hgr)
  have WQ7 := Aside0.mk (CI_over WQ6.out TQ6.out GB6.out (by decide) hgr)
  clear hbk hgr
  refine hK.out _ _ ?_
  clear hK K
  refine done_ (by kernel_rfl) ?_
  have hm1 := mkWho_len lx.length HLN.out.1 z3
  have hi1 := mkWho_in lx.length HLN.out.1 z3
  have hr1 := mkWho_rises lx.length z3
  rw [WF1.out] at hm1 hi1 hr1
  obtain ⟨kv1, hkv1⟩ := (keep_right lx W1 sx bx (Int.tmod vh 8) s.j.cr (chainOf n (startOf 0 sx)) HLN.out.2 hm1 hr1 hi1).rounds
  have KV1 : Aside0 (vote_Right.f kv1 lx sx bx 0 (Int.tmod vh 8) s.j.ce s.j.cr 0 (chainOf n (startOf 0 sx)) W1 = some true) := ⟨by rw [HSF.out.2.2.2]; exact hkv1⟩
  have NG1 : Aside0 (∀ x ∈ W1, 0 ≤ x) := ⟨fun x hx => (hi1 x hx).1⟩
  have WI1 : Aside0 (∀ j, j < W1.length → 0 ≤ rd W1 (j : Int) ∧ rd W1 (j : Int) < (lx.length : Int)) := ⟨fun j hj => hi1 _ (rd_mem W1 j hj)⟩
  have WL1 : Aside0 (W1.length ≤ 17592186043904) := ⟨by have h1 := hm1.2; have h2 := HNX.out; omega⟩
  clear hm1 hi1 hr1 hkv1
  have hm2 := mkWho_len lx.length HLN.out.1 z4
  have hi2 := mkWho_in lx.length HLN.out.1 z4
  have hr2 := mkWho_rises lx.length z4
  rw [WF2.out] at hm2 hi2 hr2
  obtain ⟨kv2, hkv2⟩ := (keep_right lx W2 sx bx (Int.tmod uh 8) s.j.cr (chainOf n (startOf 0 sx)) HLN.out.2 hm2 hr2 hi2).rounds
  have KV2 : Aside0 (vote_Right.f kv2 lx sx bx 0 (Int.tmod uh 8) s.j.ce s.j.cr 0 (chainOf n (startOf 0 sx)) W2 = some true) := ⟨by rw [HSF.out.2.2.2]; exact hkv2⟩
  have NG2 : Aside0 (∀ x ∈ W2, 0 ≤ x) := ⟨fun x hx => (hi2 x hx).1⟩
  have WI2 : Aside0 (∀ j, j < W2.length → 0 ≤ rd W2 (j : Int) ∧ rd W2 (j : Int) < (lx.length : Int)) := ⟨fun j hj => hi2 _ (rd_mem W2 j hj)⟩
  have WL2 : Aside0 (W2.length ≤ 17592186043904) := ⟨by have h1 := hm2.2; have h2 := HNX.out; omega⟩
  clear hm2 hi2 hr2 hkv2
  obtain ⟨tp, htp⟩ : ∃ t : LS, (⟨s.j, s.ep, s.bf, marks s.nw W1⟩ : LS) = t := ⟨_, rfl⟩
  obtain ⟨tq, htq⟩ : ∃ t : LS, (⟨s.j, s.ep, s.bf, marks (marks s.nw W1) W2⟩ : LS) = t := ⟨_, rfl⟩
  obtain ⟨tr, htr⟩ : ∃ t : LS, (⟨s.j, s.ep, s.bf, marks s.nw W2⟩ : LS) = t := ⟨_, rfl⟩
  have KC1 : Aside0 (countOf sx (chainOf n) s true s.j.ce s.j.cr 0 (chainOf n (startOf 0 sx)) W1 = (tp, true)) := ⟨by rw [← htp]; exact keep_count sx (chainOf n) s W1 HSF.out.1⟩
  have KC2 : Aside0 (countOf sx (chainOf n) tp true s.j.ce s.j.cr 0 (chainOf n (startOf 0 sx)) W2 = (tq, true)) := ⟨by rw [← htq, ← htp]; exact keep_count sx (chainOf n) ⟨s.j, s.ep, s.bf, marks s.nw W1⟩ W2 HSF.out.1⟩
  have KC3 : Aside0 (countOf sx (chainOf n) s true s.j.ce s.j.cr 0 (chainOf n (startOf 0 sx)) W2 = (tr, true)) := ⟨by rw [← htr]; exact keep_count sx (chainOf n) s W2 HSF.out.1⟩
  have KC4 : Aside0 (countOf sx (chainOf n) tr true s.j.ce s.j.cr 0 (chainOf n (startOf 0 sx)) W1 = (tq, true)) := ⟨by rw [← htq, ← htr, marks_turn s.nw W1 W2 NG1.out NG2.out]; exact keep_count sx (chainOf n) ⟨s.j, s.ep, s.bf, marks s.nw W2⟩ W1 HSF.out.1⟩
  have KC5 : Aside0 (countOf sx (chainOf n) tp true s.j.ce s.j.cr 0 (chainOf n (startOf 0 sx)) W1 = (tp, true)) := ⟨by rw [← htp]; have h := keep_count sx (chainOf n) ⟨s.j, s.ep, s.bf, marks s.nw W1⟩ W1 HSF.out.1; rw [marks_twice s.nw W1 NG1.out] at h; exact h⟩
  have LN_tp : Aside0 (tp.bf.length = lx.length ∧ tp.nw.length = lx.length) := ⟨by rw [← htp]; exact ⟨HSF.out.2.1, by show (marks s.nw W1).length = _; rw [marks_len]; exact HSF.out.2.2.1⟩⟩
  have LN_tr : Aside0 (tr.bf.length = lx.length ∧ tr.nw.length = lx.length) := ⟨by rw [← htr]; exact ⟨HSF.out.2.1, by show (marks s.nw W2).length = _; rw [marks_len]; exact HSF.out.2.2.1⟩⟩
  have LN_s : Aside0 (s.bf.length = lx.length ∧ s.nw.length = lx.length) := ⟨⟨HSF.out.2.1, HSF.out.2.2.1⟩⟩
  clear htp htq htr hHeld GA GB HJ WAP WAQ TAP TAQ
  have BM7 := Aside0.mk (blk_below BM5.out HJ7.out)
  have S7 := Aside0.mk (blk_below S5.out HJ7.out)
  have CB7 := Aside0.mk (blk_below CB5.out HJ7.out)
  have SIs7 := Aside0.mk (SI5.out.below HJ7.out)
  have CN7 := Aside0.mk SIs7.out.c
  have HB7 := Aside0.mk (below_then HB5.out HB5.out.size HJ7.out)
  have HC7_7 : Aside0 (Below w7.heap.size w7 w7) := ⟨Below.refl _ _⟩
  have e1 := blk_cell BM7.out
  have e2 := blk_cell S7.out
  have e3 := blk_cell A7.out
  have e4 := blk_cell CB7.out
  go_upto_region 9 with (go_at_call 18; with_reducible refine (count_calls AX cX lx sx bx s AB cB AN cN 0 (Int.tmod vh 8) s.j.ce s.j.cr 0 (chainOf n (startOf 0 sx)) AP cP W1 true kv1 (.func (.func f) #[] C) (chainOf n) _ SIs7.out WP7.out LAP.out KV1.out (fun _ j hj => by have h := WI1.out j hj; have h2 := LN_s.out; omega) WL1.out (by omega)).mono ?_; rw [KC1.out]; rintro x u7 ⟨D1, d1, D2, d2, rfl, hs, hb⟩; simp only [stC]; have HU7 := Aside0.mk hb; have SI_TP_u := Aside0.mk hs; clear hs hb)
  clear e1 e2 e3 e4
  obtain ⟨w8, hw⟩ : ∃ x, x = u7.alloc (.cells #[.bool tp.j.b0, .bool tp.j.b1, .bool tp.j.b2, .bool tp.j.b3, .int .i64 tp.j.pe, .int .u64 tp.j.pr, .int .i64 tp.j.ce, .int .u64 tp.j.cr, .int .i64 tp.j.fe, .int .u64 tp.j.fr, .int .i64 tp.ep, .slice D1 tp.bf.length d1, .slice D2 tp.nw.length d2] 39) := ⟨_, rfl⟩
  obtain ⟨gp, hg⟩ : ∃ g, u7.heap.size = g := ⟨_, rfl⟩
  have hul : Below u7.heap.size u7 w8 := by rw [hw]; exact below_alloc (Below.refl _ _) _
  have hst := below_then HU7.out HU7.out.size hul
  have TP8 : Aside0 (w8.heap[gp]? = some (.cells #[.bool tp.j.b0, .bool tp.j.b1, .bool tp.j.b2, .bool tp.j.b3, .int .i64 tp.j.pe, .int .u64 tp.j.pr, .int .i64 tp.j.ce, .int .u64 tp.j.cr, .int .i64 tp.j.fe, .int .u64 tp.j.fr, .int .i64 tp.ep, .slice D1 tp.bf.length d1, .slice D2 tp.nw.length d2] 39 (0, 0))) := ⟨by rw [hw, ← hg]; exact heap_alloc_new _ _⟩
  have SITP8 := Aside0.mk (SI_TP_u.out.below hul)
  have GETP : Aside0 (w7.heap.size ≤ gp) := ⟨by rw [← hg]; exact HU7.out.size⟩
  have BM8 := Aside0.mk (blk_below BM7.out hst)
  have S8 := Aside0.mk (blk_below S7.out hst)
  have CB8 := Aside0.mk (blk_below CB7.out hst)
  have A8 := Aside0.mk (blk_below A7.out hst)
  have B8 := Aside0.mk (blk_below B7.out hst)
  have SIs8 := Aside0.mk (SIs7.out.below hst)
  have WP8 := Aside0.mk (Kd.C_below WP7.out hst)
  have WQ8 := Aside0.mk (Kd.C_below WQ7.out hst)
  have HB8 := Aside0.mk (below_then HB7.out HB7.out.size hst)
  have HC7_8 := Aside0.mk (below_then HC7_7.out HC7_7.out.size hst)
  rw [← hw, hg]
  clear hw hg hul hst SI_TP_u HU7
  have e1 := blk_cell BM8.out
  have e2 := blk_cell TP8.out
  have e3 := blk_cell B8.out
  have e4 := blk_cell CB8.out
  go_upto_region 10 with (go_at_call 18; with_reducible refine (count_calls AX cX lx sx bx tp D1 d1 D2 d2 0 (Int.tmod uh 8) s.j.ce s.j.cr 0 (chainOf n (startOf 0 sx)) AQ cQ W2 true kv2 (.func (.func f) #[] C) (chainOf n) _ SITP8.out WQ8.out LAQ.out KV2.out (fun _ j hj => by have h := WI2.out j hj; have h2 := LN_tp.out; omega) WL2.out (by omega)).mono ?_; rw [KC2.out]; rintro x u8 ⟨D3, d3, D4, d4, rfl, hs, hb⟩; simp only [stC]; have HU8 := Aside0.mk hb; have SI_TQ_u := Aside0.mk hs; clear hs hb)
  clear e1 e2 e3 e4
  obtain ⟨w9, hw⟩ : ∃ x, x = u8.alloc (.cells #[.bool tq.j.b0, .bool tq.j.b1, .bool tq.j.b2, .bool tq.j.b3, .int .i64 tq.j.pe, .int .u64 tq.j.pr, .int .i64 tq.j.ce, .int .u64 tq.j.cr, .int .i64 tq.j.fe, .int .u64 tq.j.fr, .int .i64 tq.ep, .slice D3 tq.bf.length d3, .slice D4 tq.nw.length d4] 39) := ⟨_, rfl⟩
  obtain ⟨gq, hg⟩ : ∃ g, u8.heap.size = g := ⟨_, rfl⟩
  have hul : Below u8.heap.size u8 w9 := by rw [hw]; exact below_alloc (Below.refl _ _) _
  have hst := below_then HU8.out HU8.out.size hul
  have TQ9 : Aside0 (w9.heap[gq]? = some (.cells #[.bool tq.j.b0, .bool tq.j.b1, .bool tq.j.b2, .bool tq.j.b3, .int .i64 tq.j.pe, .int .u64 tq.j.pr, .int .i64 tq.j.ce, .int .u64 tq.j.cr, .int .i64 tq.j.fe, .int .u64 tq.j.fr, .int .i64 tq.ep, .slice D3 tq.bf.length d3, .slice D4 tq.nw.length d4] 39 (0, 0))) := ⟨by rw [hw, ← hg]; exact heap_alloc_new _ _⟩
  have SITQ9 := Aside0.mk (SI_TQ_u.out.below hul)
  have GETQ : Aside0 (w8.heap.size ≤ gq) := ⟨by rw [← hg]; exact HU8.out.size⟩
  have BM9 := Aside0.mk (blk_below BM8.out hst)
  have S9 := Aside0.mk (blk_below S8.out hst)
  have CB9 := Aside0.mk (blk_below CB8.out hst)
  have A9 := Aside0.mk (blk_below A8.out hst)
  have B9 := Aside0.mk (blk_below B8.out hst)
  have SIs9 := Aside0.mk (SIs8.out.below hst)
  have WP9 := Aside0.mk (Kd.C_below WP8.out hst)
  have WQ9 := Aside0.mk (Kd.C_below WQ8.out hst)
  have TP9 := Aside0.mk (blk_below TP8.out hst)
  have SITP9 := Aside0.mk (SITP8.out.below hst)
  have HB9 := Aside0.mk (below_then HB8.out HB8.out.size hst)
  have HC7_9 := Aside0.mk (below_then HC7_8.out HC7_8.out.size hst)
  rw [← hw, hg]
  clear hw hg hul hst SI_TQ_u HU8
  have e1 := blk_cell BM9.out
  have e2 := blk_cell S9.out
  have e3 := blk_cell B9.out
  have e4 := blk_cell CB9.out
  go_upto_region 11 with (go_at_call 18; with_reducible refine (count_calls AX cX lx sx bx s AB cB AN cN 0 (Int.tmod uh 8) s.j.ce s.j.cr 0 (chainOf n (startOf 0 sx)) AQ cQ W2 true kv2 (.func (.func f) #[] C) (chainOf n) _ SIs9.out WQ9.out LAQ.out KV2.out (fun _ j hj => by have h := WI2.out j hj; have h2 := LN_s.out; omega) WL2.out (by omega)).mono ?_; rw [KC3.out]; rintro x u9 ⟨D5, d5, D6, d6, rfl, hs, hb⟩; simp only [stC]; have HU9 := Aside0.mk hb; have SI_TR_u := Aside0.mk hs; clear hs hb)
  clear e1 e2 e3 e4
  obtain ⟨w10, hw⟩ : ∃ x, x = u9.alloc (.cells #[.bool tr.j.b0, .bool tr.j.b1, .bool tr.j.b2, .bool tr.j.b3, .int .i64 tr.j.pe, .int .u64 tr.j.pr, .int .i64 tr.j.ce, .int .u64 tr.j.cr, .int .i64 tr.j.fe, .int .u64 tr.j.fr, .int .i64 tr.ep, .slice D5 tr.bf.length d5, .slice D6 tr.nw.length d6] 39) := ⟨_, rfl⟩
  obtain ⟨gr, hg⟩ : ∃ g, u9.heap.size = g := ⟨_, rfl⟩
  have hul : Below u9.heap.size u9 w10 := by rw [hw]; exact below_alloc (Below.refl _ _) _
  have hst := below_then HU9.out HU9.out.size hul
  have TR10 : Aside0 (w10.heap[gr]? = some (.cells #[.bool tr.j.b0, .bool tr.j.b1, .bool tr.j.b2, .bool tr.j.b3, .int .i64 tr.j.pe, .int .u64 tr.j.pr, .int .i64 tr.j.ce, .int .u64 tr.j.cr, .int .i64 tr.j.fe, .int .u64 tr.j.fr, .int .i64 tr.ep, .slice D5 tr.bf.length d5, .slice D6 tr.nw.length d6] 39 (0, 0))) := ⟨by rw [hw, ← hg]; exact heap_alloc_new _ _⟩
  have SITR10 := Aside0.mk (SI_TR_u.out.below hul)
  have GETR : Aside0 (w9.heap.size ≤ gr) := ⟨by rw [← hg]; exact HU9.out.size⟩
  have BM10 := Aside0.mk (blk_below BM9.out hst)
  have S10 := Aside0.mk (blk_below S9.out hst)
  have CB10 := Aside0.mk (blk_below CB9.out hst)
  have A10 := Aside0.mk (blk_below A9.out hst)
  have B10 := Aside0.mk (blk_below B9.out hst)
  have SIs10 := Aside0.mk (SIs9.out.below hst)
  have WP10 := Aside0.mk (Kd.C_below WP9.out hst)
  have WQ10 := Aside0.mk (Kd.C_below WQ9.out hst)
  have TP10 := Aside0.mk (blk_below TP9.out hst)
  have SITP10 := Aside0.mk (SITP9.out.below hst)
  have TQ10 := Aside0.mk (blk_below TQ9.out hst)
  have SITQ10 := Aside0.mk (SITQ9.out.below hst)
  have HB10 := Aside0.mk (below_then HB9.out HB9.out.size hst)
  have HC7_10 := Aside0.mk (below_then HC7_9.out HC7_9.out.size hst)
  rw [← hw, hg]
  clear hw hg hul hst SI_TR_u HU9
  have e1 := blk_cell BM10.out
  have e2 := blk_cell TR10.out
  have e3 := blk_cell A10.out
  have e4 := blk_cell CB10.out
  have NE_BM : Aside0 (xb ≠ gr) := ⟨fun e => by have h1 := (Array.getElem?_eq_some_iff.1 BM9.out).1; have h2 := GETR.out; omega⟩
  have NE_S : Aside0 (sb ≠ gr) := ⟨fun e => by have h1 := (Array.getElem?_eq_some_iff.1 S9.out).1; have h2 := GETR.out; omega⟩
  have NE_CB : Aside0 (cb ≠ gr) := ⟨fun e => by have h1 := (Array.getElem?_eq_some_iff.1 CB9.out).1; have h2 := GETR.out; omega⟩
  have NE_A : Aside0 (ga ≠ gr) := ⟨fun e => by have h1 := (Array.getElem?_eq_some_iff.1 A9.out).1; have h2 := GETR.out; omega⟩
  have NE_B : Aside0 (gb ≠ gr) := ⟨fun e => by have h1 := (Array.getElem?_eq_some_iff.1 B9.out).1; have h2 := GETR.out; omega⟩
  have NE_TP : Aside0 (gp ≠ gr) := ⟨fun e => by have h1 := (Array.getElem?_eq_some_iff.1 TP9.out).1; have h2 := GETR.out; omega⟩
  have NE_TQ : Aside0 (gq ≠ gr) := ⟨fun e => by have h1 := (Array.getElem?_eq_some_iff.1 TQ9.out).1; have h2 := GETR.out; omega⟩
  have HG7 : Aside0 (w7.heap.size ≤ gr) := ⟨by have h1 := GETR.out; have h2 := HC7_9.out.size; omega⟩
  have HG0 : Aside0 (w.heap.size ≤ gr) := ⟨by have h1 := GETR.out; have h2 := HB9.out.size; omega⟩
  go_upto_region 12 with (first | (go_at_call 18; with_reducible refine (count_calls AX cX lx sx bx tr D5 d5 D6 d6 0 (Int.tmod vh 8) s.j.ce s.j.cr 0 (chainOf n (startOf 0 sx)) AP cP W1 true kv1 (.func (.func f) #[] C) (chainOf n) _ SITR10.out WP10.out LAP.out KV1.out (fun _ j hj => by have h := WI1.out j hj; have h2 := LN_tr.out; omega) WL1.out (by omega)).mono ?_; rw [KC4.out]; rintro x u10 ⟨D7, d7, D8, d8, rfl, hs, hb⟩; simp only [stC]; have HU10 := Aside0.mk hb; have SI_TZ_u := Aside0.mk hs; clear hs hb; have TYP10 := Aside0.mk (TYP7.out.below (below_then HC7_10.out HC7_10.out.size HU10.out))) | (refine Block.store_block rfl rfl 39 (.tmp 19) (.tmp 70) rfl gr 39 _ _ rfl rfl (blk_below TR10.out HU10.out) rfl (by kernel_rfl) (by simp [Value.oneCell']) ?_; intro w11 hbk hgr; have TZ11 := Aside0.mk hbk; have hzz := (below_then HC7_10.out HC7_10.out.size HU10.out).grown hgr (below_then HC7_10.out HC7_10.out.size HU10.out).size (fun k hk => by cases hk; exact HG7.out); have HC7_11 := Aside0.mk hzz; have HB11 := Aside0.mk ((below_then HB10.out HB10.out.size HU10.out).grown hgr (below_then HB10.out HB10.out.size HU10.out).size (fun k hk => by cases hk; exact HG0.out)); have BM11 := Aside0.mk (blk_grown (blk_below BM10.out HU10.out) hgr (fun e => by injection e with e; exact NE_BM.out e)); have S11 := Aside0.mk (blk_grown (blk_below S10.out HU10.out) hgr (fun e => by injection e with e; exact NE_S.out e)); have CB11 := Aside0.mk (blk_grown (blk_below CB10.out HU10.out) hgr (fun e => by injection e with e; exact NE_CB.out e)); have A11 := Aside0.mk (blk_grown (blk_below A10.out HU10.out) hgr (fun e => by injection e with e; exact NE_A.out e)); have B11 := Aside0.mk (blk_grown (blk_below B10.out HU10.out) hgr (fun e => by injection e with e; exact NE_B.out e)); have SIs11 := Aside0.mk ((SIs10.out.below HU10.out).over CN7.out (blk_below TR10.out HU10.out) (by decide) hgr hzz); have TP11 := Aside0.mk (blk_grown (blk_below TP10.out HU10.out) hgr (fun e => by injection e with e; exact NE_TP.out e)); have SITP11 := Aside0.mk ((SITP10.out.below HU10.out).over CN7.out (blk_below TR10.out HU10.out) (by decide) hgr hzz); have TQ11 := Aside0.mk (blk_grown (blk_below TQ10.out HU10.out) hgr (fun e => by injection e with e; exact NE_TQ.out e)); have SITQ11 := Aside0.mk ((SITQ10.out.below HU10.out).over CN7.out (blk_below TR10.out HU10.out) (by decide) hgr hzz); have SITZ11 := Aside0.mk (SI_TZ_u.out.over CN7.out (blk_below TR10.out HU10.out) (by decide) hgr hzz); have WP11 := Aside0.mk (CI_over (Kd.C_below WP10.out HU10.out) TYP10.out (blk_below TR10.out HU10.out) (by decide) hgr); clear hbk hgr hzz))
  clear e1 e2 e3 e4
  have e1 := blk_cell BM11.out
  have e2 := blk_cell TP11.out
  have e3 := blk_cell A11.out
  have e4 := blk_cell CB11.out
  go_upto_region 13 with (go_at_call 18; with_reducible refine (count_calls AX cX lx sx bx tp D1 d1 D2 d2 0 (Int.tmod vh 8) s.j.ce s.j.cr 0 (chainOf n (startOf 0 sx)) AP cP W1 true kv1 (.func (.func f) #[] C) (chainOf n) _ SITP11.out WP11.out LAP.out KV1.out (fun _ j hj => by have h := WI1.out j hj; have h2 := LN_tp.out; omega) WL1.out (by omega)).mono ?_; rw [KC5.out]; rintro x u11 ⟨D9, d9, D0, d0, rfl, hs, hb⟩; simp only [stC]; have HU11 := Aside0.mk hb; have SI_TT_u := Aside0.mk hs; clear hs hb)
  clear e1 e2 e3 e4
  obtain ⟨w12, hw⟩ : ∃ x, x = u11.alloc (.cells #[.bool tp.j.b0, .bool tp.j.b1, .bool tp.j.b2, .bool tp.j.b3, .int .i64 tp.j.pe, .int .u64 tp.j.pr, .int .i64 tp.j.ce, .int .u64 tp.j.cr, .int .i64 tp.j.fe, .int .u64 tp.j.fr, .int .i64 tp.ep, .slice D9 tp.bf.length d9, .slice D0 tp.nw.length d0] 39) := ⟨_, rfl⟩
  obtain ⟨gt, hg⟩ : ∃ g, u11.heap.size = g := ⟨_, rfl⟩
  have hul : Below u11.heap.size u11 w12 := by rw [hw]; exact below_alloc (Below.refl _ _) _
  have hst := below_then HU11.out HU11.out.size hul
  have TT12 : Aside0 (w12.heap[gt]? = some (.cells #[.bool tp.j.b0, .bool tp.j.b1, .bool tp.j.b2, .bool tp.j.b3, .int .i64 tp.j.pe, .int .u64 tp.j.pr, .int .i64 tp.j.ce, .int .u64 tp.j.cr, .int .i64 tp.j.fe, .int .u64 tp.j.fr, .int .i64 tp.ep, .slice D9 tp.bf.length d9, .slice D0 tp.nw.length d0] 39 (0, 0))) := ⟨by rw [hw, ← hg]; exact heap_alloc_new _ _⟩
  have SITT12 := Aside0.mk (SI_TT_u.out.below hul)
  have GETT : Aside0 (w11.heap.size ≤ gt) := ⟨by rw [← hg]; exact HU11.out.size⟩
  have BM12 := Aside0.mk (blk_below BM11.out hst)
  have S12 := Aside0.mk (blk_below S11.out hst)
  have CB12 := Aside0.mk (blk_below CB11.out hst)
  have A12 := Aside0.mk (blk_below A11.out hst)
  have TP12 := Aside0.mk (blk_below TP11.out hst)
  have TQ12 := Aside0.mk (blk_below TQ11.out hst)
  have TZ12 := Aside0.mk (blk_below TZ11.out hst)
  have SIs12 := Aside0.mk (SIs11.out.below hst)
  have SITP12 := Aside0.mk (SITP11.out.below hst)
  have SITQ12 := Aside0.mk (SITQ11.out.below hst)
  have SITZ12 := Aside0.mk (SITZ11.out.below hst)
  have WP12 := Aside0.mk (Kd.C_below WP11.out hst)
  have HB12 := Aside0.mk (below_then HB11.out HB11.out.size hst)
  have HC7_12 := Aside0.mk (below_then HC7_11.out HC7_11.out.size hst)
  rw [← hw, hg]
  clear hw hg hul hst SI_TT_u HU11
  have CN12 := Aside0.mk SIs12.out.c
  refine start_ (n := 23) (S := fun w' => w'.cell? ⟨gq, 0, none⟩ = some (.bool tq.j.b0) ∧ w'.cell? ⟨gq, 1, none⟩ = some (.bool tq.j.b1) ∧ w'.cell? ⟨gq, 2, none⟩ = some (.bool tq.j.b2) ∧ w'.cell? ⟨gq, 3, none⟩ = some (.bool tq.j.b3) ∧ w'.cell? ⟨gq, 4, none⟩ = some (.int .i64 tq.j.pe) ∧ w'.cell? ⟨gq, 5, none⟩ = some (.int .u64 tq.j.pr) ∧ w'.cell? ⟨gq, 6, none⟩ = some (.int .i64 tq.j.ce) ∧ w'.cell? ⟨gq, 7, none⟩ = some (.int .u64 tq.j.cr) ∧ w'.cell? ⟨gq, 8, none⟩ = some (.int .i64 tq.j.fe) ∧ w'.cell? ⟨gq, 9, none⟩ = some (.int .u64 tq.j.fr) ∧ w'.cell? ⟨gq, 10, none⟩ = some (.int .i64 tq.ep) ∧ w'.cell? ⟨gq, 11, none⟩ = some (.slice D3 tq.bf.length d3) ∧ w'.cell? ⟨gq, 12, none⟩ = some (.slice D4 tq.nw.length d4) ∧ w'.cell? ⟨gr, 0, none⟩ = some (.bool tq.j.b0) ∧ w'.cell? ⟨gr, 1, none⟩ = some (.bool tq.j.b1) ∧ w'.cell? ⟨gr, 2, none⟩ = some (.bool tq.j.b2) ∧ w'.cell? ⟨gr, 3, none⟩ = some (.bool tq.j.b3) ∧ w'.cell? ⟨gr, 4, none⟩ = some (.int .i64 tq.j.pe) ∧ w'.cell? ⟨gr, 5, none⟩ = some (.int .u64 tq.j.pr) ∧ w'.cell? ⟨gr, 6, none⟩ = some (.int .i64 tq.j.ce) ∧ w'.cell? ⟨gr, 7, none⟩ = some (.int .u64 tq.j.cr) ∧ w'.cell? ⟨gr, 8, none⟩ = some (.int .i64 tq.j.fe) ∧ w'.cell? ⟨gr, 9, none⟩ = some (.int .u64 tq.j.fr) ∧ w'.cell? ⟨gr, 10, none⟩ = some (.int .i64 tq.ep) ∧ w'.cell? ⟨gr, 11, none⟩ = some (.slice D7 tq.bf.length d7) ∧ w'.cell? ⟨gr, 12, none⟩ = some (.slice D8 tq.nw.length d8) ∧ w'.cell? ⟨gt, 0, none⟩ = some (.bool tp.j.b0) ∧ w'.cell? ⟨gt, 1, none⟩ = some (.bool tp.j.b1) ∧ w'.cell? ⟨gt, 2, none⟩ = some (.bool tp.j.b2) ∧ w'.cell? ⟨gt, 3, none⟩ = some (.bool tp.j.b3) ∧ w'.cell? ⟨gt, 4, none⟩ = some (.int .i64 tp.j.pe) ∧ w'.cell? ⟨gt, 5, none⟩ = some (.int .u64 tp.j.pr) ∧ w'.cell? ⟨gt, 6, none⟩ = some (.int .i64 tp.j.ce) ∧ w'.cell? ⟨gt, 7, none⟩ = some (.int .u64 tp.j.cr) ∧ w'.cell? ⟨gt, 8, none⟩ = some (.int .i64 tp.j.fe) ∧ w'.cell? ⟨gt, 9, none⟩ = some (.int .u64 tp.j.fr) ∧ w'.cell? ⟨gt, 10, none⟩ = some (.int .i64 tp.ep) ∧ w'.cell? ⟨gt, 11, none⟩ = some (.slice D9 tp.bf.length d9) ∧ w'.cell? ⟨gt, 12, none⟩ = some (.slice D0 tp.nw.length d0) ∧ w'.cell? ⟨gp, 0, none⟩ = some (.bool tp.j.b0) ∧ w'.cell? ⟨gp, 1, none⟩ = some (.bool tp.j.b1) ∧ w'.cell? ⟨gp, 2, none⟩ = some (.bool tp.j.b2) ∧ w'.cell? ⟨gp, 3, none⟩ = some (.bool tp.j.b3) ∧ w'.cell? ⟨gp, 4, none⟩ = some (.int .i64 tp.j.pe) ∧ w'.cell? ⟨gp, 5, none⟩ = some (.int .u64 tp.j.pr) ∧ w'.cell? ⟨gp, 6, none⟩ = some (.int .i64 tp.j.ce) ∧ w'.cell? ⟨gp, 7, none⟩ = some (.int .u64 tp.j.cr) ∧ w'.cell? ⟨gp, 8, none⟩ = some (.int .i64 tp.j.fe) ∧ w'.cell? ⟨gp, 9, none⟩ = some (.int .u64 tp.j.fr) ∧ w'.cell? ⟨gp, 10, none⟩ = some (.int .i64 tp.ep) ∧ w'.cell? ⟨gp, 11, none⟩ = some (.slice D1 tp.bf.length d1) ∧ w'.cell? ⟨gp, 12, none⟩ = some (.slice D2 tp.nw.length d2) ∧ w'.cell? ⟨sb, 0, none⟩ = some (.bool s.j.b0) ∧ w'.cell? ⟨sb, 1, none⟩ = some (.bool s.j.b1) ∧ w'.cell? ⟨sb, 2, none⟩ = some (.bool s.j.b2) ∧ w'.cell? ⟨sb, 3, none⟩ = some (.bool s.j.b3) ∧ w'.cell? ⟨sb, 4, none⟩ = some (.int .i64 s.j.pe) ∧ w'.cell? ⟨sb, 5, none⟩ = some (.int .u64 s.j.pr) ∧ w'.cell? ⟨sb, 6, none⟩ = some (.int .i64 s.j.ce) ∧ w'.cell? ⟨sb, 7, none⟩ = some (.int .u64 s.j.cr) ∧ w'.cell? ⟨sb, 8, none⟩ = some (.int .i64 s.j.fe) ∧ w'.cell? ⟨sb, 9, none⟩ = some (.int .u64 s.j.fr) ∧ w'.cell? ⟨sb, 10, none⟩ = some (.int .i64 s.ep) ∧ w'.cell? ⟨sb, 11, none⟩ = some (.slice AB s.bf.length cB) ∧ w'.cell? ⟨sb, 12, none⟩ = some (.slice AN s.nw.length cN) ∧ w'.cell? ⟨xb, 0, none⟩ = some (.slice AX lx.length cX) ∧ w'.cell? ⟨xb, 1, none⟩ = some (.int .i64 sx) ∧ w'.cell? ⟨xb, 2, none⟩ = some (.int .i64 bx) ∧ w'.cell? ⟨cb, 0, none⟩ = some (.func (.func f) #[] C)) (ds := []) qK27 (by kernel_rfl) rfl rfl ⟨(blk_cell TQ12.out 0), (blk_cell TQ12.out 1), (blk_cell TQ12.out 2), (blk_cell TQ12.out 3), (blk_cell TQ12.out 4), (blk_cell TQ12.out 5), (blk_cell TQ12.out 6), (blk_cell TQ12.out 7), (blk_cell TQ12.out 8), (blk_cell TQ12.out 9), (blk_cell TQ12.out 10), (blk_cell TQ12.out 11), (blk_cell TQ12.out 12), (blk_cell TZ12.out 0), (blk_cell TZ12.out 1), (blk_cell TZ12.out 2), (blk_cell TZ12.out 3), (blk_cell TZ12.out 4), (blk_cell TZ12.out 5), (blk_cell TZ12.out 6), (blk_cell TZ12.out 7), (blk_cell TZ12.out 8), (blk_cell TZ12.out 9), (blk_cell TZ12.out 10), (blk_cell TZ12.out 11), (blk_cell TZ12.out 12), (blk_cell TT12.out 0), (blk_cell TT12.out 1), (blk_cell TT12.out 2), (blk_cell TT12.out 3), (blk_cell TT12.out 4), (blk_cell TT12.out 5), (blk_cell TT12.out 6), (blk_cell TT12.out 7), (blk_cell TT12.out 8), (blk_cell TT12.out 9), (blk_cell TT12.out 10), (blk_cell TT12.out 11), (blk_cell TT12.out 12), (blk_cell TP12.out 0), (blk_cell TP12.out 1), (blk_cell TP12.out 2), (blk_cell TP12.out 3), (blk_cell TP12.out 4), (blk_cell TP12.out 5), (blk_cell TP12.out 6), (blk_cell TP12.out 7), (blk_cell TP12.out 8), (blk_cell TP12.out 9), (blk_cell TP12.out 10), (blk_cell TP12.out 11), (blk_cell TP12.out 12), (blk_cell S12.out 0), (blk_cell S12.out 1), (blk_cell S12.out 2), (blk_cell S12.out 3), (blk_cell S12.out 4), (blk_cell S12.out 5), (blk_cell S12.out 6), (blk_cell S12.out 7), (blk_cell S12.out 8), (blk_cell S12.out 9), (blk_cell S12.out 10), (blk_cell S12.out 11), (blk_cell S12.out 12), (blk_cell BM12.out 0), (blk_cell BM12.out 1), (blk_cell BM12.out 2), (blk_cell CB12.out 0)⟩ (fun hHeld => ?_)
  refine pure_ (i := 0) (N := some 80) (v := ?_) (a' := ?_) qK28 rfl rfl (by kernel_rfl) (fun _ _ _ h => h) (Or.inl ⟨by rfl, ?_⟩) ?_ ?_
  rotate_left
  · intro w'
    go_simp
    with_reducible rfl
  rotate_left
  · simp only [Act.put, List.setIfInBounds_toArray, List.set_cons_zero, List.set_cons_succ, i64_w, i32_w]
    rfl
  refine pure_ (i := 1) (N := some 81) (v := ?_) (a' := ?_) qK29 rfl rfl (by kernel_rfl) (fun _ _ _ h => h) (Or.inl ⟨by rfl, ?_⟩) ?_ ?_
  rotate_left
  · intro w'
    go_simp
    with_reducible rfl
  rotate_left
  · simp only [Act.put, List.setIfInBounds_toArray, List.set_cons_zero, List.set_cons_succ, i64_w, i32_w]
    rfl
  refine pure_ (i := 2) (N := some 82) (v := ?_) (a' := ?_) qK30 rfl rfl (by kernel_rfl) (fun _ _ _ h => h) (Or.inl ⟨by rfl, ?_⟩) ?_ ?_
  rotate_left
  · intro w'
    go_simp
    with_reducible rfl
  rotate_left
  · simp only [Act.put, List.setIfInBounds_toArray, List.set_cons_zero, List.set_cons_succ, i64_w, i32_w]
    rfl
  refine pure_ (i := 3) (N := some 83) (v := ?_) (a' := ?_) qK31 rfl rfl (by kernel_rfl) (fun _ _ _ h => h) (Or.inl ⟨by rfl, ?_⟩) ?_ ?_
  rotate_left
  · intro w'
    go_simp
    with_reducible rfl
  rotate_left
  · simp only [Act.put, List.setIfInBounds_toArray, List.set_cons_zero, List.set_cons_succ, i64_w, i32_w]
    rfl
  refine pure_ (i := 4) (N := some 84) (v := ?_) (a' := ?_) qK32 rfl rfl (by kernel_rfl) (fun _ _ _ h => h) (Or.inl ⟨by rfl, ?_⟩) ?_ ?_
  rotate_left
  · intro w'
    go_simp
    with_reducible rfl
  rotate_left
  · simp only [Act.put, List.setIfInBounds_toArray, List.set_cons_zero, List.set_cons_succ, i64_w, i32_w]
    rfl
  refine take_ (i := 5) (N := some 85) (v := ?_) (a' := ?_) qK33 rfl rfl (by kernel_rfl) (fun _ _ _ h => h) (Or.inl ⟨by rfl, ?_⟩) hHeld ?_ ?_
  rotate_left
  · rintro w' ⟨s0, s1, s2, s3, s4, s5, s6, s7, s8, s9, s10, s11, s12, s13, s14, s15, s16, s17, s18, s19, s20, s21, s22, s23, s24, s25, s26, s27, s28, s29, s30, s31, s32, s33, s34, s35, s36, s37, s38, s39, s40, s41, s42, s43, s44, s45, s46, s47, s48, s49, s50, s51, s52, s53, s54, s55, s56, s57, s58, s59, s60, s61, s62, s63, s64, s65, s66, s67, s68⟩
    go_simp
    with_reducible rfl
  rotate_left
  · simp only [Act.put, List.setIfInBounds_toArray, List.set_cons_zero, List.set_cons_succ, i64_w, i32_w]
    rfl
  refine take_ (i := 6) (N := some 86) (v := ?_) (a' := ?_) qK34 rfl rfl (by kernel_rfl) (fun _ _ _ h => h) (Or.inl ⟨by rfl, ?_⟩) hHeld ?_ ?_
  rotate_left
  · rintro w' ⟨s0, s1, s2, s3, s4, s5, s6, s7, s8, s9, s10, s11, s12, s13, s14, s15, s16, s17, s18, s19, s20, s21, s22, s23, s24, s25, s26, s27, s28, s29, s30, s31, s32, s33, s34, s35, s36, s37, s38, s39, s40, s41, s42, s43, s44, s45, s46, s47, s48, s49, s50, s51, s52, s53, s54, s55, s56, s57, s58, s59, s60, s61, s62, s63, s64, s65, s66, s67, s68⟩
    go_simp
    with_reducible rfl
  rotate_left
  · simp only [Act.put, List.setIfInBounds_toArray, List.set_cons_zero, List.set_cons_succ, i64_w, i32_w]
    rfl
  refine one_ (i := 7) (N := some 87) qK35 rfl rfl (by kernel_rfl) (by decide) (fun K hK => ?_)
  refine goes_ Try.func20 (by kernel_rfl) rfl #[.agg #[.bool tq.j.b0, .bool tq.j.b1, .bool tq.j.b2, .bool tq.j.b3, .int .i64 tq.j.pe, .int .u64 tq.j.pr, .int .i64 tq.j.ce, .int .u64 tq.j.cr, .int .i64 tq.j.fe, .int .u64 tq.j.fr, .int .i64 tq.ep, .slice D3 tq.bf.length d3, .slice D4 tq.nw.length d4], .agg #[.bool tq.j.b0, .bool tq.j.b1, .bool tq.j.b2, .bool tq.j.b3, .int .i64 tq.j.pe, .int .u64 tq.j.pr, .int .i64 tq.j.ce, .int .u64 tq.j.cr, .int .i64 tq.j.fe, .int .u64 tq.j.fr, .int .i64 tq.ep, .slice D7 tq.bf.length d7, .slice D8 tq.nw.length d8]] (by rfl) rfl rfl (by simp only [List.map_toArray, List.map_cons, List.map_nil]; rfl) ?_
  with_reducible refine (same_calls tq D3 d3 D4 d4 D7 d7 D8 d8 _ (SIn.same (SITQ12.out.below (below_drew (Below.refl w12.heap.size w12))) (SITZ12.out.below (below_drew (Below.refl w12.heap.size w12))))).mono ?_
  rintro x wq1 ⟨rfl, hb⟩
  refine ⟨_, rfl, ?_⟩
  have HQ1 := Aside0.mk (below_then (below_drew (Below.refl w12.heap.size w12)) (Nat.le_refl _) hb)
  clear hb
  refine hK.out _ _ ⟨(pw_cell_below HQ1.out (blk_cell TQ12.out 0)), (pw_cell_below HQ1.out (blk_cell TQ12.out 1)), (pw_cell_below HQ1.out (blk_cell TQ12.out 2)), (pw_cell_below HQ1.out (blk_cell TQ12.out 3)), (pw_cell_below HQ1.out (blk_cell TQ12.out 4)), (pw_cell_below HQ1.out (blk_cell TQ12.out 5)), (pw_cell_below HQ1.out (blk_cell TQ12.out 6)), (pw_cell_below HQ1.out (blk_cell TQ12.out 7)), (pw_cell_below HQ1.out (blk_cell TQ12.out 8)), (pw_cell_below HQ1.out (blk_cell TQ12.out 9)), (pw_cell_below HQ1.out (blk_cell TQ12.out 10)), (pw_cell_below HQ1.out (blk_cell TQ12.out 11)), (pw_cell_below HQ1.out (blk_cell TQ12.out 12)), (pw_cell_below HQ1.out (blk_cell TZ12.out 0)), (pw_cell_below HQ1.out (blk_cell TZ12.out 1)), (pw_cell_below HQ1.out (blk_cell TZ12.out 2)), (pw_cell_below HQ1.out (blk_cell TZ12.out 3)), (pw_cell_below HQ1.out (blk_cell TZ12.out 4)), (pw_cell_below HQ1.out (blk_cell TZ12.out 5)), (pw_cell_below HQ1.out (blk_cell TZ12.out 6)), (pw_cell_below HQ1.out (blk_cell TZ12.out 7)), (pw_cell_below HQ1.out (blk_cell TZ12.out 8)), (pw_cell_below HQ1.out (blk_cell TZ12.out 9)), (pw_cell_below HQ1.out (blk_cell TZ12.out 10)), (pw_cell_below HQ1.out (blk_cell TZ12.out 11)), (pw_cell_below HQ1.out (blk_cell TZ12.out 12)), (pw_cell_below HQ1.out (blk_cell TT12.out 0)), (pw_cell_below HQ1.out (blk_cell TT12.out 1)), (pw_cell_below HQ1.out (blk_cell TT12.out 2)), (pw_cell_below HQ1.out (blk_cell TT12.out 3)), (pw_cell_below HQ1.out (blk_cell TT12.out 4)), (pw_cell_below HQ1.out (blk_cell TT12.out 5)), (pw_cell_below HQ1.out (blk_cell TT12.out 6)), (pw_cell_below HQ1.out (blk_cell TT12.out 7)), (pw_cell_below HQ1.out (blk_cell TT12.out 8)), (pw_cell_below HQ1.out (blk_cell TT12.out 9)), (pw_cell_below HQ1.out (blk_cell TT12.out 10)), (pw_cell_below HQ1.out (blk_cell TT12.out 11)), (pw_cell_below HQ1.out (blk_cell TT12.out 12)), (pw_cell_below HQ1.out (blk_cell TP12.out 0)), (pw_cell_below HQ1.out (blk_cell TP12.out 1)), (pw_cell_below HQ1.out (blk_cell TP12.out 2)), (pw_cell_below HQ1.out (blk_cell TP12.out 3)), (pw_cell_below HQ1.out (blk_cell TP12.out 4)), (pw_cell_below HQ1.out (blk_cell TP12.out 5)), (pw_cell_below HQ1.out (blk_cell TP12.out 6)), (pw_cell_below HQ1.out (blk_cell TP12.out 7)), (pw_cell_below HQ1.out (blk_cell TP12.out 8)), (pw_cell_below HQ1.out (blk_cell TP12.out 9)), (pw_cell_below HQ1.out (blk_cell TP12.out 10)), (pw_cell_below HQ1.out (blk_cell TP12.out 11)), (pw_cell_below HQ1.out (blk_cell TP12.out 12)), (pw_cell_below HQ1.out (blk_cell S12.out 0)), (pw_cell_below HQ1.out (blk_cell S12.out 1)), (pw_cell_below HQ1.out (blk_cell S12.out 2)), (pw_cell_below HQ1.out (blk_cell S12.out 3)), (pw_cell_below HQ1.out (blk_cell S12.out 4)), (pw_cell_below HQ1.out (blk_cell S12.out 5)), (pw_cell_below HQ1.out (blk_cell S12.out 6)), (pw_cell_below HQ1.out (blk_cell S12.out 7)), (pw_cell_below HQ1.out (blk_cell S12.out 8)), (pw_cell_below HQ1.out (blk_cell S12.out 9)), (pw_cell_below HQ1.out (blk_cell S12.out 10)), (pw_cell_below HQ1.out (blk_cell S12.out 11)), (pw_cell_below HQ1.out (blk_cell S12.out 12)), (pw_cell_below HQ1.out (blk_cell BM12.out 0)), (pw_cell_below HQ1.out (blk_cell BM12.out 1)), (pw_cell_below HQ1.out (blk_cell BM12.out 2)), (pw_cell_below HQ1.out (blk_cell CB12.out 0))⟩ (fun hHeld => ?_)
  clear hK K
  refine norm_ (a' := ?_) ?_ ?_
  rotate_left
  · show Act.put _ (some 87) _ = _
    simp only [Act.put, List.setIfInBounds_toArray, List.set_cons_zero, List.set_cons_succ, i64_w, i32_w]
    rfl
  refine pure_ (i := 8) (N := some 88) (v := ?_) (a' := ?_) qK36 rfl rfl (by kernel_rfl) (fun _ _ _ h => h) (Or.inl ⟨by rfl, ?_⟩) ?_ ?_
  rotate_left
  · intro w'
    go_simp
    with_reducible rfl
  rotate_left
  · simp only [Act.put, List.setIfInBounds_toArray, List.set_cons_zero, List.set_cons_succ, i64_w, i32_w]
    rfl
  refine pure_ (i := 9) (N := some 89) (v := ?_) (a' := ?_) qK37 rfl rfl (by kernel_rfl) (fun _ _ _ h => h) (Or.inl ⟨by rfl, ?_⟩) ?_ ?_
  rotate_left
  · intro w'
    go_simp
    with_reducible rfl
  rotate_left
  · simp only [Act.put, List.setIfInBounds_toArray, List.set_cons_zero, List.set_cons_succ, i64_w, i32_w]
    rfl
  refine take_ (i := 10) (N := some 90) (v := ?_) (a' := ?_) qK38 rfl rfl (by kernel_rfl) (fun _ _ _ h => h) (Or.inl ⟨by rfl, ?_⟩) hHeld ?_ ?_
  rotate_left
  · rintro w' ⟨s0, s1, s2, s3, s4, s5, s6, s7, s8, s9, s10, s11, s12, s13, s14, s15, s16, s17, s18, s19, s20, s21, s22, s23, s24, s25, s26, s27, s28, s29, s30, s31, s32, s33, s34, s35, s36, s37, s38, s39, s40, s41, s42, s43, s44, s45, s46, s47, s48, s49, s50, s51, s52, s53, s54, s55, s56, s57, s58, s59, s60, s61, s62, s63, s64, s65, s66, s67, s68⟩
    go_simp
    with_reducible rfl
  rotate_left
  · simp only [Act.put, List.setIfInBounds_toArray, List.set_cons_zero, List.set_cons_succ, i64_w, i32_w]
    rfl
  refine take_ (i := 11) (N := some 91) (v := ?_) (a' := ?_) qK39 rfl rfl (by kernel_rfl) (fun _ _ _ h => h) (Or.inl ⟨by rfl, ?_⟩) hHeld ?_ ?_
  rotate_left
  · rintro w' ⟨s0, s1, s2, s3, s4, s5, s6, s7, s8, s9, s10, s11, s12, s13, s14, s15, s16, s17, s18, s19, s20, s21, s22, s23, s24, s25, s26, s27, s28, s29, s30, s31, s32, s33, s34, s35, s36, s37, s38, s39, s40, s41, s42, s43, s44, s45, s46, s47, s48, s49, s50, s51, s52, s53, s54, s55, s56, s57, s58, s59, s60, s61, s62, s63, s64, s65, s66, s67, s68⟩
    go_simp
    with_reducible rfl
  rotate_left
  · simp only [Act.put, List.setIfInBounds_toArray, List.set_cons_zero, List.set_cons_succ, i64_w, i32_w]
    rfl
  refine one_ (i := 12) (N := some 92) qK40 rfl rfl (by kernel_rfl) (by decide) (fun K hK => ?_)
  refine goes_ Try.func20 (by kernel_rfl) rfl #[.agg #[.bool tp.j.b0, .bool tp.j.b1, .bool tp.j.b2, .bool tp.j.b3, .int .i64 tp.j.pe, .int .u64 tp.j.pr, .int .i64 tp.j.ce, .int .u64 tp.j.cr, .int .i64 tp.j.fe, .int .u64 tp.j.fr, .int .i64 tp.ep, .slice D9 tp.bf.length d9, .slice D0 tp.nw.length d0], .agg #[.bool tp.j.b0, .bool tp.j.b1, .bool tp.j.b2, .bool tp.j.b3, .int .i64 tp.j.pe, .int .u64 tp.j.pr, .int .i64 tp.j.ce, .int .u64 tp.j.cr, .int .i64 tp.j.fe, .int .u64 tp.j.fr, .int .i64 tp.ep, .slice D1 tp.bf.length d1, .slice D2 tp.nw.length d2]] (by rfl) rfl rfl (by simp only [List.map_toArray, List.map_cons, List.map_nil]; rfl) ?_
  with_reducible refine (same_calls tp D9 d9 D0 d0 D1 d1 D2 d2 _ (SIn.same (SITT12.out.below HQ1.out) (SITP12.out.below HQ1.out))).mono ?_
  rintro x wq2 ⟨rfl, hb⟩
  refine ⟨_, rfl, ?_⟩
  have HQ2 := Aside0.mk (below_then HQ1.out HQ1.out.size hb)
  clear hb
  refine hK.out _ _ ⟨(pw_cell_below HQ2.out (blk_cell TQ12.out 0)), (pw_cell_below HQ2.out (blk_cell TQ12.out 1)), (pw_cell_below HQ2.out (blk_cell TQ12.out 2)), (pw_cell_below HQ2.out (blk_cell TQ12.out 3)), (pw_cell_below HQ2.out (blk_cell TQ12.out 4)), (pw_cell_below HQ2.out (blk_cell TQ12.out 5)), (pw_cell_below HQ2.out (blk_cell TQ12.out 6)), (pw_cell_below HQ2.out (blk_cell TQ12.out 7)), (pw_cell_below HQ2.out (blk_cell TQ12.out 8)), (pw_cell_below HQ2.out (blk_cell TQ12.out 9)), (pw_cell_below HQ2.out (blk_cell TQ12.out 10)), (pw_cell_below HQ2.out (blk_cell TQ12.out 11)), (pw_cell_below HQ2.out (blk_cell TQ12.out 12)), (pw_cell_below HQ2.out (blk_cell TZ12.out 0)), (pw_cell_below HQ2.out (blk_cell TZ12.out 1)), (pw_cell_below HQ2.out (blk_cell TZ12.out 2)), (pw_cell_below HQ2.out (blk_cell TZ12.out 3)), (pw_cell_below HQ2.out (blk_cell TZ12.out 4)), (pw_cell_below HQ2.out (blk_cell TZ12.out 5)), (pw_cell_below HQ2.out (blk_cell TZ12.out 6)), (pw_cell_below HQ2.out (blk_cell TZ12.out 7)), (pw_cell_below HQ2.out (blk_cell TZ12.out 8)), (pw_cell_below HQ2.out (blk_cell TZ12.out 9)), (pw_cell_below HQ2.out (blk_cell TZ12.out 10)), (pw_cell_below HQ2.out (blk_cell TZ12.out 11)), (pw_cell_below HQ2.out (blk_cell TZ12.out 12)), (pw_cell_below HQ2.out (blk_cell TT12.out 0)), (pw_cell_below HQ2.out (blk_cell TT12.out 1)), (pw_cell_below HQ2.out (blk_cell TT12.out 2)), (pw_cell_below HQ2.out (blk_cell TT12.out 3)), (pw_cell_below HQ2.out (blk_cell TT12.out 4)), (pw_cell_below HQ2.out (blk_cell TT12.out 5)), (pw_cell_below HQ2.out (blk_cell TT12.out 6)), (pw_cell_below HQ2.out (blk_cell TT12.out 7)), (pw_cell_below HQ2.out (blk_cell TT12.out 8)), (pw_cell_below HQ2.out (blk_cell TT12.out 9)), (pw_cell_below HQ2.out (blk_cell TT12.out 10)), (pw_cell_below HQ2.out (blk_cell TT12.out 11)), (pw_cell_below HQ2.out (blk_cell TT12.out 12)), (pw_cell_below HQ2.out (blk_cell TP12.out 0)), (pw_cell_below HQ2.out (blk_cell TP12.out 1)), (pw_cell_below HQ2.out (blk_cell TP12.out 2)), (pw_cell_below HQ2.out (blk_cell TP12.out 3)), (pw_cell_below HQ2.out (blk_cell TP12.out 4)), (pw_cell_below HQ2.out (blk_cell TP12.out 5)), (pw_cell_below HQ2.out (blk_cell TP12.out 6)), (pw_cell_below HQ2.out (blk_cell TP12.out 7)), (pw_cell_below HQ2.out (blk_cell TP12.out 8)), (pw_cell_below HQ2.out (blk_cell TP12.out 9)), (pw_cell_below HQ2.out (blk_cell TP12.out 10)), (pw_cell_below HQ2.out (blk_cell TP12.out 11)), (pw_cell_below HQ2.out (blk_cell TP12.out 12)), (pw_cell_below HQ2.out (blk_cell S12.out 0)), (pw_cell_below HQ2.out (blk_cell S12.out 1)), (pw_cell_below HQ2.out (blk_cell S12.out 2)), (pw_cell_below HQ2.out (blk_cell S12.out 3)), (pw_cell_below HQ2.out (blk_cell S12.out 4)), (pw_cell_below HQ2.out (blk_cell S12.out 5)), (pw_cell_below HQ2.out (blk_cell S12.out 6)), (pw_cell_below HQ2.out (blk_cell S12.out 7)), (pw_cell_below HQ2.out (blk_cell S12.out 8)), (pw_cell_below HQ2.out (blk_cell S12.out 9)), (pw_cell_below HQ2.out (blk_cell S12.out 10)), (pw_cell_below HQ2.out (blk_cell S12.out 11)), (pw_cell_below HQ2.out (blk_cell S12.out 12)), (pw_cell_below HQ2.out (blk_cell BM12.out 0)), (pw_cell_below HQ2.out (blk_cell BM12.out 1)), (pw_cell_below HQ2.out (blk_cell BM12.out 2)), (pw_cell_below HQ2.out (blk_cell CB12.out 0))⟩ (fun hHeld => ?_)
  clear hK K
  refine norm_ (a' := ?_) ?_ ?_
  rotate_left
  · show Act.put _ (some 92) _ = _
    simp only [Act.put, List.setIfInBounds_toArray, List.set_cons_zero, List.set_cons_succ, i64_w, i32_w]
    rfl
  refine pure_ (i := 13) (N := some 93) (v := ?_) (a' := ?_) qK41 rfl rfl (by kernel_rfl) (fun _ _ _ h => h) (Or.inl ⟨by rfl, ?_⟩) ?_ ?_
  rotate_left
  · intro w'
    go_simp
    with_reducible rfl
  rotate_left
  · simp only [Act.put, List.setIfInBounds_toArray, List.set_cons_zero, List.set_cons_succ, i64_w, i32_w]
    rfl
  refine pure_ (i := 14) (N := some 94) (v := ?_) (a' := ?_) qK42 rfl rfl (by kernel_rfl) (fun _ _ _ h => h) (Or.inl ⟨by rfl, ?_⟩) ?_ ?_
  rotate_left
  · intro w'
    go_simp
    with_reducible rfl
  rotate_left
  · simp only [Act.put, List.setIfInBounds_toArray, List.set_cons_zero, List.set_cons_succ, i64_w, i32_w]
    rfl
  refine take_ (i := 15) (N := some 95) (v := ?_) (a' := ?_) qK43 rfl rfl (by kernel_rfl) (fun _ _ _ h => h) (Or.inl ⟨by rfl, ?_⟩) hHeld ?_ ?_
  rotate_left
  · rintro w' ⟨s0, s1, s2, s3, s4, s5, s6, s7, s8, s9, s10, s11, s12, s13, s14, s15, s16, s17, s18, s19, s20, s21, s22, s23, s24, s25, s26, s27, s28, s29, s30, s31, s32, s33, s34, s35, s36, s37, s38, s39, s40, s41, s42, s43, s44, s45, s46, s47, s48, s49, s50, s51, s52, s53, s54, s55, s56, s57, s58, s59, s60, s61, s62, s63, s64, s65, s66, s67, s68⟩
    go_simp
    with_reducible rfl
  rotate_left
  · simp only [Act.put, List.setIfInBounds_toArray, List.set_cons_zero, List.set_cons_succ, i64_w, i32_w]
    rfl
  refine take_ (i := 16) (N := some 96) (v := ?_) (a' := ?_) qK44 rfl rfl (by kernel_rfl) (fun _ _ _ h => h) (Or.inl ⟨by rfl, ?_⟩) hHeld ?_ ?_
  rotate_left
  · rintro w' ⟨s0, s1, s2, s3, s4, s5, s6, s7, s8, s9, s10, s11, s12, s13, s14, s15, s16, s17, s18, s19, s20, s21, s22, s23, s24, s25, s26, s27, s28, s29, s30, s31, s32, s33, s34, s35, s36, s37, s38, s39, s40, s41, s42, s43, s44, s45, s46, s47, s48, s49, s50, s51, s52, s53, s54, s55, s56, s57, s58, s59, s60, s61, s62, s63, s64, s65, s66, s67, s68⟩
    go_simp
    with_reducible rfl
  rotate_left
  · simp only [Act.put, List.setIfInBounds_toArray, List.set_cons_zero, List.set_cons_succ, i64_w, i32_w]
    rfl
  refine take_ (i := 17) (N := some 97) (v := ?_) (a' := ?_) qK45 rfl rfl (by kernel_rfl) (fun _ _ _ h => h) (Or.inl ⟨by rfl, ?_⟩) hHeld ?_ ?_
  rotate_left
  · rintro w' ⟨s0, s1, s2, s3, s4, s5, s6, s7, s8, s9, s10, s11, s12, s13, s14, s15, s16, s17, s18, s19, s20, s21, s22, s23, s24, s25, s26, s27, s28, s29, s30, s31, s32, s33, s34, s35, s36, s37, s38, s39, s40, s41, s42, s43, s44, s45, s46, s47, s48, s49, s50, s51, s52, s53, s54, s55, s56, s57, s58, s59, s60, s61, s62, s63, s64, s65, s66, s67, s68⟩
    go_simp
    with_reducible rfl
  rotate_left
  · simp only [Act.put, List.setIfInBounds_toArray, List.set_cons_zero, List.set_cons_succ, i64_w, i32_w]
    rfl
  refine one_ (i := 18) (N := some 98) qK46 rfl rfl (by kernel_rfl) (by decide) (fun K hK => ?_)
  refine fireD_ (by rfl) rfl rfl 0 rfl CN12.out.ch HQ2.out (by omega) ?_
  intro wq3 hb
  have HQ3 := Aside0.mk (below_then HQ2.out HQ2.out.size hb)
  clear hb
  refine hK.out _ _ ⟨(pw_cell_below HQ3.out (blk_cell TQ12.out 0)), (pw_cell_below HQ3.out (blk_cell TQ12.out 1)), (pw_cell_below HQ3.out (blk_cell TQ12.out 2)), (pw_cell_below HQ3.out (blk_cell TQ12.out 3)), (pw_cell_below HQ3.out (blk_cell TQ12.out 4)), (pw_cell_below HQ3.out (blk_cell TQ12.out 5)), (pw_cell_below HQ3.out (blk_cell TQ12.out 6)), (pw_cell_below HQ3.out (blk_cell TQ12.out 7)), (pw_cell_below HQ3.out (blk_cell TQ12.out 8)), (pw_cell_below HQ3.out (blk_cell TQ12.out 9)), (pw_cell_below HQ3.out (blk_cell TQ12.out 10)), (pw_cell_below HQ3.out (blk_cell TQ12.out 11)), (pw_cell_below HQ3.out (blk_cell TQ12.out 12)), (pw_cell_below HQ3.out (blk_cell TZ12.out 0)), (pw_cell_below HQ3.out (blk_cell TZ12.out 1)), (pw_cell_below HQ3.out (blk_cell TZ12.out 2)), (pw_cell_below HQ3.out (blk_cell TZ12.out 3)), (pw_cell_below HQ3.out (blk_cell TZ12.out 4)), (pw_cell_below HQ3.out (blk_cell TZ12.out 5)), (pw_cell_below HQ3.out (blk_cell TZ12.out 6)), (pw_cell_below HQ3.out (blk_cell TZ12.out 7)), (pw_cell_below HQ3.out (blk_cell TZ12.out 8)), (pw_cell_below HQ3.out (blk_cell TZ12.out 9)), (pw_cell_below HQ3.out (blk_cell TZ12.out 10)), (pw_cell_below HQ3.out (blk_cell TZ12.out 11)), (pw_cell_below HQ3.out (blk_cell TZ12.out 12)), (pw_cell_below HQ3.out (blk_cell TT12.out 0)), (pw_cell_below HQ3.out (blk_cell TT12.out 1)), (pw_cell_below HQ3.out (blk_cell TT12.out 2)), (pw_cell_below HQ3.out (blk_cell TT12.out 3)), (pw_cell_below HQ3.out (blk_cell TT12.out 4)), (pw_cell_below HQ3.out (blk_cell TT12.out 5)), (pw_cell_below HQ3.out (blk_cell TT12.out 6)), (pw_cell_below HQ3.out (blk_cell TT12.out 7)), (pw_cell_below HQ3.out (blk_cell TT12.out 8)), (pw_cell_below HQ3.out (blk_cell TT12.out 9)), (pw_cell_below HQ3.out (blk_cell TT12.out 10)), (pw_cell_below HQ3.out (blk_cell TT12.out 11)), (pw_cell_below HQ3.out (blk_cell TT12.out 12)), (pw_cell_below HQ3.out (blk_cell TP12.out 0)), (pw_cell_below HQ3.out (blk_cell TP12.out 1)), (pw_cell_below HQ3.out (blk_cell TP12.out 2)), (pw_cell_below HQ3.out (blk_cell TP12.out 3)), (pw_cell_below HQ3.out (blk_cell TP12.out 4)), (pw_cell_below HQ3.out (blk_cell TP12.out 5)), (pw_cell_below HQ3.out (blk_cell TP12.out 6)), (pw_cell_below HQ3.out (blk_cell TP12.out 7)), (pw_cell_below HQ3.out (blk_cell TP12.out 8)), (pw_cell_below HQ3.out (blk_cell TP12.out 9)), (pw_cell_below HQ3.out (blk_cell TP12.out 10)), (pw_cell_below HQ3.out (blk_cell TP12.out 11)), (pw_cell_below HQ3.out (blk_cell TP12.out 12)), (pw_cell_below HQ3.out (blk_cell S12.out 0)), (pw_cell_below HQ3.out (blk_cell S12.out 1)), (pw_cell_below HQ3.out (blk_cell S12.out 2)), (pw_cell_below HQ3.out (blk_cell S12.out 3)), (pw_cell_below HQ3.out (blk_cell S12.out 4)), (pw_cell_below HQ3.out (blk_cell S12.out 5)), (pw_cell_below HQ3.out (blk_cell S12.out 6)), (pw_cell_below HQ3.out (blk_cell S12.out 7)), (pw_cell_below HQ3.out (blk_cell S12.out 8)), (pw_cell_below HQ3.out (blk_cell S12.out 9)), (pw_cell_below HQ3.out (blk_cell S12.out 10)), (pw_cell_below HQ3.out (blk_cell S12.out 11)), (pw_cell_below HQ3.out (blk_cell S12.out 12)), (pw_cell_below HQ3.out (blk_cell BM12.out 0)), (pw_cell_below HQ3.out (blk_cell BM12.out 1)), (pw_cell_below HQ3.out (blk_cell BM12.out 2)), (pw_cell_below HQ3.out (blk_cell CB12.out 0))⟩ (fun hHeld => ?_)
  clear hK K
  refine norm_ (a' := ?_) ?_ ?_
  rotate_left
  · show Act.put _ (some 98) _ = _
    simp only [Act.put, List.setIfInBounds_toArray, List.set_cons_zero, List.set_cons_succ, i64_w, i32_w]
    rfl
  refine one_ (i := 19) (N := some 99) qK47 rfl rfl (by kernel_rfl) (by decide) (fun K hK => ?_)
  refine goes_ Try.func12 (by kernel_rfl) rfl #[.agg #[.slice AX lx.length cX, .int .i64 sx, .int .i64 bx], .int .u64 (chainOf n 0)] (by rfl) rfl rfl (by simp only [List.map_toArray, List.map_cons, List.map_nil]; rfl) ?_
  with_reducible refine (open_calls AX cX lx sx bx (chainOf n 0) _ HNX.out).mono ?_
  rintro x wq4 ⟨E1, f1, E2, f2, rfl, hr, hb⟩
  refine ⟨_, rfl, ?_⟩
  rw [HSO.out] at hr
  have RWE := Aside0.mk hr
  clear hr
  have HQ4 := Aside0.mk (below_then HQ3.out HQ3.out.size hb)
  clear hb
  refine hK.out _ _ ⟨(pw_cell_below HQ4.out (blk_cell TQ12.out 0)), (pw_cell_below HQ4.out (blk_cell TQ12.out 1)), (pw_cell_below HQ4.out (blk_cell TQ12.out 2)), (pw_cell_below HQ4.out (blk_cell TQ12.out 3)), (pw_cell_below HQ4.out (blk_cell TQ12.out 4)), (pw_cell_below HQ4.out (blk_cell TQ12.out 5)), (pw_cell_below HQ4.out (blk_cell TQ12.out 6)), (pw_cell_below HQ4.out (blk_cell TQ12.out 7)), (pw_cell_below HQ4.out (blk_cell TQ12.out 8)), (pw_cell_below HQ4.out (blk_cell TQ12.out 9)), (pw_cell_below HQ4.out (blk_cell TQ12.out 10)), (pw_cell_below HQ4.out (blk_cell TQ12.out 11)), (pw_cell_below HQ4.out (blk_cell TQ12.out 12)), (pw_cell_below HQ4.out (blk_cell TZ12.out 0)), (pw_cell_below HQ4.out (blk_cell TZ12.out 1)), (pw_cell_below HQ4.out (blk_cell TZ12.out 2)), (pw_cell_below HQ4.out (blk_cell TZ12.out 3)), (pw_cell_below HQ4.out (blk_cell TZ12.out 4)), (pw_cell_below HQ4.out (blk_cell TZ12.out 5)), (pw_cell_below HQ4.out (blk_cell TZ12.out 6)), (pw_cell_below HQ4.out (blk_cell TZ12.out 7)), (pw_cell_below HQ4.out (blk_cell TZ12.out 8)), (pw_cell_below HQ4.out (blk_cell TZ12.out 9)), (pw_cell_below HQ4.out (blk_cell TZ12.out 10)), (pw_cell_below HQ4.out (blk_cell TZ12.out 11)), (pw_cell_below HQ4.out (blk_cell TZ12.out 12)), (pw_cell_below HQ4.out (blk_cell TT12.out 0)), (pw_cell_below HQ4.out (blk_cell TT12.out 1)), (pw_cell_below HQ4.out (blk_cell TT12.out 2)), (pw_cell_below HQ4.out (blk_cell TT12.out 3)), (pw_cell_below HQ4.out (blk_cell TT12.out 4)), (pw_cell_below HQ4.out (blk_cell TT12.out 5)), (pw_cell_below HQ4.out (blk_cell TT12.out 6)), (pw_cell_below HQ4.out (blk_cell TT12.out 7)), (pw_cell_below HQ4.out (blk_cell TT12.out 8)), (pw_cell_below HQ4.out (blk_cell TT12.out 9)), (pw_cell_below HQ4.out (blk_cell TT12.out 10)), (pw_cell_below HQ4.out (blk_cell TT12.out 11)), (pw_cell_below HQ4.out (blk_cell TT12.out 12)), (pw_cell_below HQ4.out (blk_cell TP12.out 0)), (pw_cell_below HQ4.out (blk_cell TP12.out 1)), (pw_cell_below HQ4.out (blk_cell TP12.out 2)), (pw_cell_below HQ4.out (blk_cell TP12.out 3)), (pw_cell_below HQ4.out (blk_cell TP12.out 4)), (pw_cell_below HQ4.out (blk_cell TP12.out 5)), (pw_cell_below HQ4.out (blk_cell TP12.out 6)), (pw_cell_below HQ4.out (blk_cell TP12.out 7)), (pw_cell_below HQ4.out (blk_cell TP12.out 8)), (pw_cell_below HQ4.out (blk_cell TP12.out 9)), (pw_cell_below HQ4.out (blk_cell TP12.out 10)), (pw_cell_below HQ4.out (blk_cell TP12.out 11)), (pw_cell_below HQ4.out (blk_cell TP12.out 12)), (pw_cell_below HQ4.out (blk_cell S12.out 0)), (pw_cell_below HQ4.out (blk_cell S12.out 1)), (pw_cell_below HQ4.out (blk_cell S12.out 2)), (pw_cell_below HQ4.out (blk_cell S12.out 3)), (pw_cell_below HQ4.out (blk_cell S12.out 4)), (pw_cell_below HQ4.out (blk_cell S12.out 5)), (pw_cell_below HQ4.out (blk_cell S12.out 6)), (pw_cell_below HQ4.out (blk_cell S12.out 7)), (pw_cell_below HQ4.out (blk_cell S12.out 8)), (pw_cell_below HQ4.out (blk_cell S12.out 9)), (pw_cell_below HQ4.out (blk_cell S12.out 10)), (pw_cell_below HQ4.out (blk_cell S12.out 11)), (pw_cell_below HQ4.out (blk_cell S12.out 12)), (pw_cell_below HQ4.out (blk_cell BM12.out 0)), (pw_cell_below HQ4.out (blk_cell BM12.out 1)), (pw_cell_below HQ4.out (blk_cell BM12.out 2)), (pw_cell_below HQ4.out (blk_cell CB12.out 0))⟩ (fun hHeld => ?_)
  clear hK K
  refine norm_ (a' := ?_) ?_ ?_
  rotate_left
  · show Act.put _ (some 99) _ = _
    simp only [Act.put, List.setIfInBounds_toArray, List.set_cons_zero, List.set_cons_succ, i64_w, i32_w]
    rfl
  refine one_ (i := 20) (N := some 100) qK48 rfl rfl (by kernel_rfl) (by decide) (fun K hK => ?_)
  refine goes_ Try.func20 (by kernel_rfl) rfl #[.agg #[.bool s.j.b0, .bool s.j.b1, .bool s.j.b2, .bool s.j.b3, .int .i64 s.j.pe, .int .u64 s.j.pr, .int .i64 s.j.ce, .int .u64 s.j.cr, .int .i64 s.j.fe, .int .u64 s.j.fr, .int .i64 s.ep, .slice AB s.bf.length cB, .slice AN s.nw.length cN], .agg (stC (openS (chainOf n 0) lx.length) E1 f1 E2 f2)] (by rfl) rfl rfl (by simp only [List.map_toArray, List.map_cons, List.map_nil]; rfl) ?_
  rw [HSO.out]
  with_reducible refine (same_calls s AB cB AN cN E1 f1 E2 f2 _ (same_open (SIs12.out.below HQ4.out) RWE.out)).mono ?_
  rintro x wq5 ⟨rfl, hb⟩
  refine ⟨_, rfl, ?_⟩
  have HQ5 := Aside0.mk (below_then HQ4.out HQ4.out.size hb)
  clear hb
  refine hK.out _ _ ⟨(pw_cell_below HQ5.out (blk_cell TQ12.out 0)), (pw_cell_below HQ5.out (blk_cell TQ12.out 1)), (pw_cell_below HQ5.out (blk_cell TQ12.out 2)), (pw_cell_below HQ5.out (blk_cell TQ12.out 3)), (pw_cell_below HQ5.out (blk_cell TQ12.out 4)), (pw_cell_below HQ5.out (blk_cell TQ12.out 5)), (pw_cell_below HQ5.out (blk_cell TQ12.out 6)), (pw_cell_below HQ5.out (blk_cell TQ12.out 7)), (pw_cell_below HQ5.out (blk_cell TQ12.out 8)), (pw_cell_below HQ5.out (blk_cell TQ12.out 9)), (pw_cell_below HQ5.out (blk_cell TQ12.out 10)), (pw_cell_below HQ5.out (blk_cell TQ12.out 11)), (pw_cell_below HQ5.out (blk_cell TQ12.out 12)), (pw_cell_below HQ5.out (blk_cell TZ12.out 0)), (pw_cell_below HQ5.out (blk_cell TZ12.out 1)), (pw_cell_below HQ5.out (blk_cell TZ12.out 2)), (pw_cell_below HQ5.out (blk_cell TZ12.out 3)), (pw_cell_below HQ5.out (blk_cell TZ12.out 4)), (pw_cell_below HQ5.out (blk_cell TZ12.out 5)), (pw_cell_below HQ5.out (blk_cell TZ12.out 6)), (pw_cell_below HQ5.out (blk_cell TZ12.out 7)), (pw_cell_below HQ5.out (blk_cell TZ12.out 8)), (pw_cell_below HQ5.out (blk_cell TZ12.out 9)), (pw_cell_below HQ5.out (blk_cell TZ12.out 10)), (pw_cell_below HQ5.out (blk_cell TZ12.out 11)), (pw_cell_below HQ5.out (blk_cell TZ12.out 12)), (pw_cell_below HQ5.out (blk_cell TT12.out 0)), (pw_cell_below HQ5.out (blk_cell TT12.out 1)), (pw_cell_below HQ5.out (blk_cell TT12.out 2)), (pw_cell_below HQ5.out (blk_cell TT12.out 3)), (pw_cell_below HQ5.out (blk_cell TT12.out 4)), (pw_cell_below HQ5.out (blk_cell TT12.out 5)), (pw_cell_below HQ5.out (blk_cell TT12.out 6)), (pw_cell_below HQ5.out (blk_cell TT12.out 7)), (pw_cell_below HQ5.out (blk_cell TT12.out 8)), (pw_cell_below HQ5.out (blk_cell TT12.out 9)), (pw_cell_below HQ5.out (blk_cell TT12.out 10)), (pw_cell_below HQ5.out (blk_cell TT12.out 11)), (pw_cell_below HQ5.out (blk_cell TT12.out 12)), (pw_cell_below HQ5.out (blk_cell TP12.out 0)), (pw_cell_below HQ5.out (blk_cell TP12.out 1)), (pw_cell_below HQ5.out (blk_cell TP12.out 2)), (pw_cell_below HQ5.out (blk_cell TP12.out 3)), (pw_cell_below HQ5.out (blk_cell TP12.out 4)), (pw_cell_below HQ5.out (blk_cell TP12.out 5)), (pw_cell_below HQ5.out (blk_cell TP12.out 6)), (pw_cell_below HQ5.out (blk_cell TP12.out 7)), (pw_cell_below HQ5.out (blk_cell TP12.out 8)), (pw_cell_below HQ5.out (blk_cell TP12.out 9)), (pw_cell_below HQ5.out (blk_cell TP12.out 10)), (pw_cell_below HQ5.out (blk_cell TP12.out 11)), (pw_cell_below HQ5.out (blk_cell TP12.out 12)), (pw_cell_below HQ5.out (blk_cell S12.out 0)), (pw_cell_below HQ5.out (blk_cell S12.out 1)), (pw_cell_below HQ5.out (blk_cell S12.out 2)), (pw_cell_below HQ5.out (blk_cell S12.out 3)), (pw_cell_below HQ5.out (blk_cell S12.out 4)), (pw_cell_below HQ5.out (blk_cell S12.out 5)), (pw_cell_below HQ5.out (blk_cell S12.out 6)), (pw_cell_below HQ5.out (blk_cell S12.out 7)), (pw_cell_below HQ5.out (blk_cell S12.out 8)), (pw_cell_below HQ5.out (blk_cell S12.out 9)), (pw_cell_below HQ5.out (blk_cell S12.out 10)), (pw_cell_below HQ5.out (blk_cell S12.out 11)), (pw_cell_below HQ5.out (blk_cell S12.out 12)), (pw_cell_below HQ5.out (blk_cell BM12.out 0)), (pw_cell_below HQ5.out (blk_cell BM12.out 1)), (pw_cell_below HQ5.out (blk_cell BM12.out 2)), (pw_cell_below HQ5.out (blk_cell CB12.out 0))⟩ (fun hHeld => ?_)
  clear hK K
  refine norm_ (a' := ?_) ?_ ?_
  rotate_left
  · show Act.put _ (some 100) _ = _
    simp only [Act.put, List.setIfInBounds_toArray, List.set_cons_zero, List.set_cons_succ, i64_w, i32_w]
    rfl
  refine pure_ (i := 21) (N := some 101) (v := ?_) (a' := ?_) qK49 rfl rfl (by kernel_rfl) (fun _ _ _ h => h) (Or.inl ⟨by rfl, ?_⟩) ?_ ?_
  rotate_left
  · intro w'
    go_simp
    with_reducible rfl
  rotate_left
  · simp only [Act.put, List.setIfInBounds_toArray, List.set_cons_zero, List.set_cons_succ, i64_w, i32_w]
    rfl
  refine pure_ (i := 22) (N := some 8) (v := ?_) (a' := ?_) qK50 rfl rfl (by kernel_rfl) (fun _ _ _ h => h) (Or.inl ⟨by rfl, ?_⟩) ?_ ?_
  rotate_left
  · intro w'
    go_simp
    with_reducible rfl
  rotate_left
  · simp only [Act.put, List.setIfInBounds_toArray, List.set_cons_zero, List.set_cons_succ, i64_w, i32_w]
    rfl
  refine done_ (by kernel_rfl) ?_
  go_wp2_with fail
  go_ret
  exact ⟨rfl, below_then HB12.out HB12.out.size HQ5.out⟩
theorem ledgerKeeps_args {A0 A3 A4 : Option Addr} {n0 c0 n3 c3 n4 c4 : Nat} {z0 z3 z4 : List Int} {sl bo n vs vh vse vsr vte vtr us uh use usr ute utr : Int} {w : World} (g0 : Open.ConfigArg w A0 n0 c0 z0 sl bo) (w1 : (Lit.int .u8 n).wf = true) (g2 : Open.VoteArg w vs vh vse vsr vte vtr A3 n3 c3 z3) (g3 : Open.VoteArg w us uh use usr ute utr A4 n4 c4 z4) :
    Calls Try.prog 5 #[.agg #[.slice A0 n0 c0, .int .i64 sl, .int .i64 bo], .int .u8 n, .agg #[.int .i64 vs, .int .u64 vh, .int .i64 vse, .int .u64 vsr, .int .i64 vte, .int .u64 vtr, .slice A3 n3 c3], .agg #[.int .i64 us, .int .u64 uh, .int .i64 use, .int .u64 usr, .int .i64 ute, .int .u64 utr, .slice A4 n4 c4]] w fun x w' => x = .returned (.bool true) ∧ Below w.heap.size w w' :=
  ledgerKeeps_law A0 n0 c0 z0 sl bo n vs vh vse vsr vte vtr A3 n3 c3 z3 us uh use usr ute utr A4 n4 c4 z4 w (Kd.C_of_reads (d := (0 : Int)) (h1 := fun _ => rfl) g0.row.reads) g0.row.le (by have := g0.row.size; omega) (bd_i64 g0.ws) (bd_i64 g0.wb) (fun z hz => (bd_u64 (g0.row.wf z hz)).1) (bd_u8 w1) (Kd.C_of_reads (d := (0 : Int)) (h1 := fun _ => rfl) g2.row.reads) g2.row.le (by have := g2.row.size; omega) (Kd.C_of_reads (d := (0 : Int)) (h1 := fun _ => rfl) g3.row.reads) g3.row.le (by have := g3.row.size; omega) (bd_i64 g2.ws) (bd_i64 g2.s.1) (bd_i64 g3.ws) (bd_i64 g3.s.1)
end Go.Proofs.Ytiklbldanidfiaa.QL
