/-
  The law LedgerMost of package psephoslaw10: votes of enough for an epoch's checkpoint justify it when that ends, fewer do not.
-/
import Derived.Test.YtiklbldanidfiaaMostP
import Derived.Test.YtiklbldanidfiaaVoteM3
import Derived.Test.YtiklbldanidfiaaOpenStruct
import Derived.Test.YtiklbldanidfiaaWEqStruct
import Derived.Test.YtiklbldanidfiaaQLx1
import Derived.Test.YtiklbldanidfiaaQLx2
import Derived.Test.YtiklbldanidfiaaQLx4
import Derived.Test.YtiklbldanidfiaaQLx5
import Derived.Test.YtiklbldanidfiaaQLx10
import Derived.Test.YtiklbldanidfiaaQLx12
namespace Go.Proofs.Ytiklbldanidfiaa.QL
open Go.RowKit Go.Proofs.YtiklbldanidfiaaW.PrintWords Go.Proofs.YtiklbldanidfiaaW.PrintLast Go.Proofs.YtiklbldanidfiaaW.PrintMore Go.Proofs.Ytiklbldanidfiaa.Own Go.Proofs.Ytiklbldanidfiaa.Justify Go.Proofs.Ytiklbldanidfiaa.QLV
set_option linter.unusedVariables false
set_option linter.unusedSimpArgs false
attribute [local go_sem] max2_is min2_is max_pair min_pair
attribute [local go_sem high] eqA34
abbrev qM0 : Array Bool := #[false, false, false, false, false, false, false, false, false, false, false]
abbrev qM1 : Array Bool := #[false, false, true, false, false, false, false, false, false, false, false]
abbrev qM2 : Array Bool := #[false, false, true, false, true, false, false, false, false, false, false]
abbrev qM3 : Array Bool := #[false, false, true, false, true, false, false, true, false, false, false]
abbrev qM4 : Array Bool := #[true, false, true, false, true, false, false, true, false, false, false]
abbrev qM5 : Array Bool := #[true, true, true, false, true, false, false, true, false, false, false]
abbrev qM6 : Array Bool := #[true, true, true, false, true, true, false, true, false, false, false]
abbrev qM7 : Array Bool := #[true, true, true, true, true, true, true, true, true, true, false]
abbrev qM8 : Array Bool := #[true, true, true, true, true, true, false, true, false, false, false]
abbrev qM9 : Array Bool := #[true, true, true, false, true, true, false, true, false, true, false]
abbrev qM10 : Array Bool := #[true, true, true, true, true, true, true, true, false, false, false]
abbrev qM11 : Array Bool := #[true, true, true, true, true, true, false, true, false, true, false]
abbrev qM12 : Array Bool := #[true, true, true, true, true, true, true, true, true, false, false]
abbrev qM13 : Array Bool := #[true, true, true, true, true, true, true, true, false, true, false]
abbrev qM14 : Array Bool := #[true, true, true, true, true, true, true, true, true, true, true]
abbrev qM15 : Array Bool := #[false, false, false, false, false, false, false, false, false, false, false, false, false]
abbrev qM16 : Array Bool := #[true, false, false, false, false, false, false, false, false, false, false, false, false]
abbrev qM17 : Array Bool := #[true, false, false, true, false, false, false, false, false, false, false, false, false]
abbrev qM18 : Array Bool := #[true, false, false, true, true, false, false, false, false, false, false, false, false]
abbrev qM19 : Array Bool := #[true, false, false, true, true, false, false, true, false, false, false, false, false]
abbrev qM20 : Array Bool := #[true, false, false, true, true, false, false, true, false, true, false, false, false]
abbrev qM21 : Array Bool := #[true, true, false, true, true, false, false, true, false, true, false, false, false]
abbrev qM22 : Array Bool := #[true, true, false, true, true, true, false, true, false, true, false, false, false]
abbrev qM23 : Array Bool := #[true, true, false, true, true, true, true, true, false, true, false, false, false]
abbrev qM24 : Array Bool := #[true, true, true, true, true, true, true, true, true, true, true, true, false]
abbrev qM25 : Array Bool := #[true, true, true, true, true, true, true, true, false, true, false, false, false]
abbrev qM26 : Array Bool := #[true, true, false, true, true, true, true, true, false, true, false, true, false]
abbrev qM27 : Array Bool := #[true, true, true, true, true, true, true, true, true, true, false, false, false]
abbrev qM28 : Array Bool := #[true, true, true, true, true, true, true, true, false, true, false, true, false]
abbrev qM29 : Array Bool := #[true, true, true, true, true, true, true, true, true, true, true, false, false]
abbrev qM30 : Array Bool := #[true, true, true, true, true, true, true, true, true, true, false, true, false]
abbrev qM31 : Array Bool := #[true, true, true, true, true, true, true, true, true, true, true, true, true]
abbrev qM32 : Array Bool := #[false, false, false, false, false, false, false, false, false]
abbrev qM33 : Array Bool := #[false, false, true, false, false, false, false, false, false]
abbrev qM34 : Array Bool := #[false, false, true, false, false, true, false, false, false]
abbrev qM35 : Array Bool := #[true, false, true, false, false, true, false, false, false]
abbrev qM36 : Array Bool := #[true, true, true, false, false, true, false, false, false]
abbrev qM37 : Array Bool := #[true, true, true, true, false, true, false, false, false]
abbrev qM38 : Array Bool := #[true, true, true, true, true, true, true, true, false]
abbrev qM39 : Array Bool := #[true, true, true, true, true, true, false, false, false]
abbrev qM40 : Array Bool := #[true, true, true, true, false, true, false, true, false]
abbrev qM41 : Array Bool := #[true, true, true, true, true, true, true, false, false]
abbrev qM42 : Array Bool := #[true, true, true, true, true, true, false, true, false]
abbrev qM43 : Array Bool := #[true, true, true, true, true, true, true, true, true]
abbrev qM44 : Array Bool := #[false, false, false, false, false, false]
abbrev qM45 : Array Bool := #[false, true, false, false, false, false]
abbrev qM46 : Array Bool := #[true, true, false, false, false, false]
abbrev qM47 : Array Bool := #[true, true, false, true, false, false]
abbrev qM48 : Array Bool := #[true, true, true, true, false, false]
abbrev qM49 : Array Bool := #[true, true, true, true, true, false]
abbrev qM50 : Array Bool := #[true, true, true, true, true, true]
abbrev qM51 : Array Bool := #[false, false, false, false, false, false, false, false, false, false, false, false, false, false]
abbrev qM52 : Array Bool := #[true, false, false, false, false, false, false, false, false, false, false, false, false, false]
abbrev qM53 : Array Bool := #[true, true, false, false, false, false, false, false, false, false, false, false, false, false]
abbrev qM54 : Array Bool := #[true, true, false, false, true, false, false, false, false, false, false, false, false, false]
abbrev qM55 : Array Bool := #[true, true, true, false, true, false, false, false, false, false, false, false, false, false]
abbrev qM56 : Array Bool := #[true, true, true, true, true, false, false, false, false, false, false, false, false, false]
abbrev qM57 : Array Bool := #[true, true, true, true, true, true, false, false, false, false, false, false, false, false]
abbrev qM58 : Array Bool := #[true, true, true, true, true, true, true, false, false, false, false, false, false, false]
abbrev qM59 : Array Bool := #[true, true, true, true, true, true, true, true, false, false, false, false, false, false]
abbrev qM60 : Array Bool := #[true, true, true, true, true, true, true, true, true, false, false, false, false, false]
abbrev qM61 : Array Bool := #[true, true, true, true, true, true, true, true, true, true, false, false, false, false]
abbrev qM62 : Array Bool := #[true, true, true, true, true, true, true, true, true, true, true, false, false, false]
abbrev qM63 : Array Bool := #[true, true, true, true, true, true, true, true, true, true, true, true, false, false]
abbrev qM64 : Array Bool := #[true, true, true, true, true, true, true, true, true, true, true, true, true, false]
abbrev qM65 : Array Bool := #[true, true, true, true, true, true, true, true, true, true, true, true, true, true]

theorem info_int : (Try.prog.info? 3).map (fun i => (i.zero, i.size, i.bytes)) = some (some (.int .i64 0), 1, 8) := by kernel_rfl
def mostP (who : Int) (k : Nat) : Bool := decide (k < 16) && (bits .and .u16 who (IntKind.u16.wrap (2 ^ k)) != 0)
theorem rd_memI (l : List Int) (j : Nat) (h : j < l.length) : rd l (j : Int) ∈ l := by simp [rd, List.getD_eq_getElem?_getD, h]
theorem most_count (sl : Int) (f : Int → Int) (s : LS) (rt : Bool) (W : List Int) (n : Nat) (hn : s.nw = List.replicate n false) (he : s.ep = 2) :
    countOf sl f s rt s.j.ce s.j.cr 2 (f (startOf 2 sl)) W = if rt = true then (⟨s.j, s.ep, s.bf, marks s.nw W⟩, true) else (s, false) := by
  have hm : (2 : Int) = mx 0 2 := by unfold mx; omega
  unfold countOf refused
  cases rt
  · simp
  · simp [he, ← hm]
set_option maxHeartbeats 4000000 in
set_option maxRecDepth 100000 in
theorem point10_calls (A : Option Addr) (n c : Nat) (sl bo e : Int) (v : Value) (g : Int → Int) (w : World) (h : ChainAt v g w) (he : -9223372036854775808 ≤ e ∧ e ≤ 9223372036854775807) :
    Calls Try.prog 16 #[.agg #[.slice A n c, .int .i64 sl, .int .i64 bo], .int .i64 e, v] w fun x w' => x = .returned (.agg #[.int .i64 e, .int .u64 (g (startOf e sl))]) ∧ Below w.heap.size w w' := by
  have H := Aside0.mk h
  have HS := Aside0.mk (start_f e sl)
  have HW := Aside0.mk (start_range e sl)
  clear h
  go_enter Try.func16, Try.ntmps16
  go_wp2_with (first
    | (go_at_call 17; refine (epoch_Start.calls e sl _ _ HS.out).mono ?_; rintro x w1 ⟨rfl, hb⟩; have HB1 := Aside0.mk (below_then (below_alloc (below_alloc (Below.refl w.heap.size w) _) _) (by simp; omega) hb); have BR1 : Aside0 (w1.heap[w.heap.size + 1]? = some (.cells #[.int .i64 0, .int .u64 0] 34 (0, 0))) := ⟨blk_below (by have h := heap_alloc_new (w.alloc (.cells #[.slice A n c, .int .i64 sl, .int .i64 bo] 24)) (.cells #[.int .i64 0, .int .u64 0] 34); simpa using h) hb⟩; clear hb)
    | (refine fire H.out HB1.out (some 13) rfl rfl (x := .tmp 8) rfl rfl (startOf e sl) rfl HW.out ?_; intro w2 hb; have HB2 := Aside0.mk (below_then HB1.out HB1.out.size hb); have BR2 := Aside0.mk (blk_below BR1.out hb); have hc2 := blk_cell BR2.out; have hf2 := blk_frozen BR2.out; clear hb))
  refine bodyPost_ret (v := .agg #[.int .i64 e, .int .u64 (g (startOf e sl))]) ?_ rfl ⟨rfl, ?_⟩
  · simp [results, Try.results16, go_sem, hc2]
  · exact below_set (below_set HB2.out (by omega)) (by omega)
set_option maxHeartbeats 16000000 in
set_option maxRecDepth 100000 in
theorem ledgerMost_law (A0 : Option Addr) (n0 c0 : Nat) (z0 : List Int) (sl bo : Int) (n who : Int) (w : World) (h0 : Kd.C (Kd.int .u64) w A0 n0 z0) (hc0 : n0 ≤ c0) (hn0 : n0 ≤ 17592186043904) (hs : -9223372036854775808 ≤ sl ∧ sl ≤ 9223372036854775807) (hb : -9223372036854775808 ≤ bo ∧ bo ≤ 9223372036854775807) (hp : ∀ z ∈ z0, 0 ≤ z) (h1 : 0 ≤ n ∧ n ≤ 255) (h2 : 0 ≤ who ∧ who ≤ 65535) :
    Calls Try.prog 7 #[.agg #[.slice A0 n0 c0, .int .i64 sl, .int .i64 bo], .int .u8 n, .int .u16 who] w fun x w' => x = .returned (.bool true) ∧ Below w.heap.size w w' := by
  have HN := Aside0.mk h1
  have HW0 := Aside0.mk h2
  have hl0 : z0.length = n0 := h0.1
  subst hl0
  obtain ⟨kr, hkr⟩ := (make3_f z0 sl bo hn0 hb.1 hb.2).rounds
  have HKR := Aside0.mk hkr
  have H0 := Aside0.mk h0
  have HP := Aside0.mk (mkBal_mem z0 hp)
  have HLN := Aside0.mk (mkBal_len z0)
  have HSL := Aside0.mk (mkSlots_in sl)
  clear hkr h0 hp hs hb h1 h2
  go_enter Try.func7, Try.ntmps7
  go_upto_region 4 with (first
    | (go_at_call 9; refine (awake_calls _).mono ?_; rintro x w1 ⟨rfl, hb⟩; have HB1 := Aside0.mk (below_then (below_alloc (Below.refl w.heap.size w) _) (by simp) hb); have HBK := Aside0.mk (blk_below (heap_alloc_new w _) hb); have hcg := blk_cell HBK.out; clear hb)
    | (go_at_call 10; refine (psephoslaw03_Make.calls kr A0 c0 z0 sl bo _ _ _ _ (Kd.C_below H0.out HB1.out) hc0 HKR.out).mono ?_; rintro x w2 ⟨v0, rfl, hR, hb⟩; have HB2 := Aside0.mk (below_then HB1.out HB1.out.size hb); obtain ⟨AX, cX, rfl, hcx, hC⟩ := Kd.R_reads hR; have HX := Aside0.mk hC; have HCX := Aside0.mk hcx; clear hb hR hC hcx))
  obtain ⟨lx, hlx⟩ : ∃ l, mkBal z0 = l := ⟨_, rfl⟩
  obtain ⟨sx, hsx⟩ : ∃ l, mkSlots sl = l := ⟨_, rfl⟩
  obtain ⟨bx, hbx⟩ : ∃ l, mkBoost bo = l := ⟨_, rfl⟩
  rw [hlx] at HP HLN HX HCX
  rw [hsx] at HSL
  rw [hlx, hsx, hbx]
  have HNX : Aside0 (lx.length ≤ 17592186043904) := ⟨by have := HLN.out; omega⟩
  obtain ⟨wr, hwr⟩ : ∃ wr, wr = w2.alloc (.cells #[.slice AX lx.length cX, .int .i64 sx, .int .i64 bx] 24) := ⟨_, rfl⟩
  obtain ⟨xb, hxb⟩ : ∃ g, w2.heap.size = g := ⟨_, rfl⟩
  have BM : Aside0 (wr.heap[xb]? = some (.cells #[.slice AX lx.length cX, .int .i64 sx, .int .i64 bx] 24 (0, 0))) := ⟨by rw [hwr, ← hxb]; exact heap_alloc_new _ _⟩
  have HBR : Aside0 (Below w.heap.size w wr) := ⟨by rw [hwr]; exact below_alloc HB2.out _⟩
  have XN : Aside0 (Kd.C (Kd.int .u64) wr AX lx.length lx) := ⟨Kd.C_below HX.out (by rw [hwr]; exact below_alloc (Below.refl _ _) _)⟩
  have XB : Aside0 (xb < wr.heap.size) := ⟨(Array.getElem?_eq_some_iff.1 BM.out).1⟩
  rw [← hwr, hxb]
  clear hwr hxb hlx hsx hbx HX HB1 HBK hcg HKR
  have hm0 := blk_cell BM.out
  go_upto_region 6 with (first
    | (go_at_call 11; refine (Chain_calls n HN.out _).mono ?_; rintro x w3 ⟨v, rfl, hch, hb⟩; have CH3 := Aside0.mk hch; have HB3 := Aside0.mk (below_then HBR.out HBR.out.size hb); have BM3 := Aside0.mk (blk_below BM.out hb); have XN3 := Aside0.mk (Kd.C_below XN.out hb); have hm3 := blk_cell BM3.out; clear hch hb hm0)
    | (go_at_call 17; with_reducible refine (epoch_Start.calls _ _ _ _ (start_f 0 sx)).mono ?_; rintro x w4 ⟨rfl, hb⟩; have HB4 := Aside0.mk hb; have BM4 := Aside0.mk (blk_below BM3.out hb); clear hb hm3)
    | (refine fire CH3.out HB4.out _ rfl rfl rfl rfl _ rfl (start_range _ _) ?_; intro w5 hb; have HB45 := Aside0.mk (below_then HB4.out HB4.out.size hb); have BM5 := Aside0.mk (blk_below BM4.out hb); clear hb))
  obtain ⟨p, hp⟩ : ∃ p, chainOf n (startOf 0 sx) = p := ⟨_, rfl⟩
  have HPP := Aside0.mk hp
  rw [hp]
  clear hp
  have HB5 := Aside0.mk (below_then HB3.out HB3.out.size HB45.out)
  have CN5 : Aside0 (CIn AX cX lx v (chainOf n) w5) := ⟨⟨Kd.C_below XN3.out HB45.out, HCX.out, HNX.out, CH3.out.below HB45.out⟩⟩
  refine start_ (n := 11) (S := fun w' => w'.cell? ⟨xb, 0, none⟩ = some (.slice AX lx.length cX) ∧ w'.cell? ⟨xb, 1, none⟩ = some (.int .i64 sx) ∧ w'.cell? ⟨xb, 2, none⟩ = some (.int .i64 bx)) (ds := [10]) qM0 (by kernel_rfl) rfl rfl ⟨(blk_cell BM5.out 0), (blk_cell BM5.out 1), (blk_cell BM5.out 2)⟩ (fun hHeld => ?_)
  refine pure_ (i := 2) (N := some 30) (v := ?_) (a' := ?_) qM1 rfl rfl (by kernel_rfl) (fun _ _ _ h => h) (Or.inl ⟨by rfl, ?_⟩) ?_ ?_
  rotate_left
  · intro w'
    go_simp
    with_reducible rfl
  rotate_left
  · simp only [Act.put, List.setIfInBounds_toArray, List.set_cons_zero, List.set_cons_succ, i64_w, i32_w]
    rfl
  refine pure_ (i := 4) (N := some 32) (v := ?_) (a' := ?_) qM2 rfl rfl (by kernel_rfl) (fun _ _ _ h => h) (Or.inl ⟨by rfl, ?_⟩) ?_ ?_
  rotate_left
  · intro w'
    go_simp
    with_reducible rfl
  rotate_left
  · simp only [Act.put, List.setIfInBounds_toArray, List.set_cons_zero, List.set_cons_succ, i64_w, i32_w]
    rfl
  refine pure_ (i := 7) (N := some 35) (v := ?_) (a' := ?_) qM3 rfl rfl (by kernel_rfl) (fun _ _ _ h => h) (Or.inl ⟨by rfl, ?_⟩) ?_ ?_
  rotate_left
  · intro w'
    go_simp
    with_reducible rfl
  rotate_left
  · simp only [Act.put, List.setIfInBounds_toArray, List.set_cons_zero, List.set_cons_succ, i64_w, i32_w]
    rfl
  refine take_ (i := 0) (N := some 28) (v := ?_) (a' := ?_) qM4 rfl rfl (by kernel_rfl) (fun _ _ _ h => h) (Or.inl ⟨by rfl, ?_⟩) hHeld ?_ ?_
  rotate_left
  · rintro w' ⟨s0, s1, s2⟩
    go_simp
    with_reducible rfl
  rotate_left
  · simp only [Act.put, List.setIfInBounds_toArray, List.set_cons_zero, List.set_cons_succ, i64_w, i32_w]
    rfl
  refine take_ (i := 1) (N := some 29) (v := ?_) (a' := ?_) qM5 rfl rfl (by kernel_rfl) (fun _ _ _ h => h) (Or.inl ⟨by rfl, ?_⟩) hHeld ?_ ?_
  rotate_left
  · rintro w' ⟨s0, s1, s2⟩
    go_simp
    with_reducible rfl
  rotate_left
  · simp only [Act.put, List.setIfInBounds_toArray, List.set_cons_zero, List.set_cons_succ, i64_w, i32_w]
    rfl
  refine take_ (i := 5) (N := some 33) (v := ?_) (a' := ?_) qM6 rfl rfl (by kernel_rfl) (fun _ _ _ h => h) (Or.inl ⟨by rfl, ?_⟩) hHeld ?_ ?_
  rotate_left
  · rintro w' ⟨s0, s1, s2⟩
    go_simp
    with_reducible rfl
  rotate_left
  · simp only [Act.put, List.setIfInBounds_toArray, List.set_cons_zero, List.set_cons_succ, i64_w, i32_w]
    rfl
  refine join_ (σ := Value × Value × Value × Value) 1 qM7 (fun s_ => [(31, s_.1), (34, s_.2.1), (36, s_.2.2.1), (10, s_.2.2.2)]) (fun s_ w' => (w'.cell? ⟨xb, 0, none⟩ = some (.slice AX lx.length cX) ∧ w'.cell? ⟨xb, 1, none⟩ = some (.int .i64 sx) ∧ w'.cell? ⟨xb, 2, none⟩ = some (.int .i64 bx)) ∧ (∃ AB cB AN cN AB2 cB2 AN2 cN2 g, s_ = (.agg (stC (openS p lx.length) AB cB AN cN), .int .i64 (startOf 2 sx), .agg (stC (advTo lx sx (chainOf n) (openS p lx.length) (startOf 2 sx)) AB2 cB2 AN2 cN2), .pointer (some ⟨g, 0, none⟩)) ∧ (∃ b, Rows2 b (openS p lx.length) AB cB AN cN w') ∧ (SIn AX cX lx (advTo lx sx (chainOf n) (openS p lx.length) (startOf 2 sx)) AB2 cB2 AN2 cN2 v (chainOf n) w') ∧ (w'.heap[g]? = some (.cells #[.bool false, .bool false, .bool false, .bool false, .int .i64 0, .int .u64 0, .int .i64 0, .int .u64 0, .int .i64 0, .int .u64 0, .int .i64 0, .slice none 0 0, .slice none 0 0] 39 (0, 0))) ∧ (w5.heap.size ≤ g)) ∧ Below w5.heap.size w5 w') ?_ ?_
  rotate_left
  · intro hCont
    refine two_ (i := 3) (j := 9) (Ni := some 31) (Nj := some 10) qM8 qM9 rfl rfl rfl rfl (by kernel_rfl) (by decide) (by decide) (fun K hK => ?_) (fun K hK => ?_)
    · skip
      refine goes_ Try.func12 (by kernel_rfl) rfl #[.agg #[.slice AX lx.length cX, .int .i64 sx, .int .i64 bx], .int .u64 p] (by rfl) rfl rfl (by simp only [List.map_toArray, List.map_cons, List.map_nil]; rfl) ?_
      with_reducible refine (open_calls AX cX lx sx bx p _ HNX.out).mono ?_
      rintro x wq1 ⟨AB, cB, AN, cN, rfl, h_RW, hb⟩
      refine ⟨_, rfl, ?_⟩
      have h_RW := rows_ex h_RW
      have HQ1 := Aside0.mk (below_then (below_drew (Below.refl w5.heap.size w5)) (Nat.le_refl _) hb)
      have RW_1 := Aside0.mk h_RW
      clear hb h_RW
      refine hK.out _ _ ⟨(pw_cell_below HQ1.out (blk_cell BM5.out 0)), (pw_cell_below HQ1.out (blk_cell BM5.out 1)), (pw_cell_below HQ1.out (blk_cell BM5.out 2))⟩ (fun hHeld => ?_)
      clear hK K
      refine norm_ (a' := ?_) ?_ ?_
      rotate_left
      · show Act.put _ (some 31) _ = _
        simp only [Act.put, List.setIfInBounds_toArray, List.set_cons_zero, List.set_cons_succ, i64_w, i32_w]
        rfl
      refine two_ (i := 6) (j := 9) (Ni := some 34) (Nj := some 10) qM10 qM11 rfl rfl rfl rfl (by kernel_rfl) (by decide) (by decide) (fun K hK => ?_) (fun K hK => ?_)
      · skip
        refine goes_ Try.func17 (by kernel_rfl) rfl #[.int .i64 2, .int .i64 sx] (by rfl) rfl rfl (by simp only [List.map_toArray, List.map_cons, List.map_nil]; rfl) ?_
        with_reducible refine (epoch_Start.calls _ _ _ _ (start_f 2 sx)).mono ?_
        rintro x wq2 ⟨rfl, hb⟩
        refine ⟨_, rfl, ?_⟩
        have HQ2 := Aside0.mk (below_then HQ1.out HQ1.out.size hb)
        have RW_2 := Aside0.mk (rows_below RW_1.out hb)
        clear hb 
        refine hK.out _ _ ⟨(pw_cell_below HQ2.out (blk_cell BM5.out 0)), (pw_cell_below HQ2.out (blk_cell BM5.out 1)), (pw_cell_below HQ2.out (blk_cell BM5.out 2))⟩ (fun hHeld => ?_)
        clear hK K
        refine norm_ (a' := ?_) ?_ ?_
        rotate_left
        · show Act.put _ (some 34) _ = _
          simp only [Act.put, List.setIfInBounds_toArray, List.set_cons_zero, List.set_cons_succ, i64_w, i32_w]
          rfl
        refine two_ (i := 8) (j := 9) (Ni := some 36) (Nj := some 10) qM12 qM13 rfl rfl rfl rfl (by kernel_rfl) (by decide) (by decide) (fun K hK => ?_) (fun K hK => ?_)
        · skip
          obtain ⟨rb, RWx⟩ := RW_2.out
          refine goes_ Try.func13 (by kernel_rfl) rfl #[.agg #[.slice AX lx.length cX, .int .i64 sx, .int .i64 bx], .agg (stC (openS p lx.length) AB cB AN cN), .int .i64 (startOf 2 sx), v] (by rfl) rfl rfl (by simp only [List.map_toArray, List.map_cons, List.map_nil]; rfl) ?_
          with_reducible refine (advance_calls AX cX lx sx bx (openS p lx.length) AB cB AN cN (startOf 2 sx) v (chainOf n) _ (RWx.sin (CN5.out.below HQ2.out) (by simp [openS]; exact HNX.out) (by simp [openS]; exact HNX.out) (by simp [openS])) (start_range _ _)).mono ?_
          rintro x wq3 ⟨AB2, cB2, AN2, cN2, rfl, h_SI, hb⟩
          refine ⟨_, rfl, ?_⟩
          clear RWx
          have HQ3 := Aside0.mk (below_then HQ2.out HQ2.out.size hb)
          have SI_3 := Aside0.mk h_SI
          have RW_3 := Aside0.mk (rows_below RW_2.out hb)
          clear hb h_SI
          refine hK.out _ _ ⟨(pw_cell_below HQ3.out (blk_cell BM5.out 0)), (pw_cell_below HQ3.out (blk_cell BM5.out 1)), (pw_cell_below HQ3.out (blk_cell BM5.out 2))⟩ (fun hHeld => ?_)
          clear hK K
          refine norm_ (a' := ?_) ?_ ?_
          rotate_left
          · show Act.put _ (some 36) _ = _
            simp only [Act.put, List.setIfInBounds_toArray, List.set_cons_zero, List.set_cons_succ, i64_w, i32_w]
            rfl
          refine one_ (i := 9) (N := some 10) qM7 rfl rfl (by kernel_rfl) (by decide) (fun K hK => ?_)
          refine alloc_step (base := wq3.heap.size) (w0 := wq3) 39 #[.bool false, .bool false, .bool false, .bool false, .int .i64 0, .int .u64 0, .int .i64 0, .int .u64 0, .int .i64 0, .int .u64 0, .int .i64 0, .slice none 0 0, .slice none 0 0] (by rfl) rfl rfl (by kernel_rfl) (Below.refl _ _) (Nat.le_refl _) ?_
          intro g wq4 h_GZ hge hb hg_
          have h_GEGZ : w5.heap.size ≤ g := Nat.le_trans HQ3.out.size hge
          clear hge hg_
          have HQ4 := Aside0.mk (below_then HQ3.out HQ3.out.size hb)
          have GZ_4 := Aside0.mk h_GZ
          have GEGZ_4 := Aside0.mk h_GEGZ
          have RW_4 := Aside0.mk (rows_below RW_3.out hb)
          have SI_4 := Aside0.mk (SIn.below SI_3.out hb)
          clear hb h_GZ h_GEGZ
          refine hK.out _ _ ⟨(pw_cell_below HQ4.out (blk_cell BM5.out 0)), (pw_cell_below HQ4.out (blk_cell BM5.out 1)), (pw_cell_below HQ4.out (blk_cell BM5.out 2))⟩ (fun hHeld => ?_)
          clear hK K
          refine norm_ (a' := ?_) ?_ ?_
          rotate_left
          · show Act.put _ (some 10) _ = _
            simp only [Act.put, List.setIfInBounds_toArray, List.set_cons_zero, List.set_cons_succ, i64_w, i32_w]
            rfl
          exact norm_ (by simp only [putAll, Act.put, List.setIfInBounds_toArray, List.set_cons_zero, List.set_cons_succ]) (hCont (.agg (stC (openS p lx.length) AB cB AN cN), .int .i64 (startOf 2 sx), .agg (stC (advTo lx sx (chainOf n) (openS p lx.length) (startOf 2 sx)) AB2 cB2 AN2 cN2), .pointer (some ⟨g, 0, none⟩)) _ ⟨hHeld, ⟨AB, cB, AN, cN, AB2, cB2, AN2, cN2, g, rfl, RW_4.out, SI_4.out, GZ_4.out, GEGZ_4.out⟩, HQ4.out⟩)
        · skip
          refine alloc_step (base := wq2.heap.size) (w0 := wq2) 39 #[.bool false, .bool false, .bool false, .bool false, .int .i64 0, .int .u64 0, .int .i64 0, .int .u64 0, .int .i64 0, .int .u64 0, .int .i64 0, .slice none 0 0, .slice none 0 0] (by rfl) rfl rfl (by kernel_rfl) (Below.refl _ _) (Nat.le_refl _) ?_
          intro g wq3 h_GZ hge hb hg_
          have h_GEGZ : w5.heap.size ≤ g := Nat.le_trans HQ2.out.size hge
          clear hge hg_
          have HQ3 := Aside0.mk (below_then HQ2.out HQ2.out.size hb)
          have GZ_3 := Aside0.mk h_GZ
          have GEGZ_3 := Aside0.mk h_GEGZ
          have RW_3 := Aside0.mk (rows_below RW_2.out hb)
          clear hb h_GZ h_GEGZ
          refine hK.out _ _ ⟨(pw_cell_below HQ3.out (blk_cell BM5.out 0)), (pw_cell_below HQ3.out (blk_cell BM5.out 1)), (pw_cell_below HQ3.out (blk_cell BM5.out 2))⟩ (fun hHeld => ?_)
          clear hK K
          refine norm_ (a' := ?_) ?_ ?_
          rotate_left
          · show Act.put _ (some 10) _ = _
            simp only [Act.put, List.setIfInBounds_toArray, List.set_cons_zero, List.set_cons_succ, i64_w, i32_w]
            rfl
          refine one_ (i := 8) (N := some 36) qM7 rfl rfl (by kernel_rfl) (by decide) (fun K hK => ?_)
          obtain ⟨rb, RWx⟩ := RW_3.out
          refine goes_ Try.func13 (by kernel_rfl) rfl #[.agg #[.slice AX lx.length cX, .int .i64 sx, .int .i64 bx], .agg (stC (openS p lx.length) AB cB AN cN), .int .i64 (startOf 2 sx), v] (by rfl) rfl rfl (by simp only [List.map_toArray, List.map_cons, List.map_nil]; rfl) ?_
          with_reducible refine (advance_calls AX cX lx sx bx (openS p lx.length) AB cB AN cN (startOf 2 sx) v (chainOf n) _ (RWx.sin (CN5.out.below HQ3.out) (by simp [openS]; exact HNX.out) (by simp [openS]; exact HNX.out) (by simp [openS])) (start_range _ _)).mono ?_
          rintro x wq4 ⟨AB2, cB2, AN2, cN2, rfl, h_SI, hb⟩
          refine ⟨_, rfl, ?_⟩
          clear RWx
          have HQ4 := Aside0.mk (below_then HQ3.out HQ3.out.size hb)
          have SI_4 := Aside0.mk h_SI
          have RW_4 := Aside0.mk (rows_below RW_3.out hb)
          have GZ_4 := Aside0.mk (blk_below GZ_3.out hb)
          have GEGZ_4 := Aside0.mk (GEGZ_3.out)
          clear hb h_SI
          refine hK.out _ _ ⟨(pw_cell_below HQ4.out (blk_cell BM5.out 0)), (pw_cell_below HQ4.out (blk_cell BM5.out 1)), (pw_cell_below HQ4.out (blk_cell BM5.out 2))⟩ (fun hHeld => ?_)
          clear hK K
          refine norm_ (a' := ?_) ?_ ?_
          rotate_left
          · show Act.put _ (some 36) _ = _
            simp only [Act.put, List.setIfInBounds_toArray, List.set_cons_zero, List.set_cons_succ, i64_w, i32_w]
            rfl
          exact norm_ (by simp only [putAll, Act.put, List.setIfInBounds_toArray, List.set_cons_zero, List.set_cons_succ]) (hCont (.agg (stC (openS p lx.length) AB cB AN cN), .int .i64 (startOf 2 sx), .agg (stC (advTo lx sx (chainOf n) (openS p lx.length) (startOf 2 sx)) AB2 cB2 AN2 cN2), .pointer (some ⟨g, 0, none⟩)) _ ⟨hHeld, ⟨AB, cB, AN, cN, AB2, cB2, AN2, cN2, g, rfl, RW_4.out, SI_4.out, GZ_4.out, GEGZ_4.out⟩, HQ4.out⟩)
      · skip
        refine alloc_step (base := wq1.heap.size) (w0 := wq1) 39 #[.bool false, .bool false, .bool false, .bool false, .int .i64 0, .int .u64 0, .int .i64 0, .int .u64 0, .int .i64 0, .int .u64 0, .int .i64 0, .slice none 0 0, .slice none 0 0] (by rfl) rfl rfl (by kernel_rfl) (Below.refl _ _) (Nat.le_refl _) ?_
        intro g wq2 h_GZ hge hb hg_
        have h_GEGZ : w5.heap.size ≤ g := Nat.le_trans HQ1.out.size hge
        clear hge hg_
        have HQ2 := Aside0.mk (below_then HQ1.out HQ1.out.size hb)
        have GZ_2 := Aside0.mk h_GZ
        have GEGZ_2 := Aside0.mk h_GEGZ
        have RW_2 := Aside0.mk (rows_below RW_1.out hb)
        clear hb h_GZ h_GEGZ
        refine hK.out _ _ ⟨(pw_cell_below HQ2.out (blk_cell BM5.out 0)), (pw_cell_below HQ2.out (blk_cell BM5.out 1)), (pw_cell_below HQ2.out (blk_cell BM5.out 2))⟩ (fun hHeld => ?_)
        clear hK K
        refine norm_ (a' := ?_) ?_ ?_
        rotate_left
        · show Act.put _ (some 10) _ = _
          simp only [Act.put, List.setIfInBounds_toArray, List.set_cons_zero, List.set_cons_succ, i64_w, i32_w]
          rfl
        refine one_ (i := 6) (N := some 34) qM13 rfl rfl (by kernel_rfl) (by decide) (fun K hK => ?_)
        refine goes_ Try.func17 (by kernel_rfl) rfl #[.int .i64 2, .int .i64 sx] (by rfl) rfl rfl (by simp only [List.map_toArray, List.map_cons, List.map_nil]; rfl) ?_
        with_reducible refine (epoch_Start.calls _ _ _ _ (start_f 2 sx)).mono ?_
        rintro x wq3 ⟨rfl, hb⟩
        refine ⟨_, rfl, ?_⟩
        have HQ3 := Aside0.mk (below_then HQ2.out HQ2.out.size hb)
        have RW_3 := Aside0.mk (rows_below RW_2.out hb)
        have GZ_3 := Aside0.mk (blk_below GZ_2.out hb)
        have GEGZ_3 := Aside0.mk (GEGZ_2.out)
        clear hb 
        refine hK.out _ _ ⟨(pw_cell_below HQ3.out (blk_cell BM5.out 0)), (pw_cell_below HQ3.out (blk_cell BM5.out 1)), (pw_cell_below HQ3.out (blk_cell BM5.out 2))⟩ (fun hHeld => ?_)
        clear hK K
        refine norm_ (a' := ?_) ?_ ?_
        rotate_left
        · show Act.put _ (some 34) _ = _
          simp only [Act.put, List.setIfInBounds_toArray, List.set_cons_zero, List.set_cons_succ, i64_w, i32_w]
          rfl
        refine one_ (i := 8) (N := some 36) qM7 rfl rfl (by kernel_rfl) (by decide) (fun K hK => ?_)
        obtain ⟨rb, RWx⟩ := RW_3.out
        refine goes_ Try.func13 (by kernel_rfl) rfl #[.agg #[.slice AX lx.length cX, .int .i64 sx, .int .i64 bx], .agg (stC (openS p lx.length) AB cB AN cN), .int .i64 (startOf 2 sx), v] (by rfl) rfl rfl (by simp only [List.map_toArray, List.map_cons, List.map_nil]; rfl) ?_
        with_reducible refine (advance_calls AX cX lx sx bx (openS p lx.length) AB cB AN cN (startOf 2 sx) v (chainOf n) _ (RWx.sin (CN5.out.below HQ3.out) (by simp [openS]; exact HNX.out) (by simp [openS]; exact HNX.out) (by simp [openS])) (start_range _ _)).mono ?_
        rintro x wq4 ⟨AB2, cB2, AN2, cN2, rfl, h_SI, hb⟩
        refine ⟨_, rfl, ?_⟩
        clear RWx
        have HQ4 := Aside0.mk (below_then HQ3.out HQ3.out.size hb)
        have SI_4 := Aside0.mk h_SI
        have RW_4 := Aside0.mk (rows_below RW_3.out hb)
        have GZ_4 := Aside0.mk (blk_below GZ_3.out hb)
        have GEGZ_4 := Aside0.mk (GEGZ_3.out)
        clear hb h_SI
        refine hK.out _ _ ⟨(pw_cell_below HQ4.out (blk_cell BM5.out 0)), (pw_cell_below HQ4.out (blk_cell BM5.out 1)), (pw_cell_below HQ4.out (blk_cell BM5.out 2))⟩ (fun hHeld => ?_)
        clear hK K
        refine norm_ (a' := ?_) ?_ ?_
        rotate_left
        · show Act.put _ (some 36) _ = _
          simp only [Act.put, List.setIfInBounds_toArray, List.set_cons_zero, List.set_cons_succ, i64_w, i32_w]
          rfl
        exact norm_ (by simp only [putAll, Act.put, List.setIfInBounds_toArray, List.set_cons_zero, List.set_cons_succ]) (hCont (.agg (stC (openS p lx.length) AB cB AN cN), .int .i64 (startOf 2 sx), .agg (stC (advTo lx sx (chainOf n) (openS p lx.length) (startOf 2 sx)) AB2 cB2 AN2 cN2), .pointer (some ⟨g, 0, none⟩)) _ ⟨hHeld, ⟨AB, cB, AN, cN, AB2, cB2, AN2, cN2, g, rfl, RW_4.out, SI_4.out, GZ_4.out, GEGZ_4.out⟩, HQ4.out⟩)
    · skip
      refine alloc_step (base := w5.drew.heap.size) (w0 := w5.drew) 39 #[.bool false, .bool false, .bool false, .bool false, .int .i64 0, .int .u64 0, .int .i64 0, .int .u64 0, .int .i64 0, .int .u64 0, .int .i64 0, .slice none 0 0, .slice none 0 0] (by rfl) rfl rfl (by kernel_rfl) (Below.refl _ _) (Nat.le_refl _) ?_
      intro g wq1 h_GZ hge hb hg_
      have h_GEGZ : w5.heap.size ≤ g := Nat.le_trans (below_drew (Below.refl w5.heap.size w5)).size hge
      clear hge hg_
      have HQ1 := Aside0.mk (below_then (below_drew (Below.refl w5.heap.size w5)) (Nat.le_refl _) hb)
      have GZ_1 := Aside0.mk h_GZ
      have GEGZ_1 := Aside0.mk h_GEGZ
      clear hb h_GZ h_GEGZ
      refine hK.out _ _ ⟨(pw_cell_below HQ1.out (blk_cell BM5.out 0)), (pw_cell_below HQ1.out (blk_cell BM5.out 1)), (pw_cell_below HQ1.out (blk_cell BM5.out 2))⟩ (fun hHeld => ?_)
      clear hK K
      refine norm_ (a' := ?_) ?_ ?_
      rotate_left
      · show Act.put _ (some 10) _ = _
        simp only [Act.put, List.setIfInBounds_toArray, List.set_cons_zero, List.set_cons_succ, i64_w, i32_w]
        rfl
      refine one_ (i := 3) (N := some 31) qM11 rfl rfl (by kernel_rfl) (by decide) (fun K hK => ?_)
      refine goes_ Try.func12 (by kernel_rfl) rfl #[.agg #[.slice AX lx.length cX, .int .i64 sx, .int .i64 bx], .int .u64 p] (by rfl) rfl rfl (by simp only [List.map_toArray, List.map_cons, List.map_nil]; rfl) ?_
      with_reducible refine (open_calls AX cX lx sx bx p _ HNX.out).mono ?_
      rintro x wq2 ⟨AB, cB, AN, cN, rfl, h_RW, hb⟩
      refine ⟨_, rfl, ?_⟩
      have h_RW := rows_ex h_RW
      have HQ2 := Aside0.mk (below_then HQ1.out HQ1.out.size hb)
      have RW_2 := Aside0.mk h_RW
      have GZ_2 := Aside0.mk (blk_below GZ_1.out hb)
      have GEGZ_2 := Aside0.mk (GEGZ_1.out)
      clear hb h_RW
      refine hK.out _ _ ⟨(pw_cell_below HQ2.out (blk_cell BM5.out 0)), (pw_cell_below HQ2.out (blk_cell BM5.out 1)), (pw_cell_below HQ2.out (blk_cell BM5.out 2))⟩ (fun hHeld => ?_)
      clear hK K
      refine norm_ (a' := ?_) ?_ ?_
      rotate_left
      · show Act.put _ (some 31) _ = _
        simp only [Act.put, List.setIfInBounds_toArray, List.set_cons_zero, List.set_cons_succ, i64_w, i32_w]
        rfl
      refine one_ (i := 6) (N := some 34) qM13 rfl rfl (by kernel_rfl) (by decide) (fun K hK => ?_)
      refine goes_ Try.func17 (by kernel_rfl) rfl #[.int .i64 2, .int .i64 sx] (by rfl) rfl rfl (by simp only [List.map_toArray, List.map_cons, List.map_nil]; rfl) ?_
      with_reducible refine (epoch_Start.calls _ _ _ _ (start_f 2 sx)).mono ?_
      rintro x wq3 ⟨rfl, hb⟩
      refine ⟨_, rfl, ?_⟩
      have HQ3 := Aside0.mk (below_then HQ2.out HQ2.out.size hb)
      have RW_3 := Aside0.mk (rows_below RW_2.out hb)
      have GZ_3 := Aside0.mk (blk_below GZ_2.out hb)
      have GEGZ_3 := Aside0.mk (GEGZ_2.out)
      clear hb 
      refine hK.out _ _ ⟨(pw_cell_below HQ3.out (blk_cell BM5.out 0)), (pw_cell_below HQ3.out (blk_cell BM5.out 1)), (pw_cell_below HQ3.out (blk_cell BM5.out 2))⟩ (fun hHeld => ?_)
      clear hK K
      refine norm_ (a' := ?_) ?_ ?_
      rotate_left
      · show Act.put _ (some 34) _ = _
        simp only [Act.put, List.setIfInBounds_toArray, List.set_cons_zero, List.set_cons_succ, i64_w, i32_w]
        rfl
      refine one_ (i := 8) (N := some 36) qM7 rfl rfl (by kernel_rfl) (by decide) (fun K hK => ?_)
      obtain ⟨rb, RWx⟩ := RW_3.out
      refine goes_ Try.func13 (by kernel_rfl) rfl #[.agg #[.slice AX lx.length cX, .int .i64 sx, .int .i64 bx], .agg (stC (openS p lx.length) AB cB AN cN), .int .i64 (startOf 2 sx), v] (by rfl) rfl rfl (by simp only [List.map_toArray, List.map_cons, List.map_nil]; rfl) ?_
      with_reducible refine (advance_calls AX cX lx sx bx (openS p lx.length) AB cB AN cN (startOf 2 sx) v (chainOf n) _ (RWx.sin (CN5.out.below HQ3.out) (by simp [openS]; exact HNX.out) (by simp [openS]; exact HNX.out) (by simp [openS])) (start_range _ _)).mono ?_
      rintro x wq4 ⟨AB2, cB2, AN2, cN2, rfl, h_SI, hb⟩
      refine ⟨_, rfl, ?_⟩
      clear RWx
      have HQ4 := Aside0.mk (below_then HQ3.out HQ3.out.size hb)
      have SI_4 := Aside0.mk h_SI
      have RW_4 := Aside0.mk (rows_below RW_3.out hb)
      have GZ_4 := Aside0.mk (blk_below GZ_3.out hb)
      have GEGZ_4 := Aside0.mk (GEGZ_3.out)
      clear hb h_SI
      refine hK.out _ _ ⟨(pw_cell_below HQ4.out (blk_cell BM5.out 0)), (pw_cell_below HQ4.out (blk_cell BM5.out 1)), (pw_cell_below HQ4.out (blk_cell BM5.out 2))⟩ (fun hHeld => ?_)
      clear hK K
      refine norm_ (a' := ?_) ?_ ?_
      rotate_left
      · show Act.put _ (some 36) _ = _
        simp only [Act.put, List.setIfInBounds_toArray, List.set_cons_zero, List.set_cons_succ, i64_w, i32_w]
        rfl
      exact norm_ (by simp only [putAll, Act.put, List.setIfInBounds_toArray, List.set_cons_zero, List.set_cons_succ]) (hCont (.agg (stC (openS p lx.length) AB cB AN cN), .int .i64 (startOf 2 sx), .agg (stC (advTo lx sx (chainOf n) (openS p lx.length) (startOf 2 sx)) AB2 cB2 AN2 cN2), .pointer (some ⟨g, 0, none⟩)) _ ⟨hHeld, ⟨AB, cB, AN, cN, AB2, cB2, AN2, cN2, g, rfl, RW_4.out, SI_4.out, GZ_4.out, GEGZ_4.out⟩, HQ4.out⟩)
  rintro s_ wj ⟨hS_, ⟨AB, cB, AN, cN, AB2, cB2, AN2, cN2, g, rfl, h_RW, h_SI, h_GZ, h_GEGZ⟩, hbj⟩
  have RW := Aside0.mk h_RW
  have SI := Aside0.mk h_SI
  have GZ := Aside0.mk h_GZ
  have GEGZ := Aside0.mk h_GEGZ
  have HJ := Aside0.mk hbj
  clear hbj h_RW h_SI h_GZ h_GEGZ
  have hHeld : wj.cell? ⟨xb, 0, none⟩ = some (.slice AX lx.length cX) ∧ wj.cell? ⟨xb, 1, none⟩ = some (.int .i64 sx) ∧ wj.cell? ⟨xb, 2, none⟩ = some (.int .i64 bx) := hS_
  refine norm_ (a' := ?_) ?_ ?_
  rotate_left
  · simp only [putAll, Act.put, List.setIfInBounds_toArray, List.set_cons_zero, List.set_cons_succ]
    rfl
  refine last_ (i := 10) (N := none) qM14 rfl rfl (by kernel_rfl) (by decide) (fun K hK => ?_)
  refine store_step (by rfl) rfl 39 (.tmp 10) (.tmp 36) rfl g 39 _ (stC (advTo lx sx (chainOf n) (openS p lx.length) (startOf 2 sx)) AB2 cB2 AN2 cN2) rfl rfl GZ.out rfl (by kernel_rfl) (by simp [stC, Value.oneCell']) ?_
  intro wz hbk hgr
  have G9 := Aside0.mk hbk
  have HJZ := Aside0.mk (HJ.out.grown hgr HJ.out.size (fun k hk => by cases hk; exact GEGZ.out))
  have HZ := Aside0.mk (below_then HB5.out HB5.out.size HJZ.out)
  have BMz := Aside0.mk (blk_below BM5.out HJZ.out)
  have SIz := Aside0.mk (SI.out.over CN5.out GZ.out (by decide) hgr HJZ.out)
  clear hbk hgr
  refine hK.out _ _ ?_
  clear hK K
  refine done_ (by kernel_rfl) ?_
  obtain ⟨s, hs⟩ : ∃ s, advTo lx sx (chainOf n) (openS p lx.length) (startOf 2 sx) = s := ⟨_, rfl⟩
  rw [hs] at G9 SIz
  rw [hs]
  have HST := Aside0.mk hs
  clear hs hHeld RW SI GZ HJ
  have hz := blk_cell BMz.out
  go_wp2_with fail
  clear hz
  go_loopw [11, 40] (fun v11 v40 wr => ∃ k : Nat, k ≤ lx.length ∧ v40 = .int .i64 k ∧ Aside0 (Kd.R (Kd.int .i64) 3 wr wz.heap.size (fun _ => True) v11 (someL (mostP who) k)) ∧ Aside0 (Below wz.heap.size wz wr)) (fun _ v40 _ => lx.length - (RowKit.intOf v40).toNat)
  case atStart => exact ⟨0, by omega, rfl, ⟨Kd.R_nil _ _ _ _ _⟩, ⟨Below.refl _ _⟩⟩
  case round =>
    obtain ⟨k, hk, rfl, HR, HW⟩ := hrel
    obtain ⟨Al, cl, rfl⟩ := Kd.R_slice HR.out
    by_cases hlt : k < lx.length
    · have t0 : decide ((k : Int) < (lx.length : Int)) = true := decide_eq_true (by omega)
      have hwk : wrap64 ((k : Int) + 1) = ((k + 1 : Nat) : Int) := by have := HNX.out; unfold wrap64; omega
      have HWK := Aside0.mk hwk
      have HLS : Aside0 ((someL (mostP who) k).length ≤ 17592186043904) := ⟨by have h1 := someL_len (mostP who) k; have h2 := HNX.out; omega⟩
      clear hwk
      by_cases h16 : k < 16
      · have t1 : decide ((k : Int) < 16) = true := decide_eq_true (by omega)
        by_cases hbt : (bits .and .u16 who (IntKind.u16.wrap (2 ^ k)) != 0) = true
        · have HS : Aside0 (someL (mostP who) (k + 1) = someL (mostP who) k ++ [(k : Int)]) := ⟨by
            have hp : mostP who k = true := by unfold mostP; rw [hbt, decide_eq_true h16]; rfl
            show (if mostP who k = true then _ else _) = _
            rw [if_pos hp]⟩
          go_wp2_with (at_builtin; (refine Kd.R_append (Kd.int .i64) (w0 := wz) wz.heap.size rfl (.tmp 52) (.tmp 54) 41 3 (.int .i64 0) 8 rfl Try.underlying41 info_int rfl (by decide) (by omega) (.slice Al (someL (mostP who) k).length cl) (someL (mostP who) k) (k : Int) [.int .i64 (k : Int)] (fun _ => True) (fun _ => False) rfl rfl ?aP (fun _ hk => hk.elim) ?aF ?aO ?aB ?aS ?aL ?_); (case aP => exact rfl); (case aF => exact fun _ _ => trivial); (case aO => first | exact HR.out | exact Kd.R_below HR.out (below_alloc (Below.refl _ _) _)); (case aB => first | exact HW.out | exact below_alloc HW.out _); (case aS => first | exact HW.out.size | exact (below_alloc HW.out _).size); (case aL => have := HLS.out; omega); intro v12 w12 ho hb hg hat; have HR2 := Aside0.mk ho; have HW2 := Aside0.mk hb; clear ho hb hg hat)
          go_roundw
          case rel => exact ⟨k + 1, by omega, by first | rw [HWK.out] | rfl, ⟨by rw [HS.out]; exact HR2.out⟩, HW2⟩
          case measure => (first | rw [HWK.out] | skip); simp [RowKit.intOf]; omega
        · have hbf : (bits .and .u16 who (IntKind.u16.wrap (2 ^ k)) != 0) = false := by simpa using hbt
          have HS : Aside0 (someL (mostP who) (k + 1) = someL (mostP who) k) := ⟨by
            have hp : ¬ mostP who k = true := by unfold mostP; rw [hbf]; simp
            show (if mostP who k = true then _ else _) = _
            rw [if_neg hp]⟩
          clear hbt
          go_wp2_with fail
          go_roundw
          case rel => exact ⟨k + 1, by omega, by first | rw [HWK.out] | rfl, ⟨by rw [HS.out]; exact HR.out⟩, HW⟩
          case measure => (first | rw [HWK.out] | skip); simp [RowKit.intOf]; omega
      · have t1 : decide ((k : Int) < 16) = false := decide_eq_false (by omega)
        have HS : Aside0 (someL (mostP who) (k + 1) = someL (mostP who) k) := ⟨by
          have hp : ¬ mostP who k = true := by unfold mostP; rw [decide_eq_false h16]; simp
          show (if mostP who k = true then _ else _) = _
          rw [if_neg hp]⟩
        go_wp2_with fail
        go_roundw
        case rel => exact ⟨k + 1, by omega, by first | rw [HWK.out] | rfl, ⟨by rw [HS.out]; exact HR.out⟩, HW⟩
        case measure => (first | rw [HWK.out] | skip); simp [RowKit.intOf]; omega
    · have t0 : decide ((k : Int) < (lx.length : Int)) = false := decide_eq_false (by omega)
      obtain rfl : k = lx.length := by omega
      obtain ⟨W, hW⟩ : ∃ W, someL (mostP who) lx.length = W := ⟨_, rfl⟩
      have HWD := Aside0.mk hW
      rw [hW] at HR
      rw [hW]
      clear hW
      obtain ⟨w6, hw6⟩ : ∃ x, x = wr := ⟨_, rfl⟩
      have BM6 := Aside0.mk (blk_below BMz.out HW.out)
      have G6 := Aside0.mk (blk_below G9.out HW.out)
      have SI6 := Aside0.mk (SIz.out.below HW.out)
      have CN6 := Aside0.mk SI6.out.c
      have HB6 := Aside0.mk (below_then HZ.out HZ.out.size HW.out)
      have W6 := Aside0.mk (Kd.R_reads' HR.out).2.2
      have HCL := Aside0.mk (Kd.R_reads' HR.out).2.1
      rw [← hw6] at BM6 G6 SI6 CN6 HB6 W6
      go_upto_region 14 with fail
      rw [← hw6]
      clear hw6 HR HW
      refine start_ (n := 13) (S := fun w' => w'.cell? ⟨xb, 0, none⟩ = some (.slice AX lx.length cX) ∧ w'.cell? ⟨xb, 1, none⟩ = some (.int .i64 sx) ∧ w'.cell? ⟨xb, 2, none⟩ = some (.int .i64 bx) ∧ w'.cell? ⟨g, 6, none⟩ = some (.int .i64 s.j.ce) ∧ w'.cell? ⟨g, 7, none⟩ = some (.int .u64 s.j.cr)) (ds := [12]) qM15 (by kernel_rfl) rfl rfl ⟨(blk_cell BM6.out 0), (blk_cell BM6.out 1), (blk_cell BM6.out 2), (blk_cell G6.out 6), (blk_cell G6.out 7)⟩ (fun hHeld => ?_)
      refine pure_ (i := 0) (N := some 57) (v := ?_) (a' := ?_) qM16 rfl rfl (by kernel_rfl) (fun _ _ _ h => h) (Or.inl ⟨by rfl, ?_⟩) ?_ ?_
      rotate_left
      · intro w'
        go_simp
        with_reducible rfl
      rotate_left
      · simp only [Act.put, List.setIfInBounds_toArray, List.set_cons_zero, List.set_cons_succ, i64_w, i32_w]
        rfl
      refine pure_ (i := 3) (N := some 60) (v := ?_) (a' := ?_) qM17 rfl rfl (by kernel_rfl) (fun _ _ _ h => h) (Or.inl ⟨by rfl, ?_⟩) ?_ ?_
      rotate_left
      · intro w'
        go_simp
        with_reducible rfl
      rotate_left
      · simp only [Act.put, List.setIfInBounds_toArray, List.set_cons_zero, List.set_cons_succ, i64_w, i32_w]
        rfl
      refine pure_ (i := 4) (N := some 61) (v := ?_) (a' := ?_) qM18 rfl rfl (by kernel_rfl) (fun _ _ _ h => h) (Or.inl ⟨by rfl, ?_⟩) ?_ ?_
      rotate_left
      · intro w'
        go_simp
        with_reducible rfl
      rotate_left
      · simp only [Act.put, List.setIfInBounds_toArray, List.set_cons_zero, List.set_cons_succ, i64_w, i32_w]
        rfl
      refine pure_ (i := 7) (N := some 64) (v := ?_) (a' := ?_) qM19 rfl rfl (by kernel_rfl) (fun _ _ _ h => h) (Or.inl ⟨by rfl, ?_⟩) ?_ ?_
      rotate_left
      · intro w'
        go_simp
        with_reducible rfl
      rotate_left
      · simp only [Act.put, List.setIfInBounds_toArray, List.set_cons_zero, List.set_cons_succ, i64_w, i32_w]
        rfl
      refine pure_ (i := 9) (N := some 66) (v := ?_) (a' := ?_) qM20 rfl rfl (by kernel_rfl) (fun _ _ _ h => h) (Or.inl ⟨by rfl, ?_⟩) ?_ ?_
      rotate_left
      · intro w'
        go_simp
        with_reducible rfl
      rotate_left
      · simp only [Act.put, List.setIfInBounds_toArray, List.set_cons_zero, List.set_cons_succ, i64_w, i32_w]
        rfl
      refine take_ (i := 1) (N := some 58) (v := ?_) (a' := ?_) qM21 rfl rfl (by kernel_rfl) (fun _ _ _ h => h) (Or.inl ⟨by rfl, ?_⟩) hHeld ?_ ?_
      rotate_left
      · rintro w' ⟨s0, s1, s2, s3, s4⟩
        go_simp
        with_reducible rfl
      rotate_left
      · simp only [Act.put, List.setIfInBounds_toArray, List.set_cons_zero, List.set_cons_succ, i64_w, i32_w]
        rfl
      refine take_ (i := 5) (N := some 62) (v := ?_) (a' := ?_) qM22 rfl rfl (by kernel_rfl) (fun _ _ _ h => h) (Or.inl ⟨by rfl, ?_⟩) hHeld ?_ ?_
      rotate_left
      · rintro w' ⟨s0, s1, s2, s3, s4⟩
        go_simp
        with_reducible rfl
      rotate_left
      · simp only [Act.put, List.setIfInBounds_toArray, List.set_cons_zero, List.set_cons_succ, i64_w, i32_w]
        rfl
      refine take_ (i := 6) (N := some 63) (v := ?_) (a' := ?_) qM23 rfl rfl (by kernel_rfl) (fun _ _ _ h => h) (Or.inl ⟨by rfl, ?_⟩) hHeld ?_ ?_
      rotate_left
      · rintro w' ⟨s0, s1, s2, s3, s4⟩
        go_simp
        with_reducible rfl
      rotate_left
      · simp only [Act.put, List.setIfInBounds_toArray, List.set_cons_zero, List.set_cons_succ, i64_w, i32_w]
        rfl
      refine join_ (σ := Value × Value × Value) 1 qM24 (fun s_ => [(59, s_.1), (65, s_.2.1), (13, s_.2.2), (67, .agg #[.int .i64 (startOf 2 sx), .int .u64 0, .int .i64 s.j.ce, .int .u64 s.j.cr, .int .i64 2, .int .u64 (chainOf n (startOf 2 sx)), .slice Al W.length cl])]) (fun s_ w' => (w'.cell? ⟨xb, 0, none⟩ = some (.slice AX lx.length cX) ∧ w'.cell? ⟨xb, 1, none⟩ = some (.int .i64 sx) ∧ w'.cell? ⟨xb, 2, none⟩ = some (.int .i64 bx) ∧ w'.cell? ⟨g, 6, none⟩ = some (.int .i64 s.j.ce) ∧ w'.cell? ⟨g, 7, none⟩ = some (.int .u64 s.j.cr)) ∧ (∃ gv, s_ = (.int .i64 (startOf 2 sx), .agg #[.int .i64 2, .int .u64 (chainOf n (startOf 2 sx))], .pointer (some ⟨gv, 0, none⟩)) ∧ (w'.heap[gv]? = some (.cells #[.int .i64 0, .int .u64 0, .int .i64 0, .int .u64 0, .int .i64 0, .int .u64 0, .slice none 0 0] 43 (0, 0))) ∧ (w6.heap.size ≤ gv)) ∧ Below w6.heap.size w6 w') ?_ ?_
      rotate_left
      · intro hCont
        refine two_ (i := 2) (j := 11) (Ni := some 59) (Nj := some 13) qM25 qM26 rfl rfl rfl rfl (by kernel_rfl) (by decide) (by decide) (fun K hK => ?_) (fun K hK => ?_)
        · skip
          refine goes_ Try.func17 (by kernel_rfl) rfl #[.int .i64 2, .int .i64 sx] (by rfl) rfl rfl (by simp only [List.map_toArray, List.map_cons, List.map_nil]; rfl) ?_
          with_reducible refine (epoch_Start.calls _ _ _ _ (start_f 2 sx)).mono ?_
          rintro x wq1 ⟨rfl, hb⟩
          refine ⟨_, rfl, ?_⟩
          have HQ1 := Aside0.mk (below_then (below_drew (Below.refl w6.heap.size w6)) (Nat.le_refl _) hb)
          clear hb 
          refine hK.out _ _ ⟨(pw_cell_below HQ1.out (blk_cell BM6.out 0)), (pw_cell_below HQ1.out (blk_cell BM6.out 1)), (pw_cell_below HQ1.out (blk_cell BM6.out 2)), (pw_cell_below HQ1.out (blk_cell G6.out 6)), (pw_cell_below HQ1.out (blk_cell G6.out 7))⟩ (fun hHeld => ?_)
          clear hK K
          refine norm_ (a' := ?_) ?_ ?_
          rotate_left
          · show Act.put _ (some 59) _ = _
            simp only [Act.put, List.setIfInBounds_toArray, List.set_cons_zero, List.set_cons_succ, i64_w, i32_w]
            rfl
          refine two_ (i := 8) (j := 11) (Ni := some 65) (Nj := some 13) qM27 qM28 rfl rfl rfl rfl (by kernel_rfl) (by decide) (by decide) (fun K hK => ?_) (fun K hK => ?_)
          · skip
            refine goes_ Try.func16 (by kernel_rfl) rfl #[.agg #[.slice AX lx.length cX, .int .i64 sx, .int .i64 bx], .int .i64 2, v] (by rfl) rfl rfl (by simp only [List.map_toArray, List.map_cons, List.map_nil]; rfl) ?_
            with_reducible refine (point10_calls AX lx.length cX sx bx 2 v (chainOf n) _ (CN6.out.ch.below HQ1.out) (by omega)).mono ?_
            rintro x wq2 ⟨rfl, hb⟩
            refine ⟨_, rfl, ?_⟩
            have HQ2 := Aside0.mk (below_then HQ1.out HQ1.out.size hb)
            clear hb 
            refine hK.out _ _ ⟨(pw_cell_below HQ2.out (blk_cell BM6.out 0)), (pw_cell_below HQ2.out (blk_cell BM6.out 1)), (pw_cell_below HQ2.out (blk_cell BM6.out 2)), (pw_cell_below HQ2.out (blk_cell G6.out 6)), (pw_cell_below HQ2.out (blk_cell G6.out 7))⟩ (fun hHeld => ?_)
            clear hK K
            refine norm_ (a' := ?_) ?_ ?_
            rotate_left
            · show Act.put _ (some 65) _ = _
              simp only [Act.put, List.setIfInBounds_toArray, List.set_cons_zero, List.set_cons_succ, i64_w, i32_w]
              rfl
            refine pure_ (i := 10) (N := some 67) (v := ?_) (a' := ?_) qM29 rfl rfl (by kernel_rfl) (fun _ _ _ h => h) (Or.inl ⟨by rfl, ?_⟩) ?_ ?_
            rotate_left
            · intro w'
              go_simp
              with_reducible rfl
            rotate_left
            · simp only [Act.put, List.setIfInBounds_toArray, List.set_cons_zero, List.set_cons_succ, i64_w, i32_w]
              rfl
            refine one_ (i := 11) (N := some 13) qM24 rfl rfl (by kernel_rfl) (by decide) (fun K hK => ?_)
            refine alloc_step (base := wq2.heap.size) (w0 := wq2) 43 #[.int .i64 0, .int .u64 0, .int .i64 0, .int .u64 0, .int .i64 0, .int .u64 0, .slice none 0 0] (by rfl) rfl rfl (by kernel_rfl) (Below.refl _ _) (Nat.le_refl _) ?_
            intro gv wq3 h_GV hge hb hg_
            have h_GEGV : w6.heap.size ≤ gv := Nat.le_trans HQ2.out.size hge
            clear hge hg_
            have HQ3 := Aside0.mk (below_then HQ2.out HQ2.out.size hb)
            have GV_3 := Aside0.mk h_GV
            have GEGV_3 := Aside0.mk h_GEGV
            clear hb h_GV h_GEGV
            refine hK.out _ _ ⟨(pw_cell_below HQ3.out (blk_cell BM6.out 0)), (pw_cell_below HQ3.out (blk_cell BM6.out 1)), (pw_cell_below HQ3.out (blk_cell BM6.out 2)), (pw_cell_below HQ3.out (blk_cell G6.out 6)), (pw_cell_below HQ3.out (blk_cell G6.out 7))⟩ (fun hHeld => ?_)
            clear hK K
            refine norm_ (a' := ?_) ?_ ?_
            rotate_left
            · show Act.put _ (some 13) _ = _
              simp only [Act.put, List.setIfInBounds_toArray, List.set_cons_zero, List.set_cons_succ, i64_w, i32_w]
              rfl
            exact norm_ (by simp only [putAll, Act.put, List.setIfInBounds_toArray, List.set_cons_zero, List.set_cons_succ]) (hCont (.int .i64 (startOf 2 sx), .agg #[.int .i64 2, .int .u64 (chainOf n (startOf 2 sx))], .pointer (some ⟨gv, 0, none⟩)) _ ⟨hHeld, ⟨gv, rfl, GV_3.out, GEGV_3.out⟩, HQ3.out⟩)
          · skip
            refine alloc_step (base := wq1.heap.size) (w0 := wq1) 43 #[.int .i64 0, .int .u64 0, .int .i64 0, .int .u64 0, .int .i64 0, .int .u64 0, .slice none 0 0] (by rfl) rfl rfl (by kernel_rfl) (Below.refl _ _) (Nat.le_refl _) ?_
            intro gv wq2 h_GV hge hb hg_
            have h_GEGV : w6.heap.size ≤ gv := Nat.le_trans HQ1.out.size hge
            clear hge hg_
            have HQ2 := Aside0.mk (below_then HQ1.out HQ1.out.size hb)
            have GV_2 := Aside0.mk h_GV
            have GEGV_2 := Aside0.mk h_GEGV
            clear hb h_GV h_GEGV
            refine hK.out _ _ ⟨(pw_cell_below HQ2.out (blk_cell BM6.out 0)), (pw_cell_below HQ2.out (blk_cell BM6.out 1)), (pw_cell_below HQ2.out (blk_cell BM6.out 2)), (pw_cell_below HQ2.out (blk_cell G6.out 6)), (pw_cell_below HQ2.out (blk_cell G6.out 7))⟩ (fun hHeld => ?_)
            clear hK K
            refine norm_ (a' := ?_) ?_ ?_
            rotate_left
            · show Act.put _ (some 13) _ = _
              simp only [Act.put, List.setIfInBounds_toArray, List.set_cons_zero, List.set_cons_succ, i64_w, i32_w]
              rfl
            refine one_ (i := 8) (N := some 65) qM30 rfl rfl (by kernel_rfl) (by decide) (fun K hK => ?_)
            refine goes_ Try.func16 (by kernel_rfl) rfl #[.agg #[.slice AX lx.length cX, .int .i64 sx, .int .i64 bx], .int .i64 2, v] (by rfl) rfl rfl (by simp only [List.map_toArray, List.map_cons, List.map_nil]; rfl) ?_
            with_reducible refine (point10_calls AX lx.length cX sx bx 2 v (chainOf n) _ (CN6.out.ch.below HQ2.out) (by omega)).mono ?_
            rintro x wq3 ⟨rfl, hb⟩
            refine ⟨_, rfl, ?_⟩
            have HQ3 := Aside0.mk (below_then HQ2.out HQ2.out.size hb)
            have GV_3 := Aside0.mk (blk_below GV_2.out hb)
            have GEGV_3 := Aside0.mk (GEGV_2.out)
            clear hb 
            refine hK.out _ _ ⟨(pw_cell_below HQ3.out (blk_cell BM6.out 0)), (pw_cell_below HQ3.out (blk_cell BM6.out 1)), (pw_cell_below HQ3.out (blk_cell BM6.out 2)), (pw_cell_below HQ3.out (blk_cell G6.out 6)), (pw_cell_below HQ3.out (blk_cell G6.out 7))⟩ (fun hHeld => ?_)
            clear hK K
            refine norm_ (a' := ?_) ?_ ?_
            rotate_left
            · show Act.put _ (some 65) _ = _
              simp only [Act.put, List.setIfInBounds_toArray, List.set_cons_zero, List.set_cons_succ, i64_w, i32_w]
              rfl
            refine pure_ (i := 10) (N := some 67) (v := ?_) (a' := ?_) qM24 rfl rfl (by kernel_rfl) (fun _ _ _ h => h) (Or.inl ⟨by rfl, ?_⟩) ?_ ?_
            rotate_left
            · intro w'
              go_simp
              with_reducible rfl
            rotate_left
            · simp only [Act.put, List.setIfInBounds_toArray, List.set_cons_zero, List.set_cons_succ, i64_w, i32_w]
              rfl
            exact norm_ (by simp only [putAll, Act.put, List.setIfInBounds_toArray, List.set_cons_zero, List.set_cons_succ]) (hCont (.int .i64 (startOf 2 sx), .agg #[.int .i64 2, .int .u64 (chainOf n (startOf 2 sx))], .pointer (some ⟨gv, 0, none⟩)) _ ⟨hHeld, ⟨gv, rfl, GV_3.out, GEGV_3.out⟩, HQ3.out⟩)
        · skip
          refine alloc_step (base := w6.drew.heap.size) (w0 := w6.drew) 43 #[.int .i64 0, .int .u64 0, .int .i64 0, .int .u64 0, .int .i64 0, .int .u64 0, .slice none 0 0] (by rfl) rfl rfl (by kernel_rfl) (Below.refl _ _) (Nat.le_refl _) ?_
          intro gv wq1 h_GV hge hb hg_
          have h_GEGV : w6.heap.size ≤ gv := Nat.le_trans (below_drew (Below.refl w6.heap.size w6)).size hge
          clear hge hg_
          have HQ1 := Aside0.mk (below_then (below_drew (Below.refl w6.heap.size w6)) (Nat.le_refl _) hb)
          have GV_1 := Aside0.mk h_GV
          have GEGV_1 := Aside0.mk h_GEGV
          clear hb h_GV h_GEGV
          refine hK.out _ _ ⟨(pw_cell_below HQ1.out (blk_cell BM6.out 0)), (pw_cell_below HQ1.out (blk_cell BM6.out 1)), (pw_cell_below HQ1.out (blk_cell BM6.out 2)), (pw_cell_below HQ1.out (blk_cell G6.out 6)), (pw_cell_below HQ1.out (blk_cell G6.out 7))⟩ (fun hHeld => ?_)
          clear hK K
          refine norm_ (a' := ?_) ?_ ?_
          rotate_left
          · show Act.put _ (some 13) _ = _
            simp only [Act.put, List.setIfInBounds_toArray, List.set_cons_zero, List.set_cons_succ, i64_w, i32_w]
            rfl
          refine one_ (i := 2) (N := some 59) qM28 rfl rfl (by kernel_rfl) (by decide) (fun K hK => ?_)
          refine goes_ Try.func17 (by kernel_rfl) rfl #[.int .i64 2, .int .i64 sx] (by rfl) rfl rfl (by simp only [List.map_toArray, List.map_cons, List.map_nil]; rfl) ?_
          with_reducible refine (epoch_Start.calls _ _ _ _ (start_f 2 sx)).mono ?_
          rintro x wq2 ⟨rfl, hb⟩
          refine ⟨_, rfl, ?_⟩
          have HQ2 := Aside0.mk (below_then HQ1.out HQ1.out.size hb)
          have GV_2 := Aside0.mk (blk_below GV_1.out hb)
          have GEGV_2 := Aside0.mk (GEGV_1.out)
          clear hb 
          refine hK.out _ _ ⟨(pw_cell_below HQ2.out (blk_cell BM6.out 0)), (pw_cell_below HQ2.out (blk_cell BM6.out 1)), (pw_cell_below HQ2.out (blk_cell BM6.out 2)), (pw_cell_below HQ2.out (blk_cell G6.out 6)), (pw_cell_below HQ2.out (blk_cell G6.out 7))⟩ (fun hHeld => ?_)
          clear hK K
          refine norm_ (a' := ?_) ?_ ?_
          rotate_left
          · show Act.put _ (some 59) _ = _
            simp only [Act.put, List.setIfInBounds_toArray, List.set_cons_zero, List.set_cons_succ, i64_w, i32_w]
            rfl
          refine one_ (i := 8) (N := some 65) qM30 rfl rfl (by kernel_rfl) (by decide) (fun K hK => ?_)
          refine goes_ Try.func16 (by kernel_rfl) rfl #[.agg #[.slice AX lx.length cX, .int .i64 sx, .int .i64 bx], .int .i64 2, v] (by rfl) rfl rfl (by simp only [List.map_toArray, List.map_cons, List.map_nil]; rfl) ?_
          with_reducible refine (point10_calls AX lx.length cX sx bx 2 v (chainOf n) _ (CN6.out.ch.below HQ2.out) (by omega)).mono ?_
          rintro x wq3 ⟨rfl, hb⟩
          refine ⟨_, rfl, ?_⟩
          have HQ3 := Aside0.mk (below_then HQ2.out HQ2.out.size hb)
          have GV_3 := Aside0.mk (blk_below GV_2.out hb)
          have GEGV_3 := Aside0.mk (GEGV_2.out)
          clear hb 
          refine hK.out _ _ ⟨(pw_cell_below HQ3.out (blk_cell BM6.out 0)), (pw_cell_below HQ3.out (blk_cell BM6.out 1)), (pw_cell_below HQ3.out (blk_cell BM6.out 2)), (pw_cell_below HQ3.out (blk_cell G6.out 6)), (pw_cell_below HQ3.out (blk_cell G6.out 7))⟩ (fun hHeld => ?_)
          clear hK K
          refine norm_ (a' := ?_) ?_ ?_
          rotate_left
          · show Act.put _ (some 65) _ = _
            simp only [Act.put, List.setIfInBounds_toArray, List.set_cons_zero, List.set_cons_succ, i64_w, i32_w]
            rfl
          refine pure_ (i := 10) (N := some 67) (v := ?_) (a' := ?_) qM24 rfl rfl (by kernel_rfl) (fun _ _ _ h => h) (Or.inl ⟨by rfl, ?_⟩) ?_ ?_
          rotate_left
          · intro w'
            go_simp
            with_reducible rfl
          rotate_left
          · simp only [Act.put, List.setIfInBounds_toArray, List.set_cons_zero, List.set_cons_succ, i64_w, i32_w]
            rfl
          exact norm_ (by simp only [putAll, Act.put, List.setIfInBounds_toArray, List.set_cons_zero, List.set_cons_succ]) (hCont (.int .i64 (startOf 2 sx), .agg #[.int .i64 2, .int .u64 (chainOf n (startOf 2 sx))], .pointer (some ⟨gv, 0, none⟩)) _ ⟨hHeld, ⟨gv, rfl, GV_3.out, GEGV_3.out⟩, HQ3.out⟩)
      rintro s_ wj ⟨hS_, ⟨gv, rfl, h_GV, h_GEGV⟩, hbj⟩
      have GV := Aside0.mk h_GV
      have GEGV := Aside0.mk h_GEGV
      have HJ := Aside0.mk hbj
      clear hbj h_GV h_GEGV
      have hHeld : wj.cell? ⟨xb, 0, none⟩ = some (.slice AX lx.length cX) ∧ wj.cell? ⟨xb, 1, none⟩ = some (.int .i64 sx) ∧ wj.cell? ⟨xb, 2, none⟩ = some (.int .i64 bx) ∧ wj.cell? ⟨g, 6, none⟩ = some (.int .i64 s.j.ce) ∧ wj.cell? ⟨g, 7, none⟩ = some (.int .u64 s.j.cr) := hS_
      refine norm_ (a' := ?_) ?_ ?_
      rotate_left
      · simp only [putAll, Act.put, List.setIfInBounds_toArray, List.set_cons_zero, List.set_cons_succ]
        rfl
      refine last_ (i := 12) (N := none) qM31 rfl rfl (by kernel_rfl) (by decide) (fun K hK => ?_)
      refine store_step (by rfl) rfl 43 (.tmp 13) (.tmp 67) rfl gv 43 _ #[.int .i64 (startOf 2 sx), .int .u64 0, .int .i64 s.j.ce, .int .u64 s.j.cr, .int .i64 2, .int .u64 (chainOf n (startOf 2 sx)), .slice Al W.length cl] rfl rfl GV.out rfl (by kernel_rfl) (by simp [Value.oneCell']) ?_
      intro w7 hbk hgr
      have V7 := Aside0.mk hbk
      have HJ7 := Aside0.mk (HJ.out.grown hgr HJ.out.size (fun k hk => by cases hk; exact GEGV.out))
      clear hbk hgr
      refine hK.out _ _ ?_
      clear hK K
      refine done_ (by kernel_rfl) ?_
      have BM7 := Aside0.mk (blk_below BM6.out HJ7.out)
      have G7 := Aside0.mk (blk_below G6.out HJ7.out)
      have SI7 := Aside0.mk (SI6.out.below HJ7.out)
      have HB7 := Aside0.mk (below_then HB6.out HB6.out.size HJ7.out)
      have W7 := Aside0.mk (Kd.C_below W6.out HJ7.out)
      clear hHeld GV HJ
      have hx7 := blk_cell BM7.out
      have hs7 := blk_cell G7.out
      have hv7 := blk_cell V7.out
      have hbare : Bare lx.length p s := by rw [← HST.out]; exact bare_adv ⟨rfl, rfl, rfl, rfl, rfl, rfl, rfl, rfl, rfl⟩
      have hep : s.ep = 2 := by
        have h1 := most_start lx sx (chainOf n) (openS p lx.length) 2 (by omega) (by simp [openS]) (by simp [openS]) (by have := HSL.out; omega) (by have := HSL.out; omega)
        rw [← HST.out]
        show (advTo lx sx (chainOf n) (openS p lx.length) (startOf ((2 : Nat) : Int) sx)).ep = 2
        rw [h1]
        rfl
      have HBA := Aside0.mk hbare
      have HEP := Aside0.mk hep
      clear hbare hep
      obtain ⟨rt, hrt⟩ : ∃ b, decide (W ≠ []) = b := ⟨_, rfl⟩
      obtain ⟨kv, hkv⟩ := (most_right lx (mostP who) sx bx p (chainOf n (startOf 2 sx)) HLN.out.2 (by have := HSL.out; omega) (by have := HSL.out; omega)).rounds
      rw [HWD.out, hrt] at hkv
      have HKV : Aside0 (vote_Right.f kv lx sx bx (startOf 2 sx) 0 s.j.ce s.j.cr 2 (chainOf n (startOf 2 sx)) W = some rt) := ⟨by rw [HBA.out.2.2.2.1, HBA.out.2.2.2.2.1]; exact hkv⟩
      have HIN : Aside0 (rt = true → ∀ j, j < W.length → 0 ≤ rd W (j : Int) ∧ rd W (j : Int) < (s.bf.length : Int) ∧ rd W (j : Int) < (s.nw.length : Int)) := ⟨fun _ j hj => by
        have hm : rd W (j : Int) ∈ someL (mostP who) lx.length := by rw [HWD.out]; exact rd_memI W j hj
        obtain ⟨q, h1, h2, _⟩ := (someL_mem _ _ _).1 hm
        have e1 : s.bf.length = lx.length := by rw [HBA.out.2.2.2.2.2.2.2.1, List.length_replicate]
        have e2 : s.nw.length = lx.length := by rw [HBA.out.2.2.2.2.2.2.2.2, List.length_replicate]
        omega⟩
      have HWL : Aside0 (W.length ≤ 17592186043904) := ⟨by have h1 := someL_len (mostP who) lx.length; rw [HWD.out] at h1; have := HNX.out; omega⟩
      obtain ⟨t, ht⟩ : ∃ t, (countOf sx (chainOf n) s rt s.j.ce s.j.cr 2 (chainOf n (startOf 2 sx)) W).1 = t := ⟨_, rfl⟩
      have hco := most_count sx (chainOf n) s rt W lx.length HBA.out.2.2.2.2.2.2.2.2 HEP.out
      have hc2 : (countOf sx (chainOf n) s rt s.j.ce s.j.cr 2 (chainOf n (startOf 2 sx)) W).2 = rt := by rw [hco]; cases rt <;> rfl
      have HT : Aside0 (t.j = s.j ∧ t.ep = 2 ∧ t.bf = List.replicate lx.length false ∧ idx 0 t.nw = W) := ⟨by
        rw [← ht, hco]
        cases rt with
        | true => exact ⟨rfl, HEP.out, HBA.out.2.2.2.2.2.2.2.1, by rw [← HWD.out]; show idx 0 (marks s.nw _) = _; rw [HBA.out.2.2.2.2.2.2.2.2]; exact idx_marks _ _⟩
        | false =>
          have : W = [] := by simpa using hrt
          exact ⟨rfl, HEP.out, HBA.out.2.2.2.2.2.2.2.1, by rw [this]; show idx 0 s.nw = []; rw [HBA.out.2.2.2.2.2.2.2.2]; exact idx_none _ _⟩⟩
      have HTQ := Aside0.mk ht
      have HC2 := Aside0.mk hc2
      have HRT := Aside0.mk hrt
      clear hco hc2 ht hkv hrt
      have e5 : decide (0 < W.length) = rt := by rw [← HRT.out]; exact decide_eq_decide.2 ⟨fun h e => by rw [e] at h; simp at h, fun h => List.length_pos_iff.2 h⟩
      go_upto_region 18 with (go_at_call 18; with_reducible refine (count_calls AX cX lx sx bx s AB2 cB2 AN2 cN2 (startOf 2 sx) 0 s.j.ce s.j.cr 2 (chainOf n (startOf 2 sx)) Al cl W rt kv v (chainOf n) _ SI7.out W7.out HCL.out HKV.out HIN.out HWL.out (by omega)).mono ?_; rw [HTQ.out, HC2.out]; rintro x w8 ⟨A3, d3, A4, d4, rfl, hs, hb⟩; simp only [stC]; have ST8 := Aside0.mk hs; have HB8 := Aside0.mk hb; clear hs hb)
      obtain ⟨w9, hw9⟩ : ∃ x, x = w8.alloc (.cells #[.bool t.j.b0, .bool t.j.b1, .bool t.j.b2, .bool t.j.b3, .int .i64 t.j.pe, .int .u64 t.j.pr, .int .i64 t.j.ce, .int .u64 t.j.cr, .int .i64 t.j.fe, .int .u64 t.j.fr, .int .i64 t.ep, .slice A3 t.bf.length d3, .slice A4 t.nw.length d4] 39) := ⟨_, rfl⟩
      obtain ⟨gt, hgt⟩ : ∃ g, w8.heap.size = g := ⟨_, rfl⟩
      have T9 : Aside0 (w9.heap[gt]? = some (.cells #[.bool t.j.b0, .bool t.j.b1, .bool t.j.b2, .bool t.j.b3, .int .i64 t.j.pe, .int .u64 t.j.pr, .int .i64 t.j.ce, .int .u64 t.j.cr, .int .i64 t.j.fe, .int .u64 t.j.fr, .int .i64 t.ep, .slice A3 t.bf.length d3, .slice A4 t.nw.length d4] 39 (0, 0))) := ⟨by rw [hw9, ← hgt]; exact heap_alloc_new _ _⟩
      have H89 : Below w8.heap.size w8 w9 := by rw [hw9]; exact below_alloc (Below.refl _ _) _
      have H79 := Aside0.mk (below_then HB8.out HB8.out.size H89)
      have ST9 := Aside0.mk (ST8.out.below H89)
      have BM9 := Aside0.mk (blk_below BM7.out H79.out)
      have G9 := Aside0.mk (blk_below G7.out H79.out)
      have HB9 := Aside0.mk (below_then HB7.out HB7.out.size H79.out)
      have W9 := Aside0.mk (Kd.C_below W7.out H79.out)
      rw [← hw9, hgt]
      clear hw9 hgt H89 hx7 hs7 hv7 e5
      refine start_ (n := 9) (S := fun w' => w'.cell? ⟨xb, 0, none⟩ = some (.slice AX lx.length cX) ∧ w'.cell? ⟨xb, 1, none⟩ = some (.int .i64 sx) ∧ w'.cell? ⟨xb, 2, none⟩ = some (.int .i64 bx) ∧ w'.cell? ⟨gt, 0, none⟩ = some (.bool t.j.b0) ∧ w'.cell? ⟨gt, 1, none⟩ = some (.bool t.j.b1) ∧ w'.cell? ⟨gt, 2, none⟩ = some (.bool t.j.b2) ∧ w'.cell? ⟨gt, 3, none⟩ = some (.bool t.j.b3) ∧ w'.cell? ⟨gt, 4, none⟩ = some (.int .i64 t.j.pe) ∧ w'.cell? ⟨gt, 5, none⟩ = some (.int .u64 t.j.pr) ∧ w'.cell? ⟨gt, 6, none⟩ = some (.int .i64 t.j.ce) ∧ w'.cell? ⟨gt, 7, none⟩ = some (.int .u64 t.j.cr) ∧ w'.cell? ⟨gt, 8, none⟩ = some (.int .i64 t.j.fe) ∧ w'.cell? ⟨gt, 9, none⟩ = some (.int .u64 t.j.fr) ∧ w'.cell? ⟨gt, 10, none⟩ = some (.int .i64 t.ep) ∧ w'.cell? ⟨gt, 11, none⟩ = some (.slice A3 t.bf.length d3) ∧ w'.cell? ⟨gt, 12, none⟩ = some (.slice A4 t.nw.length d4)) (ds := [8]) qM32 (by kernel_rfl) rfl rfl ⟨(blk_cell BM9.out 0), (blk_cell BM9.out 1), (blk_cell BM9.out 2), (blk_cell T9.out 0), (blk_cell T9.out 1), (blk_cell T9.out 2), (blk_cell T9.out 3), (blk_cell T9.out 4), (blk_cell T9.out 5), (blk_cell T9.out 6), (blk_cell T9.out 7), (blk_cell T9.out 8), (blk_cell T9.out 9), (blk_cell T9.out 10), (blk_cell T9.out 11), (blk_cell T9.out 12)⟩ (fun hHeld => ?_)
      refine pure_ (i := 2) (N := some 83) (v := ?_) (a' := ?_) qM33 rfl rfl (by kernel_rfl) (fun _ _ _ h => h) (Or.inl ⟨by rfl, ?_⟩) ?_ ?_
      rotate_left
      · intro w'
        go_simp
        with_reducible rfl
      rotate_left
      · simp only [Act.put, List.setIfInBounds_toArray, List.set_cons_zero, List.set_cons_succ, i64_w, i32_w]
        rfl
      refine pure_ (i := 5) (N := some 86) (v := ?_) (a' := ?_) qM34 rfl rfl (by kernel_rfl) (fun _ _ _ h => h) (Or.inl ⟨by rfl, ?_⟩) ?_ ?_
      rotate_left
      · intro w'
        go_simp
        with_reducible rfl
      rotate_left
      · simp only [Act.put, List.setIfInBounds_toArray, List.set_cons_zero, List.set_cons_succ, i64_w, i32_w]
        rfl
      refine take_ (i := 0) (N := some 81) (v := ?_) (a' := ?_) qM35 rfl rfl (by kernel_rfl) (fun _ _ _ h => h) (Or.inl ⟨by rfl, ?_⟩) hHeld ?_ ?_
      rotate_left
      · rintro w' ⟨s0, s1, s2, s3, s4, s5, s6, s7, s8, s9, s10, s11, s12, s13, s14, s15⟩
        go_simp
        with_reducible rfl
      rotate_left
      · simp only [Act.put, List.setIfInBounds_toArray, List.set_cons_zero, List.set_cons_succ, i64_w, i32_w]
        rfl
      refine take_ (i := 1) (N := some 82) (v := ?_) (a' := ?_) qM36 rfl rfl (by kernel_rfl) (fun _ _ _ h => h) (Or.inl ⟨by rfl, ?_⟩) hHeld ?_ ?_
      rotate_left
      · rintro w' ⟨s0, s1, s2, s3, s4, s5, s6, s7, s8, s9, s10, s11, s12, s13, s14, s15⟩
        go_simp
        with_reducible rfl
      rotate_left
      · simp only [Act.put, List.setIfInBounds_toArray, List.set_cons_zero, List.set_cons_succ, i64_w, i32_w]
        rfl
      refine take_ (i := 3) (N := some 84) (v := ?_) (a' := ?_) qM37 rfl rfl (by kernel_rfl) (fun _ _ _ h => h) (Or.inl ⟨by rfl, ?_⟩) hHeld ?_ ?_
      rotate_left
      · rintro w' ⟨s0, s1, s2, s3, s4, s5, s6, s7, s8, s9, s10, s11, s12, s13, s14, s15⟩
        go_simp
        with_reducible rfl
      rotate_left
      · simp only [Act.put, List.setIfInBounds_toArray, List.set_cons_zero, List.set_cons_succ, i64_w, i32_w]
        rfl
      refine join_ (σ := Value × Value × Value) 1 qM38 (fun s_ => [(85, s_.1), (87, s_.2.1), (16, s_.2.2)]) (fun s_ w' => (w'.cell? ⟨xb, 0, none⟩ = some (.slice AX lx.length cX) ∧ w'.cell? ⟨xb, 1, none⟩ = some (.int .i64 sx) ∧ w'.cell? ⟨xb, 2, none⟩ = some (.int .i64 bx) ∧ w'.cell? ⟨gt, 0, none⟩ = some (.bool t.j.b0) ∧ w'.cell? ⟨gt, 1, none⟩ = some (.bool t.j.b1) ∧ w'.cell? ⟨gt, 2, none⟩ = some (.bool t.j.b2) ∧ w'.cell? ⟨gt, 3, none⟩ = some (.bool t.j.b3) ∧ w'.cell? ⟨gt, 4, none⟩ = some (.int .i64 t.j.pe) ∧ w'.cell? ⟨gt, 5, none⟩ = some (.int .u64 t.j.pr) ∧ w'.cell? ⟨gt, 6, none⟩ = some (.int .i64 t.j.ce) ∧ w'.cell? ⟨gt, 7, none⟩ = some (.int .u64 t.j.cr) ∧ w'.cell? ⟨gt, 8, none⟩ = some (.int .i64 t.j.fe) ∧ w'.cell? ⟨gt, 9, none⟩ = some (.int .u64 t.j.fr) ∧ w'.cell? ⟨gt, 10, none⟩ = some (.int .i64 t.ep) ∧ w'.cell? ⟨gt, 11, none⟩ = some (.slice A3 t.bf.length d3) ∧ w'.cell? ⟨gt, 12, none⟩ = some (.slice A4 t.nw.length d4)) ∧ (∃ E1 f1 E2 f2 gn, s_ = (.int .i64 (startOf 3 sx), .agg (stC (advTo lx sx (chainOf n) t (startOf 3 sx)) E1 f1 E2 f2), .pointer (some ⟨gn, 0, none⟩)) ∧ (SIn AX cX lx (advTo lx sx (chainOf n) t (startOf 3 sx)) E1 f1 E2 f2 v (chainOf n) w') ∧ (w'.heap[gn]? = some (.cells #[.bool false, .bool false, .bool false, .bool false, .int .i64 0, .int .u64 0, .int .i64 0, .int .u64 0, .int .i64 0, .int .u64 0, .int .i64 0, .slice none 0 0, .slice none 0 0] 39 (0, 0))) ∧ (w9.heap.size ≤ gn)) ∧ Below w9.heap.size w9 w') ?_ ?_
      rotate_left
      · intro hCont
        refine two_ (i := 4) (j := 7) (Ni := some 85) (Nj := some 16) qM39 qM40 rfl rfl rfl rfl (by kernel_rfl) (by decide) (by decide) (fun K hK => ?_) (fun K hK => ?_)
        · skip
          refine goes_ Try.func17 (by kernel_rfl) rfl #[.int .i64 3, .int .i64 sx] (by rfl) rfl rfl (by simp only [List.map_toArray, List.map_cons, List.map_nil]; rfl) ?_
          with_reducible refine (epoch_Start.calls _ _ _ _ (start_f 3 sx)).mono ?_
          rintro x wq1 ⟨rfl, hb⟩
          refine ⟨_, rfl, ?_⟩
          have HQ1 := Aside0.mk (below_then (below_drew (Below.refl w9.heap.size w9)) (Nat.le_refl _) hb)
          clear hb 
          refine hK.out _ _ ⟨(pw_cell_below HQ1.out (blk_cell BM9.out 0)), (pw_cell_below HQ1.out (blk_cell BM9.out 1)), (pw_cell_below HQ1.out (blk_cell BM9.out 2)), (pw_cell_below HQ1.out (blk_cell T9.out 0)), (pw_cell_below HQ1.out (blk_cell T9.out 1)), (pw_cell_below HQ1.out (blk_cell T9.out 2)), (pw_cell_below HQ1.out (blk_cell T9.out 3)), (pw_cell_below HQ1.out (blk_cell T9.out 4)), (pw_cell_below HQ1.out (blk_cell T9.out 5)), (pw_cell_below HQ1.out (blk_cell T9.out 6)), (pw_cell_below HQ1.out (blk_cell T9.out 7)), (pw_cell_below HQ1.out (blk_cell T9.out 8)), (pw_cell_below HQ1.out (blk_cell T9.out 9)), (pw_cell_below HQ1.out (blk_cell T9.out 10)), (pw_cell_below HQ1.out (blk_cell T9.out 11)), (pw_cell_below HQ1.out (blk_cell T9.out 12))⟩ (fun hHeld => ?_)
          clear hK K
          refine norm_ (a' := ?_) ?_ ?_
          rotate_left
          · show Act.put _ (some 85) _ = _
            simp only [Act.put, List.setIfInBounds_toArray, List.set_cons_zero, List.set_cons_succ, i64_w, i32_w]
            rfl
          refine two_ (i := 6) (j := 7) (Ni := some 87) (Nj := some 16) qM41 qM42 rfl rfl rfl rfl (by kernel_rfl) (by decide) (by decide) (fun K hK => ?_) (fun K hK => ?_)
          · skip
            refine goes_ Try.func13 (by kernel_rfl) rfl #[.agg #[.slice AX lx.length cX, .int .i64 sx, .int .i64 bx], .agg #[.bool t.j.b0, .bool t.j.b1, .bool t.j.b2, .bool t.j.b3, .int .i64 t.j.pe, .int .u64 t.j.pr, .int .i64 t.j.ce, .int .u64 t.j.cr, .int .i64 t.j.fe, .int .u64 t.j.fr, .int .i64 t.ep, .slice A3 t.bf.length d3, .slice A4 t.nw.length d4], .int .i64 (startOf 3 sx), v] (by rfl) rfl rfl (by simp only [List.map_toArray, List.map_cons, List.map_nil]; rfl) ?_
            with_reducible refine (advance_calls AX cX lx sx bx t A3 d3 A4 d4 (startOf 3 sx) v (chainOf n) _ (ST9.out.below HQ1.out) (start_range _ _)).mono ?_
            rintro x wq2 ⟨E1, f1, E2, f2, rfl, h_SJ, hb⟩
            refine ⟨_, rfl, ?_⟩
            have HQ2 := Aside0.mk (below_then HQ1.out HQ1.out.size hb)
            have SJ_2 := Aside0.mk h_SJ
            clear hb h_SJ
            refine hK.out _ _ ⟨(pw_cell_below HQ2.out (blk_cell BM9.out 0)), (pw_cell_below HQ2.out (blk_cell BM9.out 1)), (pw_cell_below HQ2.out (blk_cell BM9.out 2)), (pw_cell_below HQ2.out (blk_cell T9.out 0)), (pw_cell_below HQ2.out (blk_cell T9.out 1)), (pw_cell_below HQ2.out (blk_cell T9.out 2)), (pw_cell_below HQ2.out (blk_cell T9.out 3)), (pw_cell_below HQ2.out (blk_cell T9.out 4)), (pw_cell_below HQ2.out (blk_cell T9.out 5)), (pw_cell_below HQ2.out (blk_cell T9.out 6)), (pw_cell_below HQ2.out (blk_cell T9.out 7)), (pw_cell_below HQ2.out (blk_cell T9.out 8)), (pw_cell_below HQ2.out (blk_cell T9.out 9)), (pw_cell_below HQ2.out (blk_cell T9.out 10)), (pw_cell_below HQ2.out (blk_cell T9.out 11)), (pw_cell_below HQ2.out (blk_cell T9.out 12))⟩ (fun hHeld => ?_)
            clear hK K
            refine norm_ (a' := ?_) ?_ ?_
            rotate_left
            · show Act.put _ (some 87) _ = _
              simp only [Act.put, List.setIfInBounds_toArray, List.set_cons_zero, List.set_cons_succ, i64_w, i32_w]
              rfl
            refine one_ (i := 7) (N := some 16) qM38 rfl rfl (by kernel_rfl) (by decide) (fun K hK => ?_)
            refine alloc_step (base := wq2.heap.size) (w0 := wq2) 39 #[.bool false, .bool false, .bool false, .bool false, .int .i64 0, .int .u64 0, .int .i64 0, .int .u64 0, .int .i64 0, .int .u64 0, .int .i64 0, .slice none 0 0, .slice none 0 0] (by rfl) rfl rfl (by kernel_rfl) (Below.refl _ _) (Nat.le_refl _) ?_
            intro gn wq3 h_GN hge hb hg_
            have h_GEGN : w9.heap.size ≤ gn := Nat.le_trans HQ2.out.size hge
            clear hge hg_
            have HQ3 := Aside0.mk (below_then HQ2.out HQ2.out.size hb)
            have GN_3 := Aside0.mk h_GN
            have GEGN_3 := Aside0.mk h_GEGN
            have SJ_3 := Aside0.mk (SIn.below SJ_2.out hb)
            clear hb h_GN h_GEGN
            refine hK.out _ _ ⟨(pw_cell_below HQ3.out (blk_cell BM9.out 0)), (pw_cell_below HQ3.out (blk_cell BM9.out 1)), (pw_cell_below HQ3.out (blk_cell BM9.out 2)), (pw_cell_below HQ3.out (blk_cell T9.out 0)), (pw_cell_below HQ3.out (blk_cell T9.out 1)), (pw_cell_below HQ3.out (blk_cell T9.out 2)), (pw_cell_below HQ3.out (blk_cell T9.out 3)), (pw_cell_below HQ3.out (blk_cell T9.out 4)), (pw_cell_below HQ3.out (blk_cell T9.out 5)), (pw_cell_below HQ3.out (blk_cell T9.out 6)), (pw_cell_below HQ3.out (blk_cell T9.out 7)), (pw_cell_below HQ3.out (blk_cell T9.out 8)), (pw_cell_below HQ3.out (blk_cell T9.out 9)), (pw_cell_below HQ3.out (blk_cell T9.out 10)), (pw_cell_below HQ3.out (blk_cell T9.out 11)), (pw_cell_below HQ3.out (blk_cell T9.out 12))⟩ (fun hHeld => ?_)
            clear hK K
            refine norm_ (a' := ?_) ?_ ?_
            rotate_left
            · show Act.put _ (some 16) _ = _
              simp only [Act.put, List.setIfInBounds_toArray, List.set_cons_zero, List.set_cons_succ, i64_w, i32_w]
              rfl
            exact norm_ (by simp only [putAll, Act.put, List.setIfInBounds_toArray, List.set_cons_zero, List.set_cons_succ]) (hCont (.int .i64 (startOf 3 sx), .agg (stC (advTo lx sx (chainOf n) t (startOf 3 sx)) E1 f1 E2 f2), .pointer (some ⟨gn, 0, none⟩)) _ ⟨hHeld, ⟨E1, f1, E2, f2, gn, rfl, SJ_3.out, GN_3.out, GEGN_3.out⟩, HQ3.out⟩)
          · skip
            refine alloc_step (base := wq1.heap.size) (w0 := wq1) 39 #[.bool false, .bool false, .bool false, .bool false, .int .i64 0, .int .u64 0, .int .i64 0, .int .u64 0, .int .i64 0, .int .u64 0, .int .i64 0, .slice none 0 0, .slice none 0 0] (by rfl) rfl rfl (by kernel_rfl) (Below.refl _ _) (Nat.le_refl _) ?_
            intro gn wq2 h_GN hge hb hg_
            have h_GEGN : w9.heap.size ≤ gn := Nat.le_trans HQ1.out.size hge
            clear hge hg_
            have HQ2 := Aside0.mk (below_then HQ1.out HQ1.out.size hb)
            have GN_2 := Aside0.mk h_GN
            have GEGN_2 := Aside0.mk h_GEGN
            clear hb h_GN h_GEGN
            refine hK.out _ _ ⟨(pw_cell_below HQ2.out (blk_cell BM9.out 0)), (pw_cell_below HQ2.out (blk_cell BM9.out 1)), (pw_cell_below HQ2.out (blk_cell BM9.out 2)), (pw_cell_below HQ2.out (blk_cell T9.out 0)), (pw_cell_below HQ2.out (blk_cell T9.out 1)), (pw_cell_below HQ2.out (blk_cell T9.out 2)), (pw_cell_below HQ2.out (blk_cell T9.out 3)), (pw_cell_below HQ2.out (blk_cell T9.out 4)), (pw_cell_below HQ2.out (blk_cell T9.out 5)), (pw_cell_below HQ2.out (blk_cell T9.out 6)), (pw_cell_below HQ2.out (blk_cell T9.out 7)), (pw_cell_below HQ2.out (blk_cell T9.out 8)), (pw_cell_below HQ2.out (blk_cell T9.out 9)), (pw_cell_below HQ2.out (blk_cell T9.out 10)), (pw_cell_below HQ2.out (blk_cell T9.out 11)), (pw_cell_below HQ2.out (blk_cell T9.out 12))⟩ (fun hHeld => ?_)
            clear hK K
            refine norm_ (a' := ?_) ?_ ?_
            rotate_left
            · show Act.put _ (some 16) _ = _
              simp only [Act.put, List.setIfInBounds_toArray, List.set_cons_zero, List.set_cons_succ, i64_w, i32_w]
              rfl
            refine one_ (i := 6) (N := some 87) qM38 rfl rfl (by kernel_rfl) (by decide) (fun K hK => ?_)
            refine goes_ Try.func13 (by kernel_rfl) rfl #[.agg #[.slice AX lx.length cX, .int .i64 sx, .int .i64 bx], .agg #[.bool t.j.b0, .bool t.j.b1, .bool t.j.b2, .bool t.j.b3, .int .i64 t.j.pe, .int .u64 t.j.pr, .int .i64 t.j.ce, .int .u64 t.j.cr, .int .i64 t.j.fe, .int .u64 t.j.fr, .int .i64 t.ep, .slice A3 t.bf.length d3, .slice A4 t.nw.length d4], .int .i64 (startOf 3 sx), v] (by rfl) rfl rfl (by simp only [List.map_toArray, List.map_cons, List.map_nil]; rfl) ?_
            with_reducible refine (advance_calls AX cX lx sx bx t A3 d3 A4 d4 (startOf 3 sx) v (chainOf n) _ (ST9.out.below HQ2.out) (start_range _ _)).mono ?_
            rintro x wq3 ⟨E1, f1, E2, f2, rfl, h_SJ, hb⟩
            refine ⟨_, rfl, ?_⟩
            have HQ3 := Aside0.mk (below_then HQ2.out HQ2.out.size hb)
            have SJ_3 := Aside0.mk h_SJ
            have GN_3 := Aside0.mk (blk_below GN_2.out hb)
            have GEGN_3 := Aside0.mk (GEGN_2.out)
            clear hb h_SJ
            refine hK.out _ _ ⟨(pw_cell_below HQ3.out (blk_cell BM9.out 0)), (pw_cell_below HQ3.out (blk_cell BM9.out 1)), (pw_cell_below HQ3.out (blk_cell BM9.out 2)), (pw_cell_below HQ3.out (blk_cell T9.out 0)), (pw_cell_below HQ3.out (blk_cell T9.out 1)), (pw_cell_below HQ3.out (blk_cell T9.out 2)), (pw_cell_below HQ3.out (blk_cell T9.out 3)), (pw_cell_below HQ3.out (blk_cell T9.out 4)), (pw_cell_below HQ3.out (blk_cell T9.out 5)), (pw_cell_below HQ3.out (blk_cell T9.out 6)), (pw_cell_below HQ3.out (blk_cell T9.out 7)), (pw_cell_below HQ3.out (blk_cell T9.out 8)), (pw_cell_below HQ3.out (blk_cell T9.out 9)), (pw_cell_below HQ3.out (blk_cell T9.out 10)), (pw_cell_below HQ3.out (blk_cell T9.out 11)), (pw_cell_below HQ3.out (blk_cell T9.out 12))⟩ (fun hHeld => ?_)
            clear hK K
            refine norm_ (a' := ?_) ?_ ?_
            rotate_left
            · show Act.put _ (some 87) _ = _
              simp only [Act.put, List.setIfInBounds_toArray, List.set_cons_zero, List.set_cons_succ, i64_w, i32_w]
              rfl
            exact norm_ (by simp only [putAll, Act.put, List.setIfInBounds_toArray, List.set_cons_zero, List.set_cons_succ]) (hCont (.int .i64 (startOf 3 sx), .agg (stC (advTo lx sx (chainOf n) t (startOf 3 sx)) E1 f1 E2 f2), .pointer (some ⟨gn, 0, none⟩)) _ ⟨hHeld, ⟨E1, f1, E2, f2, gn, rfl, SJ_3.out, GN_3.out, GEGN_3.out⟩, HQ3.out⟩)
        · skip
          refine alloc_step (base := w9.drew.heap.size) (w0 := w9.drew) 39 #[.bool false, .bool false, .bool false, .bool false, .int .i64 0, .int .u64 0, .int .i64 0, .int .u64 0, .int .i64 0, .int .u64 0, .int .i64 0, .slice none 0 0, .slice none 0 0] (by rfl) rfl rfl (by kernel_rfl) (Below.refl _ _) (Nat.le_refl _) ?_
          intro gn wq1 h_GN hge hb hg_
          have h_GEGN : w9.heap.size ≤ gn := Nat.le_trans (below_drew (Below.refl w9.heap.size w9)).size hge
          clear hge hg_
          have HQ1 := Aside0.mk (below_then (below_drew (Below.refl w9.heap.size w9)) (Nat.le_refl _) hb)
          have GN_1 := Aside0.mk h_GN
          have GEGN_1 := Aside0.mk h_GEGN
          clear hb h_GN h_GEGN
          refine hK.out _ _ ⟨(pw_cell_below HQ1.out (blk_cell BM9.out 0)), (pw_cell_below HQ1.out (blk_cell BM9.out 1)), (pw_cell_below HQ1.out (blk_cell BM9.out 2)), (pw_cell_below HQ1.out (blk_cell T9.out 0)), (pw_cell_below HQ1.out (blk_cell T9.out 1)), (pw_cell_below HQ1.out (blk_cell T9.out 2)), (pw_cell_below HQ1.out (blk_cell T9.out 3)), (pw_cell_below HQ1.out (blk_cell T9.out 4)), (pw_cell_below HQ1.out (blk_cell T9.out 5)), (pw_cell_below HQ1.out (blk_cell T9.out 6)), (pw_cell_below HQ1.out (blk_cell T9.out 7)), (pw_cell_below HQ1.out (blk_cell T9.out 8)), (pw_cell_below HQ1.out (blk_cell T9.out 9)), (pw_cell_below HQ1.out (blk_cell T9.out 10)), (pw_cell_below HQ1.out (blk_cell T9.out 11)), (pw_cell_below HQ1.out (blk_cell T9.out 12))⟩ (fun hHeld => ?_)
          clear hK K
          refine norm_ (a' := ?_) ?_ ?_
          rotate_left
          · show Act.put _ (some 16) _ = _
            simp only [Act.put, List.setIfInBounds_toArray, List.set_cons_zero, List.set_cons_succ, i64_w, i32_w]
            rfl
          refine one_ (i := 4) (N := some 85) qM42 rfl rfl (by kernel_rfl) (by decide) (fun K hK => ?_)
          refine goes_ Try.func17 (by kernel_rfl) rfl #[.int .i64 3, .int .i64 sx] (by rfl) rfl rfl (by simp only [List.map_toArray, List.map_cons, List.map_nil]; rfl) ?_
          with_reducible refine (epoch_Start.calls _ _ _ _ (start_f 3 sx)).mono ?_
          rintro x wq2 ⟨rfl, hb⟩
          refine ⟨_, rfl, ?_⟩
          have HQ2 := Aside0.mk (below_then HQ1.out HQ1.out.size hb)
          have GN_2 := Aside0.mk (blk_below GN_1.out hb)
          have GEGN_2 := Aside0.mk (GEGN_1.out)
          clear hb 
          refine hK.out _ _ ⟨(pw_cell_below HQ2.out (blk_cell BM9.out 0)), (pw_cell_below HQ2.out (blk_cell BM9.out 1)), (pw_cell_below HQ2.out (blk_cell BM9.out 2)), (pw_cell_below HQ2.out (blk_cell T9.out 0)), (pw_cell_below HQ2.out (blk_cell T9.out 1)), (pw_cell_below HQ2.out (blk_cell T9.out 2)), (pw_cell_below HQ2.out (blk_cell T9.out 3)), (pw_cell_below HQ2.out (blk_cell T9.out 4)), (pw_cell_below HQ2.out (blk_cell T9.out 5)), (pw_cell_below HQ2.out (blk_cell T9.out 6)), (pw_cell_below HQ2.out (blk_cell T9.out 7)), (pw_cell_below HQ2.out (blk_cell T9.out 8)), (pw_cell_below HQ2.out (blk_cell T9.out 9)), (pw_cell_below HQ2.out (blk_cell T9.out 10)), (pw_cell_below HQ2.out (blk_cell T9.out 11)), (pw_cell_below HQ2.out (blk_cell T9.out 12))⟩ (fun hHeld => ?_)
          clear hK K
          refine norm_ (a' := ?_) ?_ ?_
          rotate_left
          · show Act.put _ (some 85) _ = _
            simp only [Act.put, List.setIfInBounds_toArray, List.set_cons_zero, List.set_cons_succ, i64_w, i32_w]
            rfl
          refine one_ (i := 6) (N := some 87) qM38 rfl rfl (by kernel_rfl) (by decide) (fun K hK => ?_)
          refine goes_ Try.func13 (by kernel_rfl) rfl #[.agg #[.slice AX lx.length cX, .int .i64 sx, .int .i64 bx], .agg #[.bool t.j.b0, .bool t.j.b1, .bool t.j.b2, .bool t.j.b3, .int .i64 t.j.pe, .int .u64 t.j.pr, .int .i64 t.j.ce, .int .u64 t.j.cr, .int .i64 t.j.fe, .int .u64 t.j.fr, .int .i64 t.ep, .slice A3 t.bf.length d3, .slice A4 t.nw.length d4], .int .i64 (startOf 3 sx), v] (by rfl) rfl rfl (by simp only [List.map_toArray, List.map_cons, List.map_nil]; rfl) ?_
          with_reducible refine (advance_calls AX cX lx sx bx t A3 d3 A4 d4 (startOf 3 sx) v (chainOf n) _ (ST9.out.below HQ2.out) (start_range _ _)).mono ?_
          rintro x wq3 ⟨E1, f1, E2, f2, rfl, h_SJ, hb⟩
          refine ⟨_, rfl, ?_⟩
          have HQ3 := Aside0.mk (below_then HQ2.out HQ2.out.size hb)
          have SJ_3 := Aside0.mk h_SJ
          have GN_3 := Aside0.mk (blk_below GN_2.out hb)
          have GEGN_3 := Aside0.mk (GEGN_2.out)
          clear hb h_SJ
          refine hK.out _ _ ⟨(pw_cell_below HQ3.out (blk_cell BM9.out 0)), (pw_cell_below HQ3.out (blk_cell BM9.out 1)), (pw_cell_below HQ3.out (blk_cell BM9.out 2)), (pw_cell_below HQ3.out (blk_cell T9.out 0)), (pw_cell_below HQ3.out (blk_cell T9.out 1)), (pw_cell_below HQ3.out (blk_cell T9.out 2)), (pw_cell_below HQ3.out (blk_cell T9.out 3)), (pw_cell_below HQ3.out (blk_cell T9.out 4)), (pw_cell_below HQ3.out (blk_cell T9.out 5)), (pw_cell_below HQ3.out (blk_cell T9.out 6)), (pw_cell_below HQ3.out (blk_cell T9.out 7)), (pw_cell_below HQ3.out (blk_cell T9.out 8)), (pw_cell_below HQ3.out (blk_cell T9.out 9)), (pw_cell_below HQ3.out (blk_cell T9.out 10)), (pw_cell_below HQ3.out (blk_cell T9.out 11)), (pw_cell_below HQ3.out (blk_cell T9.out 12))⟩ (fun hHeld => ?_)
          clear hK K
          refine norm_ (a' := ?_) ?_ ?_
          rotate_left
          · show Act.put _ (some 87) _ = _
            simp only [Act.put, List.setIfInBounds_toArray, List.set_cons_zero, List.set_cons_succ, i64_w, i32_w]
            rfl
          exact norm_ (by simp only [putAll, Act.put, List.setIfInBounds_toArray, List.set_cons_zero, List.set_cons_succ]) (hCont (.int .i64 (startOf 3 sx), .agg (stC (advTo lx sx (chainOf n) t (startOf 3 sx)) E1 f1 E2 f2), .pointer (some ⟨gn, 0, none⟩)) _ ⟨hHeld, ⟨E1, f1, E2, f2, gn, rfl, SJ_3.out, GN_3.out, GEGN_3.out⟩, HQ3.out⟩)
      rintro s_ wj ⟨hS_, ⟨E1, f1, E2, f2, gn, rfl, h_SJ, h_GN, h_GEGN⟩, hbj⟩
      have SJ := Aside0.mk h_SJ
      have GN := Aside0.mk h_GN
      have GEGN := Aside0.mk h_GEGN
      have HJ := Aside0.mk hbj
      clear hbj h_SJ h_GN h_GEGN
      have hHeld : wj.cell? ⟨xb, 0, none⟩ = some (.slice AX lx.length cX) ∧ wj.cell? ⟨xb, 1, none⟩ = some (.int .i64 sx) ∧ wj.cell? ⟨xb, 2, none⟩ = some (.int .i64 bx) ∧ wj.cell? ⟨gt, 0, none⟩ = some (.bool t.j.b0) ∧ wj.cell? ⟨gt, 1, none⟩ = some (.bool t.j.b1) ∧ wj.cell? ⟨gt, 2, none⟩ = some (.bool t.j.b2) ∧ wj.cell? ⟨gt, 3, none⟩ = some (.bool t.j.b3) ∧ wj.cell? ⟨gt, 4, none⟩ = some (.int .i64 t.j.pe) ∧ wj.cell? ⟨gt, 5, none⟩ = some (.int .u64 t.j.pr) ∧ wj.cell? ⟨gt, 6, none⟩ = some (.int .i64 t.j.ce) ∧ wj.cell? ⟨gt, 7, none⟩ = some (.int .u64 t.j.cr) ∧ wj.cell? ⟨gt, 8, none⟩ = some (.int .i64 t.j.fe) ∧ wj.cell? ⟨gt, 9, none⟩ = some (.int .u64 t.j.fr) ∧ wj.cell? ⟨gt, 10, none⟩ = some (.int .i64 t.ep) ∧ wj.cell? ⟨gt, 11, none⟩ = some (.slice A3 t.bf.length d3) ∧ wj.cell? ⟨gt, 12, none⟩ = some (.slice A4 t.nw.length d4) := hS_
      refine norm_ (a' := ?_) ?_ ?_
      rotate_left
      · simp only [putAll, Act.put, List.setIfInBounds_toArray, List.set_cons_zero, List.set_cons_succ]
        rfl
      refine last_ (i := 8) (N := none) qM43 rfl rfl (by kernel_rfl) (by decide) (fun K hK => ?_)
      refine store_step (by rfl) rfl 39 (.tmp 16) (.tmp 87) rfl gn 39 _ (stC (advTo lx sx (chainOf n) t (startOf 3 sx)) E1 f1 E2 f2) rfl rfl GN.out rfl (by kernel_rfl) (by simp [stC, Value.oneCell']) ?_
      intro wb hbk hgr
      have N9 := Aside0.mk hbk
      have HJb := Aside0.mk (HJ.out.grown hgr HJ.out.size (fun k hk => by cases hk; exact GEGN.out))
      clear hbk hgr
      refine hK.out _ _ ?_
      clear hK K
      refine done_ (by kernel_rfl) ?_
      have hst := most_start lx sx (chainOf n) t 3 (by omega) (by rw [HT.out.2.1]; omega) (by rw [HT.out.2.1]; omega) (by have := HSL.out; omega) (by have := HSL.out; omega)
      rw [HT.out.2.1] at hst
      have hpl := most_pull lx sx (chainOf n) t lx.length p (by rw [HT.out.1]; exact ⟨HBA.out.1, HBA.out.2.1, HBA.out.2.2.1, HBA.out.2.2.2.1, HBA.out.2.2.2.2.1, HBA.out.2.2.2.2.2.1, HBA.out.2.2.2.2.2.2.1, HT.out.2.2.1⟩) HT.out.2.1
      rw [HT.out.2.2.2] at hpl
      obtain ⟨J, hJ⟩ : ∃ J, pullOf lx sx (chainOf n) t = J := ⟨_, rfl⟩
      rw [hJ] at hpl
      have hst2 : advTo lx sx (chainOf n) t (startOf 3 sx) = ⟨J, 3, t.nw, List.replicate lx.length false⟩ := by rw [← hJ]; exact hst
      rw [hst2] at N9
      rw [hst2]
      obtain ⟨en, hE⟩ : ∃ b, enough (sumOf lx 0 W) (allOf 0 lx) = b := ⟨_, rfl⟩
      rw [hE] at hpl
      have hef := enough_f (sumOf lx 0 W) (allOf 0 lx)
      rw [hE] at hef
      have HEN := Aside0.mk hef
      obtain ⟨kc, hkc⟩ := (sum_f lx W sx bx (by have := HWL.out; omega)).rounds
      obtain ⟨kt, hkt⟩ := (total_f lx sx bx (by have := HNX.out; omega)).rounds
      have HKC := Aside0.mk hkc
      have HKT := Aside0.mk hkt
      have HPL := Aside0.mk hpl
      have BMb := Aside0.mk (blk_below BM9.out HJb.out)
      have Gb := Aside0.mk (blk_below G9.out HJb.out)
      have HBb := Aside0.mk (below_then HB9.out HB9.out.size HJb.out)
      have Wb := Aside0.mk (Kd.C_below W9.out HJb.out)
      have Xb := Aside0.mk (ST9.out.below HJb.out).X
      have CNb := Aside0.mk (ST9.out.below HJb.out).c
      clear hst hpl hJ hst2 hE hef hkc hkt hHeld SJ GN HJ
      go_upto_region 19 with fail
      refine start_ (n := 6) (S := fun w' => w'.cell? ⟨xb, 0, none⟩ = some (.slice AX lx.length cX) ∧ w'.cell? ⟨xb, 1, none⟩ = some (.int .i64 sx) ∧ w'.cell? ⟨xb, 2, none⟩ = some (.int .i64 bx)) (ds := []) qM44 (by kernel_rfl) rfl rfl ⟨(blk_cell BMb.out 0), (blk_cell BMb.out 1), (blk_cell BMb.out 2)⟩ (fun hHeld => ?_)
      refine pure_ (i := 1) (N := some 89) (v := ?_) (a' := ?_) qM45 rfl rfl (by kernel_rfl) (fun _ _ _ h => h) (Or.inl ⟨by rfl, ?_⟩) ?_ ?_
      rotate_left
      · intro w'
        go_simp
        with_reducible rfl
      rotate_left
      · simp only [Act.put, List.setIfInBounds_toArray, List.set_cons_zero, List.set_cons_succ, i64_w, i32_w]
        rfl
      refine take_ (i := 0) (N := some 88) (v := ?_) (a' := ?_) qM46 rfl rfl (by kernel_rfl) (fun _ _ _ h => h) (Or.inl ⟨by rfl, ?_⟩) hHeld ?_ ?_
      rotate_left
      · rintro w' ⟨s0, s1, s2⟩
        go_simp
        with_reducible rfl
      rotate_left
      · simp only [Act.put, List.setIfInBounds_toArray, List.set_cons_zero, List.set_cons_succ, i64_w, i32_w]
        rfl
      refine take_ (i := 3) (N := some 91) (v := ?_) (a' := ?_) qM47 rfl rfl (by kernel_rfl) (fun _ _ _ h => h) (Or.inl ⟨by rfl, ?_⟩) hHeld ?_ ?_
      rotate_left
      · rintro w' ⟨s0, s1, s2⟩
        go_simp
        with_reducible rfl
      rotate_left
      · simp only [Act.put, List.setIfInBounds_toArray, List.set_cons_zero, List.set_cons_succ, i64_w, i32_w]
        rfl
      refine one_ (i := 2) (N := some 90) qM48 rfl rfl (by kernel_rfl) (by decide) (fun K hK => ?_)
      refine goes_ Try.func24 (by kernel_rfl) rfl #[.agg #[.slice AX lx.length cX, .int .i64 sx, .int .i64 bx], .slice Al W.length cl] (by rfl) rfl rfl (by simp only [List.map_toArray, List.map_cons, List.map_nil]; rfl) ?_
      with_reducible refine (config_Sum.calls kc AX cX lx sx bx Al cl W _ _ (Kd.C_below Xb.out (below_drew (Below.refl wb.heap.size wb))) HCX.out (Kd.C_below Wb.out (below_drew (Below.refl wb.heap.size wb))) HCL.out HKC.out).mono ?_
      rintro x wq1 ⟨rfl, hb⟩
      refine ⟨_, rfl, ?_⟩
      have HQ1 := Aside0.mk (below_then (below_drew (Below.refl wb.heap.size wb)) (Nat.le_refl _) hb)
      clear hb
      refine hK.out _ _ ⟨(pw_cell_below HQ1.out (blk_cell BMb.out 0)), (pw_cell_below HQ1.out (blk_cell BMb.out 1)), (pw_cell_below HQ1.out (blk_cell BMb.out 2))⟩ (fun hHeld => ?_)
      clear hK K
      refine norm_ (a' := ?_) ?_ ?_
      rotate_left
      · show Act.put _ (some 90) _ = _
        simp only [Act.put, List.setIfInBounds_toArray, List.set_cons_zero, List.set_cons_succ, i64_w, i32_w]
        rfl
      refine one_ (i := 4) (N := some 92) qM49 rfl rfl (by kernel_rfl) (by decide) (fun K hK => ?_)
      refine goes_ Try.func25 (by kernel_rfl) rfl #[.agg #[.slice AX lx.length cX, .int .i64 sx, .int .i64 bx]] (by rfl) rfl rfl (by simp only [List.map_toArray, List.map_cons, List.map_nil]; rfl) ?_
      with_reducible refine (config_Total.calls kt AX cX lx sx bx _ _ (Kd.C_below Xb.out HQ1.out) HCX.out HKT.out).mono ?_
      rintro x wq2 ⟨rfl, hb⟩
      refine ⟨_, rfl, ?_⟩
      have HQ2 := Aside0.mk (below_then HQ1.out HQ1.out.size hb)
      clear hb
      refine hK.out _ _ ⟨(pw_cell_below HQ2.out (blk_cell BMb.out 0)), (pw_cell_below HQ2.out (blk_cell BMb.out 1)), (pw_cell_below HQ2.out (blk_cell BMb.out 2))⟩ (fun hHeld => ?_)
      clear hK K
      refine norm_ (a' := ?_) ?_ ?_
      rotate_left
      · show Act.put _ (some 92) _ = _
        simp only [Act.put, List.setIfInBounds_toArray, List.set_cons_zero, List.set_cons_succ, i64_w, i32_w]
        rfl
      refine one_ (i := 5) (N := some 93) qM50 rfl rfl (by kernel_rfl) (by decide) (fun K hK => ?_)
      refine goes_ Try.func23 (by kernel_rfl) rfl #[.int .u64 (sumOf lx 0 W), .int .u64 (allOf 0 lx)] (by rfl) rfl rfl (by simp only [List.map_toArray, List.map_cons, List.map_nil]; rfl) ?_
      with_reducible refine (quorum_Enough.calls _ _ _ _ HEN.out).mono ?_
      rintro x wq3 ⟨rfl, hb⟩
      refine ⟨_, rfl, ?_⟩
      have HQ3 := Aside0.mk (below_then HQ2.out HQ2.out.size hb.below)
      clear hb
      refine hK.out _ _ ⟨(pw_cell_below HQ3.out (blk_cell BMb.out 0)), (pw_cell_below HQ3.out (blk_cell BMb.out 1)), (pw_cell_below HQ3.out (blk_cell BMb.out 2))⟩ (fun hHeld => ?_)
      clear hK K
      refine norm_ (a' := ?_) ?_ ?_
      rotate_left
      · show Act.put _ (some 93) _ = _
        simp only [Act.put, List.setIfInBounds_toArray, List.set_cons_zero, List.set_cons_succ, i64_w, i32_w]
        rfl
      refine done_ (by kernel_rfl) ?_
      have BMc := Aside0.mk (blk_below BMb.out HQ3.out)
      have Gc := Aside0.mk (blk_below Gb.out HQ3.out)
      have CNc := Aside0.mk (CNb.out.below HQ3.out)
      have HBc := Aside0.mk (below_then HBb.out HBb.out.size HQ3.out)
      have N8 := Aside0.mk (blk_below N9.out HQ3.out)
      cases en with
      | true =>
        have Nc : Aside0 (wq3.heap[gn]? = some (.cells #[.bool true, .bool J.b1, .bool J.b2, .bool J.b3, .int .i64 J.pe, .int .u64 J.pr, .int .i64 2, .int .u64 (chainOf n (startOf 2 sx)), .int .i64 J.fe, .int .u64 J.fr, .int .i64 3, .slice E1 t.nw.length f1, .slice E2 (List.replicate lx.length false).length f2] 39 (0, 0))) := ⟨by
          have h1 := N8.out
          have h2 := HPL.out
          simp only [stC, if_true] at h1 h2
          rw [h2.1, h2.2.1, h2.2.2] at h1
          exact h1⟩
        go_upto_region 20 with fail
        refine start_ (n := 14) (S := fun w' => w'.cell? ⟨xb, 0, none⟩ = some (.slice AX lx.length cX) ∧ w'.cell? ⟨xb, 1, none⟩ = some (.int .i64 sx) ∧ w'.cell? ⟨xb, 2, none⟩ = some (.int .i64 bx) ∧ w'.cell? ⟨gn, 0, none⟩ = some (.bool true) ∧ w'.cell? ⟨gn, 6, none⟩ = some (.int .i64 2) ∧ w'.cell? ⟨gn, 7, none⟩ = some (.int .u64 (chainOf n (startOf 2 sx)))) (ds := []) qM51 (by kernel_rfl) rfl rfl ⟨(blk_cell BMc.out 0), (blk_cell BMc.out 1), (blk_cell BMc.out 2), (blk_cell Nc.out 0), (blk_cell Nc.out 6), (blk_cell Nc.out 7)⟩ (fun hHeld => ?_)
        refine pure_ (i := 0) (N := some 94) (v := ?_) (a' := ?_) qM52 rfl rfl (by kernel_rfl) (fun _ _ _ h => h) (Or.inl ⟨by rfl, ?_⟩) ?_ ?_
        rotate_left
        · intro w'
          go_simp
          with_reducible rfl
        rotate_left
        · simp only [Act.put, List.setIfInBounds_toArray, List.set_cons_zero, List.set_cons_succ, i64_w, i32_w]
          rfl
        refine pure_ (i := 1) (N := some 95) (v := ?_) (a' := ?_) qM53 rfl rfl (by kernel_rfl) (fun _ _ _ h => h) (Or.inl ⟨by rfl, ?_⟩) ?_ ?_
        rotate_left
        · intro w'
          go_simp
          with_reducible rfl
        rotate_left
        · simp only [Act.put, List.setIfInBounds_toArray, List.set_cons_zero, List.set_cons_succ, i64_w, i32_w]
          rfl
        refine pure_ (i := 4) (N := some 98) (v := ?_) (a' := ?_) qM54 rfl rfl (by kernel_rfl) (fun _ _ _ h => h) (Or.inl ⟨by rfl, ?_⟩) ?_ ?_
        rotate_left
        · intro w'
          go_simp
          with_reducible rfl
        rotate_left
        · simp only [Act.put, List.setIfInBounds_toArray, List.set_cons_zero, List.set_cons_succ, i64_w, i32_w]
          rfl
        refine take_ (i := 2) (N := some 96) (v := ?_) (a' := ?_) qM55 rfl rfl (by kernel_rfl) (fun _ _ _ h => h) (Or.inl ⟨by rfl, ?_⟩) hHeld ?_ ?_
        rotate_left
        · rintro w' ⟨s0, s1, s2, s3, s4, s5⟩
          go_simp
          with_reducible rfl
        rotate_left
        · simp only [Act.put, List.setIfInBounds_toArray, List.set_cons_zero, List.set_cons_succ, i64_w, i32_w]
          rfl
        refine take_ (i := 3) (N := some 97) (v := ?_) (a' := ?_) qM56 rfl rfl (by kernel_rfl) (fun _ _ _ h => h) (Or.inl ⟨by rfl, ?_⟩) hHeld ?_ ?_
        rotate_left
        · rintro w' ⟨s0, s1, s2, s3, s4, s5⟩
          go_simp
          with_reducible rfl
        rotate_left
        · simp only [Act.put, List.setIfInBounds_toArray, List.set_cons_zero, List.set_cons_succ, i64_w, i32_w]
          rfl
        refine one_ (i := 5) (N := some 99) qM57 rfl rfl (by kernel_rfl) (by decide) (fun K hK => ?_)
        refine goes_ Try.func16 (by kernel_rfl) rfl #[.agg #[.slice AX lx.length cX, .int .i64 sx, .int .i64 bx], .int .i64 2, v] (by rfl) rfl rfl (by simp only [List.map_toArray, List.map_cons, List.map_nil]; rfl) ?_
        with_reducible refine (point10_calls AX lx.length cX sx bx 2 v (chainOf n) _ (CNc.out.ch.below (below_drew (Below.refl wq3.heap.size wq3))) (by omega)).mono ?_
        rintro x wq4 ⟨rfl, hb⟩
        refine ⟨_, rfl, ?_⟩
        have HQ4 := Aside0.mk (below_then (below_drew (Below.refl wq3.heap.size wq3)) (Nat.le_refl _) hb)
        clear hb
        refine hK.out _ _ ⟨(pw_cell_below HQ4.out (blk_cell BMc.out 0)), (pw_cell_below HQ4.out (blk_cell BMc.out 1)), (pw_cell_below HQ4.out (blk_cell BMc.out 2)), (pw_cell_below HQ4.out (blk_cell Nc.out 0)), (pw_cell_below HQ4.out (blk_cell Nc.out 6)), (pw_cell_below HQ4.out (blk_cell Nc.out 7))⟩ (fun hHeld => ?_)
        clear hK K
        refine norm_ (a' := ?_) ?_ ?_
        rotate_left
        · show Act.put _ (some 99) _ = _
          simp only [Act.put, List.setIfInBounds_toArray, List.set_cons_zero, List.set_cons_succ, i64_w, i32_w]
          rfl
        refine pure_ (i := 6) (N := some 100) (v := ?_) (a' := ?_) qM58 rfl rfl (by kernel_rfl) (fun _ _ _ h => h) (Or.inl ⟨by rfl, ?_⟩) ?_ ?_
        rotate_left
        · intro w'
          go_simp
          with_reducible rfl
        rotate_left
        · simp only [Act.put, List.setIfInBounds_toArray, List.set_cons_zero, List.set_cons_succ, i64_w, i32_w]
          rfl
        refine pure_ (i := 7) (N := some 101) (v := ?_) (a' := ?_) qM59 rfl rfl (by kernel_rfl) (fun _ _ _ h => h) (Or.inl ⟨by rfl, ?_⟩) ?_ ?_
        rotate_left
        · intro w'
          go_simp
          with_reducible rfl
        rotate_left
        · simp only [Act.put, List.setIfInBounds_toArray, List.set_cons_zero, List.set_cons_succ, i64_w, i32_w]
          rfl
        refine pure_ (i := 8) (N := some 102) (v := ?_) (a' := ?_) qM60 rfl rfl (by kernel_rfl) (fun _ _ _ h => h) (Or.inl ⟨by rfl, ?_⟩) ?_ ?_
        rotate_left
        · intro w'
          go_simp
          with_reducible rfl
        rotate_left
        · simp only [Act.put, List.setIfInBounds_toArray, List.set_cons_zero, List.set_cons_succ, i64_w, i32_w]
          rfl
        refine pure_ (i := 9) (N := some 103) (v := ?_) (a' := ?_) qM61 rfl rfl (by kernel_rfl) (fun _ _ _ h => h) (Or.inl ⟨by rfl, ?_⟩) ?_ ?_
        rotate_left
        · intro w'
          go_simp
          with_reducible rfl
        rotate_left
        · simp only [Act.put, List.setIfInBounds_toArray, List.set_cons_zero, List.set_cons_succ, i64_w, i32_w]
          rfl
        refine pure_ (i := 10) (N := some 104) (v := ?_) (a' := ?_) qM62 rfl rfl (by kernel_rfl) (fun _ _ _ h => h) (Or.inl ⟨by rfl, ?_⟩) ?_ ?_
        rotate_left
        · intro w'
          go_simp
          with_reducible rfl
        rotate_left
        · simp only [Act.put, List.setIfInBounds_toArray, List.set_cons_zero, List.set_cons_succ, i64_w, i32_w]
          rfl
        refine take_ (i := 11) (N := some 105) (v := ?_) (a' := ?_) qM63 rfl rfl (by kernel_rfl) (fun _ _ _ h => h) (Or.inl ⟨by rfl, ?_⟩) hHeld ?_ ?_
        rotate_left
        · rintro w' ⟨s0, s1, s2, s3, s4, s5⟩
          go_simp
          with_reducible rfl
        rotate_left
        · simp only [Act.put, List.setIfInBounds_toArray, List.set_cons_zero, List.set_cons_succ, i64_w, i32_w]
          rfl
        refine pure_ (i := 12) (N := some 106) (v := ?_) (a' := ?_) qM64 rfl rfl (by kernel_rfl) (fun _ _ _ h => h) (Or.inl ⟨by rfl, ?_⟩) ?_ ?_
        rotate_left
        · intro w'
          go_simp
          with_reducible rfl
        rotate_left
        · simp only [Act.put, List.setIfInBounds_toArray, List.set_cons_zero, List.set_cons_succ, i64_w, i32_w]
          rfl
        refine pure_ (i := 13) (N := some 6) (v := ?_) (a' := ?_) qM65 rfl rfl (by kernel_rfl) (fun _ _ _ h => h) (Or.inl ⟨by rfl, ?_⟩) ?_ ?_
        rotate_left
        · intro w'
          go_simp
          with_reducible rfl
        rotate_left
        · simp only [Act.put, List.setIfInBounds_toArray, List.set_cons_zero, List.set_cons_succ, i64_w, i32_w]
          rfl
        refine done_ (by kernel_rfl) ?_
        go_wp2_with fail
        go_ret
        exact ⟨rfl, below_then HBc.out HBc.out.size HQ4.out⟩
      | false =>
        have Nc : Aside0 (wq3.heap[gn]? = some (.cells #[.bool false, .bool J.b1, .bool J.b2, .bool J.b3, .int .i64 J.pe, .int .u64 J.pr, .int .i64 0, .int .u64 p, .int .i64 J.fe, .int .u64 J.fr, .int .i64 3, .slice E1 t.nw.length f1, .slice E2 (List.replicate lx.length false).length f2] 39 (0, 0))) := ⟨by
          have h1 := N8.out
          have h2 := HPL.out
          simp only [stC, Bool.false_eq_true, if_false] at h1 h2
          rw [h2.1, h2.2.1, h2.2.2] at h1
          exact h1⟩
        have Sc : Aside0 (wq3.cell? ⟨g, 6, none⟩ = some (.int .i64 0) ∧ wq3.cell? ⟨g, 7, none⟩ = some (.int .u64 p)) := ⟨by
          have h1 := blk_cell Gc.out 6
          have h2 := blk_cell Gc.out 7
          rw [← HBA.out.2.2.2.1, ← HBA.out.2.2.2.2.1]
          exact ⟨h1, h2⟩⟩
        have hn0 := blk_cell Nc.out 0
        have hn6 := blk_cell Nc.out 6
        have hn7 := blk_cell Nc.out 7
        obtain ⟨hg6, hg7⟩ := Sc.out
        go_wp2_with fail
        go_ret
        exact ⟨rfl, HBc.out⟩
theorem ledgerMost_args {A0 : Option Addr} {n0 c0 : Nat} {z0 : List Int} {sl bo n who : Int} {w : World} (g0 : Open.ConfigArg w A0 n0 c0 z0 sl bo) (w1 : (Lit.int .u8 n).wf = true) (w2 : (Lit.int .u16 who).wf = true) :
    Calls Try.prog 7 #[.agg #[.slice A0 n0 c0, .int .i64 sl, .int .i64 bo], .int .u8 n, .int .u16 who] w fun x w' => x = .returned (.bool true) ∧ Below w.heap.size w w' :=
  ledgerMost_law A0 n0 c0 z0 sl bo n who w (Kd.C_of_reads (d := (0 : Int)) (h1 := fun _ => rfl) g0.row.reads) g0.row.le (by have := g0.row.size; omega) (bd_i64 g0.ws) (bd_i64 g0.wb) (fun z hz => (bd_u64 (g0.row.wf z hz)).1) (bd_u8 w1) (bd_u16 w2)
end Go.Proofs.Ytiklbldanidfiaa.QL
