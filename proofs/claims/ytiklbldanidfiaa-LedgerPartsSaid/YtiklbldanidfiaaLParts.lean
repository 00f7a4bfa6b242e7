/-
  The law LedgerParts of package psephoslaw10: advanced in two parts a state is as if it were advanced at once.
-/
import Derived.Test.YtiklbldanidfiaaPartsP
import Derived.Test.YtiklbldanidfiaaVoteM3
import Derived.Test.YtiklbldanidfiaaOpenStruct
import Derived.Test.YtiklbldanidfiaaWEqStruct
import Derived.Test.YtiklbldanidfiaaQLx12
namespace Go.Proofs.Ytiklbldanidfiaa.QL
open Go.RowKit Go.Proofs.YtiklbldanidfiaaW.PrintWords Go.Proofs.YtiklbldanidfiaaW.PrintLast Go.Proofs.YtiklbldanidfiaaW.PrintMore Go.Proofs.Ytiklbldanidfiaa.Own Go.Proofs.Ytiklbldanidfiaa.Justify Go.Proofs.Ytiklbldanidfiaa.QLV
set_option linter.unusedVariables false
set_option linter.unusedSimpArgs false
attribute [local go_sem] max2_is min2_is max_pair min_pair
attribute [local go_sem high] eqA34

theorem advP (AX : Option Addr) (cX : Nat) (lx : List Int) (sl bo : Int) (AB : Option Addr) (cB : Nat) (AN : Option Addr) (cN : Nat) (slot : Int) (v : Value) (g : Int → Int) (w : World) (h : SIn AX cX lx (partS lx.length lx.length) AB cB AN cN v g w) (hs : -9223372036854775808 ≤ slot ∧ slot ≤ 9223372036854775807) :
    Calls Try.prog 13 #[.agg #[.slice AX lx.length cX, .int .i64 sl, .int .i64 bo], .agg #[.bool false, .bool false, .bool false, .bool false, .int .i64 0, .int .u64 7, .int .i64 0, .int .u64 7, .int .i64 0, .int .u64 7, .int .i64 0, .slice AB lx.length cB, .slice AN lx.length cN], .int .i64 slot, v] w fun x w' => ∃ AB' cB' AN' cN', x = .returned (.agg (stC (advTo lx sl g (partS lx.length lx.length) slot) AB' cB' AN' cN')) ∧ SIn AX cX lx (advTo lx sl g (partS lx.length lx.length) slot) AB' cB' AN' cN' v g w' ∧ Below w.heap.size w w' := by
  have h1 := advance_calls AX cX lx sl bo (partS lx.length lx.length) AB cB AN cN slot v g w h hs
  have e1 : (partS lx.length lx.length).bf.length = lx.length := List.length_replicate
  have e2 : (partS lx.length lx.length).nw.length = lx.length := thirds_len _ _
  rw [stC, e1, e2] at h1
  exact h1
theorem sameP (n : Nat) (E3 : Option Addr) (f3 : Nat) (E4 : Option Addr) (f4 : Nat) (AB : Option Addr) (cB : Nat) (AN : Option Addr) (cN : Nat) (w : World) (h : Same2 (partS n n) E3 f3 E4 f4 AB cB AN cN w) :
    Calls Try.prog 20 #[.agg (stC (partS n n) E3 f3 E4 f4), .agg #[.bool false, .bool false, .bool false, .bool false, .int .i64 0, .int .u64 7, .int .i64 0, .int .u64 7, .int .i64 0, .int .u64 7, .int .i64 0, .slice AB n cB, .slice AN n cN]] w fun x w' => x = .returned (.bool true) ∧ Below w.heap.size w w' := by
  have h1 := same_calls (partS n n) E3 f3 E4 f4 AB cB AN cN w h
  have e1 : (partS n n).bf.length = n := List.length_replicate
  have e2 : (partS n n).nw.length = n := thirds_len _ _
  have e3 : stC (partS n n) AB cB AN cN = #[.bool false, .bool false, .bool false, .bool false, .int .i64 0, .int .u64 7, .int .i64 0, .int .u64 7, .int .i64 0, .int .u64 7, .int .i64 0, .slice AB n cB, .slice AN n cN] := by rw [stC, e1, e2]; rfl
  rw [e3] at h1
  exact h1
/-- Between two rounds. -/
structure PartAt (w w3 : World) (xb sb base : Nat) (AX : Option Addr) (cX : Nat) (n : Nat) (sx bx : Int) (AB : Option Addr) (cB : Nat) (AN : Option Addr) (cN : Nat) (k : Nat) (wr : World) : Prop where
  bel : Below w3.heap.size w3 wr
  hx : wr.heap[xb]? = some (.cells #[.slice AX n cX, .int .i64 sx, .int .i64 bx] 24 (0, 0))
  hs : wr.heap[sb]? = some (.cells #[.bool false, .bool false, .bool false, .bool false, .int .i64 0, .int .u64 7, .int .i64 0, .int .u64 7, .int .i64 0, .int .u64 7, .int .i64 0, .slice AB n cB, .slice AN n cN] 39 (0, 0))
  r1 : Kd.R Kd.bool 4 wr base (fun _ => True) (.slice AB n cB) (List.replicate n false)
  r2 : Kd.R Kd.bool 4 wr base (fun _ => True) (.slice AN n cN) (thirds k n)
  ne : ∀ q, (Value.slice AB n cB).ownBlock = some q → (Value.slice AN n cN).ownBlock = some q → False
  ba : w3.heap.size ≤ base ∧ xb < base
theorem PartAt.put {w w3 : World} {xb sb base : Nat} {AX : Option Addr} {cX n : Nat} {sx bx : Int} {AB : Option Addr} {cB : Nat} {g2 cN k : Nat} {wr : World} (h : PartAt w w3 xb sb base AX cX n sx bx AB cB (some ⟨g2, 0, none⟩) cN k wr) (hk : k < n) :
    PartAt w w3 xb sb base AX cX n sx bx AB cB (some ⟨g2, 0, none⟩) cN (k + 1) (wr.setCell ⟨g2, k, none⟩ (.bool ((k : Int) % 3 != 1))) := by
  obtain ⟨hp, hg⟩ := Kd.R_putg (enc := Value.bool) (h1 := fun _ => rfl) h.r2 (k : Int) ((k : Int) % 3 != 1)
  rw [Int.toNat_natCast] at hp hg
  rw [← thirds_next k n hk] at hp
  have hb := Kd.R_base h.r2 g2 rfl
  have hn := R_ne h.r2 h.hs
  have hba := h.ba
  exact ⟨h.bel.grown hg h.bel.size (fun k e => by cases e; omega), blk_grown h.hx hg (fun e => by injection e with e; omega), blk_grown h.hs hg (fun e => hn e.symm), Kd.R_grown1 h.r1 rfl hg (fun e => h.ne g2 e.symm rfl), hp, h.ne, h.ba⟩
set_option maxHeartbeats 16000000 in
set_option maxRecDepth 100000 in
theorem ledgerParts_law (A0 : Option Addr) (n0 c0 : Nat) (z0 : List Int) (sl bo : Int) (n a b : Int) (w : World) (h0 : Kd.C (Kd.int .u64) w A0 n0 z0) (hc0 : n0 ≤ c0) (hn0 : n0 ≤ 17592186043904) (hs : -9223372036854775808 ≤ sl ∧ sl ≤ 9223372036854775807) (hb : -9223372036854775808 ≤ bo ∧ bo ≤ 9223372036854775807) (hp : ∀ z ∈ z0, 0 ≤ z) (h1 : 0 ≤ n ∧ n ≤ 255) (h2 : 0 ≤ a ∧ a ≤ 255) (h3 : 0 ≤ b ∧ b ≤ 255) :
    Calls Try.prog 4 #[.agg #[.slice A0 n0 c0, .int .i64 sl, .int .i64 bo], .int .u8 n, .int .u8 a, .int .u8 b] w fun x w' => x = .returned (.bool true) ∧ Below w.heap.size w w' := by
  have HN := Aside0.mk h1
  have HAB := Aside0.mk (And.intro h2 h3)
  have hl0 : z0.length = n0 := h0.1
  subst hl0
  obtain ⟨kr, hkr⟩ := (make3_f z0 sl bo hn0 hb.1 hb.2).rounds
  have HKR := Aside0.mk hkr
  have H0 := Aside0.mk h0
  have HP := Aside0.mk (mkBal_mem z0 hp)
  have HLN := Aside0.mk (mkBal_len z0)
  have HSL := Aside0.mk (mkSlots_in sl)
  clear hkr h0 hp hs hb h1 h2 h3
  go_enter Try.func4, Try.ntmps4
  go_upto_region 4 with (first
    | (go_at_call 9; refine (awake_calls _).mono ?_; rintro x w1 ⟨rfl, hb⟩; have HB1 := Aside0.mk (below_then (below_alloc (Below.refl w.heap.size w) _) (by simp) hb); have HBK := Aside0.mk (blk_below (heap_alloc_new w _) hb); have hcg := blk_cell HBK.out; clear hb)
    | (go_at_call 10; refine (psephoslaw03_Make.calls kr A0 c0 z0 sl bo _ _ _ _ (Kd.C_below H0.out HB1.out) hc0 HKR.out).mono ?_; rintro x w2 ⟨v0, rfl, hR, hb⟩; have HB2 := Aside0.mk (below_then HB1.out HB1.out.size hb); obtain ⟨AX, cX, rfl, hcx, hC⟩ := Kd.R_reads hR; have HX := Aside0.mk hC; have HCX := Aside0.mk hcx; clear hb hR hC hcx))
  obtain ⟨lx, hlx⟩ : ∃ l, mkBal z0 = l := ⟨_, rfl⟩
  obtain ⟨sx, hsx⟩ : ∃ l, mkSlots sl = l := ⟨_, rfl⟩
  obtain ⟨bx, hbx⟩ : ∃ l, mkBoost bo = l := ⟨_, rfl⟩
  rw [hlx] at HP HLN HX HCX
  rw [hsx] at HSL
  rw [hlx, hsx, hbx]
  have HNX : Aside0 (lx.length ≤ 17592186043904) := ⟨by have := HLN.out; omega⟩
  obtain ⟨wr, hwr⟩ : ∃ wr, wr = w2.alloc (.cells #[.slice AX lx.length cX, .int .i64 sx, .int .i64 bx] 24) := ⟨_, rfl⟩
  obtain ⟨xb, hxb⟩ : ∃ g, w2.heap.size = g := ⟨_, rfl⟩
  have BM : Aside0 (wr.heap[xb]? = some (.cells #[.slice AX lx.length cX, .int .i64 sx, .int .i64 bx] 24 (0, 0))) := ⟨by rw [hwr, ← hxb]; exact heap_alloc_new _ _⟩
  have HBR : Aside0 (Below w.heap.size w wr) := ⟨by rw [hwr]; exact below_alloc HB2.out _⟩
  have XN : Aside0 (Kd.C (Kd.int .u64) wr AX lx.length lx) := ⟨Kd.C_below HX.out (by rw [hwr]; exact below_alloc (Below.refl _ _) _)⟩
  have XB : Aside0 (xb < wr.heap.size) := ⟨(Array.getElem?_eq_some_iff.1 BM.out).1⟩
  rw [← hwr, hxb]
  clear hwr hxb hlx hsx hbx HX HB1 HBK hcg HKR
  have hm0 := blk_cell BM.out
  go_wp2_with (first
    | (go_at_call 11; refine (Chain_calls n HN.out _).mono ?_; rintro x w3 ⟨v, rfl, hch, hb⟩; have CH3 := Aside0.mk hch; have HB3 := Aside0.mk (below_then HBR.out HBR.out.size hb); have BM3 := Aside0.mk (blk_below BM.out hb); have XN3 := Aside0.mk (Kd.C_below XN.out hb); have hm3 := blk_cell BM3.out; have XB3 : Aside0 (xb < w3.heap.size) := ⟨(Array.getElem?_eq_some_iff.1 BM3.out).1⟩; clear hch hb hm0)
    | (go_at_call 12; with_reducible refine (open_calls AX cX lx sx bx 7 _ HNX.out).mono ?_; rintro x w4 ⟨AB, cB, AN, cN, rfl, hr, hb⟩; simp only [stC, openS, List.length_replicate]; have HO := Aside0.mk hb; have RW := Aside0.mk hr; have BM4 := Aside0.mk (blk_below BM3.out hb); have G4 := Aside0.mk (heap_alloc_new w4 (.cells #[.bool false, .bool false, .bool false, .bool false, .int .i64 0, .int .u64 7, .int .i64 0, .int .u64 7, .int .i64 0, .int .u64 7, .int .i64 0, .slice AB lx.length cB, .slice AN lx.length cN] 39)); have hg4 := blk_cell G4.out; clear hr hb hm3))
  have HS : Aside0 (PartAt w w3 xb w4.heap.size w3.heap.size AX cX lx.length sx bx AB cB AN cN 0 (w4.alloc (.cells #[.bool false, .bool false, .bool false, .bool false, .int .i64 0, .int .u64 7, .int .i64 0, .int .u64 7, .int .i64 0, .int .u64 7, .int .i64 0, .slice AB lx.length cB, .slice AN lx.length cN] 39))) := ⟨by
    have r1 := RW.out.r1
    have r2 := RW.out.r2
    have ne := RW.out.ne
    simp only [openS, List.length_replicate] at r1 r2 ne
    exact ⟨below_alloc HO.out _, blk_alloc BM4.out _, G4.out, Kd.R_below r1 (below_alloc (Below.refl _ _) _), by rw [thirds_zero]; exact Kd.R_below r2 (below_alloc (Below.refl _ _) _), ne, Nat.le_refl _, XB3.out⟩⟩
  obtain ⟨sb, hsb⟩ : ∃ g, w4.heap.size = g := ⟨_, rfl⟩
  rw [hsb] at HS
  rw [hsb]
  clear hsb hg4 RW HO BM4 G4
  go_loopw [25] (fun v25 wr => ∃ k : Nat, k ≤ lx.length ∧ v25 = .int .i64 k ∧ Aside0 (PartAt w w3 xb sb w3.heap.size AX cX lx.length sx bx AB cB AN cN k wr)) (fun v25 _ => lx.length - (RowKit.intOf v25).toNat)
  case atStart => exact ⟨0, by omega, rfl, HS⟩
  case round =>
    obtain ⟨k, hk, rfl, HS⟩ := hrel
    have hs11 := blk_cell HS.out.hs 12
    by_cases hlt : k < lx.length
    · have t0 : decide ((k : Int) < (lx.length : Int)) = true := decide_eq_true (by omega)
      have hwk : wrap64 ((k : Int) + 1) = ((k + 1 : Nat) : Int) := by have := HNX.out; unfold wrap64; omega
      have HWK := Aside0.mk hwk
      obtain ⟨g2, rfl⟩ := R_some HS.out.r2 (by omega)
      obtain ⟨e1, e2⟩ := Kd.R_celln (enc := Value.bool) (h1 := fun _ => rfl) false HS.out.r2 (k : Int) (by omega) (by omega)
      rw [Int.toNat_natCast] at e1 e2
      have HS2 := Aside0.mk (HS.out.put hlt)
      have i0 : (0 : Int) ≤ (k : Int) := by omega
      have i1 : (k : Int) < (lx.length : Int) := by omega
      clear hwk
      go_wp2_with fail
      go_roundw
      case rel => exact ⟨k + 1, by omega, by rw [HWK.out], HS2⟩
      case measure => rw [HWK.out]; simp [RowKit.intOf]; omega
    · have t0 : decide ((k : Int) < (lx.length : Int)) = false := decide_eq_false (by omega)
      obtain rfl : k = lx.length := by omega
      clear hs11
      go_upto_region 11 with fail
      have HB4 := Aside0.mk (below_then HB3.out HB3.out.size HS.out.bel)
      have BM4 := Aside0.mk HS.out.hx
      have SB4 := Aside0.mk HS.out.hs
      have CN4 : Aside0 (CIn AX cX lx v (chainOf n) wr) := ⟨⟨Kd.C_below XN3.out HS.out.bel, HCX.out, HNX.out, CH3.out.below HS.out.bel⟩⟩
      have SP4 : Aside0 (SIn AX cX lx (partS lx.length lx.length) AB cB AN cN v (chainOf n) wr) := ⟨by
        have e1 : (partS lx.length lx.length).bf.length = lx.length := List.length_replicate
        have e2 : (partS lx.length lx.length).nw.length = lx.length := thirds_len _ _
        have hr : Rows2 w3.heap.size (partS lx.length lx.length) AB cB AN cN wr := ⟨by rw [e1]; exact HS.out.r1, by rw [e2]; exact HS.out.r2, by rw [e1, e2]; exact HS.out.ne⟩
        exact hr.sin CN4.out (by rw [e1]; exact HNX.out) (by rw [e2]; exact HNX.out) (by simp [partS])⟩
      obtain ⟨w4, hw4⟩ : ∃ x, x = wr := ⟨_, rfl⟩
      rw [← hw4] at HB4 BM4 SB4 SP4
      rw [← hw4]
      clear hw4 CN4 HS
      refine start_ (n := 16) (S := fun w' => w'.cell? ⟨xb, 0, none⟩ = some (.slice AX lx.length cX) ∧ w'.cell? ⟨xb, 1, none⟩ = some (.int .i64 sx) ∧ w'.cell? ⟨xb, 2, none⟩ = some (.int .i64 bx) ∧ w'.cell? ⟨sb, 0, none⟩ = some (.bool false) ∧ w'.cell? ⟨sb, 1, none⟩ = some (.bool false) ∧ w'.cell? ⟨sb, 2, none⟩ = some (.bool false) ∧ w'.cell? ⟨sb, 3, none⟩ = some (.bool false) ∧ w'.cell? ⟨sb, 4, none⟩ = some (.int .i64 0) ∧ w'.cell? ⟨sb, 5, none⟩ = some (.int .u64 7) ∧ w'.cell? ⟨sb, 6, none⟩ = some (.int .i64 0) ∧ w'.cell? ⟨sb, 7, none⟩ = some (.int .u64 7) ∧ w'.cell? ⟨sb, 8, none⟩ = some (.int .i64 0) ∧ w'.cell? ⟨sb, 9, none⟩ = some (.int .u64 7) ∧ w'.cell? ⟨sb, 10, none⟩ = some (.int .i64 0) ∧ w'.cell? ⟨sb, 11, none⟩ = some (.slice AB lx.length cB) ∧ w'.cell? ⟨sb, 12, none⟩ = some (.slice AN lx.length cN)) (ds := [15]) #[false, false, false, false, false, false, false, false, false, false, false, false, false, false, false, false] (by kernel_rfl) rfl rfl ⟨(blk_cell BM4.out 0), (blk_cell BM4.out 1), (blk_cell BM4.out 2), (blk_cell SB4.out 0), (blk_cell SB4.out 1), (blk_cell SB4.out 2), (blk_cell SB4.out 3), (blk_cell SB4.out 4), (blk_cell SB4.out 5), (blk_cell SB4.out 6), (blk_cell SB4.out 7), (blk_cell SB4.out 8), (blk_cell SB4.out 9), (blk_cell SB4.out 10), (blk_cell SB4.out 11), (blk_cell SB4.out 12)⟩ (fun hHeld => ?_)
      refine pure_ (i := 3) (N := some 39) (v := ?_) (a' := ?_) #[false, false, false, true, false, false, false, false, false, false, false, false, false, false, false, false] rfl rfl (by kernel_rfl) (fun _ _ _ h => h) (Or.inl ⟨by rfl, ?_⟩) ?_ ?_
      rotate_left
      · intro w'
        go_simp
        with_reducible rfl
      rotate_left
      · simp only [Act.put, List.setIfInBounds_toArray, List.set_cons_zero, List.set_cons_succ, i64_w, i32_w]
        rfl
      refine pure_ (i := 4) (N := some 40) (v := ?_) (a' := ?_) #[false, false, false, true, true, false, false, false, false, false, false, false, false, false, false, false] rfl rfl (by kernel_rfl) (fun _ _ _ h => h) (Or.inl ⟨by rfl, ?_⟩) ?_ ?_
      rotate_left
      · intro w'
        go_simp
        with_reducible rfl
      rotate_left
      · simp only [Act.put, List.setIfInBounds_toArray, List.set_cons_zero, List.set_cons_succ, i64_w, i32_w]
        rfl
      refine pure_ (i := 5) (N := some 41) (v := ?_) (a' := ?_) #[false, false, false, true, true, true, false, false, false, false, false, false, false, false, false, false] rfl rfl (by kernel_rfl) (fun _ _ _ h => h) (Or.inl ⟨by rfl, ?_⟩) ?_ ?_
      rotate_left
      · intro w'
        go_simp
        with_reducible rfl
      rotate_left
      · simp only [Act.put, List.setIfInBounds_toArray, List.set_cons_zero, List.set_cons_succ, i64_w, i32_w]
        rfl
      refine pure_ (i := 7) (N := some 43) (v := ?_) (a' := ?_) #[false, false, false, true, true, true, false, true, false, false, false, false, false, false, false, false] rfl rfl (by kernel_rfl) (fun _ _ _ h => h) (Or.inl ⟨by rfl, ?_⟩) ?_ ?_
      rotate_left
      · intro w'
        go_simp
        with_reducible rfl
      rotate_left
      · simp only [Act.put, List.setIfInBounds_toArray, List.set_cons_zero, List.set_cons_succ, i64_w, i32_w]
        rfl
      refine pure_ (i := 8) (N := some 44) (v := ?_) (a' := ?_) #[false, false, false, true, true, true, false, true, true, false, false, false, false, false, false, false] rfl rfl (by kernel_rfl) (fun _ _ _ h => h) (Or.inl ⟨by rfl, ?_⟩) ?_ ?_
      rotate_left
      · intro w'
        go_simp
        with_reducible rfl
      rotate_left
      · simp only [Act.put, List.setIfInBounds_toArray, List.set_cons_zero, List.set_cons_succ, i64_w, i32_w]
        rfl
      refine pure_ (i := 9) (N := some 45) (v := ?_) (a' := ?_) #[false, false, false, true, true, true, false, true, true, true, false, false, false, false, false, false] rfl rfl (by kernel_rfl) (fun _ _ _ h => h) (Or.inl ⟨by rfl, ?_⟩) ?_ ?_
      rotate_left
      · intro w'
        go_simp
        with_reducible rfl
      rotate_left
      · simp only [Act.put, List.setIfInBounds_toArray, List.set_cons_zero, List.set_cons_succ, i64_w, i32_w]
        rfl
      refine pure_ (i := 10) (N := some 46) (v := ?_) (a' := ?_) #[false, false, false, true, true, true, false, true, true, true, true, false, false, false, false, false] rfl rfl (by kernel_rfl) (fun _ _ _ h => h) (Or.inl ⟨by rfl, ?_⟩) ?_ ?_
      rotate_left
      · intro w'
        go_simp
        with_reducible rfl
      rotate_left
      · simp only [Act.put, List.setIfInBounds_toArray, List.set_cons_zero, List.set_cons_succ, i64_w, i32_w]
        rfl
      refine pure_ (i := 11) (N := some 47) (v := ?_) (a' := ?_) #[false, false, false, true, true, true, false, true, true, true, true, true, false, false, false, false] rfl rfl (by kernel_rfl) (fun _ _ _ h => h) (Or.inl ⟨by rfl, ?_⟩) ?_ ?_
      rotate_left
      · intro w'
        go_simp
        with_reducible rfl
      rotate_left
      · simp only [Act.put, List.setIfInBounds_toArray, List.set_cons_zero, List.set_cons_succ, i64_w, i32_w]
        rfl
      refine pure_ (i := 12) (N := some 48) (v := ?_) (a' := ?_) #[false, false, false, true, true, true, false, true, true, true, true, true, true, false, false, false] rfl rfl (by kernel_rfl) (fun _ _ _ h => h) (Or.inl ⟨by rfl, ?_⟩) ?_ ?_
      rotate_left
      · intro w'
        go_simp
        with_reducible rfl
      rotate_left
      · simp only [Act.put, List.setIfInBounds_toArray, List.set_cons_zero, List.set_cons_succ, i64_w, i32_w]
        rfl
      refine take_ (i := 0) (N := some 36) (v := ?_) (a' := ?_) #[true, false, false, true, true, true, false, true, true, true, true, true, true, false, false, false] rfl rfl (by kernel_rfl) (fun _ _ _ h => h) (Or.inl ⟨by rfl, ?_⟩) hHeld ?_ ?_
      rotate_left
      · rintro w' ⟨s0, s1, s2, s3, s4, s5, s6, s7, s8, s9, s10, s11, s12, s13, s14, s15⟩
        go_simp
        with_reducible rfl
      rotate_left
      · simp only [Act.put, List.setIfInBounds_toArray, List.set_cons_zero, List.set_cons_succ, i64_w, i32_w]
        rfl
      refine take_ (i := 1) (N := some 37) (v := ?_) (a' := ?_) #[true, true, false, true, true, true, false, true, true, true, true, true, true, false, false, false] rfl rfl (by kernel_rfl) (fun _ _ _ h => h) (Or.inl ⟨by rfl, ?_⟩) hHeld ?_ ?_
      rotate_left
      · rintro w' ⟨s0, s1, s2, s3, s4, s5, s6, s7, s8, s9, s10, s11, s12, s13, s14, s15⟩
        go_simp
        with_reducible rfl
      rotate_left
      · simp only [Act.put, List.setIfInBounds_toArray, List.set_cons_zero, List.set_cons_succ, i64_w, i32_w]
        rfl
      refine take_ (i := 2) (N := some 38) (v := ?_) (a' := ?_) #[true, true, true, true, true, true, false, true, true, true, true, true, true, false, false, false] rfl rfl (by kernel_rfl) (fun _ _ _ h => h) (Or.inl ⟨by rfl, ?_⟩) hHeld ?_ ?_
      rotate_left
      · rintro w' ⟨s0, s1, s2, s3, s4, s5, s6, s7, s8, s9, s10, s11, s12, s13, s14, s15⟩
        go_simp
        with_reducible rfl
      rotate_left
      · simp only [Act.put, List.setIfInBounds_toArray, List.set_cons_zero, List.set_cons_succ, i64_w, i32_w]
        rfl
      refine join_ (σ := Value × Value × Value) 1 #[true, true, true, true, true, true, true, true, true, true, true, true, true, true, true, false] (fun s_ => [(42, s_.1), (49, s_.2.1), (13, s_.2.2)]) (fun s_ w' => (w'.cell? ⟨xb, 0, none⟩ = some (.slice AX lx.length cX) ∧ w'.cell? ⟨xb, 1, none⟩ = some (.int .i64 sx) ∧ w'.cell? ⟨xb, 2, none⟩ = some (.int .i64 bx) ∧ w'.cell? ⟨sb, 0, none⟩ = some (.bool false) ∧ w'.cell? ⟨sb, 1, none⟩ = some (.bool false) ∧ w'.cell? ⟨sb, 2, none⟩ = some (.bool false) ∧ w'.cell? ⟨sb, 3, none⟩ = some (.bool false) ∧ w'.cell? ⟨sb, 4, none⟩ = some (.int .i64 0) ∧ w'.cell? ⟨sb, 5, none⟩ = some (.int .u64 7) ∧ w'.cell? ⟨sb, 6, none⟩ = some (.int .i64 0) ∧ w'.cell? ⟨sb, 7, none⟩ = some (.int .u64 7) ∧ w'.cell? ⟨sb, 8, none⟩ = some (.int .i64 0) ∧ w'.cell? ⟨sb, 9, none⟩ = some (.int .u64 7) ∧ w'.cell? ⟨sb, 10, none⟩ = some (.int .i64 0) ∧ w'.cell? ⟨sb, 11, none⟩ = some (.slice AB lx.length cB) ∧ w'.cell? ⟨sb, 12, none⟩ = some (.slice AN lx.length cN)) ∧ (∃ A1 d1 A2 d2 A3 d3 A4 d4 g, s_ = (.agg (stC (advTo lx sx (chainOf n) (partS lx.length lx.length) (wrap64 a)) A1 d1 A2 d2), .agg (stC (advTo lx sx (chainOf n) (advTo lx sx (chainOf n) (partS lx.length lx.length) (wrap64 a)) (wrap64 (wrap64 a + wrap64 b))) A3 d3 A4 d4), .pointer (some ⟨g, 0, none⟩)) ∧ (SIn AX cX lx (advTo lx sx (chainOf n) (partS lx.length lx.length) (wrap64 a)) A1 d1 A2 d2 v (chainOf n) w') ∧ (SIn AX cX lx (advTo lx sx (chainOf n) (advTo lx sx (chainOf n) (partS lx.length lx.length) (wrap64 a)) (wrap64 (wrap64 a + wrap64 b))) A3 d3 A4 d4 v (chainOf n) w') ∧ (w'.heap[g]? = some (.cells #[.bool false, .bool false, .bool false, .bool false, .int .i64 0, .int .u64 0, .int .i64 0, .int .u64 0, .int .i64 0, .int .u64 0, .int .i64 0, .slice none 0 0, .slice none 0 0] 39 (0, 0))) ∧ (w4.heap.size ≤ g)) ∧ Below w4.heap.size w4 w') ?_ ?_
      rotate_left
      · intro hCont
        refine two_ (i := 6) (j := 14) (Ni := some 42) (Nj := some 13) #[true, true, true, true, true, true, true, true, true, true, true, true, true, false, false, false] #[true, true, true, true, true, true, false, true, true, true, true, true, true, false, true, false] rfl rfl rfl rfl (by kernel_rfl) (by decide) (by decide) (fun K hK => ?_) (fun K hK => ?_)
        · skip
          refine goes_ Try.func13 (by kernel_rfl) rfl #[.agg #[.slice AX lx.length cX, .int .i64 sx, .int .i64 bx], .agg #[.bool false, .bool false, .bool false, .bool false, .int .i64 0, .int .u64 7, .int .i64 0, .int .u64 7, .int .i64 0, .int .u64 7, .int .i64 0, .slice AB lx.length cB, .slice AN lx.length cN], .int .i64 (wrap64 a), v] (by rfl) rfl rfl (by simp only [List.map_toArray, List.map_cons, List.map_nil]; rfl) ?_
          with_reducible refine (advP AX cX lx sx bx AB cB AN cN (wrap64 a) v (chainOf n) _ (SP4.out.below (below_drew (Below.refl w4.heap.size w4))) (wrap_range _)).mono ?_
          rintro x wq1 ⟨A1, d1, A2, d2, rfl, h_SI, hb⟩
          refine ⟨_, rfl, ?_⟩
          have HQ1 := Aside0.mk (below_then (below_drew (Below.refl w4.heap.size w4)) (Nat.le_refl _) hb)
          have SI_1 := Aside0.mk h_SI
          clear hb h_SI
          refine hK.out _ _ ⟨(pw_cell_below HQ1.out (blk_cell BM4.out 0)), (pw_cell_below HQ1.out (blk_cell BM4.out 1)), (pw_cell_below HQ1.out (blk_cell BM4.out 2)), (pw_cell_below HQ1.out (blk_cell SB4.out 0)), (pw_cell_below HQ1.out (blk_cell SB4.out 1)), (pw_cell_below HQ1.out (blk_cell SB4.out 2)), (pw_cell_below HQ1.out (blk_cell SB4.out 3)), (pw_cell_below HQ1.out (blk_cell SB4.out 4)), (pw_cell_below HQ1.out (blk_cell SB4.out 5)), (pw_cell_below HQ1.out (blk_cell SB4.out 6)), (pw_cell_below HQ1.out (blk_cell SB4.out 7)), (pw_cell_below HQ1.out (blk_cell SB4.out 8)), (pw_cell_below HQ1.out (blk_cell SB4.out 9)), (pw_cell_below HQ1.out (blk_cell SB4.out 10)), (pw_cell_below HQ1.out (blk_cell SB4.out 11)), (pw_cell_below HQ1.out (blk_cell SB4.out 12))⟩ (fun hHeld => ?_)
          clear hK K
          refine norm_ (a' := ?_) ?_ ?_
          rotate_left
          · show Act.put _ (some 42) _ = _
            simp only [Act.put, List.setIfInBounds_toArray, List.set_cons_zero, List.set_cons_succ, i64_w, i32_w]
            rfl
          refine two_ (i := 13) (j := 14) (Ni := some 49) (Nj := some 13) #[true, true, true, true, true, true, true, true, true, true, true, true, true, true, false, false] #[true, true, true, true, true, true, true, true, true, true, true, true, true, false, true, false] rfl rfl rfl rfl (by kernel_rfl) (by decide) (by decide) (fun K hK => ?_) (fun K hK => ?_)
          · skip
            refine goes_ Try.func13 (by kernel_rfl) rfl #[.agg #[.slice AX lx.length cX, .int .i64 sx, .int .i64 bx], .agg (stC (advTo lx sx (chainOf n) (partS lx.length lx.length) (wrap64 a)) A1 d1 A2 d2), .int .i64 (wrap64 (wrap64 a + wrap64 b)), v] (by rfl) rfl rfl (by simp only [List.map_toArray, List.map_cons, List.map_nil]; rfl) ?_
            with_reducible refine (advance_calls AX cX lx sx bx (advTo lx sx (chainOf n) (partS lx.length lx.length) (wrap64 a)) A1 d1 A2 d2 (wrap64 (wrap64 a + wrap64 b)) v (chainOf n) _ SI_1.out (wrap_range _)).mono ?_
            rintro x wq2 ⟨A3, d3, A4, d4, rfl, h_SJ, hb⟩
            refine ⟨_, rfl, ?_⟩
            have HQ2 := Aside0.mk (below_then HQ1.out HQ1.out.size hb)
            have SJ_2 := Aside0.mk h_SJ
            have SI_2 := Aside0.mk (SIn.below SI_1.out hb)
            clear hb h_SJ
            refine hK.out _ _ ⟨(pw_cell_below HQ2.out (blk_cell BM4.out 0)), (pw_cell_below HQ2.out (blk_cell BM4.out 1)), (pw_cell_below HQ2.out (blk_cell BM4.out 2)), (pw_cell_below HQ2.out (blk_cell SB4.out 0)), (pw_cell_below HQ2.out (blk_cell SB4.out 1)), (pw_cell_below HQ2.out (blk_cell SB4.out 2)), (pw_cell_below HQ2.out (blk_cell SB4.out 3)), (pw_cell_below HQ2.out (blk_cell SB4.out 4)), (pw_cell_below HQ2.out (blk_cell SB4.out 5)), (pw_cell_below HQ2.out (blk_cell SB4.out 6)), (pw_cell_below HQ2.out (blk_cell SB4.out 7)), (pw_cell_below HQ2.out (blk_cell SB4.out 8)), (pw_cell_below HQ2.out (blk_cell SB4.out 9)), (pw_cell_below HQ2.out (blk_cell SB4.out 10)), (pw_cell_below HQ2.out (blk_cell SB4.out 11)), (pw_cell_below HQ2.out (blk_cell SB4.out 12))⟩ (fun hHeld => ?_)
            clear hK K
            refine norm_ (a' := ?_) ?_ ?_
            rotate_left
            · show Act.put _ (some 49) _ = _
              simp only [Act.put, List.setIfInBounds_toArray, List.set_cons_zero, List.set_cons_succ, i64_w, i32_w]
              rfl
            refine one_ (i := 14) (N := some 13) #[true, true, true, true, true, true, true, true, true, true, true, true, true, true, true, false] rfl rfl (by kernel_rfl) (by decide) (fun K hK => ?_)
            refine alloc_step (base := wq2.heap.size) (w0 := wq2) 39 #[.bool false, .bool false, .bool false, .bool false, .int .i64 0, .int .u64 0, .int .i64 0, .int .u64 0, .int .i64 0, .int .u64 0, .int .i64 0, .slice none 0 0, .slice none 0 0] (by rfl) rfl rfl (by kernel_rfl) (Below.refl _ _) (Nat.le_refl _) ?_
            intro g wq3 h_GZ hge hb hg_
            have h_GEGZ : w4.heap.size ≤ g := Nat.le_trans HQ2.out.size hge
            clear hge hg_
            have HQ3 := Aside0.mk (below_then HQ2.out HQ2.out.size hb)
            have GZ_3 := Aside0.mk h_GZ
            have GEGZ_3 := Aside0.mk h_GEGZ
            have SI_3 := Aside0.mk (SIn.below SI_2.out hb)
            have SJ_3 := Aside0.mk (SIn.below SJ_2.out hb)
            clear hb h_GZ h_GEGZ
            refine hK.out _ _ ⟨(pw_cell_below HQ3.out (blk_cell BM4.out 0)), (pw_cell_below HQ3.out (blk_cell BM4.out 1)), (pw_cell_below HQ3.out (blk_cell BM4.out 2)), (pw_cell_below HQ3.out (blk_cell SB4.out 0)), (pw_cell_below HQ3.out (blk_cell SB4.out 1)), (pw_cell_below HQ3.out (blk_cell SB4.out 2)), (pw_cell_below HQ3.out (blk_cell SB4.out 3)), (pw_cell_below HQ3.out (blk_cell SB4.out 4)), (pw_cell_below HQ3.out (blk_cell SB4.out 5)), (pw_cell_below HQ3.out (blk_cell SB4.out 6)), (pw_cell_below HQ3.out (blk_cell SB4.out 7)), (pw_cell_below HQ3.out (blk_cell SB4.out 8)), (pw_cell_below HQ3.out (blk_cell SB4.out 9)), (pw_cell_below HQ3.out (blk_cell SB4.out 10)), (pw_cell_below HQ3.out (blk_cell SB4.out 11)), (pw_cell_below HQ3.out (blk_cell SB4.out 12))⟩ (fun hHeld => ?_)
            clear hK K
            refine norm_ (a' := ?_) ?_ ?_
            rotate_left
            · show Act.put _ (some 13) _ = _
              simp only [Act.put, List.setIfInBounds_toArray, List.set_cons_zero, List.set_cons_succ, i64_w, i32_w]
              rfl
            exact norm_ (by simp only [putAll, Act.put, List.setIfInBounds_toArray, List.set_cons_zero, List.set_cons_succ]) (hCont (.agg (stC (advTo lx sx (chainOf n) (partS lx.length lx.length) (wrap64 a)) A1 d1 A2 d2), .agg (stC (advTo lx sx (chainOf n) (advTo lx sx (chainOf n) (partS lx.length lx.length) (wrap64 a)) (wrap64 (wrap64 a + wrap64 b))) A3 d3 A4 d4), .pointer (some ⟨g, 0, none⟩)) _ ⟨hHeld, ⟨A1, d1, A2, d2, A3, d3, A4, d4, g, rfl, SI_3.out, SJ_3.out, GZ_3.out, GEGZ_3.out⟩, HQ3.out⟩)
          · skip
            refine alloc_step (base := wq1.heap.size) (w0 := wq1) 39 #[.bool false, .bool false, .bool false, .bool false, .int .i64 0, .int .u64 0, .int .i64 0, .int .u64 0, .int .i64 0, .int .u64 0, .int .i64 0, .slice none 0 0, .slice none 0 0] (by rfl) rfl rfl (by kernel_rfl) (Below.refl _ _) (Nat.le_refl _) ?_
            intro g wq2 h_GZ hge hb hg_
            have h_GEGZ : w4.heap.size ≤ g := Nat.le_trans HQ1.out.size hge
            clear hge hg_
            have HQ2 := Aside0.mk (below_then HQ1.out HQ1.out.size hb)
            have GZ_2 := Aside0.mk h_GZ
            have GEGZ_2 := Aside0.mk h_GEGZ
            have SI_2 := Aside0.mk (SIn.below SI_1.out hb)
            clear hb h_GZ h_GEGZ
            refine hK.out _ _ ⟨(pw_cell_below HQ2.out (blk_cell BM4.out 0)), (pw_cell_below HQ2.out (blk_cell BM4.out 1)), (pw_cell_below HQ2.out (blk_cell BM4.out 2)), (pw_cell_below HQ2.out (blk_cell SB4.out 0)), (pw_cell_below HQ2.out (blk_cell SB4.out 1)), (pw_cell_below HQ2.out (blk_cell SB4.out 2)), (pw_cell_below HQ2.out (blk_cell SB4.out 3)), (pw_cell_below HQ2.out (blk_cell SB4.out 4)), (pw_cell_below HQ2.out (blk_cell SB4.out 5)), (pw_cell_below HQ2.out (blk_cell SB4.out 6)), (pw_cell_below HQ2.out (blk_cell SB4.out 7)), (pw_cell_below HQ2.out (blk_cell SB4.out 8)), (pw_cell_below HQ2.out (blk_cell SB4.out 9)), (pw_cell_below HQ2.out (blk_cell SB4.out 10)), (pw_cell_below HQ2.out (blk_cell SB4.out 11)), (pw_cell_below HQ2.out (blk_cell SB4.out 12))⟩ (fun hHeld => ?_)
            clear hK K
            refine norm_ (a' := ?_) ?_ ?_
            rotate_left
            · show Act.put _ (some 13) _ = _
              simp only [Act.put, List.setIfInBounds_toArray, List.set_cons_zero, List.set_cons_succ, i64_w, i32_w]
              rfl
            refine one_ (i := 13) (N := some 49) #[true, true, true, true, true, true, true, true, true, true, true, true, true, true, true, false] rfl rfl (by kernel_rfl) (by decide) (fun K hK => ?_)
            refine goes_ Try.func13 (by kernel_rfl) rfl #[.agg #[.slice AX lx.length cX, .int .i64 sx, .int .i64 bx], .agg (stC (advTo lx sx (chainOf n) (partS lx.length lx.length) (wrap64 a)) A1 d1 A2 d2), .int .i64 (wrap64 (wrap64 a + wrap64 b)), v] (by rfl) rfl rfl (by simp only [List.map_toArray, List.map_cons, List.map_nil]; rfl) ?_
            with_reducible refine (advance_calls AX cX lx sx bx (advTo lx sx (chainOf n) (partS lx.length lx.length) (wrap64 a)) A1 d1 A2 d2 (wrap64 (wrap64 a + wrap64 b)) v (chainOf n) _ SI_2.out (wrap_range _)).mono ?_
            rintro x wq3 ⟨A3, d3, A4, d4, rfl, h_SJ, hb⟩
            refine ⟨_, rfl, ?_⟩
            have HQ3 := Aside0.mk (below_then HQ2.out HQ2.out.size hb)
            have SJ_3 := Aside0.mk h_SJ
            have SI_3 := Aside0.mk (SIn.below SI_2.out hb)
            have GZ_3 := Aside0.mk (blk_below GZ_2.out hb)
            have GEGZ_3 := Aside0.mk (GEGZ_2.out)
            clear hb h_SJ
            refine hK.out _ _ ⟨(pw_cell_below HQ3.out (blk_cell BM4.out 0)), (pw_cell_below HQ3.out (blk_cell BM4.out 1)), (pw_cell_below HQ3.out (blk_cell BM4.out 2)), (pw_cell_below HQ3.out (blk_cell SB4.out 0)), (pw_cell_below HQ3.out (blk_cell SB4.out 1)), (pw_cell_below HQ3.out (blk_cell SB4.out 2)), (pw_cell_below HQ3.out (blk_cell SB4.out 3)), (pw_cell_below HQ3.out (blk_cell SB4.out 4)), (pw_cell_below HQ3.out (blk_cell SB4.out 5)), (pw_cell_below HQ3.out (blk_cell SB4.out 6)), (pw_cell_below HQ3.out (blk_cell SB4.out 7)), (pw_cell_below HQ3.out (blk_cell SB4.out 8)), (pw_cell_below HQ3.out (blk_cell SB4.out 9)), (pw_cell_below HQ3.out (blk_cell SB4.out 10)), (pw_cell_below HQ3.out (blk_cell SB4.out 11)), (pw_cell_below HQ3.out (blk_cell SB4.out 12))⟩ (fun hHeld => ?_)
            clear hK K
            refine norm_ (a' := ?_) ?_ ?_
            rotate_left
            · show Act.put _ (some 49) _ = _
              simp only [Act.put, List.setIfInBounds_toArray, List.set_cons_zero, List.set_cons_succ, i64_w, i32_w]
              rfl
            exact norm_ (by simp only [putAll, Act.put, List.setIfInBounds_toArray, List.set_cons_zero, List.set_cons_succ]) (hCont (.agg (stC (advTo lx sx (chainOf n) (partS lx.length lx.length) (wrap64 a)) A1 d1 A2 d2), .agg (stC (advTo lx sx (chainOf n) (advTo lx sx (chainOf n) (partS lx.length lx.length) (wrap64 a)) (wrap64 (wrap64 a + wrap64 b))) A3 d3 A4 d4), .pointer (some ⟨g, 0, none⟩)) _ ⟨hHeld, ⟨A1, d1, A2, d2, A3, d3, A4, d4, g, rfl, SI_3.out, SJ_3.out, GZ_3.out, GEGZ_3.out⟩, HQ3.out⟩)
        · skip
          refine alloc_step (base := w4.drew.heap.size) (w0 := w4.drew) 39 #[.bool false, .bool false, .bool false, .bool false, .int .i64 0, .int .u64 0, .int .i64 0, .int .u64 0, .int .i64 0, .int .u64 0, .int .i64 0, .slice none 0 0, .slice none 0 0] (by rfl) rfl rfl (by kernel_rfl) (Below.refl _ _) (Nat.le_refl _) ?_
          intro g wq1 h_GZ hge hb hg_
          have h_GEGZ : w4.heap.size ≤ g := Nat.le_trans (below_drew (Below.refl w4.heap.size w4)).size hge
          clear hge hg_
          have HQ1 := Aside0.mk (below_then (below_drew (Below.refl w4.heap.size w4)) (Nat.le_refl _) hb)
          have GZ_1 := Aside0.mk h_GZ
          have GEGZ_1 := Aside0.mk h_GEGZ
          clear hb h_GZ h_GEGZ
          refine hK.out _ _ ⟨(pw_cell_below HQ1.out (blk_cell BM4.out 0)), (pw_cell_below HQ1.out (blk_cell BM4.out 1)), (pw_cell_below HQ1.out (blk_cell BM4.out 2)), (pw_cell_below HQ1.out (blk_cell SB4.out 0)), (pw_cell_below HQ1.out (blk_cell SB4.out 1)), (pw_cell_below HQ1.out (blk_cell SB4.out 2)), (pw_cell_below HQ1.out (blk_cell SB4.out 3)), (pw_cell_below HQ1.out (blk_cell SB4.out 4)), (pw_cell_below HQ1.out (blk_cell SB4.out 5)), (pw_cell_below HQ1.out (blk_cell SB4.out 6)), (pw_cell_below HQ1.out (blk_cell SB4.out 7)), (pw_cell_below HQ1.out (blk_cell SB4.out 8)), (pw_cell_below HQ1.out (blk_cell SB4.out 9)), (pw_cell_below HQ1.out (blk_cell SB4.out 10)), (pw_cell_below HQ1.out (blk_cell SB4.out 11)), (pw_cell_below HQ1.out (blk_cell SB4.out 12))⟩ (fun hHeld => ?_)
          clear hK K
          refine norm_ (a' := ?_) ?_ ?_
          rotate_left
          · show Act.put _ (some 13) _ = _
            simp only [Act.put, List.setIfInBounds_toArray, List.set_cons_zero, List.set_cons_succ, i64_w, i32_w]
            rfl
          refine one_ (i := 6) (N := some 42) #[true, true, true, true, true, true, true, true, true, true, true, true, true, false, true, false] rfl rfl (by kernel_rfl) (by decide) (fun K hK => ?_)
          refine goes_ Try.func13 (by kernel_rfl) rfl #[.agg #[.slice AX lx.length cX, .int .i64 sx, .int .i64 bx], .agg #[.bool false, .bool false, .bool false, .bool false, .int .i64 0, .int .u64 7, .int .i64 0, .int .u64 7, .int .i64 0, .int .u64 7, .int .i64 0, .slice AB lx.length cB, .slice AN lx.length cN], .int .i64 (wrap64 a), v] (by rfl) rfl rfl (by simp only [List.map_toArray, List.map_cons, List.map_nil]; rfl) ?_
          with_reducible refine (advP AX cX lx sx bx AB cB AN cN (wrap64 a) v (chainOf n) _ (SP4.out.below HQ1.out) (wrap_range _)).mono ?_
          rintro x wq2 ⟨A1, d1, A2, d2, rfl, h_SI, hb⟩
          refine ⟨_, rfl, ?_⟩
          have HQ2 := Aside0.mk (below_then HQ1.out HQ1.out.size hb)
          have SI_2 := Aside0.mk h_SI
          have GZ_2 := Aside0.mk (blk_below GZ_1.out hb)
          have GEGZ_2 := Aside0.mk (GEGZ_1.out)
          clear hb h_SI
          refine hK.out _ _ ⟨(pw_cell_below HQ2.out (blk_cell BM4.out 0)), (pw_cell_below HQ2.out (blk_cell BM4.out 1)), (pw_cell_below HQ2.out (blk_cell BM4.out 2)), (pw_cell_below HQ2.out (blk_cell SB4.out 0)), (pw_cell_below HQ2.out (blk_cell SB4.out 1)), (pw_cell_below HQ2.out (blk_cell SB4.out 2)), (pw_cell_below HQ2.out (blk_cell SB4.out 3)), (pw_cell_below HQ2.out (blk_cell SB4.out 4)), (pw_cell_below HQ2.out (blk_cell SB4.out 5)), (pw_cell_below HQ2.out (blk_cell SB4.out 6)), (pw_cell_below HQ2.out (blk_cell SB4.out 7)), (pw_cell_below HQ2.out (blk_cell SB4.out 8)), (pw_cell_below HQ2.out (blk_cell SB4.out 9)), (pw_cell_below HQ2.out (blk_cell SB4.out 10)), (pw_cell_below HQ2.out (blk_cell SB4.out 11)), (pw_cell_below HQ2.out (blk_cell SB4.out 12))⟩ (fun hHeld => ?_)
          clear hK K
          refine norm_ (a' := ?_) ?_ ?_
          rotate_left
          · show Act.put _ (some 42) _ = _
            simp only [Act.put, List.setIfInBounds_toArray, List.set_cons_zero, List.set_cons_succ, i64_w, i32_w]
            rfl
          refine one_ (i := 13) (N := some 49) #[true, true, true, true, true, true, true, true, true, true, true, true, true, true, true, false] rfl rfl (by kernel_rfl) (by decide) (fun K hK => ?_)
          refine goes_ Try.func13 (by kernel_rfl) rfl #[.agg #[.slice AX lx.length cX, .int .i64 sx, .int .i64 bx], .agg (stC (advTo lx sx (chainOf n) (partS lx.length lx.length) (wrap64 a)) A1 d1 A2 d2), .int .i64 (wrap64 (wrap64 a + wrap64 b)), v] (by rfl) rfl rfl (by simp only [List.map_toArray, List.map_cons, List.map_nil]; rfl) ?_
          with_reducible refine (advance_calls AX cX lx sx bx (advTo lx sx (chainOf n) (partS lx.length lx.length) (wrap64 a)) A1 d1 A2 d2 (wrap64 (wrap64 a + wrap64 b)) v (chainOf n) _ SI_2.out (wrap_range _)).mono ?_
          rintro x wq3 ⟨A3, d3, A4, d4, rfl, h_SJ, hb⟩
          refine ⟨_, rfl, ?_⟩
          have HQ3 := Aside0.mk (below_then HQ2.out HQ2.out.size hb)
          have SJ_3 := Aside0.mk h_SJ
          have SI_3 := Aside0.mk (SIn.below SI_2.out hb)
          have GZ_3 := Aside0.mk (blk_below GZ_2.out hb)
          have GEGZ_3 := Aside0.mk (GEGZ_2.out)
          clear hb h_SJ
          refine hK.out _ _ ⟨(pw_cell_below HQ3.out (blk_cell BM4.out 0)), (pw_cell_below HQ3.out (blk_cell BM4.out 1)), (pw_cell_below HQ3.out (blk_cell BM4.out 2)), (pw_cell_below HQ3.out (blk_cell SB4.out 0)), (pw_cell_below HQ3.out (blk_cell SB4.out 1)), (pw_cell_below HQ3.out (blk_cell SB4.out 2)), (pw_cell_below HQ3.out (blk_cell SB4.out 3)), (pw_cell_below HQ3.out (blk_cell SB4.out 4)), (pw_cell_below HQ3.out (blk_cell SB4.out 5)), (pw_cell_below HQ3.out (blk_cell SB4.out 6)), (pw_cell_below HQ3.out (blk_cell SB4.out 7)), (pw_cell_below HQ3.out (blk_cell SB4.out 8)), (pw_cell_below HQ3.out (blk_cell SB4.out 9)), (pw_cell_below HQ3.out (blk_cell SB4.out 10)), (pw_cell_below HQ3.out (blk_cell SB4.out 11)), (pw_cell_below HQ3.out (blk_cell SB4.out 12))⟩ (fun hHeld => ?_)
          clear hK K
          refine norm_ (a' := ?_) ?_ ?_
          rotate_left
          · show Act.put _ (some 49) _ = _
            simp only [Act.put, List.setIfInBounds_toArray, List.set_cons_zero, List.set_cons_succ, i64_w, i32_w]
            rfl
          exact norm_ (by simp only [putAll, Act.put, List.setIfInBounds_toArray, List.set_cons_zero, List.set_cons_succ]) (hCont (.agg (stC (advTo lx sx (chainOf n) (partS lx.length lx.length) (wrap64 a)) A1 d1 A2 d2), .agg (stC (advTo lx sx (chainOf n) (advTo lx sx (chainOf n) (partS lx.length lx.length) (wrap64 a)) (wrap64 (wrap64 a + wrap64 b))) A3 d3 A4 d4), .pointer (some ⟨g, 0, none⟩)) _ ⟨hHeld, ⟨A1, d1, A2, d2, A3, d3, A4, d4, g, rfl, SI_3.out, SJ_3.out, GZ_3.out, GEGZ_3.out⟩, HQ3.out⟩)
      rintro s_ wj ⟨hS_, ⟨A1, d1, A2, d2, A3, d3, A4, d4, g, rfl, h_SI, h_SJ, h_GZ, h_GEGZ⟩, hbj⟩
      have SI := Aside0.mk h_SI
      have SJ := Aside0.mk h_SJ
      have GZ := Aside0.mk h_GZ
      have GEGZ := Aside0.mk h_GEGZ
      have HJ := Aside0.mk hbj
      clear hbj h_SI h_SJ h_GZ h_GEGZ
      have hHeld : wj.cell? ⟨xb, 0, none⟩ = some (.slice AX lx.length cX) ∧ wj.cell? ⟨xb, 1, none⟩ = some (.int .i64 sx) ∧ wj.cell? ⟨xb, 2, none⟩ = some (.int .i64 bx) ∧ wj.cell? ⟨sb, 0, none⟩ = some (.bool false) ∧ wj.cell? ⟨sb, 1, none⟩ = some (.bool false) ∧ wj.cell? ⟨sb, 2, none⟩ = some (.bool false) ∧ wj.cell? ⟨sb, 3, none⟩ = some (.bool false) ∧ wj.cell? ⟨sb, 4, none⟩ = some (.int .i64 0) ∧ wj.cell? ⟨sb, 5, none⟩ = some (.int .u64 7) ∧ wj.cell? ⟨sb, 6, none⟩ = some (.int .i64 0) ∧ wj.cell? ⟨sb, 7, none⟩ = some (.int .u64 7) ∧ wj.cell? ⟨sb, 8, none⟩ = some (.int .i64 0) ∧ wj.cell? ⟨sb, 9, none⟩ = some (.int .u64 7) ∧ wj.cell? ⟨sb, 10, none⟩ = some (.int .i64 0) ∧ wj.cell? ⟨sb, 11, none⟩ = some (.slice AB lx.length cB) ∧ wj.cell? ⟨sb, 12, none⟩ = some (.slice AN lx.length cN) := hS_
      refine norm_ (a' := ?_) ?_ ?_
      rotate_left
      · simp only [putAll, Act.put, List.setIfInBounds_toArray, List.set_cons_zero, List.set_cons_succ]
        rfl
      refine last_ (i := 15) (N := none) #[true, true, true, true, true, true, true, true, true, true, true, true, true, true, true, true] rfl rfl (by kernel_rfl) (by decide) (fun K hK => ?_)
      refine store_step (by rfl) rfl 39 (.tmp 13) (.tmp 49) rfl g 39 _ (stC (advTo lx sx (chainOf n) (advTo lx sx (chainOf n) (partS lx.length lx.length) (wrap64 a)) (wrap64 (wrap64 a + wrap64 b))) A3 d3 A4 d4) rfl rfl GZ.out rfl (by kernel_rfl) (by simp [stC, Value.oneCell']) ?_
      intro wz hbk hgr
      have G9 := Aside0.mk hbk
      have HJZ := Aside0.mk (HJ.out.grown hgr HJ.out.size (fun k hk => by cases hk; exact GEGZ.out))
      have HZ := Aside0.mk (below_then HB4.out HB4.out.size HJZ.out)
      have BMz := Aside0.mk (blk_below BM4.out HJZ.out)
      have SBz := Aside0.mk (blk_below SB4.out HJZ.out)
      have SJz := Aside0.mk (SJ.out.over SP4.out.c GZ.out (by decide) hgr HJZ.out)
      have SPz := Aside0.mk (SP4.out.below HJZ.out)
      clear hbk hgr
      refine hK.out _ _ ?_
      clear hK K
      refine done_ (by kernel_rfl) ?_
      have EA : Aside0 (wrap64 a = a ∧ wrap64 (wrap64 a + wrap64 b) = a + b) := ⟨by have := HAB.out; unfold wrap64; omega⟩
      have hst : advTo lx sx (chainOf n) (advTo lx sx (chainOf n) (partS lx.length lx.length) (wrap64 a)) (wrap64 (wrap64 a + wrap64 b)) = advTo lx sx (chainOf n) (partS lx.length lx.length) (wrap64 (wrap64 a + wrap64 b)) := by
        rw [EA.out.2, EA.out.1]
        exact adv_twice lx sx (chainOf n) (partS lx.length lx.length) a b rfl (by have := HSL.out; omega) (by have := HSL.out; omega) HAB.out.1 HAB.out.2
      have SN : Aside0 (advTo lx sx (chainOf n) (partS lx.length lx.length) 0 = partS lx.length lx.length) := ⟨adv_none lx sx (chainOf n) (partS lx.length lx.length) rfl (by have := HSL.out; omega) (by have := HSL.out; omega)⟩
      rw [hst] at G9 SJz
      rw [hst]
      obtain ⟨t, ht⟩ : ∃ t, advTo lx sx (chainOf n) (partS lx.length lx.length) (wrap64 (wrap64 a + wrap64 b)) = t := ⟨_, rfl⟩
      rw [ht] at G9 SJz
      rw [ht]
      have ST := Aside0.mk ht
      have G8 : Aside0 (wz.heap[g]? = some (.cells (stC t A3 d3 A4 d4) 39 (0, 0))) := ⟨G9.out⟩
      clear hst ht G9 hHeld GZ HJ SI SJ
      go_upto_region 12 with fail
      refine start_ (n := 20) (S := fun w' => w'.cell? ⟨xb, 0, none⟩ = some (.slice AX lx.length cX) ∧ w'.cell? ⟨xb, 1, none⟩ = some (.int .i64 sx) ∧ w'.cell? ⟨xb, 2, none⟩ = some (.int .i64 bx) ∧ w'.cell? ⟨sb, 0, none⟩ = some (.bool false) ∧ w'.cell? ⟨sb, 1, none⟩ = some (.bool false) ∧ w'.cell? ⟨sb, 2, none⟩ = some (.bool false) ∧ w'.cell? ⟨sb, 3, none⟩ = some (.bool false) ∧ w'.cell? ⟨sb, 4, none⟩ = some (.int .i64 0) ∧ w'.cell? ⟨sb, 5, none⟩ = some (.int .u64 7) ∧ w'.cell? ⟨sb, 6, none⟩ = some (.int .i64 0) ∧ w'.cell? ⟨sb, 7, none⟩ = some (.int .u64 7) ∧ w'.cell? ⟨sb, 8, none⟩ = some (.int .i64 0) ∧ w'.cell? ⟨sb, 9, none⟩ = some (.int .u64 7) ∧ w'.cell? ⟨sb, 10, none⟩ = some (.int .i64 0) ∧ w'.cell? ⟨sb, 11, none⟩ = some (.slice AB lx.length cB) ∧ w'.cell? ⟨sb, 12, none⟩ = some (.slice AN lx.length cN) ∧ w'.cell? ⟨g, 0, none⟩ = some (.bool t.j.b0) ∧ w'.cell? ⟨g, 1, none⟩ = some (.bool t.j.b1) ∧ w'.cell? ⟨g, 2, none⟩ = some (.bool t.j.b2) ∧ w'.cell? ⟨g, 3, none⟩ = some (.bool t.j.b3) ∧ w'.cell? ⟨g, 4, none⟩ = some (.int .i64 t.j.pe) ∧ w'.cell? ⟨g, 5, none⟩ = some (.int .u64 t.j.pr) ∧ w'.cell? ⟨g, 6, none⟩ = some (.int .i64 t.j.ce) ∧ w'.cell? ⟨g, 7, none⟩ = some (.int .u64 t.j.cr) ∧ w'.cell? ⟨g, 8, none⟩ = some (.int .i64 t.j.fe) ∧ w'.cell? ⟨g, 9, none⟩ = some (.int .u64 t.j.fr) ∧ w'.cell? ⟨g, 10, none⟩ = some (.int .i64 t.ep) ∧ w'.cell? ⟨g, 11, none⟩ = some (.slice A3 t.bf.length d3) ∧ w'.cell? ⟨g, 12, none⟩ = some (.slice A4 t.nw.length d4)) (ds := []) #[false, false, false, false, false, false, false, false, false, false, false, false, false, false, false, false, false, false, false, false] (by kernel_rfl) rfl rfl ⟨(blk_cell BMz.out 0), (blk_cell BMz.out 1), (blk_cell BMz.out 2), (blk_cell SBz.out 0), (blk_cell SBz.out 1), (blk_cell SBz.out 2), (blk_cell SBz.out 3), (blk_cell SBz.out 4), (blk_cell SBz.out 5), (blk_cell SBz.out 6), (blk_cell SBz.out 7), (blk_cell SBz.out 8), (blk_cell SBz.out 9), (blk_cell SBz.out 10), (blk_cell SBz.out 11), (blk_cell SBz.out 12), (blk_cell G8.out 0), (blk_cell G8.out 1), (blk_cell G8.out 2), (blk_cell G8.out 3), (blk_cell G8.out 4), (blk_cell G8.out 5), (blk_cell G8.out 6), (blk_cell G8.out 7), (blk_cell G8.out 8), (blk_cell G8.out 9), (blk_cell G8.out 10), (blk_cell G8.out 11), (blk_cell G8.out 12)⟩ (fun hHeld => ?_)
      refine pure_ (i := 3) (N := some 53) (v := ?_) (a' := ?_) #[false, false, false, true, false, false, false, false, false, false, false, false, false, false, false, false, false, false, false, false] rfl rfl (by kernel_rfl) (fun _ _ _ h => h) (Or.inl ⟨by rfl, ?_⟩) ?_ ?_
      rotate_left
      · intro w'
        go_simp
        with_reducible rfl
      rotate_left
      · simp only [Act.put, List.setIfInBounds_toArray, List.set_cons_zero, List.set_cons_succ, i64_w, i32_w]
        rfl
      refine pure_ (i := 4) (N := some 54) (v := ?_) (a' := ?_) #[false, false, false, true, true, false, false, false, false, false, false, false, false, false, false, false, false, false, false, false] rfl rfl (by kernel_rfl) (fun _ _ _ h => h) (Or.inl ⟨by rfl, ?_⟩) ?_ ?_
      rotate_left
      · intro w'
        go_simp
        with_reducible rfl
      rotate_left
      · simp only [Act.put, List.setIfInBounds_toArray, List.set_cons_zero, List.set_cons_succ, i64_w, i32_w]
        rfl
      refine pure_ (i := 5) (N := some 55) (v := ?_) (a' := ?_) #[false, false, false, true, true, true, false, false, false, false, false, false, false, false, false, false, false, false, false, false] rfl rfl (by kernel_rfl) (fun _ _ _ h => h) (Or.inl ⟨by rfl, ?_⟩) ?_ ?_
      rotate_left
      · intro w'
        go_simp
        with_reducible rfl
      rotate_left
      · simp only [Act.put, List.setIfInBounds_toArray, List.set_cons_zero, List.set_cons_succ, i64_w, i32_w]
        rfl
      refine pure_ (i := 6) (N := some 56) (v := ?_) (a' := ?_) #[false, false, false, true, true, true, true, false, false, false, false, false, false, false, false, false, false, false, false, false] rfl rfl (by kernel_rfl) (fun _ _ _ h => h) (Or.inl ⟨by rfl, ?_⟩) ?_ ?_
      rotate_left
      · intro w'
        go_simp
        with_reducible rfl
      rotate_left
      · simp only [Act.put, List.setIfInBounds_toArray, List.set_cons_zero, List.set_cons_succ, i64_w, i32_w]
        rfl
      refine pure_ (i := 7) (N := some 57) (v := ?_) (a' := ?_) #[false, false, false, true, true, true, true, true, false, false, false, false, false, false, false, false, false, false, false, false] rfl rfl (by kernel_rfl) (fun _ _ _ h => h) (Or.inl ⟨by rfl, ?_⟩) ?_ ?_
      rotate_left
      · intro w'
        go_simp
        with_reducible rfl
      rotate_left
      · simp only [Act.put, List.setIfInBounds_toArray, List.set_cons_zero, List.set_cons_succ, i64_w, i32_w]
        rfl
      refine pure_ (i := 8) (N := some 58) (v := ?_) (a' := ?_) #[false, false, false, true, true, true, true, true, true, false, false, false, false, false, false, false, false, false, false, false] rfl rfl (by kernel_rfl) (fun _ _ _ h => h) (Or.inl ⟨by rfl, ?_⟩) ?_ ?_
      rotate_left
      · intro w'
        go_simp
        with_reducible rfl
      rotate_left
      · simp only [Act.put, List.setIfInBounds_toArray, List.set_cons_zero, List.set_cons_succ, i64_w, i32_w]
        rfl
      refine take_ (i := 0) (N := some 50) (v := ?_) (a' := ?_) #[true, false, false, true, true, true, true, true, true, false, false, false, false, false, false, false, false, false, false, false] rfl rfl (by kernel_rfl) (fun _ _ _ h => h) (Or.inl ⟨by rfl, ?_⟩) hHeld ?_ ?_
      rotate_left
      · rintro w' ⟨s0, s1, s2, s3, s4, s5, s6, s7, s8, s9, s10, s11, s12, s13, s14, s15, s16, s17, s18, s19, s20, s21, s22, s23, s24, s25, s26, s27, s28⟩
        go_simp
        with_reducible rfl
      rotate_left
      · simp only [Act.put, List.setIfInBounds_toArray, List.set_cons_zero, List.set_cons_succ, i64_w, i32_w]
        rfl
      refine take_ (i := 1) (N := some 51) (v := ?_) (a' := ?_) #[true, true, false, true, true, true, true, true, true, false, false, false, false, false, false, false, false, false, false, false] rfl rfl (by kernel_rfl) (fun _ _ _ h => h) (Or.inl ⟨by rfl, ?_⟩) hHeld ?_ ?_
      rotate_left
      · rintro w' ⟨s0, s1, s2, s3, s4, s5, s6, s7, s8, s9, s10, s11, s12, s13, s14, s15, s16, s17, s18, s19, s20, s21, s22, s23, s24, s25, s26, s27, s28⟩
        go_simp
        with_reducible rfl
      rotate_left
      · simp only [Act.put, List.setIfInBounds_toArray, List.set_cons_zero, List.set_cons_succ, i64_w, i32_w]
        rfl
      refine take_ (i := 2) (N := some 52) (v := ?_) (a' := ?_) #[true, true, true, true, true, true, true, true, true, false, false, false, false, false, false, false, false, false, false, false] rfl rfl (by kernel_rfl) (fun _ _ _ h => h) (Or.inl ⟨by rfl, ?_⟩) hHeld ?_ ?_
      rotate_left
      · rintro w' ⟨s0, s1, s2, s3, s4, s5, s6, s7, s8, s9, s10, s11, s12, s13, s14, s15, s16, s17, s18, s19, s20, s21, s22, s23, s24, s25, s26, s27, s28⟩
        go_simp
        with_reducible rfl
      rotate_left
      · simp only [Act.put, List.setIfInBounds_toArray, List.set_cons_zero, List.set_cons_succ, i64_w, i32_w]
        rfl
      refine one_ (i := 9) (N := some 59) #[true, true, true, true, true, true, true, true, true, true, false, false, false, false, false, false, false, false, false, false] rfl rfl (by kernel_rfl) (by decide) (fun K hK => ?_)
      refine goes_ Try.func13 (by kernel_rfl) rfl #[.agg #[.slice AX lx.length cX, .int .i64 sx, .int .i64 bx], .agg #[.bool false, .bool false, .bool false, .bool false, .int .i64 0, .int .u64 7, .int .i64 0, .int .u64 7, .int .i64 0, .int .u64 7, .int .i64 0, .slice AB lx.length cB, .slice AN lx.length cN], .int .i64 (wrap64 (wrap64 a + wrap64 b)), v] (by rfl) rfl rfl (by simp only [List.map_toArray, List.map_cons, List.map_nil]; rfl) ?_
      with_reducible refine (advP AX cX lx sx bx AB cB AN cN (wrap64 (wrap64 a + wrap64 b)) v (chainOf n) _ (SPz.out.below (below_drew (Below.refl wz.heap.size wz))) (wrap_range _)).mono ?_
      rintro x wq1 ⟨E1, f1, E2, f2, rfl, h_S, hb⟩
      refine ⟨_, rfl, ?_⟩
      have HQ1 := Aside0.mk (below_then (below_drew (Below.refl wz.heap.size wz)) (Nat.le_refl _) hb)
      rw [ST.out] at h_S
      have S1 := Aside0.mk h_S
      clear h_S hb
      refine hK.out _ _ ⟨(pw_cell_below HQ1.out (blk_cell BMz.out 0)), (pw_cell_below HQ1.out (blk_cell BMz.out 1)), (pw_cell_below HQ1.out (blk_cell BMz.out 2)), (pw_cell_below HQ1.out (blk_cell SBz.out 0)), (pw_cell_below HQ1.out (blk_cell SBz.out 1)), (pw_cell_below HQ1.out (blk_cell SBz.out 2)), (pw_cell_below HQ1.out (blk_cell SBz.out 3)), (pw_cell_below HQ1.out (blk_cell SBz.out 4)), (pw_cell_below HQ1.out (blk_cell SBz.out 5)), (pw_cell_below HQ1.out (blk_cell SBz.out 6)), (pw_cell_below HQ1.out (blk_cell SBz.out 7)), (pw_cell_below HQ1.out (blk_cell SBz.out 8)), (pw_cell_below HQ1.out (blk_cell SBz.out 9)), (pw_cell_below HQ1.out (blk_cell SBz.out 10)), (pw_cell_below HQ1.out (blk_cell SBz.out 11)), (pw_cell_below HQ1.out (blk_cell SBz.out 12)), (pw_cell_below HQ1.out (blk_cell G8.out 0)), (pw_cell_below HQ1.out (blk_cell G8.out 1)), (pw_cell_below HQ1.out (blk_cell G8.out 2)), (pw_cell_below HQ1.out (blk_cell G8.out 3)), (pw_cell_below HQ1.out (blk_cell G8.out 4)), (pw_cell_below HQ1.out (blk_cell G8.out 5)), (pw_cell_below HQ1.out (blk_cell G8.out 6)), (pw_cell_below HQ1.out (blk_cell G8.out 7)), (pw_cell_below HQ1.out (blk_cell G8.out 8)), (pw_cell_below HQ1.out (blk_cell G8.out 9)), (pw_cell_below HQ1.out (blk_cell G8.out 10)), (pw_cell_below HQ1.out (blk_cell G8.out 11)), (pw_cell_below HQ1.out (blk_cell G8.out 12))⟩ (fun hHeld => ?_)
      clear hK K
      refine norm_ (a' := ?_) ?_ ?_
      rotate_left
      · show Act.put _ (some 59) _ = _
        simp only [Act.put, List.setIfInBounds_toArray, List.set_cons_zero, List.set_cons_succ, i64_w, i32_w]
        rfl
      refine one_ (i := 10) (N := some 60) #[true, true, true, true, true, true, true, true, true, true, true, false, false, false, false, false, false, false, false, false] rfl rfl (by kernel_rfl) (by decide) (fun K hK => ?_)
      refine goes_ Try.func20 (by kernel_rfl) rfl #[.agg #[.bool t.j.b0, .bool t.j.b1, .bool t.j.b2, .bool t.j.b3, .int .i64 t.j.pe, .int .u64 t.j.pr, .int .i64 t.j.ce, .int .u64 t.j.cr, .int .i64 t.j.fe, .int .u64 t.j.fr, .int .i64 t.ep, .slice A3 t.bf.length d3, .slice A4 t.nw.length d4], .agg (stC (advTo lx sx (chainOf n) (partS lx.length lx.length) (wrap64 (wrap64 a + wrap64 b))) E1 f1 E2 f2)] (by rfl) rfl rfl (by simp only [List.map_toArray, List.map_cons, List.map_nil]; rfl) ?_
      rw [ST.out]
      with_reducible refine (same_calls t A3 d3 A4 d4 E1 f1 E2 f2 _ (SIn.same (SJz.out.below HQ1.out) S1.out)).mono ?_
      rintro x wq2 ⟨rfl, hb⟩
      refine ⟨_, rfl, ?_⟩
      have HQ2 := Aside0.mk (below_then HQ1.out HQ1.out.size hb)
      clear hb
      refine hK.out _ _ ⟨(pw_cell_below HQ2.out (blk_cell BMz.out 0)), (pw_cell_below HQ2.out (blk_cell BMz.out 1)), (pw_cell_below HQ2.out (blk_cell BMz.out 2)), (pw_cell_below HQ2.out (blk_cell SBz.out 0)), (pw_cell_below HQ2.out (blk_cell SBz.out 1)), (pw_cell_below HQ2.out (blk_cell SBz.out 2)), (pw_cell_below HQ2.out (blk_cell SBz.out 3)), (pw_cell_below HQ2.out (blk_cell SBz.out 4)), (pw_cell_below HQ2.out (blk_cell SBz.out 5)), (pw_cell_below HQ2.out (blk_cell SBz.out 6)), (pw_cell_below HQ2.out (blk_cell SBz.out 7)), (pw_cell_below HQ2.out (blk_cell SBz.out 8)), (pw_cell_below HQ2.out (blk_cell SBz.out 9)), (pw_cell_below HQ2.out (blk_cell SBz.out 10)), (pw_cell_below HQ2.out (blk_cell SBz.out 11)), (pw_cell_below HQ2.out (blk_cell SBz.out 12)), (pw_cell_below HQ2.out (blk_cell G8.out 0)), (pw_cell_below HQ2.out (blk_cell G8.out 1)), (pw_cell_below HQ2.out (blk_cell G8.out 2)), (pw_cell_below HQ2.out (blk_cell G8.out 3)), (pw_cell_below HQ2.out (blk_cell G8.out 4)), (pw_cell_below HQ2.out (blk_cell G8.out 5)), (pw_cell_below HQ2.out (blk_cell G8.out 6)), (pw_cell_below HQ2.out (blk_cell G8.out 7)), (pw_cell_below HQ2.out (blk_cell G8.out 8)), (pw_cell_below HQ2.out (blk_cell G8.out 9)), (pw_cell_below HQ2.out (blk_cell G8.out 10)), (pw_cell_below HQ2.out (blk_cell G8.out 11)), (pw_cell_below HQ2.out (blk_cell G8.out 12))⟩ (fun hHeld => ?_)
      clear hK K
      refine norm_ (a' := ?_) ?_ ?_
      rotate_left
      · show Act.put _ (some 60) _ = _
        simp only [Act.put, List.setIfInBounds_toArray, List.set_cons_zero, List.set_cons_succ, i64_w, i32_w]
        rfl
      refine pure_ (i := 11) (N := some 61) (v := ?_) (a' := ?_) #[true, true, true, true, true, true, true, true, true, true, true, true, false, false, false, false, false, false, false, false] rfl rfl (by kernel_rfl) (fun _ _ _ h => h) (Or.inl ⟨by rfl, ?_⟩) ?_ ?_
      rotate_left
      · intro w'
        go_simp
        with_reducible rfl
      rotate_left
      · simp only [Act.put, List.setIfInBounds_toArray, List.set_cons_zero, List.set_cons_succ, i64_w, i32_w]
        rfl
      refine pure_ (i := 14) (N := some 64) (v := ?_) (a' := ?_) #[true, true, true, true, true, true, true, true, true, true, true, true, false, false, true, false, false, false, false, false] rfl rfl (by kernel_rfl) (fun _ _ _ h => h) (Or.inl ⟨by rfl, ?_⟩) ?_ ?_
      rotate_left
      · intro w'
        go_simp
        with_reducible rfl
      rotate_left
      · simp only [Act.put, List.setIfInBounds_toArray, List.set_cons_zero, List.set_cons_succ, i64_w, i32_w]
        rfl
      refine take_ (i := 12) (N := some 62) (v := ?_) (a' := ?_) #[true, true, true, true, true, true, true, true, true, true, true, true, true, false, true, false, false, false, false, false] rfl rfl (by kernel_rfl) (fun _ _ _ h => h) (Or.inl ⟨by rfl, ?_⟩) hHeld ?_ ?_
      rotate_left
      · rintro w' ⟨s0, s1, s2, s3, s4, s5, s6, s7, s8, s9, s10, s11, s12, s13, s14, s15, s16, s17, s18, s19, s20, s21, s22, s23, s24, s25, s26, s27, s28⟩
        go_simp
        with_reducible rfl
      rotate_left
      · simp only [Act.put, List.setIfInBounds_toArray, List.set_cons_zero, List.set_cons_succ, i64_w, i32_w]
        rfl
      refine take_ (i := 13) (N := some 63) (v := ?_) (a' := ?_) #[true, true, true, true, true, true, true, true, true, true, true, true, true, true, true, false, false, false, false, false] rfl rfl (by kernel_rfl) (fun _ _ _ h => h) (Or.inl ⟨by rfl, ?_⟩) hHeld ?_ ?_
      rotate_left
      · rintro w' ⟨s0, s1, s2, s3, s4, s5, s6, s7, s8, s9, s10, s11, s12, s13, s14, s15, s16, s17, s18, s19, s20, s21, s22, s23, s24, s25, s26, s27, s28⟩
        go_simp
        with_reducible rfl
      rotate_left
      · simp only [Act.put, List.setIfInBounds_toArray, List.set_cons_zero, List.set_cons_succ, i64_w, i32_w]
        rfl
      refine take_ (i := 16) (N := some 66) (v := ?_) (a' := ?_) #[true, true, true, true, true, true, true, true, true, true, true, true, true, true, true, false, true, false, false, false] rfl rfl (by kernel_rfl) (fun _ _ _ h => h) (Or.inl ⟨by rfl, ?_⟩) hHeld ?_ ?_
      rotate_left
      · rintro w' ⟨s0, s1, s2, s3, s4, s5, s6, s7, s8, s9, s10, s11, s12, s13, s14, s15, s16, s17, s18, s19, s20, s21, s22, s23, s24, s25, s26, s27, s28⟩
        go_simp
        with_reducible rfl
      rotate_left
      · simp only [Act.put, List.setIfInBounds_toArray, List.set_cons_zero, List.set_cons_succ, i64_w, i32_w]
        rfl
      refine one_ (i := 15) (N := some 65) #[true, true, true, true, true, true, true, true, true, true, true, true, true, true, true, true, true, false, false, false] rfl rfl (by kernel_rfl) (by decide) (fun K hK => ?_)
      refine goes_ Try.func13 (by kernel_rfl) rfl #[.agg #[.slice AX lx.length cX, .int .i64 sx, .int .i64 bx], .agg #[.bool false, .bool false, .bool false, .bool false, .int .i64 0, .int .u64 7, .int .i64 0, .int .u64 7, .int .i64 0, .int .u64 7, .int .i64 0, .slice AB lx.length cB, .slice AN lx.length cN], .int .i64 0, v] (by rfl) rfl rfl (by simp only [List.map_toArray, List.map_cons, List.map_nil]; rfl) ?_
      with_reducible refine (advP AX cX lx sx bx AB cB AN cN 0 v (chainOf n) _ (SPz.out.below HQ2.out) (by omega)).mono ?_
      rintro x wq3 ⟨E3, f3, E4, f4, rfl, h_S, hb⟩
      refine ⟨_, rfl, ?_⟩
      have HQ3 := Aside0.mk (below_then HQ2.out HQ2.out.size hb)
      rw [SN.out] at h_S
      have S3 := Aside0.mk h_S
      clear h_S hb
      refine hK.out _ _ ⟨(pw_cell_below HQ3.out (blk_cell BMz.out 0)), (pw_cell_below HQ3.out (blk_cell BMz.out 1)), (pw_cell_below HQ3.out (blk_cell BMz.out 2)), (pw_cell_below HQ3.out (blk_cell SBz.out 0)), (pw_cell_below HQ3.out (blk_cell SBz.out 1)), (pw_cell_below HQ3.out (blk_cell SBz.out 2)), (pw_cell_below HQ3.out (blk_cell SBz.out 3)), (pw_cell_below HQ3.out (blk_cell SBz.out 4)), (pw_cell_below HQ3.out (blk_cell SBz.out 5)), (pw_cell_below HQ3.out (blk_cell SBz.out 6)), (pw_cell_below HQ3.out (blk_cell SBz.out 7)), (pw_cell_below HQ3.out (blk_cell SBz.out 8)), (pw_cell_below HQ3.out (blk_cell SBz.out 9)), (pw_cell_below HQ3.out (blk_cell SBz.out 10)), (pw_cell_below HQ3.out (blk_cell SBz.out 11)), (pw_cell_below HQ3.out (blk_cell SBz.out 12)), (pw_cell_below HQ3.out (blk_cell G8.out 0)), (pw_cell_below HQ3.out (blk_cell G8.out 1)), (pw_cell_below HQ3.out (blk_cell G8.out 2)), (pw_cell_below HQ3.out (blk_cell G8.out 3)), (pw_cell_below HQ3.out (blk_cell G8.out 4)), (pw_cell_below HQ3.out (blk_cell G8.out 5)), (pw_cell_below HQ3.out (blk_cell G8.out 6)), (pw_cell_below HQ3.out (blk_cell G8.out 7)), (pw_cell_below HQ3.out (blk_cell G8.out 8)), (pw_cell_below HQ3.out (blk_cell G8.out 9)), (pw_cell_below HQ3.out (blk_cell G8.out 10)), (pw_cell_below HQ3.out (blk_cell G8.out 11)), (pw_cell_below HQ3.out (blk_cell G8.out 12))⟩ (fun hHeld => ?_)
      clear hK K
      refine norm_ (a' := ?_) ?_ ?_
      rotate_left
      · show Act.put _ (some 65) _ = _
        simp only [Act.put, List.setIfInBounds_toArray, List.set_cons_zero, List.set_cons_succ, i64_w, i32_w]
        rfl
      refine one_ (i := 17) (N := some 67) #[true, true, true, true, true, true, true, true, true, true, true, true, true, true, true, true, true, true, false, false] rfl rfl (by kernel_rfl) (by decide) (fun K hK => ?_)
      refine goes_ Try.func20 (by kernel_rfl) rfl #[.agg (stC (advTo lx sx (chainOf n) (partS lx.length lx.length) 0) E3 f3 E4 f4), .agg #[.bool false, .bool false, .bool false, .bool false, .int .i64 0, .int .u64 7, .int .i64 0, .int .u64 7, .int .i64 0, .int .u64 7, .int .i64 0, .slice AB lx.length cB, .slice AN lx.length cN]] (by rfl) rfl rfl (by simp only [List.map_toArray, List.map_cons, List.map_nil]; rfl) ?_
      rw [SN.out]
      with_reducible refine (sameP lx.length E3 f3 E4 f4 AB cB AN cN _ (SIn.same S3.out (SPz.out.below HQ3.out))).mono ?_
      rintro x wq4 ⟨rfl, hb⟩
      refine ⟨_, rfl, ?_⟩
      have HQ4 := Aside0.mk (below_then HQ3.out HQ3.out.size hb)
      clear hb
      refine hK.out _ _ ⟨(pw_cell_below HQ4.out (blk_cell BMz.out 0)), (pw_cell_below HQ4.out (blk_cell BMz.out 1)), (pw_cell_below HQ4.out (blk_cell BMz.out 2)), (pw_cell_below HQ4.out (blk_cell SBz.out 0)), (pw_cell_below HQ4.out (blk_cell SBz.out 1)), (pw_cell_below HQ4.out (blk_cell SBz.out 2)), (pw_cell_below HQ4.out (blk_cell SBz.out 3)), (pw_cell_below HQ4.out (blk_cell SBz.out 4)), (pw_cell_below HQ4.out (blk_cell SBz.out 5)), (pw_cell_below HQ4.out (blk_cell SBz.out 6)), (pw_cell_below HQ4.out (blk_cell SBz.out 7)), (pw_cell_below HQ4.out (blk_cell SBz.out 8)), (pw_cell_below HQ4.out (blk_cell SBz.out 9)), (pw_cell_below HQ4.out (blk_cell SBz.out 10)), (pw_cell_below HQ4.out (blk_cell SBz.out 11)), (pw_cell_below HQ4.out (blk_cell SBz.out 12)), (pw_cell_below HQ4.out (blk_cell G8.out 0)), (pw_cell_below HQ4.out (blk_cell G8.out 1)), (pw_cell_below HQ4.out (blk_cell G8.out 2)), (pw_cell_below HQ4.out (blk_cell G8.out 3)), (pw_cell_below HQ4.out (blk_cell G8.out 4)), (pw_cell_below HQ4.out (blk_cell G8.out 5)), (pw_cell_below HQ4.out (blk_cell G8.out 6)), (pw_cell_below HQ4.out (blk_cell G8.out 7)), (pw_cell_below HQ4.out (blk_cell G8.out 8)), (pw_cell_below HQ4.out (blk_cell G8.out 9)), (pw_cell_below HQ4.out (blk_cell G8.out 10)), (pw_cell_below HQ4.out (blk_cell G8.out 11)), (pw_cell_below HQ4.out (blk_cell G8.out 12))⟩ (fun hHeld => ?_)
      clear hK K
      refine norm_ (a' := ?_) ?_ ?_
      rotate_left
      · show Act.put _ (some 67) _ = _
        simp only [Act.put, List.setIfInBounds_toArray, List.set_cons_zero, List.set_cons_succ, i64_w, i32_w]
        rfl
      refine pure_ (i := 18) (N := some 68) (v := ?_) (a' := ?_) #[true, true, true, true, true, true, true, true, true, true, true, true, true, true, true, true, true, true, true, false] rfl rfl (by kernel_rfl) (fun _ _ _ h => h) (Or.inl ⟨by rfl, ?_⟩) ?_ ?_
      rotate_left
      · intro w'
        go_simp
        with_reducible rfl
      rotate_left
      · simp only [Act.put, List.setIfInBounds_toArray, List.set_cons_zero, List.set_cons_succ, i64_w, i32_w]
        rfl
      refine pure_ (i := 19) (N := some 8) (v := ?_) (a' := ?_) #[true, true, true, true, true, true, true, true, true, true, true, true, true, true, true, true, true, true, true, true] rfl rfl (by kernel_rfl) (fun _ _ _ h => h) (Or.inl ⟨by rfl, ?_⟩) ?_ ?_
      rotate_left
      · intro w'
        go_simp
        with_reducible rfl
      rotate_left
      · simp only [Act.put, List.setIfInBounds_toArray, List.set_cons_zero, List.set_cons_succ, i64_w, i32_w]
        rfl
      refine done_ (by kernel_rfl) ?_
      go_wp2_with fail
      go_ret
      exact ⟨rfl, below_then HZ.out HZ.out.size HQ4.out⟩
theorem ledgerParts_args {A0 : Option Addr} {n0 c0 : Nat} {z0 : List Int} {sl bo n a b : Int} {w : World} (g0 : Open.ConfigArg w A0 n0 c0 z0 sl bo) (w1 : (Lit.int .u8 n).wf = true) (w2 : (Lit.int .u8 a).wf = true) (w3 : (Lit.int .u8 b).wf = true) :
    Calls Try.prog 4 #[.agg #[.slice A0 n0 c0, .int .i64 sl, .int .i64 bo], .int .u8 n, .int .u8 a, .int .u8 b] w fun x w' => x = .returned (.bool true) ∧ Below w.heap.size w w' :=
  ledgerParts_law A0 n0 c0 z0 sl bo n a b w (Kd.C_of_reads (d := (0 : Int)) (h1 := fun _ => rfl) g0.row.reads) g0.row.le (by have := g0.row.size; omega) (bd_i64 g0.ws) (bd_i64 g0.wb) (fun z hz => (bd_u64 (g0.row.wf z hz)).1) (bd_u8 w1) (bd_u8 w2) (bd_u8 w3)
end Go.Proofs.Ytiklbldanidfiaa.QL
