/-
  What would be justified, if an epoch ended now: the reference's word, psephoslaw10.pull.
-/
import Derived.Test.YtiklbldanidfiaaSum10
import Derived.Test.YtiklbldanidfiaaPoint10
import Derived.Test.YtiklbldanidfiaaQLx1
import Derived.Test.YtiklbldanidfiaaQLx4
import Derived.Test.YtiklbldanidfiaaQLx14
namespace Go.Proofs.Ytiklbldanidfiaa.QL
open Go.RowKit Go.Proofs.YtiklbldanidfiaaW.PrintWords Go.Proofs.YtiklbldanidfiaaW.PrintLast Go.Proofs.Ytiklbldanidfiaa.Own Go.Proofs.Ytiklbldanidfiaa.Justify
set_option linter.unusedVariables false
set_option linter.unusedSimpArgs false
attribute [local go_sem] max2_is min2_is max_pair min_pair

set_option maxHeartbeats 8000000 in
set_option maxRecDepth 100000 in
theorem pull10_at (AX : Option Addr) (cX : Nat) (lx : List Int) (sl bo : Int) (s0 s1 s2 s3 : Bool) (pe pr ce cr fe fr ep : Int) (AB : Option Addr) (cB : Nat) (B : List Bool) (AN : Option Addr) (cN : Nat) (N : List Bool) (v : Value) (g : Int → Int) (w : World)
    (hX : Kd.C (Kd.int .u64) w AX lx.length lx) (hcX : lx.length ≤ cX) (hlx : lx.length ≤ 17592186043904) (hB : Kd.C Kd.bool w AB B.length B) (hcB : B.length ≤ cB) (hlB : B.length ≤ 17592186043904) (hN : Kd.C Kd.bool w AN N.length N) (hcN : N.length ≤ cN) (hlN : N.length ≤ 17592186043904)
    (hv : ChainAt v g w) (he : -9223372036854775808 ≤ ep ∧ ep ≤ 9223372036854775807) :
    Calls Try.prog 14 #[.agg #[.slice AX lx.length cX, .int .i64 sl, .int .i64 bo], .agg #[.bool s0, .bool s1, .bool s2, .bool s3, .int .i64 pe, .int .u64 pr, .int .i64 ce, .int .u64 cr, .int .i64 fe, .int .u64 fr, .int .i64 ep, .slice AB B.length cB, .slice AN N.length cN], v] w fun x w' => x = .returned (.agg (pullOf lx sl g ⟨⟨s0, s1, s2, s3, pe, pr, ce, cr, fe, fr⟩, ep, B, N⟩).cells) ∧ Below w.heap.size w w' := by
  have HCX := Aside0.mk hcX
  have HE := Aside0.mk he
  have HCB := Aside0.mk hcB
  have HCN := Aside0.mk hcN
  have hiB := idx_length B 0
  have hiN := idx_length N 0
  obtain ⟨kt, hkt⟩ := (total_f lx sl bo (by omega)).rounds
  obtain ⟨kc, hkc⟩ := (sum10_f lx sl bo B hlB).rounds
  obtain ⟨kd, hkd⟩ := (sum10_f lx sl bo N hlN).rounds
  have HKT := Aside0.mk hkt
  have HKC := Aside0.mk hkc
  have HKD := Aside0.mk hkd
  have HEB := Aside0.mk (enough_f (sumOf lx 0 (idx 0 B)) (allOf 0 lx))
  have HEN := Aside0.mk (enough_f (sumOf lx 0 (idx 0 N)) (allOf 0 lx))
  have H0 := Aside0.mk (show ∀ w1, Below w.heap.size w w1 → w1.heap[w.heap.size]? = some (.cells #[.slice AX lx.length cX, .int .i64 sl, .int .i64 bo] 24 (0, 0)) → w1.heap[w.heap.size + 1]? = some (.cells #[.bool s0, .bool s1, .bool s2, .bool s3, .int .i64 pe, .int .u64 pr, .int .i64 ce, .int .u64 cr, .int .i64 fe, .int .u64 fr, .int .i64 ep, .slice AB B.length cB, .slice AN N.length cN] 39 (0, 0)) → w1.heap[w.heap.size + 1 + 1]? = some (.cells #[.bool false, .bool false, .bool false, .bool false, .int .i64 0, .int .u64 0, .int .i64 0, .int .u64 0, .int .i64 0, .int .u64 0] 36 (0, 0)) → PullIn AX cX lx sl bo s0 s1 s2 s3 pe pr ce cr fe fr ep AB cB B AN cN N v g w.heap.size w w1 from
    fun w1 hb hm hs ho => ⟨hb, Kd.C_below hX hb, Kd.C_below hB hb, Kd.C_below hN hb, hv.below hb, hm, hs, ho⟩)
  clear hX hcX hB hcB hN hcN hv hkt hkc hkd hiB hiN
  go_enter Try.func14, Try.ntmps14
  have hbx := Block.box3 w #[.slice AX lx.length cX, .int .i64 sl, .int .i64 bo] #[.bool s0, .bool s1, .bool s2, .bool s3, .int .i64 pe, .int .u64 pr, .int .i64 ce, .int .u64 cr, .int .i64 fe, .int .u64 fr, .int .i64 ep, .slice AB B.length cB, .slice AN N.length cN] #[.bool false, .bool false, .bool false, .bool false, .int .i64 0, .int .u64 0, .int .i64 0, .int .u64 0, .int .i64 0, .int .u64 0] 24 39 36
  have L0 := Aside0.mk (H0.out (((w.alloc (.cells #[.slice AX lx.length cX, .int .i64 sl, .int .i64 bo] 24)).alloc (.cells #[.bool s0, .bool s1, .bool s2, .bool s3, .int .i64 pe, .int .u64 pr, .int .i64 ce, .int .u64 cr, .int .i64 fe, .int .u64 fr, .int .i64 ep, .slice AB B.length cB, .slice AN N.length cN] 39)).alloc (.cells #[.bool false, .bool false, .bool false, .bool false, .int .i64 0, .int .u64 0, .int .i64 0, .int .u64 0, .int .i64 0, .int .u64 0] 36)) (below_alloc (below_alloc (below_alloc (Below.refl _ _) _) _) _) hbx.1 hbx.2.1 hbx.2.2)
  clear hbx
  by_cases h2 : ep < 2
  · have t : decide (ep < 2) = true := decide_eq_true h2
    have hs0 := blk_cell L0.out.s
    have ho0 := blk_cell L0.out.o
    have HP : Aside0 (pullOf lx sl g ⟨⟨s0, s1, s2, s3, pe, pr, ce, cr, fe, fr⟩, ep, B, N⟩ = ⟨s0, s1, s2, s3, pe, pr, ce, cr, fe, fr⟩) := ⟨by rw [pullOf, if_pos h2]⟩
    clear h2
    go_wp2_with fail
    refine bodyPost_ret (v := .agg (pullOf lx sl g ⟨⟨s0, s1, s2, s3, pe, pr, ce, cr, fe, fr⟩, ep, B, N⟩).cells) ?_ rfl ⟨rfl, ?_⟩
    · rw [HP.out]
      simp [results, Try.results14, go_sem, St.cells]
    · exact below_alloc (below_alloc (below_alloc (Below.refl _ _) _) _) _
  · have t : decide (ep < 2) = false := decide_eq_false h2
    have hs0 := blk_cell L0.out.s
    have hm0 := blk_cell L0.out.m
    go_wp2_with (first
      | (go_at_call 25; refine (config_Total.calls kt AX cX lx sl bo _ _ L0.out.X HCX.out HKT.out).mono ?_; rintro x w1 ⟨rfl, hb⟩; have L1 := Aside0.mk (L0.out.below hb); clear hb))
    have L1d := Aside0.mk (L1.out.below (below_drew (Below.refl _ _)))
    have e9 : wrap64 (ep - 1) = ep - 1 := by unfold wrap64; omega
    have HE1 : Aside0 (-9223372036854775808 ≤ ep - 1 ∧ ep - 1 ≤ 9223372036854775807) := ⟨by omega⟩
    have HMX : Aside0 (mx 0 (ep - 1) = ep - 1 ∧ mx 0 ep = ep) := ⟨by unfold mx; constructor <;> split <;> omega⟩
    go_upto_region 4 with fail
    rename_i K Q a0_
    refine start_ (n := 29) (S := fun w' => w'.cell? ⟨w.heap.size, 0, none⟩ = some (.slice AX lx.length cX) ∧ w'.cell? ⟨w.heap.size, 1, none⟩ = some (.int .i64 sl) ∧ w'.cell? ⟨w.heap.size, 2, none⟩ = some (.int .i64 bo) ∧ w'.cell? ⟨w.heap.size + 1, 0, none⟩ = some (.bool s0) ∧ w'.cell? ⟨w.heap.size + 1, 1, none⟩ = some (.bool s1) ∧ w'.cell? ⟨w.heap.size + 1, 2, none⟩ = some (.bool s2) ∧ w'.cell? ⟨w.heap.size + 1, 3, none⟩ = some (.bool s3) ∧ w'.cell? ⟨w.heap.size + 1, 4, none⟩ = some (.int .i64 pe) ∧ w'.cell? ⟨w.heap.size + 1, 5, none⟩ = some (.int .u64 pr) ∧ w'.cell? ⟨w.heap.size + 1, 6, none⟩ = some (.int .i64 ce) ∧ w'.cell? ⟨w.heap.size + 1, 7, none⟩ = some (.int .u64 cr) ∧ w'.cell? ⟨w.heap.size + 1, 8, none⟩ = some (.int .i64 fe) ∧ w'.cell? ⟨w.heap.size + 1, 9, none⟩ = some (.int .u64 fr) ∧ w'.cell? ⟨w.heap.size + 1, 10, none⟩ = some (.int .i64 ep) ∧ w'.cell? ⟨w.heap.size + 1, 11, none⟩ = some (.slice AB B.length cB) ∧ w'.cell? ⟨w.heap.size + 1, 12, none⟩ = some (.slice AN N.length cN)) (ds := [28]) #[false, false, false, false, false, false, false, false, false, false, false, false, false, false, false, false, false, false, false, false, false, false, false, false, false, false, false, false, false] (by kernel_rfl) rfl rfl ⟨(blk_cell L1d.out.m 0), (blk_cell L1d.out.m 1), (blk_cell L1d.out.m 2), (blk_cell L1d.out.s 0), (blk_cell L1d.out.s 1), (blk_cell L1d.out.s 2), (blk_cell L1d.out.s 3), (blk_cell L1d.out.s 4), (blk_cell L1d.out.s 5), (blk_cell L1d.out.s 6), (blk_cell L1d.out.s 7), (blk_cell L1d.out.s 8), (blk_cell L1d.out.s 9), (blk_cell L1d.out.s 10), (blk_cell L1d.out.s 11), (blk_cell L1d.out.s 12)⟩ (fun hHeld => ?_)
    refine pure_ (i := 0) (N := some 15) (v := ?_) (a' := ?_) #[true, false, false, false, false, false, false, false, false, false, false, false, false, false, false, false, false, false, false, false, false, false, false, false, false, false, false, false, false] rfl rfl (by kernel_rfl) (fun _ _ _ h => h) (Or.inl ⟨by rfl, ?_⟩) ?_ ?_
    rotate_left
    · intro w'
      go_simp
      with_reducible rfl
    rotate_left
    · simp only [Act.put, List.setIfInBounds_toArray, List.set_cons_zero, List.set_cons_succ, i64_w, i32_w]
      rfl
    refine pure_ (i := 2) (N := some 17) (v := ?_) (a' := ?_) #[true, false, true, false, false, false, false, false, false, false, false, false, false, false, false, false, false, false, false, false, false, false, false, false, false, false, false, false, false] rfl rfl (by kernel_rfl) (fun _ _ _ h => h) (Or.inl ⟨by rfl, ?_⟩) ?_ ?_
    rotate_left
    · intro w'
      go_simp
      with_reducible rfl
    rotate_left
    · simp only [Act.put, List.setIfInBounds_toArray, List.set_cons_zero, List.set_cons_succ, i64_w, i32_w]
      rfl
    refine pure_ (i := 5) (N := some 20) (v := ?_) (a' := ?_) #[true, false, true, false, false, true, false, false, false, false, false, false, false, false, false, false, false, false, false, false, false, false, false, false, false, false, false, false, false] rfl rfl (by kernel_rfl) (fun _ _ _ h => h) (Or.inl ⟨by rfl, ?_⟩) ?_ ?_
    rotate_left
    · intro w'
      go_simp
      with_reducible rfl
    rotate_left
    · simp only [Act.put, List.setIfInBounds_toArray, List.set_cons_zero, List.set_cons_succ, i64_w, i32_w]
      rfl
    refine pure_ (i := 8) (N := some 23) (v := ?_) (a' := ?_) #[true, false, true, false, false, true, false, false, true, false, false, false, false, false, false, false, false, false, false, false, false, false, false, false, false, false, false, false, false] rfl rfl (by kernel_rfl) (fun _ _ _ h => h) (Or.inl ⟨by rfl, ?_⟩) ?_ ?_
    rotate_left
    · intro w'
      go_simp
      with_reducible rfl
    rotate_left
    · simp only [Act.put, List.setIfInBounds_toArray, List.set_cons_zero, List.set_cons_succ, i64_w, i32_w]
      rfl
    refine pure_ (i := 11) (N := some 26) (v := ?_) (a' := ?_) #[true, false, true, false, false, true, false, false, true, false, false, true, false, false, false, false, false, false, false, false, false, false, false, false, false, false, false, false, false] rfl rfl (by kernel_rfl) (fun _ _ _ h => h) (Or.inl ⟨by rfl, ?_⟩) ?_ ?_
    rotate_left
    · intro w'
      go_simp
      with_reducible rfl
    rotate_left
    · simp only [Act.put, List.setIfInBounds_toArray, List.set_cons_zero, List.set_cons_succ, i64_w, i32_w]
      rfl
    refine pure_ (i := 14) (N := some 29) (v := ?_) (a' := ?_) #[true, false, true, false, false, true, false, false, true, false, false, true, false, false, true, false, false, false, false, false, false, false, false, false, false, false, false, false, false] rfl rfl (by kernel_rfl) (fun _ _ _ h => h) (Or.inl ⟨by rfl, ?_⟩) ?_ ?_
    rotate_left
    · intro w'
      go_simp
      with_reducible rfl
    rotate_left
    · simp only [Act.put, List.setIfInBounds_toArray, List.set_cons_zero, List.set_cons_succ, i64_w, i32_w]
      rfl
    refine pure_ (i := 17) (N := some 32) (v := ?_) (a' := ?_) #[true, false, true, false, false, true, false, false, true, false, false, true, false, false, true, false, false, true, false, false, false, false, false, false, false, false, false, false, false] rfl rfl (by kernel_rfl) (fun _ _ _ h => h) (Or.inl ⟨by rfl, ?_⟩) ?_ ?_
    rotate_left
    · intro w'
      go_simp
      with_reducible rfl
    rotate_left
    · simp only [Act.put, List.setIfInBounds_toArray, List.set_cons_zero, List.set_cons_succ, i64_w, i32_w]
      rfl
    refine pure_ (i := 20) (N := some 35) (v := ?_) (a' := ?_) #[true, false, true, false, false, true, false, false, true, false, false, true, false, false, true, false, false, true, false, false, true, false, false, false, false, false, false, false, false] rfl rfl (by kernel_rfl) (fun _ _ _ h => h) (Or.inl ⟨by rfl, ?_⟩) ?_ ?_
    rotate_left
    · intro w'
      go_simp
      with_reducible rfl
    rotate_left
    · simp only [Act.put, List.setIfInBounds_toArray, List.set_cons_zero, List.set_cons_succ, i64_w, i32_w]
      rfl
    refine pure_ (i := 23) (N := some 38) (v := ?_) (a' := ?_) #[true, false, true, false, false, true, false, false, true, false, false, true, false, false, true, false, false, true, false, false, true, false, false, true, false, false, false, false, false] rfl rfl (by kernel_rfl) (fun _ _ _ h => h) (Or.inl ⟨by rfl, ?_⟩) ?_ ?_
    rotate_left
    · intro w'
      go_simp
      with_reducible rfl
    rotate_left
    · simp only [Act.put, List.setIfInBounds_toArray, List.set_cons_zero, List.set_cons_succ, i64_w, i32_w]
      rfl
    refine pure_ (i := 25) (N := some 40) (v := ?_) (a' := ?_) #[true, false, true, false, false, true, false, false, true, false, false, true, false, false, true, false, false, true, false, false, true, false, false, true, false, true, false, false, false] rfl rfl (by kernel_rfl) (fun _ _ _ h => h) (Or.inl ⟨by rfl, ?_⟩) ?_ ?_
    rotate_left
    · intro w'
      go_simp
      with_reducible rfl
    rotate_left
    · simp only [Act.put, List.setIfInBounds_toArray, List.set_cons_zero, List.set_cons_succ, i64_w, i32_w]
      rfl
    refine take_ (i := 1) (N := some 16) (v := ?_) (a' := ?_) #[true, true, true, false, false, true, false, false, true, false, false, true, false, false, true, false, false, true, false, false, true, false, false, true, false, true, false, false, false] rfl rfl (by kernel_rfl) (fun _ _ _ h => h) (Or.inl ⟨by rfl, ?_⟩) hHeld ?_ ?_
    rotate_left
    · rintro w' ⟨s0, s1, s2, s3, s4, s5, s6, s7, s8, s9, s10, s11, s12, s13, s14, s15⟩
      go_simp
      with_reducible rfl
    rotate_left
    · simp only [Act.put, List.setIfInBounds_toArray, List.set_cons_zero, List.set_cons_succ, i64_w, i32_w]
      rfl
    refine take_ (i := 3) (N := some 18) (v := ?_) (a' := ?_) #[true, true, true, true, false, true, false, false, true, false, false, true, false, false, true, false, false, true, false, false, true, false, false, true, false, true, false, false, false] rfl rfl (by kernel_rfl) (fun _ _ _ h => h) (Or.inl ⟨by rfl, ?_⟩) hHeld ?_ ?_
    rotate_left
    · rintro w' ⟨s0, s1, s2, s3, s4, s5, s6, s7, s8, s9, s10, s11, s12, s13, s14, s15⟩
      go_simp
      with_reducible rfl
    rotate_left
    · simp only [Act.put, List.setIfInBounds_toArray, List.set_cons_zero, List.set_cons_succ, i64_w, i32_w]
      rfl
    refine take_ (i := 4) (N := some 19) (v := ?_) (a' := ?_) #[true, true, true, true, true, true, false, false, true, false, false, true, false, false, true, false, false, true, false, false, true, false, false, true, false, true, false, false, false] rfl rfl (by kernel_rfl) (fun _ _ _ h => h) (Or.inl ⟨by rfl, ?_⟩) hHeld ?_ ?_
    rotate_left
    · rintro w' ⟨s0, s1, s2, s3, s4, s5, s6, s7, s8, s9, s10, s11, s12, s13, s14, s15⟩
      go_simp
      with_reducible rfl
    rotate_left
    · simp only [Act.put, List.setIfInBounds_toArray, List.set_cons_zero, List.set_cons_succ, i64_w, i32_w]
      rfl
    refine take_ (i := 6) (N := some 21) (v := ?_) (a' := ?_) #[true, true, true, true, true, true, true, false, true, false, false, true, false, false, true, false, false, true, false, false, true, false, false, true, false, true, false, false, false] rfl rfl (by kernel_rfl) (fun _ _ _ h => h) (Or.inl ⟨by rfl, ?_⟩) hHeld ?_ ?_
    rotate_left
    · rintro w' ⟨s0, s1, s2, s3, s4, s5, s6, s7, s8, s9, s10, s11, s12, s13, s14, s15⟩
      go_simp
      with_reducible rfl
    rotate_left
    · simp only [Act.put, List.setIfInBounds_toArray, List.set_cons_zero, List.set_cons_succ, i64_w, i32_w]
      rfl
    refine take_ (i := 10) (N := some 25) (v := ?_) (a' := ?_) #[true, true, true, true, true, true, true, false, true, false, true, true, false, false, true, false, false, true, false, false, true, false, false, true, false, true, false, false, false] rfl rfl (by kernel_rfl) (fun _ _ _ h => h) (Or.inl ⟨by rfl, ?_⟩) hHeld ?_ ?_
    rotate_left
    · rintro w' ⟨s0, s1, s2, s3, s4, s5, s6, s7, s8, s9, s10, s11, s12, s13, s14, s15⟩
      go_simp
      with_reducible rfl
    rotate_left
    · simp only [Act.put, List.setIfInBounds_toArray, List.set_cons_zero, List.set_cons_succ, i64_w, i32_w]
      rfl
    refine take_ (i := 12) (N := some 27) (v := ?_) (a' := ?_) #[true, true, true, true, true, true, true, false, true, false, true, true, true, false, true, false, false, true, false, false, true, false, false, true, false, true, false, false, false] rfl rfl (by kernel_rfl) (fun _ _ _ h => h) (Or.inl ⟨by rfl, ?_⟩) hHeld ?_ ?_
    rotate_left
    · rintro w' ⟨s0, s1, s2, s3, s4, s5, s6, s7, s8, s9, s10, s11, s12, s13, s14, s15⟩
      go_simp
      with_reducible rfl
    rotate_left
    · simp only [Act.put, List.setIfInBounds_toArray, List.set_cons_zero, List.set_cons_succ, i64_w, i32_w]
      rfl
    refine take_ (i := 16) (N := some 31) (v := ?_) (a' := ?_) #[true, true, true, true, true, true, true, false, true, false, true, true, true, false, true, false, true, true, false, false, true, false, false, true, false, true, false, false, false] rfl rfl (by kernel_rfl) (fun _ _ _ h => h) (Or.inl ⟨by rfl, ?_⟩) hHeld ?_ ?_
    rotate_left
    · rintro w' ⟨s0, s1, s2, s3, s4, s5, s6, s7, s8, s9, s10, s11, s12, s13, s14, s15⟩
      go_simp
      with_reducible rfl
    rotate_left
    · simp only [Act.put, List.setIfInBounds_toArray, List.set_cons_zero, List.set_cons_succ, i64_w, i32_w]
      rfl
    refine take_ (i := 18) (N := some 33) (v := ?_) (a' := ?_) #[true, true, true, true, true, true, true, false, true, false, true, true, true, false, true, false, true, true, true, false, true, false, false, true, false, true, false, false, false] rfl rfl (by kernel_rfl) (fun _ _ _ h => h) (Or.inl ⟨by rfl, ?_⟩) hHeld ?_ ?_
    rotate_left
    · rintro w' ⟨s0, s1, s2, s3, s4, s5, s6, s7, s8, s9, s10, s11, s12, s13, s14, s15⟩
      go_simp
      with_reducible rfl
    rotate_left
    · simp only [Act.put, List.setIfInBounds_toArray, List.set_cons_zero, List.set_cons_succ, i64_w, i32_w]
      rfl
    refine pure_ (i := 19) (N := some 34) (v := ?_) (a' := ?_) #[true, true, true, true, true, true, true, false, true, false, true, true, true, false, true, false, true, true, true, true, true, false, false, true, false, true, false, false, false] rfl rfl (by kernel_rfl) (fun _ _ _ h => h) (Or.inl ⟨by rfl, ?_⟩) ?_ ?_
    rotate_left
    · intro w'
      go_simp
      with_reducible rfl
    rotate_left
    · simp only [Act.put, List.setIfInBounds_toArray, List.set_cons_zero, List.set_cons_succ, i64_w, i32_w]
      rfl
    refine take_ (i := 22) (N := some 37) (v := ?_) (a' := ?_) #[true, true, true, true, true, true, true, false, true, false, true, true, true, false, true, false, true, true, true, true, true, false, true, true, false, true, false, false, false] rfl rfl (by kernel_rfl) (fun _ _ _ h => h) (Or.inl ⟨by rfl, ?_⟩) hHeld ?_ ?_
    rotate_left
    · rintro w' ⟨s0, s1, s2, s3, s4, s5, s6, s7, s8, s9, s10, s11, s12, s13, s14, s15⟩
      go_simp
      with_reducible rfl
    rotate_left
    · simp only [Act.put, List.setIfInBounds_toArray, List.set_cons_zero, List.set_cons_succ, i64_w, i32_w]
      rfl
    refine take_ (i := 24) (N := some 39) (v := ?_) (a' := ?_) #[true, true, true, true, true, true, true, false, true, false, true, true, true, false, true, false, true, true, true, true, true, false, true, true, true, true, false, false, false] rfl rfl (by kernel_rfl) (fun _ _ _ h => h) (Or.inl ⟨by rfl, ?_⟩) hHeld ?_ ?_
    rotate_left
    · rintro w' ⟨s0, s1, s2, s3, s4, s5, s6, s7, s8, s9, s10, s11, s12, s13, s14, s15⟩
      go_simp
      with_reducible rfl
    rotate_left
    · simp only [Act.put, List.setIfInBounds_toArray, List.set_cons_zero, List.set_cons_succ, i64_w, i32_w]
      rfl
    refine one_ (i := 7) (N := some 22) #[true, true, true, true, true, true, true, true, true, false, true, true, true, false, true, false, true, true, true, true, true, false, true, true, true, true, false, false, false] rfl rfl (by kernel_rfl) (by decide) (fun K hK => ?_)
    refine goes_ Try.func31 (by kernel_rfl) rfl #[.agg #[.slice AX lx.length cX, .int .i64 sl, .int .i64 bo], .slice AB B.length cB] (by rfl) rfl rfl (by simp only [List.map_toArray, List.map_cons, List.map_nil]; rfl) ?_
    with_reducible refine (psephoslaw10_sum.calls kc AX cX lx sl bo AB cB B _ _ L1d.out.X HCX.out L1d.out.hB HCB.out HKC.out).mono ?_
    rintro x w2 ⟨rfl, hb⟩
    refine ⟨_, rfl, ?_⟩
    have L2 := Aside0.mk (L1d.out.below hb)
    clear hb
    refine hK.out _ _ ⟨(blk_cell L2.out.m 0), (blk_cell L2.out.m 1), (blk_cell L2.out.m 2), (blk_cell L2.out.s 0), (blk_cell L2.out.s 1), (blk_cell L2.out.s 2), (blk_cell L2.out.s 3), (blk_cell L2.out.s 4), (blk_cell L2.out.s 5), (blk_cell L2.out.s 6), (blk_cell L2.out.s 7), (blk_cell L2.out.s 8), (blk_cell L2.out.s 9), (blk_cell L2.out.s 10), (blk_cell L2.out.s 11), (blk_cell L2.out.s 12)⟩ (fun hHeld => ?_)
    clear hK K
    refine norm_ (a' := ?_) ?_ ?_
    rotate_left
    · show Act.put _ (some 22) _ = _
      simp only [Act.put, List.setIfInBounds_toArray, List.set_cons_zero, List.set_cons_succ, i64_w, i32_w]
      rfl
    refine one_ (i := 9) (N := some 24) #[true, true, true, true, true, true, true, true, true, true, true, true, true, false, true, false, true, true, true, true, true, false, true, true, true, true, false, false, false] rfl rfl (by kernel_rfl) (by decide) (fun K hK => ?_)
    refine goes_ Try.func23 (by kernel_rfl) rfl #[.int .u64 (sumOf lx 0 (idx 0 B)), .int .u64 (allOf 0 lx)] (by rfl) rfl rfl (by simp only [List.map_toArray, List.map_cons, List.map_nil]; rfl) ?_
    with_reducible refine (quorum_Enough.calls _ _ _ _ HEB.out).mono ?_
    rintro x w3 ⟨rfl, hb⟩
    refine ⟨_, rfl, ?_⟩
    have L3 := Aside0.mk (L2.out.below hb.below)
    clear hb
    refine hK.out _ _ ⟨(blk_cell L3.out.m 0), (blk_cell L3.out.m 1), (blk_cell L3.out.m 2), (blk_cell L3.out.s 0), (blk_cell L3.out.s 1), (blk_cell L3.out.s 2), (blk_cell L3.out.s 3), (blk_cell L3.out.s 4), (blk_cell L3.out.s 5), (blk_cell L3.out.s 6), (blk_cell L3.out.s 7), (blk_cell L3.out.s 8), (blk_cell L3.out.s 9), (blk_cell L3.out.s 10), (blk_cell L3.out.s 11), (blk_cell L3.out.s 12)⟩ (fun hHeld => ?_)
    clear hK K
    refine norm_ (a' := ?_) ?_ ?_
    rotate_left
    · show Act.put _ (some 24) _ = _
      simp only [Act.put, List.setIfInBounds_toArray, List.set_cons_zero, List.set_cons_succ, i64_w, i32_w]
      rfl
    refine one_ (i := 13) (N := some 28) #[true, true, true, true, true, true, true, true, true, true, true, true, true, true, true, false, true, true, true, true, true, false, true, true, true, true, false, false, false] rfl rfl (by kernel_rfl) (by decide) (fun K hK => ?_)
    refine goes_ Try.func31 (by kernel_rfl) rfl #[.agg #[.slice AX lx.length cX, .int .i64 sl, .int .i64 bo], .slice AN N.length cN] (by rfl) rfl rfl (by simp only [List.map_toArray, List.map_cons, List.map_nil]; rfl) ?_
    with_reducible refine (psephoslaw10_sum.calls kd AX cX lx sl bo AN cN N _ _ L3.out.X HCX.out L3.out.hN HCN.out HKD.out).mono ?_
    rintro x w4 ⟨rfl, hb⟩
    refine ⟨_, rfl, ?_⟩
    have L4 := Aside0.mk (L3.out.below hb)
    clear hb
    refine hK.out _ _ ⟨(blk_cell L4.out.m 0), (blk_cell L4.out.m 1), (blk_cell L4.out.m 2), (blk_cell L4.out.s 0), (blk_cell L4.out.s 1), (blk_cell L4.out.s 2), (blk_cell L4.out.s 3), (blk_cell L4.out.s 4), (blk_cell L4.out.s 5), (blk_cell L4.out.s 6), (blk_cell L4.out.s 7), (blk_cell L4.out.s 8), (blk_cell L4.out.s 9), (blk_cell L4.out.s 10), (blk_cell L4.out.s 11), (blk_cell L4.out.s 12)⟩ (fun hHeld => ?_)
    clear hK K
    refine norm_ (a' := ?_) ?_ ?_
    rotate_left
    · show Act.put _ (some 28) _ = _
      simp only [Act.put, List.setIfInBounds_toArray, List.set_cons_zero, List.set_cons_succ, i64_w, i32_w]
      rfl
    refine one_ (i := 15) (N := some 30) #[true, true, true, true, true, true, true, true, true, true, true, true, true, true, true, true, true, true, true, true, true, false, true, true, true, true, false, false, false] rfl rfl (by kernel_rfl) (by decide) (fun K hK => ?_)
    refine goes_ Try.func23 (by kernel_rfl) rfl #[.int .u64 (sumOf lx 0 (idx 0 N)), .int .u64 (allOf 0 lx)] (by rfl) rfl rfl (by simp only [List.map_toArray, List.map_cons, List.map_nil]; rfl) ?_
    with_reducible refine (quorum_Enough.calls _ _ _ _ HEN.out).mono ?_
    rintro x w5 ⟨rfl, hb⟩
    refine ⟨_, rfl, ?_⟩
    have L5 := Aside0.mk (L4.out.below hb.below)
    clear hb
    refine hK.out _ _ ⟨(blk_cell L5.out.m 0), (blk_cell L5.out.m 1), (blk_cell L5.out.m 2), (blk_cell L5.out.s 0), (blk_cell L5.out.s 1), (blk_cell L5.out.s 2), (blk_cell L5.out.s 3), (blk_cell L5.out.s 4), (blk_cell L5.out.s 5), (blk_cell L5.out.s 6), (blk_cell L5.out.s 7), (blk_cell L5.out.s 8), (blk_cell L5.out.s 9), (blk_cell L5.out.s 10), (blk_cell L5.out.s 11), (blk_cell L5.out.s 12)⟩ (fun hHeld => ?_)
    clear hK K
    refine norm_ (a' := ?_) ?_ ?_
    rotate_left
    · show Act.put _ (some 30) _ = _
      simp only [Act.put, List.setIfInBounds_toArray, List.set_cons_zero, List.set_cons_succ, i64_w, i32_w]
      rfl
    refine one_ (i := 21) (N := some 36) #[true, true, true, true, true, true, true, true, true, true, true, true, true, true, true, true, true, true, true, true, true, true, true, true, true, true, false, false, false] rfl rfl (by kernel_rfl) (by decide) (fun K hK => ?_)
    refine goes_ Try.func16 (by kernel_rfl) rfl #[.agg #[.slice AX lx.length cX, .int .i64 sl, .int .i64 bo], .int .i64 (wrap64 (ep - 1)), v] (by rfl) rfl rfl (by simp only [List.map_toArray, List.map_cons, List.map_nil]; rfl) ?_
    rw [e9]
    with_reducible refine (point10_calls AX _ cX sl bo (ep - 1) v g _ L5.out.ch HE1.out).mono ?_
    rintro x w6 ⟨rfl, hb⟩
    refine ⟨_, rfl, ?_⟩
    have L6 := Aside0.mk (L5.out.below hb)
    clear hb
    refine hK.out _ _ ⟨(blk_cell L6.out.m 0), (blk_cell L6.out.m 1), (blk_cell L6.out.m 2), (blk_cell L6.out.s 0), (blk_cell L6.out.s 1), (blk_cell L6.out.s 2), (blk_cell L6.out.s 3), (blk_cell L6.out.s 4), (blk_cell L6.out.s 5), (blk_cell L6.out.s 6), (blk_cell L6.out.s 7), (blk_cell L6.out.s 8), (blk_cell L6.out.s 9), (blk_cell L6.out.s 10), (blk_cell L6.out.s 11), (blk_cell L6.out.s 12)⟩ (fun hHeld => ?_)
    clear hK K
    refine norm_ (a' := ?_) ?_ ?_
    rotate_left
    · show Act.put _ (some 36) _ = _
      simp only [Act.put, List.setIfInBounds_toArray, List.set_cons_zero, List.set_cons_succ, i64_w, i32_w]
      rfl
    refine one_ (i := 26) (N := some 41) #[true, true, true, true, true, true, true, true, true, true, true, true, true, true, true, true, true, true, true, true, true, true, true, true, true, true, true, false, false] rfl rfl (by kernel_rfl) (by decide) (fun K hK => ?_)
    refine goes_ Try.func16 (by kernel_rfl) rfl #[.agg #[.slice AX lx.length cX, .int .i64 sl, .int .i64 bo], .int .i64 ep, v] (by rfl) rfl rfl (by simp only [List.map_toArray, List.map_cons, List.map_nil]; rfl) ?_
    with_reducible refine (point10_calls AX _ cX sl bo ep v g _ L6.out.ch HE.out).mono ?_
    rintro x w7 ⟨rfl, hb⟩
    refine ⟨_, rfl, ?_⟩
    have L7 := Aside0.mk (L6.out.below hb)
    clear hb
    refine hK.out _ _ ⟨(blk_cell L7.out.m 0), (blk_cell L7.out.m 1), (blk_cell L7.out.m 2), (blk_cell L7.out.s 0), (blk_cell L7.out.s 1), (blk_cell L7.out.s 2), (blk_cell L7.out.s 3), (blk_cell L7.out.s 4), (blk_cell L7.out.s 5), (blk_cell L7.out.s 6), (blk_cell L7.out.s 7), (blk_cell L7.out.s 8), (blk_cell L7.out.s 9), (blk_cell L7.out.s 10), (blk_cell L7.out.s 11), (blk_cell L7.out.s 12)⟩ (fun hHeld => ?_)
    clear hK K
    refine norm_ (a' := ?_) ?_ ?_
    rotate_left
    · show Act.put _ (some 41) _ = _
      simp only [Act.put, List.setIfInBounds_toArray, List.set_cons_zero, List.set_cons_succ, i64_w, i32_w]
      rfl
    refine one_ (i := 27) (N := some 42) #[true, true, true, true, true, true, true, true, true, true, true, true, true, true, true, true, true, true, true, true, true, true, true, true, true, true, true, true, false] rfl rfl (by kernel_rfl) (by decide) (fun K hK => ?_)
    refine goes_ Try.func30 (by kernel_rfl) rfl #[.agg #[.bool s0, .bool s1, .bool s2, .bool s3, .int .i64 pe, .int .u64 pr, .int .i64 ce, .int .u64 cr, .int .i64 fe, .int .u64 fr], .int .i64 ep, .bool (enough (sumOf lx 0 (idx 0 B)) (allOf 0 lx)), .bool (enough (sumOf lx 0 (idx 0 N)) (allOf 0 lx)), .agg #[.int .i64 (ep - 1), .int .u64 (g (startOf (ep - 1) sl))], .agg #[.int .i64 ep, .int .u64 (g (startOf ep sl))]] (by rfl) rfl rfl (by simp only [List.map_toArray, List.map_cons, List.map_nil]; rfl) ?_
    with_reducible refine (next_some s0 s1 s2 s3 pe pr ce cr fe fr ep _ _ _ _ _ _ _).mono ?_
    rintro x w8 ⟨m0, m1, m2, m3, mpe, mpr, mce, mcr, mfe, mfr, rfl, hm, hb⟩
    refine ⟨_, rfl, ?_⟩
    have L8 := Aside0.mk (L7.out.below hb)
    have HM := Aside0.mk hm
    clear hm hb
    refine hK.out _ _ ⟨(blk_cell L8.out.m 0), (blk_cell L8.out.m 1), (blk_cell L8.out.m 2), (blk_cell L8.out.s 0), (blk_cell L8.out.s 1), (blk_cell L8.out.s 2), (blk_cell L8.out.s 3), (blk_cell L8.out.s 4), (blk_cell L8.out.s 5), (blk_cell L8.out.s 6), (blk_cell L8.out.s 7), (blk_cell L8.out.s 8), (blk_cell L8.out.s 9), (blk_cell L8.out.s 10), (blk_cell L8.out.s 11), (blk_cell L8.out.s 12)⟩ (fun hHeld => ?_)
    clear hK K
    refine norm_ (a' := ?_) ?_ ?_
    rotate_left
    · show Act.put _ (some 42) _ = _
      simp only [Act.put, List.setIfInBounds_toArray, List.set_cons_zero, List.set_cons_succ, i64_w, i32_w]
      rfl
    refine last_ (i := 28) (N := none) #[true, true, true, true, true, true, true, true, true, true, true, true, true, true, true, true, true, true, true, true, true, true, true, true, true, true, true, true, true] rfl rfl (by kernel_rfl) (by decide) (fun K hK => ?_)
    refine store_step (by rfl) rfl 36 (.tmp 6) (.tmp 42) rfl (w.heap.size + 1 + 1) 36 _ #[.bool m0, .bool m1, .bool m2, .bool m3, .int .i64 mpe, .int .u64 mpr, .int .i64 mce, .int .u64 mcr, .int .i64 mfe, .int .u64 mfr] rfl rfl L8.out.o rfl (by kernel_rfl) (by simp [Value.oneCell']) ?_
    intro wz hbk hgr
    have B9 := Aside0.mk hbk
    have HZ := Aside0.mk (L8.out.bel.grown hgr L8.out.bel.size (fun k hk => by cases hk; omega))
    clear hbk hgr
    refine hK.out _ _ ?_
    clear hK K
    refine done_ (by kernel_rfl) ?_
    have HP : pullOf lx sl g ⟨⟨s0, s1, s2, s3, pe, pr, ce, cr, fe, fr⟩, ep, B, N⟩ = ⟨m0, m1, m2, m3, mpe, mpr, mce, mcr, mfe, mfr⟩ := by
      rw [pullOf, if_neg (by simp only; omega)]
      have h := HM.out
      rw [HMX.out.1, HMX.out.2]
      exact h
    have hc9 := blk_cell B9.out
    go_wp2_with fail
    refine bodyPost_ret (v := .agg (pullOf lx sl g ⟨⟨s0, s1, s2, s3, pe, pr, ce, cr, fe, fr⟩, ep, B, N⟩).cells) ?_ rfl ⟨rfl, HZ.out⟩
    rw [HP]
    simp [results, Try.results14, go_sem, St.cells, hc9]
end Go.Proofs.Ytiklbldanidfiaa.QL
