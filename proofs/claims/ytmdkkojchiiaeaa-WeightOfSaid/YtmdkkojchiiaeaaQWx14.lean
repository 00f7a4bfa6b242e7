-- Laid by this work's own turn of the print (gprint.py); not the print's own text.
import Derived.Test.YtmdkkojchiiaeaaQWx0
namespace Go.Proofs.Ytmdkkojchiiaeaa.QW
open Go.RowKit Go.Proofs.YtmdkkojchiiaeaaW.PrintWords Go.Proofs.YtmdkkojchiiaeaaW.PrintLast Go.Proofs.YtmdkkojchiiaeaaW.PrintMore
attribute [local go_sem] max2_int min2_int max_two min_two max_three min_three max_four min_four   -- for this text's walks alone
set_option linter.unusedVariables false
set_option linter.unusedSimpArgs false

/-! ### latest_Votes_Ban: function 20 -/
def latest_Votes_Ban.f (l0 : List (S63)) (a1 : Int) : Option (Bool × (List (S63))) := if a1 < 0 then (some (false, l0)) else (if a1 ≥ (l0.length : Int) then (some (false, l0)) else (if 0 ≤ a1 then (if a1 < (l0.length : Int) then (if (rd_T63 l0 a1).f3 = true then (some (false, l0)) else (some (true, (l0.set (a1 : Int).toNat (⟨(rd_T63 l0 a1).f0, (rd_T63 l0 a1).f1, (rd_T63 l0 a1).f2, true⟩ : S63))))) else (none)) else (none)))
set_option maxHeartbeats 8000000 in
set_option maxRecDepth 100000 in
theorem latest_Votes_Ban.calls (P0_ : Nat → Prop) (u9000_ : Value) (l0 : List (S63)) (a1 : Int) (r1 : Bool) (r2 : List (S63)) (w0 w : World) (hB : Below w0.heap.size w0 w) (ho0 : Kd.R k63 63 w w0.heap.size P0_ u9000_ l0) (h : latest_Votes_Ban.f l0 a1 = some (r1, r2)) :
    Calls Try.prog 20 #[u9000_, .int .i64 a1] w fun e w' => e = .returned (.bool r1) ∧ Kd.R k63 63 w' w0.heap.size (fun k_ => (P0_ k_ ∨ w.heap.size ≤ k_)) u9000_ r2 ∧ Below w0.heap.size w0 w' ∧ Kept w w' (fun k_ => P0_ k_) := by
  have HO0 := Aside0.mk (show Kd.R k63 63 w w0.heap.size (fun k_ => (P0_ k_ ∨ w.heap.size ≤ k_)) u9000_ l0 from Kd.R_mono ho0 (fun k_ hk => (.inl hk)))
  have HK := Aside0.mk (Kept.refl w (fun k_ => P0_ k_))
  have HW0 := Aside0.mk hB.size
  have HB := Aside0.mk hB
  clear hB
  have H : (if a1 < 0 then (some (false, l0)) else (if a1 ≥ (l0.length : Int) then (some (false, l0)) else (if 0 ≤ a1 then (if a1 < (l0.length : Int) then (if (rd_T63 l0 a1).f3 = true then (some (false, l0)) else (some (true, (l0.set (a1 : Int).toNat (⟨(rd_T63 l0 a1).f0, (rd_T63 l0 a1).f1, (rd_T63 l0 a1).f2, true⟩ : S63))))) else (none)) else (none)))) = some (r1, r2) := h
  clear h
  by_cases c3 : a1 < 0
  · rw [if_pos c3] at H
    have c3b0 : decide (a1 < 0) = true := decide_eq_true c3
    clear c3
    simp only [Option.some.injEq, Prod.mk.injEq] at H
    obtain ⟨rfl, rfl⟩ := H
    go_enter Try.func20, Try.ntmps20
    go_wp2
    go_ret
    exact ⟨by first | rfl | (simp [errW_none, errW_some] <;> rfl) | (simp [*, errW_none, errW_some] <;> rfl), by (with_reducible repeat (first | apply Kd.R_alloc | apply Kd.R_drewN | apply Kd.R_drew)); exact HO0.out, by repeat (first | (with_reducible first | exact HB.out | apply below_alloc | apply pw_below_drewN | apply below_drew1) | exact HB.out), by repeat (first | (with_reducible first | exact HK.out | apply Kept.alloc | apply Kept.drewN | apply Kept.drew) | exact HK.out)⟩
  · rw [if_neg c3] at H
    have c3b0 : decide (a1 < 0) = false := decide_eq_false c3
    clear c3
    by_cases c4 : a1 ≥ (l0.length : Int)
    · rw [if_pos c4] at H
      have c4b0 : decide ((l0.length : Int) ≤ a1) = true := decide_eq_true c4
      clear c4
      simp only [Option.some.injEq, Prod.mk.injEq] at H
      obtain ⟨rfl, rfl⟩ := H
      obtain ⟨Ao5, co5, eo5⟩ := Kd.R_slice HO0.out
      subst eo5
      go_enter Try.func20, Try.ntmps20
      go_wp2
      go_ret
      exact ⟨by first | rfl | (simp [errW_none, errW_some] <;> rfl) | (simp [*, errW_none, errW_some] <;> rfl), by (with_reducible repeat (first | apply Kd.R_alloc | apply Kd.R_drewN | apply Kd.R_drew)); exact HO0.out, by repeat (first | (with_reducible first | exact HB.out | apply below_alloc | apply pw_below_drewN | apply below_drew1) | exact HB.out), by repeat (first | (with_reducible first | exact HK.out | apply Kept.alloc | apply Kept.drewN | apply Kept.drew) | exact HK.out)⟩
    · rw [if_neg c4] at H
      have c4b0 : decide ((l0.length : Int) ≤ a1) = false := decide_eq_false c4
      clear c4
      by_cases c6 : 0 ≤ a1
      · rw [if_pos c6] at H
        have c6b0 : decide (0 ≤ a1) = true := decide_eq_true c6
        clear c6
        by_cases c7 : a1 < (l0.length : Int)
        · rw [if_pos c7] at H
          have c7b0 : decide (a1 < (l0.length : Int)) = true := decide_eq_true c7
          clear c7
          obtain ⟨bq8, hbq8⟩ : ∃ b_ : Bool, b_ = ((rd_T63 l0 a1).f3) := ⟨_, rfl⟩
          replace H : (if bq8 = true then (some (false, l0)) else (some (true, (l0.set (a1 : Int).toNat (⟨(rd_T63 l0 a1).f0, (rd_T63 l0 a1).f1, (rd_T63 l0 a1).f2, true⟩ : S63))))) = some (r1, r2) := by rw [← hbq8] at H; exact H
          have Nbq8 := Aside0.mk hbq8
          clear hbq8
          by_cases c9 : bq8 = true
          · subst c9
            have H1 : (some (false, l0)) = some (r1, r2) := by rw [if_pos rfl] at H; exact H
            clear H
            have H := H1
            clear H1
            simp only [Option.some.injEq, Prod.mk.injEq] at H
            obtain ⟨rfl, rfl⟩ := H
            obtain ⟨Ao10, co10, eo10⟩ := Kd.R_slice HO0.out
            subst eo10
            have p151 : 0 ≤ (a1 : Int) := of_decide_eq_true (by first | (with_reducible assumption) | assumption)
            have q151 : a1 < (l0.length : Int) := of_decide_eq_true (by first | (with_reducible assumption) | assumption)
            obtain ⟨ad151, e151, hx151_0, hx151_1, hx151_2, hx151_3⟩ := at_T63 (Kd.R_reads' HO0.out).2.2 a1 p151 q151
            (try rw [← Nbq8.out] at hx151_0)
            (try rw [← Nbq8.out] at hx151_3)
            cases e151
            replace p151 := eq_true p151
            replace q151 := eq_true q151
            go_enter Try.func20, Try.ntmps20
            go_wp2
            go_ret
            exact ⟨by first | rfl | (simp [errW_none, errW_some] <;> rfl) | (simp [*, errW_none, errW_some] <;> rfl), by (with_reducible repeat (first | apply Kd.R_alloc | apply Kd.R_drewN | apply Kd.R_drew)); exact HO0.out, by repeat (first | (with_reducible first | exact HB.out | apply below_alloc | apply pw_below_drewN | apply below_drew1) | exact HB.out), by repeat (first | (with_reducible first | exact HK.out | apply Kept.alloc | apply Kept.drewN | apply Kept.drew) | exact HK.out)⟩
          · replace c9 := Bool.eq_false_iff.mpr c9
            subst c9
            have H1 : (some (true, (l0.set (a1 : Int).toNat (⟨(rd_T63 l0 a1).f0, (rd_T63 l0 a1).f1, (rd_T63 l0 a1).f2, true⟩ : S63)))) = some (r1, r2) := by rw [if_neg (show ¬ (false = true) by decide)] at H; exact H
            clear H
            have H := H1
            clear H1
            obtain ⟨y152, hy152⟩ : ∃ y_ : List (S63), y_ = (l0.set (a1 : Int).toNat (⟨(rd_T63 l0 a1).f0, (rd_T63 l0 a1).f1, (rd_T63 l0 a1).f2, true⟩ : S63)) := ⟨_, rfl⟩
            replace H : (some (true, y152)) = some (r1, r2) := by first | (rw [hy152]; with_reducible exact H) | (have H2_ := (Option.bind_some _ _).symm.trans H; rw [hy152]; with_reducible exact H2_) | (have H2_ := (Option.bind_some _ _).symm.trans H; with_reducible exact H2_) | with_reducible exact H | (rw [hy152]; exact H) | exact H
            have Ny152 := Aside0.mk hy152
            clear hy152
            simp only [Option.some.injEq, Prod.mk.injEq] at H
            obtain ⟨rfl, rfl⟩ := H
            obtain ⟨Ao12, co12, eo12⟩ := Kd.R_slice HO0.out
            subst eo12
            have p151 : 0 ≤ (a1 : Int) := of_decide_eq_true (by first | (with_reducible assumption) | assumption)
            have q151 : a1 < (l0.length : Int) := of_decide_eq_true (by first | (with_reducible assumption) | assumption)
            obtain ⟨ad151, e151, hx151_0, hx151_1, hx151_2, hx151_3⟩ := at_T63 (Kd.R_reads' HO0.out).2.2 a1 p151 q151
            (try rw [← Nbq8.out] at hx151_0)
            (try rw [← Nbq8.out] at hx151_3)
            cases e151
            replace p151 := eq_true p151
            replace q151 := eq_true q151
            have p11 : 0 ≤ (a1 : Int) := of_decide_eq_true (by first | (with_reducible assumption) | assumption)
            have q11 : (a1 : Int) < ((l0.length : Int) : Int) := of_decide_eq_true (by first | (with_reducible assumption) | assumption)
            obtain ⟨go11, co11, eo11, gb11, gl11, cl11, HG11⟩ := Kd.R_form HO0.out (by omega)
            (first | cases eo11 | (injection eo11 with ea_ en_ ec_; (first | subst ea_ | (injection ea_ with ea_; subst ea_)); subst ec_; clear en_))
            have GB11 := Aside0.mk gb11
            have GG11 := Aside0.mk HG11
            clear gb11 gl11 HG11
            have HMgo11 := Aside0.mk (show (P0_ go11 ∨ w.heap.size ≤ go11) from (HO0.out.1 _ rfl))
            (first | simp only [add_plain] at hx151_0 | skip)
            (first | simp only [add_plain] at hx151_1 | skip)
            (first | simp only [add_plain] at hx151_2 | skip)
            (first | simp only [add_plain] at hx151_3 | skip)
            obtain ⟨ce11, hcl11, hM11, hcc11, hfr11⟩ := Kd.R_elem HO0.out z63 (a1 : Int) p11 q11
            obtain rfl := k63_openM hM11
            have hx11_0 : w.cell? ⟨go11, (a1 : Int).toNat * 4, none⟩ = some (.bool ((rd_T63 l0 a1).f0)) := hcc11 0 _ rfl
            have hx11_1 : w.cell? ⟨go11, (a1 : Int).toNat * 4 + 1, none⟩ = some (.int .i64 ((rd_T63 l0 a1).f1)) := hcc11 1 _ rfl
            have hx11_2 : w.cell? ⟨go11, (a1 : Int).toNat * 4 + 2, none⟩ = some (.int .u64 ((rd_T63 l0 a1).f2)) := hcc11 2 _ rfl
            have hx11_3 : w.cell? ⟨go11, (a1 : Int).toNat * 4 + 3, none⟩ = some (.bool ((rd_T63 l0 a1).f3)) := hcc11 3 _ rfl
            have hf11_0 : w.frozen? ⟨go11, (a1 : Int).toNat * 4, none⟩ = false := hfr11 0
            have hf11_1 : w.frozen? ⟨go11, (a1 : Int).toNat * 4 + 1, none⟩ = false := hfr11 1
            have hf11_2 : w.frozen? ⟨go11, (a1 : Int).toNat * 4 + 2, none⟩ = false := hfr11 2
            have hf11_3 : w.frozen? ⟨go11, (a1 : Int).toNat * 4 + 3, none⟩ = false := hfr11 3
            clear hcl11 hcc11 hfr11 hM11
            replace p11 := eq_true p11
            replace q11 := eq_true q11
            have HX13 := Aside0.mk (show Kd.R k63 63 w w0.heap.size (fun k_ => (P0_ k_ ∨ w.heap.size ≤ k_)) (.slice (some ⟨go11, 0, none⟩) l0.length co12) l0 from (by (with_reducible repeat (first | apply Kd.R_alloc | apply Kd.R_drewN | apply Kd.R_drew)); exact HO0.out))
            obtain ⟨ce13, hcl13, hM13, hcc13, hfr13⟩ := Kd.R_elem HX13.out z63 (a1 : Int) (of_decide_eq_true (by first | (with_reducible assumption) | assumption)) (by have h_ : (a1 : Int) < ((l0.length : Int) : Int) := of_decide_eq_true (by first | (with_reducible assumption) | assumption); first | exact h_ | (have e_ := (Kd.R_reads' HO0.out).1; omega) | simpa using h_)
            obtain rfl := k63_openM hM13
            have HP13 := Kd.R_seg HX13.out (a1 : Int) (of_decide_eq_true (by first | (with_reducible assumption) | assumption)) (by have h_ : (a1 : Int) < ((l0.length : Int) : Int) := of_decide_eq_true (by first | (with_reducible assumption) | assumption); first | exact h_ | (have e_ := (Kd.R_reads' HO0.out).1; omega) | simpa using h_) (seg := [.bool true]) (j := 3) hcl13 hcc13 (show 4 ≤ 4 from by decide) (x' := (⟨(rd_T63 l0 a1).f0, (rd_T63 l0 a1).f1, (rd_T63 l0 a1).f2, true⟩ : S63)) (k63_mkM _ _ _ (⟨(rd_T63 l0 a1).f0, (rd_T63 l0 a1).f1, (rd_T63 l0 a1).f2, true⟩ : S63) ) (fun _ hk => hk)
            have hx13_3 := hcc13 3 _ rfl
            (try simp only [show (k63).sz = 4 from rfl, Nat.mul_one, Nat.add_zero] at hx13_3)
            have hf13_3 := hfr13 3
            (try simp only [show (k63).sz = 4 from rfl, Nat.mul_one, Nat.add_zero] at hf13_3)
            clear hcl13 hcc13 hfr13 hM13
            go_enter Try.func20, Try.ntmps20
            go_wp2_with (first | ((with_reducible refine gate_store (t := 4) (p := 23) rfl ?_); refine store_event (t := 4) (p := 23) (v := ?vo_w14) (w1 := (w.setCell ⟨go11, (a1 : Int).toNat * 4 + 3, none⟩ (.bool true))) ?hg ?ho ?hn ?hr ?_; (case ho => rfl); (case hg => rfl); (case hn => rfl); (case hr => first | (go_simp; done) | (go_simp; rfl)); intro w14 hw; have hg : w.grownBy w14 (some go11) := (by rw [hw]; exact HP13.2); have hp_ : Kd.R k63 63 w14 w0.heap.size (fun k_ => (P0_ k_ ∨ w.heap.size ≤ k_)) (.slice (some ⟨go11, 0, none⟩) l0.length co12) y152 := (by rw [hw, Ny152.out]; exact HP13.1); clear HP13; have n0_ := Aside0.mk (hp_); have n1_ := Aside0.mk ((by rw [hw]; exact below_set (HB.out) GB11.out : Below w0.heap.size w0 w14)); have n2_ := Aside0.mk (Kept.of_grown (S := (fun k_ => P0_ k_)) hg (by repeat (first | (with_reducible first | exact HK.out | apply Kept.alloc | apply Kept.drewN | apply Kept.drew) | exact HK.out)) (fun k_ e_ => (HO0.out.1 k_ e_))); clear HO0; clear HB; clear HK; have HO0 := n0_; have HB := n1_; have HK := n2_; clear n0_ n1_ n2_; clear hg hw hp_))
            go_ret
            exact ⟨by first | rfl | (simp [errW_none, errW_some] <;> rfl) | (simp [*, errW_none, errW_some] <;> rfl), by (with_reducible repeat (first | apply Kd.R_alloc | apply Kd.R_drewN | apply Kd.R_drew)); exact HO0.out, by repeat (first | (with_reducible first | exact HB.out | apply below_alloc | apply pw_below_drewN | apply below_drew1) | exact HB.out), by repeat (first | (with_reducible first | exact HK.out | apply Kept.alloc | apply Kept.drewN | apply Kept.drew) | exact HK.out)⟩
        · rw [if_neg c7] at H
          exact absurd H (by simp)
      · rw [if_neg c6] at H
        exact absurd H (by simp)

end Go.Proofs.Ytmdkkojchiiaeaa.QW
