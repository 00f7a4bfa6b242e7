-- Laid by this work's own turn of the print (gprint.py); not the print's own text.
import Derived.Test.YtmdkkojchiiaeaaQWx0
namespace Go.Proofs.Ytmdkkojchiiaeaa.QW
open Go.RowKit Go.Proofs.YtmdkkojchiiaeaaW.PrintWords Go.Proofs.YtmdkkojchiiaeaaW.PrintLast Go.Proofs.YtmdkkojchiiaeaaW.PrintMore
attribute [local go_sem] max2_int min2_int max_two min_two max_three min_three max_four min_four   -- for this text's walks alone
set_option linter.unusedVariables false
set_option linter.unusedSimpArgs false

/-! ### latest_Votes_Take: function 17 -/
def latest_Votes_Take.f (l0 : List (S63)) (a1 : Int) (a2 : Int) (a3 : Int) : Option (Bool × (List (S63))) := if a1 < 0 then (some (false, l0)) else (if a1 ≥ (l0.length : Int) then (some (false, l0)) else (if 0 ≤ a1 then (if a1 < (l0.length : Int) then (if (rd_T63 l0 a1).f3 = true then (some (false, l0)) else (if (rd_T63 l0 a1).f0 = true then (if a2 ≤ ((rd_T63 l0 a1).f1) then (some (false, l0)) else (some (true, (l0.set (a1 : Int).toNat (⟨true, a2, a3, false⟩ : S63))))) else (some (true, (l0.set (a1 : Int).toNat (⟨true, a2, a3, false⟩ : S63)))))) else (none)) else (none)))
set_option maxHeartbeats 8000000 in
set_option maxRecDepth 100000 in
theorem latest_Votes_Take.calls (P0_ : Nat → Prop) (u9000_ : Value) (l0 : List (S63)) (a1 : Int) (a2 : Int) (a3 : Int) (r1 : Bool) (r2 : List (S63)) (w0 w : World) (hB : Below w0.heap.size w0 w) (ho0 : Kd.R k63 63 w w0.heap.size P0_ u9000_ l0) (h : latest_Votes_Take.f l0 a1 a2 a3 = some (r1, r2)) :
    Calls Try.prog 17 #[u9000_, .int .i64 a1, .int .i64 a2, .int .u64 a3] w fun e w' => e = .returned (.bool r1) ∧ Kd.R k63 63 w' w0.heap.size (fun k_ => (P0_ k_ ∨ w.heap.size ≤ k_)) u9000_ r2 ∧ Below w0.heap.size w0 w' ∧ Kept w w' (fun k_ => P0_ k_) := by
  have hu63 := Try.underlying63
  have HO0 := Aside0.mk (show Kd.R k63 63 w w0.heap.size (fun k_ => (P0_ k_ ∨ w.heap.size ≤ k_)) u9000_ l0 from Kd.R_mono ho0 (fun k_ hk => (.inl hk)))
  have HK := Aside0.mk (Kept.refl w (fun k_ => P0_ k_))
  have HW0 := Aside0.mk hB.size
  have HB := Aside0.mk hB
  clear hB
  have H : (if a1 < 0 then (some (false, l0)) else (if a1 ≥ (l0.length : Int) then (some (false, l0)) else (if 0 ≤ a1 then (if a1 < (l0.length : Int) then (if (rd_T63 l0 a1).f3 = true then (some (false, l0)) else (if (rd_T63 l0 a1).f0 = true then (if a2 ≤ ((rd_T63 l0 a1).f1) then (some (false, l0)) else (some (true, (l0.set (a1 : Int).toNat (⟨true, a2, a3, false⟩ : S63))))) else (some (true, (l0.set (a1 : Int).toNat (⟨true, a2, a3, false⟩ : S63)))))) else (none)) else (none)))) = some (r1, r2) := h
  clear h
  by_cases c5 : a1 < 0
  · rw [if_pos c5] at H
    have c5b0 : decide (a1 < 0) = true := decide_eq_true c5
    clear c5
    simp only [Option.some.injEq, Prod.mk.injEq] at H
    obtain ⟨rfl, rfl⟩ := H
    go_enter Try.func17, Try.ntmps17
    go_wp2
    go_ret
    exact ⟨by first | rfl | (simp [errW_none, errW_some] <;> rfl) | (simp [*, errW_none, errW_some] <;> rfl), by (with_reducible repeat (first | apply Kd.R_alloc | apply Kd.R_drewN | apply Kd.R_drew)); exact HO0.out, by repeat (first | (with_reducible first | exact HB.out | apply below_alloc | apply pw_below_drewN | apply below_drew1) | exact HB.out), by repeat (first | (with_reducible first | exact HK.out | apply Kept.alloc | apply Kept.drewN | apply Kept.drew) | exact HK.out)⟩
  · rw [if_neg c5] at H
    have c5b0 : decide (a1 < 0) = false := decide_eq_false c5
    clear c5
    by_cases c6 : a1 ≥ (l0.length : Int)
    · rw [if_pos c6] at H
      have c6b0 : decide ((l0.length : Int) ≤ a1) = true := decide_eq_true c6
      clear c6
      simp only [Option.some.injEq, Prod.mk.injEq] at H
      obtain ⟨rfl, rfl⟩ := H
      obtain ⟨Ao7, co7, eo7⟩ := Kd.R_slice HO0.out
      subst eo7
      go_enter Try.func17, Try.ntmps17
      go_wp2
      go_ret
      exact ⟨by first | rfl | (simp [errW_none, errW_some] <;> rfl) | (simp [*, errW_none, errW_some] <;> rfl), by (with_reducible repeat (first | apply Kd.R_alloc | apply Kd.R_drewN | apply Kd.R_drew)); exact HO0.out, by repeat (first | (with_reducible first | exact HB.out | apply below_alloc | apply pw_below_drewN | apply below_drew1) | exact HB.out), by repeat (first | (with_reducible first | exact HK.out | apply Kept.alloc | apply Kept.drewN | apply Kept.drew) | exact HK.out)⟩
    · rw [if_neg c6] at H
      have c6b0 : decide ((l0.length : Int) ≤ a1) = false := decide_eq_false c6
      clear c6
      by_cases c8 : 0 ≤ a1
      · rw [if_pos c8] at H
        have c8b0 : decide (0 ≤ a1) = true := decide_eq_true c8
        clear c8
        by_cases c9 : a1 < (l0.length : Int)
        · rw [if_pos c9] at H
          have c9b0 : decide (a1 < (l0.length : Int)) = true := decide_eq_true c9
          clear c9
          obtain ⟨bq10, hbq10⟩ : ∃ b_ : Bool, b_ = ((rd_T63 l0 a1).f3) := ⟨_, rfl⟩
          replace H : (if bq10 = true then (some (false, l0)) else (if (rd_T63 l0 a1).f0 = true then (if a2 ≤ ((rd_T63 l0 a1).f1) then (some (false, l0)) else (some (true, (l0.set (a1 : Int).toNat (⟨true, a2, a3, false⟩ : S63))))) else (some (true, (l0.set (a1 : Int).toNat (⟨true, a2, a3, false⟩ : S63)))))) = some (r1, r2) := by rw [← hbq10] at H; exact H
          have Nbq10 := Aside0.mk hbq10
          clear hbq10
          by_cases c11 : bq10 = true
          · subst c11
            have H1 : (some (false, l0)) = some (r1, r2) := by rw [if_pos rfl] at H; exact H
            clear H
            have H := H1
            clear H1
            simp only [Option.some.injEq, Prod.mk.injEq] at H
            obtain ⟨rfl, rfl⟩ := H
            obtain ⟨Ao12, co12, eo12⟩ := Kd.R_slice HO0.out
            subst eo12
            have p137 : 0 ≤ (a1 : Int) := of_decide_eq_true (by first | (with_reducible assumption) | assumption)
            have q137 : a1 < (l0.length : Int) := of_decide_eq_true (by first | (with_reducible assumption) | assumption)
            obtain ⟨ad137, e137, hx137_0, hx137_1, hx137_2, hx137_3⟩ := at_T63 (Kd.R_reads' HO0.out).2.2 a1 p137 q137
            (try rw [← Nbq10.out] at hx137_0)
            (try rw [← Nbq10.out] at hx137_3)
            cases e137
            replace p137 := eq_true p137
            replace q137 := eq_true q137
            go_enter Try.func17, Try.ntmps17
            go_wp2
            go_ret
            exact ⟨by first | rfl | (simp [errW_none, errW_some] <;> rfl) | (simp [*, errW_none, errW_some] <;> rfl), by (with_reducible repeat (first | apply Kd.R_alloc | apply Kd.R_drewN | apply Kd.R_drew)); exact HO0.out, by repeat (first | (with_reducible first | exact HB.out | apply below_alloc | apply pw_below_drewN | apply below_drew1) | exact HB.out), by repeat (first | (with_reducible first | exact HK.out | apply Kept.alloc | apply Kept.drewN | apply Kept.drew) | exact HK.out)⟩
          · replace c11 := Bool.eq_false_iff.mpr c11
            subst c11
            have H1 : (if (rd_T63 l0 a1).f0 = true then (if a2 ≤ ((rd_T63 l0 a1).f1) then (some (false, l0)) else (some (true, (l0.set (a1 : Int).toNat (⟨true, a2, a3, false⟩ : S63))))) else (some (true, (l0.set (a1 : Int).toNat (⟨true, a2, a3, false⟩ : S63))))) = some (r1, r2) := by rw [if_neg (show ¬ (false = true) by decide)] at H; exact H
            clear H
            have H := H1
            clear H1
            obtain ⟨bq13, hbq13⟩ : ∃ b_ : Bool, b_ = ((rd_T63 l0 a1).f0) := ⟨_, rfl⟩
            replace H : (if bq13 = true then (if a2 ≤ ((rd_T63 l0 a1).f1) then (some (false, l0)) else (some (true, (l0.set (a1 : Int).toNat (⟨true, a2, a3, false⟩ : S63))))) else (some (true, (l0.set (a1 : Int).toNat (⟨true, a2, a3, false⟩ : S63))))) = some (r1, r2) := by rw [← hbq13] at H; exact H
            have Nbq13 := Aside0.mk hbq13
            clear hbq13
            by_cases c14 : bq13 = true
            · subst c14
              have H1 : (if a2 ≤ ((rd_T63 l0 a1).f1) then (some (false, l0)) else (some (true, (l0.set (a1 : Int).toNat (⟨true, a2, a3, false⟩ : S63))))) = some (r1, r2) := by rw [if_pos rfl] at H; exact H
              clear H
              have H := H1
              clear H1
              by_cases c15 : a2 ≤ ((rd_T63 l0 a1).f1)
              · rw [if_pos c15] at H
                have c15b0 : decide (a2 ≤ ((rd_T63 l0 a1).f1)) = true := decide_eq_true c15
                clear c15
                simp only [Option.some.injEq, Prod.mk.injEq] at H
                obtain ⟨rfl, rfl⟩ := H
                obtain ⟨Ao16, co16, eo16⟩ := Kd.R_slice HO0.out
                subst eo16
                have p137 : 0 ≤ (a1 : Int) := of_decide_eq_true (by first | (with_reducible assumption) | assumption)
                have q137 : a1 < (l0.length : Int) := of_decide_eq_true (by first | (with_reducible assumption) | assumption)
                obtain ⟨ad137, e137, hx137_0, hx137_1, hx137_2, hx137_3⟩ := at_T63 (Kd.R_reads' HO0.out).2.2 a1 p137 q137
                (try rw [← Nbq10.out] at hx137_0)
                (try rw [← Nbq13.out] at hx137_0)
                (try rw [← Nbq10.out] at hx137_3)
                (try rw [← Nbq13.out] at hx137_3)
                cases e137
                replace p137 := eq_true p137
                replace q137 := eq_true q137
                have p138 : 0 ≤ (a1 : Int) := of_decide_eq_true (by first | (with_reducible assumption) | assumption)
                have q138 : a1 < (l0.length : Int) := of_decide_eq_true (by first | (with_reducible assumption) | assumption)
                obtain ⟨ad138, e138, hx138_0, hx138_1, hx138_2, hx138_3⟩ := at_T63 (Kd.R_reads' HO0.out).2.2 a1 p138 q138
                (try rw [← Nbq10.out] at hx138_0)
                (try rw [← Nbq13.out] at hx138_0)
                (try rw [← Nbq10.out] at hx138_3)
                (try rw [← Nbq13.out] at hx138_3)
                obtain rfl : ad137 = ad138 := (by injection e138)
                replace p138 := eq_true p138
                replace q138 := eq_true q138
                have p139 : 0 ≤ (a1 : Int) := of_decide_eq_true (by first | (with_reducible assumption) | assumption)
                have q139 : a1 < (l0.length : Int) := of_decide_eq_true (by first | (with_reducible assumption) | assumption)
                obtain ⟨ad139, e139, hx139_0, hx139_1, hx139_2, hx139_3⟩ := at_T63 (Kd.R_reads' HO0.out).2.2 a1 p139 q139
                (try rw [← Nbq10.out] at hx139_0)
                (try rw [← Nbq13.out] at hx139_0)
                (try rw [← Nbq10.out] at hx139_3)
                (try rw [← Nbq13.out] at hx139_3)
                obtain rfl : ad137 = ad139 := (by injection e139)
                replace p139 := eq_true p139
                replace q139 := eq_true q139
                go_enter Try.func17, Try.ntmps17
                go_wp2
                go_ret
                exact ⟨by first | rfl | (simp [errW_none, errW_some] <;> rfl) | (simp [*, errW_none, errW_some] <;> rfl), by (with_reducible repeat (first | apply Kd.R_alloc | apply Kd.R_drewN | apply Kd.R_drew)); exact HO0.out, by repeat (first | (with_reducible first | exact HB.out | apply below_alloc | apply pw_below_drewN | apply below_drew1) | exact HB.out), by repeat (first | (with_reducible first | exact HK.out | apply Kept.alloc | apply Kept.drewN | apply Kept.drew) | exact HK.out)⟩
              · rw [if_neg c15] at H
                have c15b0 : decide (a2 ≤ ((rd_T63 l0 a1).f1)) = false := decide_eq_false c15
                clear c15
                obtain ⟨y140, hy140⟩ : ∃ y_ : List (S63), y_ = (l0.set (a1 : Int).toNat (⟨true, a2, a3, false⟩ : S63)) := ⟨_, rfl⟩
                replace H : (some (true, y140)) = some (r1, r2) := by first | (rw [hy140]; with_reducible exact H) | (have H2_ := (Option.bind_some _ _).symm.trans H; rw [hy140]; with_reducible exact H2_) | (have H2_ := (Option.bind_some _ _).symm.trans H; with_reducible exact H2_) | with_reducible exact H | (rw [hy140]; exact H) | exact H
                have Ny140 := Aside0.mk hy140
                clear hy140
                simp only [Option.some.injEq, Prod.mk.injEq] at H
                obtain ⟨rfl, rfl⟩ := H
                obtain ⟨Ao18, co18, eo18⟩ := Kd.R_slice HO0.out
                subst eo18
                have p137 : 0 ≤ (a1 : Int) := of_decide_eq_true (by first | (with_reducible assumption) | assumption)
                have q137 : a1 < (l0.length : Int) := of_decide_eq_true (by first | (with_reducible assumption) | assumption)
                obtain ⟨ad137, e137, hx137_0, hx137_1, hx137_2, hx137_3⟩ := at_T63 (Kd.R_reads' HO0.out).2.2 a1 p137 q137
                (try rw [← Nbq10.out] at hx137_0)
                (try rw [← Nbq13.out] at hx137_0)
                (try rw [← Nbq10.out] at hx137_3)
                (try rw [← Nbq13.out] at hx137_3)
                cases e137
                replace p137 := eq_true p137
                replace q137 := eq_true q137
                have p138 : 0 ≤ (a1 : Int) := of_decide_eq_true (by first | (with_reducible assumption) | assumption)
                have q138 : a1 < (l0.length : Int) := of_decide_eq_true (by first | (with_reducible assumption) | assumption)
                obtain ⟨ad138, e138, hx138_0, hx138_1, hx138_2, hx138_3⟩ := at_T63 (Kd.R_reads' HO0.out).2.2 a1 p138 q138
                (try rw [← Nbq10.out] at hx138_0)
                (try rw [← Nbq13.out] at hx138_0)
                (try rw [← Nbq10.out] at hx138_3)
                (try rw [← Nbq13.out] at hx138_3)
                obtain rfl : ad137 = ad138 := (by injection e138)
                replace p138 := eq_true p138
                replace q138 := eq_true q138
                have p139 : 0 ≤ (a1 : Int) := of_decide_eq_true (by first | (with_reducible assumption) | assumption)
                have q139 : a1 < (l0.length : Int) := of_decide_eq_true (by first | (with_reducible assumption) | assumption)
                obtain ⟨ad139, e139, hx139_0, hx139_1, hx139_2, hx139_3⟩ := at_T63 (Kd.R_reads' HO0.out).2.2 a1 p139 q139
                (try rw [← Nbq10.out] at hx139_0)
                (try rw [← Nbq13.out] at hx139_0)
                (try rw [← Nbq10.out] at hx139_3)
                (try rw [← Nbq13.out] at hx139_3)
                obtain rfl : ad137 = ad139 := (by injection e139)
                replace p139 := eq_true p139
                replace q139 := eq_true q139
                have p17 : 0 ≤ (a1 : Int) := of_decide_eq_true (by first | (with_reducible assumption) | assumption)
                have q17 : (a1 : Int) < ((l0.length : Int) : Int) := of_decide_eq_true (by first | (with_reducible assumption) | assumption)
                obtain ⟨go17, co17, eo17, gb17, gl17, cl17, HG17⟩ := Kd.R_form HO0.out (by omega)
                (first | cases eo17 | (injection eo17 with ea_ en_ ec_; (first | subst ea_ | (injection ea_ with ea_; subst ea_)); subst ec_; clear en_))
                have GB17 := Aside0.mk gb17
                have GG17 := Aside0.mk HG17
                clear gb17 gl17 HG17
                have HMgo17 := Aside0.mk (show (P0_ go17 ∨ w.heap.size ≤ go17) from (HO0.out.1 _ rfl))
                (first | simp only [add_plain] at hx137_0 | skip)
                (first | simp only [add_plain] at hx137_1 | skip)
                (first | simp only [add_plain] at hx137_2 | skip)
                (first | simp only [add_plain] at hx137_3 | skip)
                (first | simp only [add_plain] at hx138_0 | skip)
                (first | simp only [add_plain] at hx138_1 | skip)
                (first | simp only [add_plain] at hx138_2 | skip)
                (first | simp only [add_plain] at hx138_3 | skip)
                (first | simp only [add_plain] at hx139_0 | skip)
                (first | simp only [add_plain] at hx139_1 | skip)
                (first | simp only [add_plain] at hx139_2 | skip)
                (first | simp only [add_plain] at hx139_3 | skip)
                obtain ⟨ce17, hcl17, hM17, hcc17, hfr17⟩ := Kd.R_elem HO0.out z63 (a1 : Int) p17 q17
                obtain rfl := k63_openM hM17
                have hx17_0 : w.cell? ⟨go17, (a1 : Int).toNat * 4, none⟩ = some (.bool ((rd_T63 l0 a1).f0)) := hcc17 0 _ rfl
                have hx17_1 : w.cell? ⟨go17, (a1 : Int).toNat * 4 + 1, none⟩ = some (.int .i64 ((rd_T63 l0 a1).f1)) := hcc17 1 _ rfl
                have hx17_2 : w.cell? ⟨go17, (a1 : Int).toNat * 4 + 2, none⟩ = some (.int .u64 ((rd_T63 l0 a1).f2)) := hcc17 2 _ rfl
                have hx17_3 : w.cell? ⟨go17, (a1 : Int).toNat * 4 + 3, none⟩ = some (.bool ((rd_T63 l0 a1).f3)) := hcc17 3 _ rfl
                have hf17_0 : w.frozen? ⟨go17, (a1 : Int).toNat * 4, none⟩ = false := hfr17 0
                have hf17_1 : w.frozen? ⟨go17, (a1 : Int).toNat * 4 + 1, none⟩ = false := hfr17 1
                have hf17_2 : w.frozen? ⟨go17, (a1 : Int).toNat * 4 + 2, none⟩ = false := hfr17 2
                have hf17_3 : w.frozen? ⟨go17, (a1 : Int).toNat * 4 + 3, none⟩ = false := hfr17 3
                clear hcl17 hcc17 hfr17 hM17
                replace p17 := eq_true p17
                replace q17 := eq_true q17
                have HX19 := Aside0.mk (show Kd.R k63 63 w w0.heap.size (fun k_ => (P0_ k_ ∨ w.heap.size ≤ k_)) (.slice (some ⟨go17, 0, none⟩) l0.length co18) l0 from (by (with_reducible repeat (first | apply Kd.R_alloc | apply Kd.R_drewN | apply Kd.R_drew)); exact HO0.out))
                obtain ⟨ce19, hcl19, hM19, hcc19, hfr19⟩ := Kd.R_elem HX19.out z63 (a1 : Int) (of_decide_eq_true (by first | (with_reducible assumption) | assumption)) (by have h_ : (a1 : Int) < ((l0.length : Int) : Int) := of_decide_eq_true (by first | (with_reducible assumption) | assumption); first | exact h_ | (have e_ := (Kd.R_reads' HO0.out).1; omega) | simpa using h_)
                obtain rfl := k63_openM hM19
                have HP19 := Kd.R_seg HX19.out (a1 : Int) (of_decide_eq_true (by first | (with_reducible assumption) | assumption)) (by have h_ : (a1 : Int) < ((l0.length : Int) : Int) := of_decide_eq_true (by first | (with_reducible assumption) | assumption); first | exact h_ | (have e_ := (Kd.R_reads' HO0.out).1; omega) | simpa using h_) (seg := [.bool true, .int .i64 a2, .int .u64 a3, .bool false]) (j := 0) hcl19 hcc19 (show 4 ≤ 4 from by decide) (x' := (⟨true, a2, a3, false⟩ : S63)) (k63_mkM _ _ _ (⟨true, a2, a3, false⟩ : S63) ) (fun _ hk => hk)
                have hx19_0 := hcc19 0 _ rfl
                (try simp only [show (k63).sz = 4 from rfl, Nat.mul_one, Nat.add_zero] at hx19_0)
                have hf19_0 := hfr19 0
                (try simp only [show (k63).sz = 4 from rfl, Nat.mul_one, Nat.add_zero] at hf19_0)
                have hx19_1 := hcc19 1 _ rfl
                (try simp only [show (k63).sz = 4 from rfl, Nat.mul_one, Nat.add_zero] at hx19_1)
                have hf19_1 := hfr19 1
                (try simp only [show (k63).sz = 4 from rfl, Nat.mul_one, Nat.add_zero] at hf19_1)
                have hx19_2 := hcc19 2 _ rfl
                (try simp only [show (k63).sz = 4 from rfl, Nat.mul_one, Nat.add_zero] at hx19_2)
                have hf19_2 := hfr19 2
                (try simp only [show (k63).sz = 4 from rfl, Nat.mul_one, Nat.add_zero] at hf19_2)
                have hx19_3 := hcc19 3 _ rfl
                (try simp only [show (k63).sz = 4 from rfl, Nat.mul_one, Nat.add_zero] at hx19_3)
                have hf19_3 := hfr19 3
                (try simp only [show (k63).sz = 4 from rfl, Nat.mul_one, Nat.add_zero] at hf19_3)
                clear hcl19 hcc19 hfr19 hM19
                go_enter Try.func17, Try.ntmps17
                go_wp2_with (first | ((with_reducible refine gate_store (t := 63) (p := 45) rfl ?_); refine store_event (t := 63) (p := 45) (v := ?vo_w20) (w1 := ((((w.setCell ⟨go17, (a1 : Int).toNat * 4, none⟩ (.bool true)).setCell ⟨go17, (a1 : Int).toNat * 4 + 1, none⟩ (.int .i64 a2)).setCell ⟨go17, (a1 : Int).toNat * 4 + 2, none⟩ (.int .u64 a3)).setCell ⟨go17, (a1 : Int).toNat * 4 + 3, none⟩ (.bool false))) ?hg ?ho ?hn ?hr ?_; (case ho => rfl); (case hg => rfl); (case hn => rfl); (case hr => first | (go_simp; done) | (go_simp; rfl)); intro w20 hw; have hg : w.grownBy w20 (some go17) := (by rw [hw]; exact HP19.2); have hp_ : Kd.R k63 63 w20 w0.heap.size (fun k_ => (P0_ k_ ∨ w.heap.size ≤ k_)) (.slice (some ⟨go17, 0, none⟩) l0.length co18) y140 := (by rw [hw, Ny140.out]; exact HP19.1); clear HP19; have n0_ := Aside0.mk (hp_); have n1_ := Aside0.mk ((by rw [hw]; exact below_set (below_set (below_set (below_set (HB.out) GB17.out) GB17.out) GB17.out) GB17.out : Below w0.heap.size w0 w20)); have n2_ := Aside0.mk (Kept.of_grown (S := (fun k_ => P0_ k_)) hg (by repeat (first | (with_reducible first | exact HK.out | apply Kept.alloc | apply Kept.drewN | apply Kept.drew) | exact HK.out)) (fun k_ e_ => (HO0.out.1 k_ e_))); clear HO0; clear HB; clear HK; have HO0 := n0_; have HB := n1_; have HK := n2_; clear n0_ n1_ n2_; clear hg hw hp_))
                go_ret
                exact ⟨by first | rfl | (simp [errW_none, errW_some] <;> rfl) | (simp [*, errW_none, errW_some] <;> rfl), by (with_reducible repeat (first | apply Kd.R_alloc | apply Kd.R_drewN | apply Kd.R_drew)); exact HO0.out, by repeat (first | (with_reducible first | exact HB.out | apply below_alloc | apply pw_below_drewN | apply below_drew1) | exact HB.out), by repeat (first | (with_reducible first | exact HK.out | apply Kept.alloc | apply Kept.drewN | apply Kept.drew) | exact HK.out)⟩
            · replace c14 := Bool.eq_false_iff.mpr c14
              subst c14
              have H1 : (some (true, (l0.set (a1 : Int).toNat (⟨true, a2, a3, false⟩ : S63)))) = some (r1, r2) := by rw [if_neg (show ¬ (false = true) by decide)] at H; exact H
              clear H
              have H := H1
              clear H1
              obtain ⟨y141, hy141⟩ : ∃ y_ : List (S63), y_ = (l0.set (a1 : Int).toNat (⟨true, a2, a3, false⟩ : S63)) := ⟨_, rfl⟩
              replace H : (some (true, y141)) = some (r1, r2) := by first | (rw [hy141]; with_reducible exact H) | (have H2_ := (Option.bind_some _ _).symm.trans H; rw [hy141]; with_reducible exact H2_) | (have H2_ := (Option.bind_some _ _).symm.trans H; with_reducible exact H2_) | with_reducible exact H | (rw [hy141]; exact H) | exact H
              have Ny141 := Aside0.mk hy141
              clear hy141
              simp only [Option.some.injEq, Prod.mk.injEq] at H
              obtain ⟨rfl, rfl⟩ := H
              obtain ⟨Ao22, co22, eo22⟩ := Kd.R_slice HO0.out
              subst eo22
              have p137 : 0 ≤ (a1 : Int) := of_decide_eq_true (by first | (with_reducible assumption) | assumption)
              have q137 : a1 < (l0.length : Int) := of_decide_eq_true (by first | (with_reducible assumption) | assumption)
              obtain ⟨ad137, e137, hx137_0, hx137_1, hx137_2, hx137_3⟩ := at_T63 (Kd.R_reads' HO0.out).2.2 a1 p137 q137
              (try rw [← Nbq10.out] at hx137_0)
              (try rw [← Nbq13.out] at hx137_0)
              (try rw [← Nbq10.out] at hx137_3)
              (try rw [← Nbq13.out] at hx137_3)
              cases e137
              replace p137 := eq_true p137
              replace q137 := eq_true q137
              have p138 : 0 ≤ (a1 : Int) := of_decide_eq_true (by first | (with_reducible assumption) | assumption)
              have q138 : a1 < (l0.length : Int) := of_decide_eq_true (by first | (with_reducible assumption) | assumption)
              obtain ⟨ad138, e138, hx138_0, hx138_1, hx138_2, hx138_3⟩ := at_T63 (Kd.R_reads' HO0.out).2.2 a1 p138 q138
              (try rw [← Nbq10.out] at hx138_0)
              (try rw [← Nbq13.out] at hx138_0)
              (try rw [← Nbq10.out] at hx138_3)
              (try rw [← Nbq13.out] at hx138_3)
              obtain rfl : ad137 = ad138 := (by injection e138)
              replace p138 := eq_true p138
              replace q138 := eq_true q138
              have p21 : 0 ≤ (a1 : Int) := of_decide_eq_true (by first | (with_reducible assumption) | assumption)
              have q21 : (a1 : Int) < ((l0.length : Int) : Int) := of_decide_eq_true (by first | (with_reducible assumption) | assumption)
              obtain ⟨go21, co21, eo21, gb21, gl21, cl21, HG21⟩ := Kd.R_form HO0.out (by omega)
              (first | cases eo21 | (injection eo21 with ea_ en_ ec_; (first | subst ea_ | (injection ea_ with ea_; subst ea_)); subst ec_; clear en_))
              have GB21 := Aside0.mk gb21
              have GG21 := Aside0.mk HG21
              clear gb21 gl21 HG21
              have HMgo21 := Aside0.mk (show (P0_ go21 ∨ w.heap.size ≤ go21) from (HO0.out.1 _ rfl))
              (first | simp only [add_plain] at hx137_0 | skip)
              (first | simp only [add_plain] at hx137_1 | skip)
              (first | simp only [add_plain] at hx137_2 | skip)
              (first | simp only [add_plain] at hx137_3 | skip)
              (first | simp only [add_plain] at hx138_0 | skip)
              (first | simp only [add_plain] at hx138_1 | skip)
              (first | simp only [add_plain] at hx138_2 | skip)
              (first | simp only [add_plain] at hx138_3 | skip)
              obtain ⟨ce21, hcl21, hM21, hcc21, hfr21⟩ := Kd.R_elem HO0.out z63 (a1 : Int) p21 q21
              obtain rfl := k63_openM hM21
              have hx21_0 : w.cell? ⟨go21, (a1 : Int).toNat * 4, none⟩ = some (.bool ((rd_T63 l0 a1).f0)) := hcc21 0 _ rfl
              have hx21_1 : w.cell? ⟨go21, (a1 : Int).toNat * 4 + 1, none⟩ = some (.int .i64 ((rd_T63 l0 a1).f1)) := hcc21 1 _ rfl
              have hx21_2 : w.cell? ⟨go21, (a1 : Int).toNat * 4 + 2, none⟩ = some (.int .u64 ((rd_T63 l0 a1).f2)) := hcc21 2 _ rfl
              have hx21_3 : w.cell? ⟨go21, (a1 : Int).toNat * 4 + 3, none⟩ = some (.bool ((rd_T63 l0 a1).f3)) := hcc21 3 _ rfl
              have hf21_0 : w.frozen? ⟨go21, (a1 : Int).toNat * 4, none⟩ = false := hfr21 0
              have hf21_1 : w.frozen? ⟨go21, (a1 : Int).toNat * 4 + 1, none⟩ = false := hfr21 1
              have hf21_2 : w.frozen? ⟨go21, (a1 : Int).toNat * 4 + 2, none⟩ = false := hfr21 2
              have hf21_3 : w.frozen? ⟨go21, (a1 : Int).toNat * 4 + 3, none⟩ = false := hfr21 3
              clear hcl21 hcc21 hfr21 hM21
              replace p21 := eq_true p21
              replace q21 := eq_true q21
              have HX23 := Aside0.mk (show Kd.R k63 63 w w0.heap.size (fun k_ => (P0_ k_ ∨ w.heap.size ≤ k_)) (.slice (some ⟨go21, 0, none⟩) l0.length co22) l0 from (by (with_reducible repeat (first | apply Kd.R_alloc | apply Kd.R_drewN | apply Kd.R_drew)); exact HO0.out))
              obtain ⟨ce23, hcl23, hM23, hcc23, hfr23⟩ := Kd.R_elem HX23.out z63 (a1 : Int) (of_decide_eq_true (by first | (with_reducible assumption) | assumption)) (by have h_ : (a1 : Int) < ((l0.length : Int) : Int) := of_decide_eq_true (by first | (with_reducible assumption) | assumption); first | exact h_ | (have e_ := (Kd.R_reads' HO0.out).1; omega) | simpa using h_)
              obtain rfl := k63_openM hM23
              have HP23 := Kd.R_seg HX23.out (a1 : Int) (of_decide_eq_true (by first | (with_reducible assumption) | assumption)) (by have h_ : (a1 : Int) < ((l0.length : Int) : Int) := of_decide_eq_true (by first | (with_reducible assumption) | assumption); first | exact h_ | (have e_ := (Kd.R_reads' HO0.out).1; omega) | simpa using h_) (seg := [.bool true, .int .i64 a2, .int .u64 a3, .bool false]) (j := 0) hcl23 hcc23 (show 4 ≤ 4 from by decide) (x' := (⟨true, a2, a3, false⟩ : S63)) (k63_mkM _ _ _ (⟨true, a2, a3, false⟩ : S63) ) (fun _ hk => hk)
              have hx23_0 := hcc23 0 _ rfl
              (try simp only [show (k63).sz = 4 from rfl, Nat.mul_one, Nat.add_zero] at hx23_0)
              have hf23_0 := hfr23 0
              (try simp only [show (k63).sz = 4 from rfl, Nat.mul_one, Nat.add_zero] at hf23_0)
              have hx23_1 := hcc23 1 _ rfl
              (try simp only [show (k63).sz = 4 from rfl, Nat.mul_one, Nat.add_zero] at hx23_1)
              have hf23_1 := hfr23 1
              (try simp only [show (k63).sz = 4 from rfl, Nat.mul_one, Nat.add_zero] at hf23_1)
              have hx23_2 := hcc23 2 _ rfl
              (try simp only [show (k63).sz = 4 from rfl, Nat.mul_one, Nat.add_zero] at hx23_2)
              have hf23_2 := hfr23 2
              (try simp only [show (k63).sz = 4 from rfl, Nat.mul_one, Nat.add_zero] at hf23_2)
              have hx23_3 := hcc23 3 _ rfl
              (try simp only [show (k63).sz = 4 from rfl, Nat.mul_one, Nat.add_zero] at hx23_3)
              have hf23_3 := hfr23 3
              (try simp only [show (k63).sz = 4 from rfl, Nat.mul_one, Nat.add_zero] at hf23_3)
              clear hcl23 hcc23 hfr23 hM23
              go_enter Try.func17, Try.ntmps17
              go_wp2_with (first | ((with_reducible refine gate_store (t := 63) (p := 45) rfl ?_); refine store_event (t := 63) (p := 45) (v := ?vo_w24) (w1 := ((((w.setCell ⟨go21, (a1 : Int).toNat * 4, none⟩ (.bool true)).setCell ⟨go21, (a1 : Int).toNat * 4 + 1, none⟩ (.int .i64 a2)).setCell ⟨go21, (a1 : Int).toNat * 4 + 2, none⟩ (.int .u64 a3)).setCell ⟨go21, (a1 : Int).toNat * 4 + 3, none⟩ (.bool false))) ?hg ?ho ?hn ?hr ?_; (case ho => rfl); (case hg => rfl); (case hn => rfl); (case hr => first | (go_simp; done) | (go_simp; rfl)); intro w24 hw; have hg : w.grownBy w24 (some go21) := (by rw [hw]; exact HP23.2); have hp_ : Kd.R k63 63 w24 w0.heap.size (fun k_ => (P0_ k_ ∨ w.heap.size ≤ k_)) (.slice (some ⟨go21, 0, none⟩) l0.length co22) y141 := (by rw [hw, Ny141.out]; exact HP23.1); clear HP23; have n0_ := Aside0.mk (hp_); have n1_ := Aside0.mk ((by rw [hw]; exact below_set (below_set (below_set (below_set (HB.out) GB21.out) GB21.out) GB21.out) GB21.out : Below w0.heap.size w0 w24)); have n2_ := Aside0.mk (Kept.of_grown (S := (fun k_ => P0_ k_)) hg (by repeat (first | (with_reducible first | exact HK.out | apply Kept.alloc | apply Kept.drewN | apply Kept.drew) | exact HK.out)) (fun k_ e_ => (HO0.out.1 k_ e_))); clear HO0; clear HB; clear HK; have HO0 := n0_; have HB := n1_; have HK := n2_; clear n0_ n1_ n2_; clear hg hw hp_))
              go_ret
              exact ⟨by first | rfl | (simp [errW_none, errW_some] <;> rfl) | (simp [*, errW_none, errW_some] <;> rfl), by (with_reducible repeat (first | apply Kd.R_alloc | apply Kd.R_drewN | apply Kd.R_drew)); exact HO0.out, by repeat (first | (with_reducible first | exact HB.out | apply below_alloc | apply pw_below_drewN | apply below_drew1) | exact HB.out), by repeat (first | (with_reducible first | exact HK.out | apply Kept.alloc | apply Kept.drewN | apply Kept.drew) | exact HK.out)⟩
        · rw [if_neg c9] at H
          exact absurd H (by simp)
      · rw [if_neg c8] at H
        exact absurd H (by simp)

end Go.Proofs.Ytmdkkojchiiaeaa.QW
