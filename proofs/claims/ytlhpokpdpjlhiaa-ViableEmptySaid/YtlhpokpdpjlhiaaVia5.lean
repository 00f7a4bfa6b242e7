/-
  The law ViableEmpty of package psephoslaw13: of one block alone.
-/
import Derived.Test.YtlhpokpdpjlhiaaVia4
namespace Go.Proofs.Ytlhpokpdpjlhiaa.Tree
open Go.RowKit Go.Maps Go.Proofs.YtlhpokpdpjlhiaaW.PrintWords
set_option linter.unusedVariables false
set_option maxRecDepth 100000

def lone (r : Int) : T := ⟨r, [⟨r, r, 5, 0⟩]⟩
theorem lone_has (r x : Int) : has (lone r).ns x = true ↔ x = r := by
  rw [has_mem]
  simp [lone]
theorem lone_low {r : Int} (hr : 0 ≤ r ∧ r ≤ 18446744073709551615) : Low (lone r) := by
  refine ⟨Fit.one r 5 hr (by omega), fun q hq => ?_, by simp [lone]⟩
  obtain rfl := (lone_has r q).1 hq
  show (getD [⟨q, q, 5, 0⟩] q).h < 1024
  simp [getD, find]
theorem lone_roots (r : Int) : rootsOf (lone r).ns = [r] := by
  show List.mergeSort [r] (fun x y => decide (x ≤ y)) = _
  first
    | exact List.mergeSort_of_pairwise (by simp)
    | exact List.mergeSort_of_sorted (by simp)
theorem lone_may {r : Int} (hr : 0 ≤ r ∧ r ≤ 18446744073709551615) (lf : Int → Bool) : may (lone r) lf r = lf r := by
  rw [may_eq (lone_low hr) lf ((lone_has r r).2 rfl)]
  have : kidsOf (lone r) r = [] := by
    unfold kidsOf
    rw [lone_roots]
    simp [lone]
  rw [this]
  simp
theorem lone_below (r o : Int) : below (lone r) r o = decide (r = o) := by
  by_cases e : r = o
  · subst e
    rw [below_refl ((lone_has r r).2 rfl)]
    simp
  · have : has (lone r).ns o = false := by
      cases h : has (lone r).ns o with
      | false => rfl
      | true => exact absurd ((lone_has r o).1 h).symm e
    rw [below_no (.inr this)]
    simp [e]
theorem lone_first {r o ep : Int} : lfOf (lone r) 3 o ep (fun y => if y = r then 3 else 0) r = decide (r = o) := by
  unfold lfOf
  rw [lone_below]
  simp
theorem lone_second {r : Int} : lfOf (lone r) 9 r 12 (fun _ => 0) r = false := by
  simp [lfOf, wrap64]
theorem out_lone {r : Int} (hr : 0 ≤ r ∧ r ≤ 18446744073709551615) {lf : Int → Bool} {l : List Int} (hd : l.Nodup) (h : ∀ x, x ∈ l ↔ has (lone r).ns x = true ∧ may (lone r) lf x = true) : (lf r = true → l = [r]) ∧ (lf r = false → l = []) := by
  have hm : ∀ x, x ∈ l ↔ x = r ∧ lf r = true := fun x => by
    rw [h, lone_has]
    constructor
    · rintro ⟨rfl, h2⟩
      rw [lone_may hr] at h2
      exact ⟨rfl, h2⟩
    · rintro ⟨rfl, h2⟩
      exact ⟨rfl, by rw [lone_may hr]; exact h2⟩
  constructor
  · intro hl
    have h1 := len_same hd (m := [r]) (by simp) (fun x => by rw [hm]; simp [hl])
    match l, h1 with
    | [y], _ =>
      have := (hm y).1 (by simp)
      rw [this.1]
  · intro hl
    refine List.eq_nil_iff_forall_not_mem.2 fun x hx => ?_
    have := ((hm x).1 hx).2
    rw [hl] at this
    cases this
set_option maxHeartbeats 16000000 in
theorem viableEmpty_law (r o n : Int) (w : World) (hr : 0 ≤ r ∧ r ≤ 18446744073709551615) (ho : 0 ≤ o ∧ o ≤ 18446744073709551615) (hn : 0 ≤ n ∧ n ≤ 255) : Calls Try.prog 8 #[.int .u64 r, .int .u64 o, .int .u8 n] w fun e w' => e = .returned (.bool true) ∧ Below w.heap.size w w' := by
  have hmk : ∀ w : World, (Instr.makeMap 32 none).run Try.prog w = .ok (.map (some w.heap.size)) (w.alloc (.map #[] 0)) := fun _ => run_makeMap _ _
  have hwn : wrap64 n = n := by unfold wrap64; omega
  have HR := Aside0.mk hr
  have HO := Aside0.mk ho
  clear hr ho hn
  go_enter Try.func8, Try.ntmps8
  go_wp2_with fail
  go_at_call 9
  refine (vawake_calls w).mono ?_
  rintro e w0 ⟨rfl, hb⟩
  have HB0 := Aside0.mk hb
  clear hb
  go_wp2_with fail
  go_at_call 15
  refine (of_calls r 5 w0 HR.out).mono ?_
  rintro e w1 ⟨p, B, rfl, hm, hb, hp, hB⟩
  have HM := Aside0.mk (show Mem w1 p B (lone r) from hm)
  have HB1 := Aside0.mk (HB0.out.trans (hb.mono HB0.out.size))
  clear hm hb hp hB
  go_wp2_with (refine src_put (srcBlk_made w1) (by unfold maxLen; omega) rfl _ _ _ (.inl rfl) rfl r 3 rfl HR.out rfl (by decide) ?_; intro w2 h1 h2; have HS2 := Aside0.mk h1; have HBM : Aside0 (Below w1.heap.size w1 w2) := ⟨(below_alloc (Below.refl _ _) _).trans (turned_below h2 (Nat.le_refl _))⟩; clear h1 h2)
  go_at_call 12
  refine (vof_calls p B (lone r) 3 r 0 o n (.map (some w1.heap.size)) (fun y => if y = r then 3 else 0) _ (lone_low HR.out) HO.out ((HM.out.below HBM.out).below (below_alloc (Below.refl _ _) _)) ((HS2.out.below (below_alloc (Below.refl _ _) _)).at_ (by have := HS2.out.lt; simp; omega))).mono ?_
  rintro e w3 ⟨ka, rfl, hmo⟩
  obtain ⟨la, hoa, hma⟩ := hmo.out
  obtain ⟨g1, g2⟩ := out_lone HR.out hoa.1 hma
  have HO3 := Aside0.mk hoa
  have HBA : Aside0 (Below w2.heap.size w2 w3) := ⟨(below_alloc (Below.refl _ _) _).trans (hmo.bel.mono (by simp))⟩
  have HM3 := Aside0.mk ((HM.out.below HBM.out).below HBA.out)
  have HB3 := Aside0.mk ((HB1.out.trans (HBM.out.mono HB1.out.size)).trans (HBA.out.mono (Nat.le_trans HB1.out.size HBM.out.size)))
  clear hmo hoa hma hmk HB1 HBM HBA HS2
  rw [lone_first] at g1 g2
  by_cases e : r = o
  · have hl := g1 (decide_eq_true e)
    subst hl
    subst e
    clear g1 g2
    go_wp2_with (first
      | (at_lookup; refine out_look HO3.out rfl _ _ rfl rfl r rfl HR.out ?_)
      | (at_len; refine out_size HO3.out rfl _ rfl rfl ?_)
      | (go_at_call 12; go_loud (refine (vof_calls p B (lone r) 9 0 0 r 12 (.map none) (fun _ => 0) w3 (lone_low HR.out) HR.out HM3.out (.inl ⟨rfl, fun _ => rfl⟩)).mono ?_); go_loud (rintro e w4 ⟨kb, rfl, hmo⟩; obtain ⟨lb, hob, hmb⟩ := hmo.out; have hlb := (out_lone HR.out hob.1 hmb).2 lone_second; subst hlb; have HO4 := Aside0.mk hob; have HB4 := Aside0.mk (HB3.out.trans (hmo.bel.mono HB3.out.size))); clear hmo hob hmb)
      | (at_len; refine out_size HO4.out rfl _ rfl rfl ?_))
    go_ret
    exact ⟨rfl, HB4.out⟩
  · have hl := g2 (decide_eq_false e)
    subst hl
    have hro : (r == o) = false := by simpa using e
    clear g1 g2 e
    go_wp2_with (first
      | (at_lookup; refine out_look HO3.out rfl _ _ rfl rfl r rfl HR.out ?_)
      | (at_len; refine out_size HO3.out rfl _ rfl rfl ?_)
      | (go_at_call 12; go_loud (refine (vof_calls p B (lone r) 9 0 0 r 12 (.map none) (fun _ => 0) w3 (lone_low HR.out) HR.out HM3.out (.inl ⟨rfl, fun _ => rfl⟩)).mono ?_); go_loud (rintro e w4 ⟨kb, rfl, hmo⟩; obtain ⟨lb, hob, hmb⟩ := hmo.out; have hlb := (out_lone HR.out hob.1 hmb).2 lone_second; subst hlb; have HO4 := Aside0.mk hob; have HB4 := Aside0.mk (HB3.out.trans (hmo.bel.mono HB3.out.size))); clear hmo hob hmb)
      | (at_len; refine out_size HO4.out rfl _ rfl rfl ?_))
    go_ret
    exact ⟨rfl, HB4.out⟩
end Go.Proofs.Ytlhpokpdpjlhiaa.Tree
