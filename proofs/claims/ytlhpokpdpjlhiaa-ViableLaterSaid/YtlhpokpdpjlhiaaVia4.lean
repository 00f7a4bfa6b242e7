/-
  Package psephoslaw13: its awake; the law ViableEmpty.
-/
import Derived.Test.YtlhpokpdpjlhiaaVia3
namespace Go.Proofs.Ytlhpokpdpjlhiaa.Tree
open Go.RowKit Go.Maps Go.Proofs.YtlhpokpdpjlhiaaW.PrintWords
set_option linter.unusedVariables false
set_option maxRecDepth 100000

/-- A map of sources that was made here. -/
def SrcBlk (w : World) (b n : Nat) (src : Int → Int) : Prop := ∃ D : DataW Unit, w.ownsMap Try.prog 29 (plainElem Try.prog 3) b n D ∧ Tidy D ∧ ∀ r, D.atKey (key r) (.lit (.int .i64 0)) = .lit (.int .i64 (src r))
theorem SrcBlk.at_ {w : World} {b n k : Nat} {src : Int → Int} (h : SrcBlk w b n src) (hne : b ≠ k) : SrcAt w k (.map (some b)) src := by
  obtain ⟨D, h1, _, h3⟩ := h
  exact .inr ⟨b, n, D, rfl, hne, h1, fun r _ => h3 r⟩
theorem SrcBlk.below {w w' : World} {b n : Nat} {src : Int → Int} (h : SrcBlk w b n src) (hb : Below w.heap.size w w') : SrcBlk w' b n src := by
  obtain ⟨D, h1, h2, h3⟩ := h
  exact ⟨D, own_low h1 hb, h2, h3⟩
theorem SrcBlk.lt {w : World} {b n : Nat} {src : Int → Int} (h : SrcBlk w b n src) : b < w.heap.size := by
  obtain ⟨D, h1, _⟩ := h
  exact h1.lt
theorem srcBlk_made (w : World) : SrcBlk (w.alloc (.map #[] 0)) w.heap.size 0 (fun _ => 0) := ⟨_, World.ownsMap_made w Try.prog 29 (plainElem Try.prog 3), tidy_empty, fun _ => rfl⟩
section
variable {ops : Array Oper} {rest : List Oper} {o : Oper} {a : Act} {Q : Exit → Act → World → Prop}
/-- A source laid in. -/
theorem src_put {w : World} {b n : Nat} {src : Int → Int} (h : SrcBlk w b n src) (hn : n < maxLen) (hg : o.guard = none) (m x v : Operand) (hop : o.op = Op.insert 32 m x v ∨ o.op = Op.mapUpdate 32 m x v) (hm : a.eval m = .map (some b)) (r c : Int) (hx : a.eval x = .int .u64 r) (hr : 0 ≤ r ∧ r ≤ 18446744073709551615) (hv : a.eval v = .int .i64 c) (hc : (Lit.int .i64 c).wf = true)
    (hK : ∀ w', SrcBlk w' b (n + 1) (fun y => if y = r then c else src y) → w.mapTurned w' b → wpList Try.prog ops Q rest (a.put o.dst undef) w') : wpList Try.prog ops Q (o :: rest) a w := by
  obtain ⟨D, hown, hT, hat⟩ := h
  refine wpList_plain hg fun K' hK' => ?_
  obtain ⟨w', hrun, r1, r2⟩ := hown.store law Try.underlying32 hn (hkey hr) (plainElem_int Try.underlying3 hc)
  have hs : SrcBlk w' b (n + 1) (fun y => if y = r then c else src y) := by
    have hm := hT.isMap
    refine ⟨_, r1, hT.put (by trivial) _, fun y => ?_⟩
    by_cases e : y = r
    · subst e
      rw [atKey_put_same hm (by trivial)]
      show _ = DataW.lit (.int .i64 (if y = y then c else src y))
      rw [if_pos rfl]
    · rw [atKey_put_other (fun h => e (by injection h)), hat]
      show _ = DataW.lit (.int .i64 (if y = r then c else src y))
      rw [if_neg e]
  unfold Oper.wp
  rcases hop with hop | hop
  · simp [execOp, hop, hm, hx, hv, hrun, Result.andThen]
    exact hK' _ _ (hK w' hs r2)
  · simp [execOp, hop, hm, hx, hv, hrun, Result.andThen]
    exact hK' _ _ (hK w' hs r2)
theorem zero_b (w : World) : (zeroValue 4).run Try.prog w = .ok (.bool false) w := by kernel_rfl
/-- 'ms[r]' of a map of the blocks that may. -/
theorem out_look {w : World} {k : Nat} {l : List Int} (h : OutAt w k l) (hwt : Region.wanted o (yielded ops a.tmps) = true) (m x : Operand) (hop : o.op = Op.lookup 36 m x false) (hm : a.eval m = .map (some k)) (r : Int) (hx : a.eval x = .int .u64 r) (hr : 0 ≤ r ∧ r ≤ 18446744073709551615)
    (hK : wpList Try.prog ops Q rest (a.put o.dst (.bool (decide (r ∈ l)))) w) : wpList Try.prog ops Q (o :: rest) a w := by
  obtain ⟨_, n, D, hown, hS⟩ := h
  refine wpList_step fun K' hK' => ?_
  rw [if_pos hwt]
  obtain ⟨v, ps, hrun, hv⟩ := hown.lookup law Try.underlying36 (zero_b _) (plainElem_bool Try.underlying4 false) (hkey hr)
  rw [hS.at_] at hv
  have e : v = .bool (decide (r ∈ l)) := by
    unfold plainElem at hv
    rw [Try.underlying4] at hv
    cases v <;> simp at hv
    rw [hv.1]
  subst e
  unfold Oper.wp
  simp [execOp, hop, hm, hx, hrun, Result.andThen]
  exact hK' _ _ hK
/-- 'len(ms)'. -/
theorem out_size {w : World} {k : Nat} {l : List Int} (h : OutAt w k l) (hwt : Region.wanted o (yielded ops a.tmps) = true) (m : Operand) (hop : o.op = Op.call { callee := Callee.builtin Builtin.len, args := #[m], argTypes := #[36] }) (hm : a.eval m = .map (some k))
    (hK : wpList Try.prog ops Q rest (a.put o.dst (.int .i64 (l.length : Int))) w) : wpList Try.prog ops Q (o :: rest) a w := by
  obtain ⟨_, n, D, hown, hS⟩ := h
  refine wpList_step fun K' hK' => ?_
  rw [if_pos hwt]
  unfold Oper.wp
  simp [execOp, hop, resolve, invoke, builtin, hm, hown.len Try.underlying36 o.type, Result.andThen]
  rw [hS.size]
  exact hK' _ _ hK
end
theorem len_same {l m : List Int} (hl : l.Nodup) (hm : m.Nodup) (h : ∀ x, x ∈ l ↔ x ∈ m) : l.length = m.length :=
  Nat.le_antisymm (len_sub l m hl (fun x hx => (h x).1 hx)) (len_sub m l hm (fun x hx => (h x).2 hx))

/-! ### awake -/
def b1 : T := ⟨1, [⟨1, 1, 0, 0⟩]⟩
def b2 : T := ⟨1, [⟨1, 1, 0, 0⟩, ⟨2, 1, 3, 1⟩]⟩
theorem b_err : addErr b1 2 1 3 = none := by decide
theorem b_is : addOf b1 2 1 3 = b2 := by
  unfold addOf
  rfl
theorem b1_fit : Fit b1 := Fit.one 1 0 (by omega) (by omega)
theorem b1_high : ∀ x, has b1.ns x = true → 0 ≤ (getD b1.ns x).h ∧ (getD b1.ns x).h < 1024 := fun q hq => by
  rw [has_mem] at hq
  simp [b1] at hq
  subst hq
  decide
theorem b2_low : Low b2 := by
  refine ⟨by rw [← b_is]; exact b1_fit.add 2 1 3 (by omega), fun q hq => ?_, by decide⟩
  rw [has_mem] at hq
  simp [b2] at hq
  rcases hq with rfl | rfl <;> decide
theorem b2_has (x : Int) : has b2.ns x = true ↔ x = 1 ∨ x = 2 := by
  rw [has_mem]
  simp [b2]
theorem b_roots : rootsOf b2.ns = [1, 2] := by
  show List.mergeSort [1, 2] (fun x y => decide (x ≤ y)) = _
  first
    | exact List.mergeSort_of_pairwise (by decide)
    | exact List.mergeSort_of_sorted (by decide)
theorem b_kids1 : kidsOf b2 1 = [2] := by
  unfold kidsOf
  rw [b_roots]
  decide
theorem b_kids2 : kidsOf b2 2 = [] := by
  unfold kidsOf
  rw [b_roots]
  decide
theorem b_may2 (lf : Int → Bool) : may b2 lf 2 = lf 2 := by
  rw [may_eq b2_low lf (by decide), b_kids2]
  simp
theorem b_may1 (lf : Int → Bool) : may b2 lf 1 = lf 2 := by
  rw [may_eq b2_low lf (by decide), b_kids1]
  simp [b_may2]
theorem lf_a : lfOf b2 0 1 0 (fun _ => 0) 2 = true := by decide
theorem lf_b : lfOf b2 5 1 9 (fun y => if y = 2 then 3 else 0) 2 = false := by simp [lfOf, wrap64]
theorem out_a {l : List Int} (hd : l.Nodup) (h : ∀ x, x ∈ l ↔ has b2.ns x = true ∧ may b2 (lfOf b2 0 1 0 (fun _ => 0)) x = true) : l.length = 2 ∧ decide ((1 : Int) ∈ l) = true ∧ decide ((2 : Int) ∈ l) = true := by
  have h1 : (1 : Int) ∈ l := (h 1).2 ⟨by decide, by rw [b_may1, lf_a]⟩
  have h2 : (2 : Int) ∈ l := (h 2).2 ⟨by decide, by rw [b_may2, lf_a]⟩
  refine ⟨len_same hd (m := [1, 2]) (by decide) (fun x => ?_), decide_eq_true h1, decide_eq_true h2⟩
  constructor
  · intro hx
    have := (b2_has x).1 ((h x).1 hx).1
    simpa using this
  · intro hx
    simp at hx
    rcases hx with rfl | rfl
    · exact h1
    · exact h2
theorem out_b {l : List Int} (h : ∀ x, x ∈ l ↔ has b2.ns x = true ∧ may b2 (lfOf b2 5 1 9 (fun y => if y = 2 then 3 else 0)) x = true) : l = [] := by
  refine List.eq_nil_iff_forall_not_mem.2 fun x hx => ?_
  obtain ⟨h1, h2⟩ := (h x).1 hx
  rcases (b2_has x).1 h1 with rfl | rfl
  · rw [b_may1, lf_b] at h2; cases h2
  · rw [b_may2, lf_b] at h2; cases h2
set_option maxHeartbeats 16000000 in
theorem vawake_calls (w : World) : Calls Try.prog 9 #[] w fun e w' => e = .returned (.bool true) ∧ Below w.heap.size w w' := by
  have hmk : ∀ w : World, (Instr.makeMap 32 none).run Try.prog w = .ok (.map (some w.heap.size)) (w.alloc (.map #[] 0)) := fun _ => run_makeMap _ _
  go_enter Try.func9, Try.ntmps9
  go_wp2_with fail
  go_at_call 15
  refine (of_calls 1 0 w (by omega)).mono ?_
  rintro e w1 ⟨p, B, rfl, hm, hb, hp, hB⟩
  have HM := Aside0.mk (show Mem w1 p B b1 from hm)
  have HB1 := Aside0.mk hb
  have HP := Aside0.mk (And.intro hp hB)
  clear hm hb hp hB
  go_wp2_with fail
  go_at_call 16
  refine (add_calls p B b1 2 1 3 w1 HM.out (by omega) (by omega) b1_high).mono ?_
  rw [b_err, b_is]
  rintro e w2 ⟨rfl, hm, hb, _⟩
  have HM2 := Aside0.mk hm
  have HB2 := Aside0.mk (HB1.out.trans (hb w.heap.size HP.out.2 HB1.out.size))
  clear hm hb HM HB1
  unfold errV
  obtain ⟨g, hg⟩ : ∃ g, w2.heap.size = g := ⟨_, rfl⟩
  have HX := Aside0.mk (new_block w2 (.cells #[.int .i64 0, .int .u64 1] 31))
  rw [hg] at HX
  go_wp2_with fail
  go_at_call 12
  refine (vof_calls p B b2 0 1 0 1 0 (.map none) (fun _ => 0) _ b2_low (by omega) (HM2.out.below (below_alloc (Below.refl _ _) _)) (.inl ⟨rfl, fun _ => rfl⟩)).mono ?_
  rintro e w3 ⟨ka, rfl, hmo⟩
  obtain ⟨la, hoa, hma⟩ := hmo.out
  obtain ⟨f1, f2, f3⟩ := out_a hoa.1 hma
  have HLA := Aside0.mk f1
  have HL1 := Aside0.mk f2
  have HL2 := Aside0.mk f3
  have HBA : Aside0 (Below w2.heap.size w2 w3) := ⟨(below_alloc (Below.refl _ _) _).trans (hmo.bel.mono (by simp))⟩
  have HM3 := Aside0.mk (HM2.out.below HBA.out)
  have HB3 := Aside0.mk (HB2.out.trans (HBA.out.mono HB2.out.size))
  have HO3 := Aside0.mk hoa
  have HX3 : Aside0 (w3.heap[g]? = some (.cells #[.int .i64 0, .int .u64 1] 31 (0, 0))) := ⟨(hmo.bel.block g (by simp; omega)).trans HX.out⟩
  have x0 : w3.cell? ⟨g, 0, none⟩ = some (.int .i64 0) := by simp [World.cell?, HX3.out]
  have x1 : w3.cell? ⟨g, 1, none⟩ = some (.int .u64 1) := by simp [World.cell?, HX3.out]
  clear hmo hoa hma f1 f2 f3 HX hg
  go_wp2_with (refine src_put (srcBlk_made w3) (by unfold maxLen; omega) rfl _ _ _ (.inl rfl) rfl 2 3 rfl (by omega) rfl (by decide) ?_; intro w4 h1 h2; have HS4 := Aside0.mk h1; have HB4 : Aside0 (Below w3.heap.size w3 w4) := ⟨(below_alloc (Below.refl _ _) _).trans (turned_below h2 (Nat.le_refl _))⟩; clear h1 h2)
  go_at_call 12
  refine (vof_calls p B b2 5 1 0 1 9 (.map (some w3.heap.size)) (fun y => if y = 2 then 3 else 0) w4 b2_low (by omega) (HM3.out.below HB4.out) (HS4.out.at_ (by have := HS4.out.lt; omega))).mono ?_
  rintro e w5 ⟨kb, rfl, hmo⟩
  obtain ⟨lb, hob, hmb⟩ := hmo.out
  have hlb := out_b hmb
  subst hlb
  have HOB := Aside0.mk hob
  have HB5 : Aside0 (Below w3.heap.size w3 w5) := ⟨HB4.out.trans (hmo.bel.mono HB4.out.size)⟩
  have HOA := Aside0.mk (HO3.out.below HB5.out)
  have HBW := Aside0.mk (HB3.out.trans (HB5.out.mono HB3.out.size))
  clear hmo hob hmb
  go_wp2_with (first
    | (at_len; refine out_size HOA.out rfl _ rfl rfl ?_; rw [HLA.out])
    | (at_len; refine out_size HOB.out rfl _ rfl rfl ?_)
    | (at_lookup; refine out_look HOA.out rfl _ _ rfl rfl 1 rfl (by omega) ?_; rw [HL1.out])
    | (at_lookup; refine out_look HOA.out rfl _ _ rfl rfl 2 rfl (by omega) ?_; rw [HL2.out]))
  go_ret
  exact ⟨rfl, HBW.out⟩
end Go.Proofs.Ytlhpokpdpjlhiaa.Tree
