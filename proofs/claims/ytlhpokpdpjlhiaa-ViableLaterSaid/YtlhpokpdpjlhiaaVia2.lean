/-
  Package viable: Of, by its contract: its closure, which calls itself through a box, by the tree's heights.
-/
import Derived.Test.YtlhpokpdpjlhiaaVia1
namespace Go.Proofs.Ytlhpokpdpjlhiaa.Tree
open Go.RowKit Go.Maps Go.Proofs.YtlhpokpdpjlhiaaW.PrintWords
set_option linter.unusedVariables false
set_option maxRecDepth 100000

/-- The closure's boxes, the tree, the sources; the map that is filled lies in block k. -/
structure IntoAt (w : World) (p B k bt bv bi bo : Nat) (t : T) (je jr fe fr ep : Int) (M : Value) (src : Int → Int) : Prop where
  tree : Mem w p B t
  ct : w.heap[bt]? = some (.cells #[.pointer (some ⟨p, 0, none⟩)] 24 (0, 0))
  cv : w.heap[bv]? = some (.cells #[.int .i64 je, .int .u64 jr, .int .i64 fe, .int .u64 fr, .int .i64 ep, M] 34 (0, 0))
  ci : w.heap[bi]? = some (.cells #[.func (.func 17) #[] #[.pointer (some ⟨bt, 0, none⟩), .pointer (some ⟨bv, 0, none⟩), .pointer (some ⟨bi, 0, none⟩), .pointer (some ⟨bo, 0, none⟩)]] 52 (0, 0))
  co : w.heap[bo]? = some (.cells #[.map (some k)] 36 (0, 0))
  src : SrcAt w k M src
  ne : p ≠ k ∧ B ≠ k ∧ bt ≠ k ∧ bv ≠ k ∧ bi ≠ k ∧ bo ≠ k
theorem IntoAt.kept {w w' : World} {p B k bt bv bi bo : Nat} {t : T} {je jr fe fr ep : Int} {M : Value} {src : Int → Int} (h : IntoAt w p B k bt bv bi bo t je jr fe fr ep M src) (hk : Kept w w' (fun i => i = k)) : IntoAt w' p B k bt bv bi bo t je jr fe fr ep M src := by
  have l : ∀ {i : Nat} {o : Obj}, w.heap[i]? = some o → i ≠ k → w'.heap[i]? = some o := fun {i o} hi hne => (hk.2 i (Array.getElem?_eq_some_iff.1 hi).1 hne).trans hi
  exact ⟨h.tree.move (hk.2 p h.tree.lt.1 h.ne.1) (hk.2 B h.tree.lt.2 h.ne.2.1), l h.ct h.ne.2.2.1, l h.cv h.ne.2.2.2.1, l h.ci h.ne.2.2.2.2.1, l h.co h.ne.2.2.2.2.2, h.src.kept hk, h.ne⟩
theorem IntoAt.below {w w' : World} {p B k bt bv bi bo : Nat} {t : T} {je jr fe fr ep : Int} {M : Value} {src : Int → Int} (h : IntoAt w p B k bt bv bi bo t je jr fe fr ep M src) (hb : Below w.heap.size w w') : IntoAt w' p B k bt bv bi bo t je jr fe fr ep M src :=
  h.kept ⟨hb.size, fun i hi _ => hb.block i hi⟩
/-- The map that is filled: which blocks it holds. -/
def OutAt (w : World) (k : Nat) (l : List Int) : Prop := l.Nodup ∧ ∃ (n : Nat) (D : DataW Unit), w.ownsMap Try.prog 29 (plainElem Try.prog 4) k n D ∧ SaysB D l
theorem OutAt.below {w w' : World} {k : Nat} {l : List Int} (h : OutAt w k l) (hb : Below w.heap.size w w') : OutAt w' k l := by
  obtain ⟨hn, n, D, h2, h3⟩ := h
  exact ⟨hn, n, D, own_low h2 hb, h3⟩
theorem kept_then {w1 w2 w3 : World} {P : Nat → Prop} (h1 : Kept w1 w2 P) (h2 : Kept w2 w3 P) : Kept w1 w3 P := by
  have hs := h1.1
  exact ⟨Nat.le_trans h1.1 h2.1, fun i hi hp => (h2.2 i (by omega) hp).trans (h1.2 i hi hp)⟩
/-- What the closure has done, from the world in which it was called on. -/
structure Done (w : World) (k : Nat) (l : List Int) (S : Int → Prop) (w' : World) : Prop where
  kept : Kept w w' (fun i => i = k)
  bel : ∀ b, b ≤ k → b ≤ w.heap.size → Below b w w'
  out : ∃ l', OutAt w' k l' ∧ ∀ x, x ∈ l' ↔ x ∈ l ∨ S x
theorem Done.below {w : World} {k : Nat} {l : List Int} {S : Int → Prop} {w' w2 : World} (h : Done w k l S w') (hb : Below w'.heap.size w' w2) : Done w k l S w2 := by
  refine ⟨kept_then h.kept ⟨hb.size, fun i hi _ => hb.block i hi⟩, fun b h1 h2 => (h.bel b h1 h2).trans (hb.mono (by have := h.kept.1; omega)), ?_⟩
  obtain ⟨l', h1, h2⟩ := h.out
  exact ⟨l', h1.below hb, h2⟩
theorem Done.turn {w : World} {k : Nat} {l : List Int} {S S' : Int → Prop} {w' : World} (h : Done w k l S w') (he : ∀ x, S x ↔ S' x) : Done w k l S' w' := by
  obtain ⟨l', h1, h2⟩ := h.out
  exact ⟨h.kept, h.bel, l', h1, fun x => by rw [h2, he]⟩
/-- One call behind what was done. -/
theorem Done.then_ {w : World} {k : Nat} {l : List Int} {S S2 : Int → Prop} {w1 w2 : World} (h : Done w k l S w1) (l1 : List Int) (hl1 : ∀ x, x ∈ l1 ↔ x ∈ l ∨ S x) (h2 : Done w1 k l1 S2 w2) : Done w k l (fun x => S x ∨ S2 x) w2 := by
  refine ⟨kept_then h.kept h2.kept, fun b b1 b2 => (h.bel b b1 b2).trans (h2.bel b b1 (by have := h.kept.1; omega)), ?_⟩
  obtain ⟨l', e1, e2⟩ := h2.out
  exact ⟨l', e1, fun x => by rw [e2, hl1, or_assoc]⟩
theorem cell1 {w : World} {g t : Nat} {v : Value} (h : w.heap[g]? = some (.cells #[v] t (0, 0))) : w.cell? ⟨g, 0, none⟩ = some v := by simp [World.cell?, h]
theorem cells6 {w : World} {g t : Nat} {v0 v1 v2 v3 v4 v5 : Value} (h : w.heap[g]? = some (.cells #[v0, v1, v2, v3, v4, v5] t (0, 0))) :
    w.cell? ⟨g, 0, none⟩ = some v0 ∧ w.cell? ⟨g, 1, none⟩ = some v1 ∧ w.cell? ⟨g, 2, none⟩ = some v2 ∧ w.cell? ⟨g, 3, none⟩ = some v3 ∧ w.cell? ⟨g, 4, none⟩ = some v4 ∧ w.cell? ⟨g, 5, none⟩ = some v5 :=
  ⟨by simp [World.cell?, h], by simp [World.cell?, h], by simp [World.cell?, h], by simp [World.cell?, h], by simp [World.cell?, h], by simp [World.cell?, h]⟩
section
variable {ops : Array Oper} {rest : List Oper} {o : Oper} {a : Act} {Q : Exit → Act → World → Prop}
/-- 'out[r] = true' at the operation. -/
theorem out_put {w : World} {k : Nat} {l : List Int} (h : OutAt w k l) (hn : l.length ≤ 4096) (hg : o.guard = none) (m x v : Operand) (hop : o.op = Op.mapUpdate 36 m x v) (hm : a.eval m = .map (some k)) (r : Int) (hx : a.eval x = .int .u64 r) (hr : 0 ≤ r ∧ r ≤ 18446744073709551615) (hv : a.eval v = .bool true)
    (hK : ∀ w', OutAt w' k (ins l r) → w.mapTurned w' k → wpList Try.prog ops Q rest (a.put o.dst undef) w') : wpList Try.prog ops Q (o :: rest) a w := by
  obtain ⟨hd, n, D, hown, hS⟩ := h
  refine wpList_plain hg fun K' hK' => ?_
  have ht : w.ownsMap Try.prog 29 (plainElem Try.prog 4) k l.length D := by
    obtain ⟨es, clock, h1, h2, h3, h4⟩ := hown
    refine ⟨es, clock, h1, h2, ?_, h4⟩
    have := hS.size
    rw [h4] at this
    have e : ((es.toList.map (Go.WideElems.rg Try.prog 29 (plainElem Try.prog 4))).foldr DataW.insert []).length = l.length := this
    rw [length_sorted] at e
    simp at e
    omega
  obtain ⟨w', hrun, r1, r2⟩ := ht.store law Try.underlying36 (by unfold maxLen; omega) (hkey hr) (plainElem_bool Try.underlying4 true)
  unfold Oper.wp
  simp [execOp, hop, hm, hx, hv, hrun, Result.andThen]
  exact hK' _ _ (hK w' ⟨ins_nodup hd r, _, _, r1, saysB_put hS r⟩ r2)
end
theorem len_sub : ∀ (l m : List Int), l.Nodup → (∀ x ∈ l, x ∈ m) → l.length ≤ m.length
  | [], _, _, _ => Nat.zero_le _
  | a :: l, m, hn, hs => by
    rw [List.nodup_cons] at hn
    have ha := hs a (by simp)
    have := len_sub l (m.erase a) hn.2 (fun x hx => (List.mem_erase_of_ne (fun e => by subst e; exact hn.1 hx)).2 (hs x (by simp [hx])))
    rw [List.length_erase_of_mem ha] at this
    have := List.length_pos_of_mem ha
    simp only [List.length_cons]
    omega
theorem out_len {w : World} {k : Nat} {l : List Int} {t : T} (h : OutAt w k l) (hs : ∀ x ∈ l, has t.ns x = true) (hl : t.ns.length ≤ 4096) : l.length ≤ 4096 := by
  have : l.length ≤ (t.ns.map (·.r)).length := len_sub l _ h.1 (fun x hx => (has_mem t.ns x).1 (hs x hx))
  rw [List.length_map] at this
  omega
theorem turned_kept' {w w' : World} {k : Nat} (h : w.mapTurned w' k) : Kept w w' (fun i => i = k) := turned_kept h
/-- What a kid's turn has told. -/
def isUp (t : T) (lf : Int → Bool) (ks : List Int) (r : Int) (k : Nat) : Bool := (ks.isEmpty && lf r) || (ks.take k).any (may t lf)
theorem isUp_next (t : T) (lf : Int → Bool) (ks : List Int) (r : Int) (k : Nat) (hk : k < ks.length) : isUp t lf ks r (k + 1) = (may t lf (rd ks (k : Int)) || isUp t lf ks r k) := by
  unfold isUp
  rw [List.take_succ_eq_append_getElem hk, List.any_append]
  have : rd ks (k : Int) = ks[k] := by simp [rd, List.getD_eq_getElem?_getD, hk]
  rw [this]
  simp only [List.any_cons, List.any_nil, Bool.or_false]
  rw [← Bool.or_assoc, Bool.or_comm]
theorem isUp_all {t : T} (L : Low t) (lf : Int → Bool) {r : Int} (hr : has t.ns r = true) : isUp t lf (kidsOf t r) r (kidsOf t r).length = may t lf r := by
  unfold isUp
  rw [List.take_length, may_eq L lf hr]
/-- Which blocks are laid in by the first k kids. -/
def upS (t : T) (lf : Int → Bool) (ks : List Int) (k : Nat) (x : Int) : Prop := ∃ y ∈ ks.take k, below t x y = true ∧ may t lf x = true

theorem upS_next (t : T) (lf : Int → Bool) (ks : List Int) (k : Nat) (hk : k < ks.length) (x : Int) : (upS t lf ks k x ∨ (below t x (rd ks (k : Int)) = true ∧ may t lf x = true)) ↔ upS t lf ks (k + 1) x := by
  have e : rd ks (k : Int) = ks[k] := by simp [rd, List.getD_eq_getElem?_getD, hk]
  unfold upS
  rw [List.take_succ_eq_append_getElem hk, e]
  constructor
  · rintro (⟨y, hy, h⟩ | h)
    · exact ⟨y, List.mem_append.2 (.inl hy), h⟩
    · exact ⟨ks[k], List.mem_append.2 (.inr (List.mem_singleton.2 rfl)), h⟩
  · rintro ⟨y, hy, h⟩
    rw [List.mem_append, List.mem_singleton] at hy
    rcases hy with hy | rfl
    · exact .inl ⟨y, hy, h⟩
    · exact .inr h
theorem upS_all {t : T} {lf : Int → Bool} {ks : List Int} {r : Int} (hb : ∀ x, below t x r = true ↔ x = r ∨ ∃ y ∈ ks, below t x y = true) (x : Int) : (upS t lf ks ks.length x ∨ (may t lf r = true ∧ x = r)) ↔ (below t x r = true ∧ may t lf x = true) := by
  unfold upS
  rw [List.take_length, hb]
  constructor
  · rintro (⟨y, hy, h⟩ | ⟨h, rfl⟩)
    · exact ⟨.inr ⟨y, hy, h.1⟩, h.2⟩
    · exact ⟨.inl rfl, h⟩
  · rintro ⟨rfl | ⟨y, hy, h⟩, hm⟩
    · exact .inr ⟨hm, rfl⟩
    · exact .inl ⟨y, hy, h, hm⟩
theorem Done.put {w : World} {k : Nat} {l : List Int} {S : Int → Prop} {w1 w2 : World} {r : Int} (h : Done w k l S w1) (l1 : List Int) (hl1 : ∀ x, x ∈ l1 ↔ x ∈ l ∨ S x) (ho : OutAt w2 k (ins l1 r)) (ht : w1.mapTurned w2 k) : Done w k l (fun x => S x ∨ x = r) w2 :=
  h.then_ l1 hl1 ⟨turned_kept ht, fun b hb _ => turned_below ht hb, _, ho, fun x => ins_mem l1 r x⟩
theorem upS_has {t : T} {lf : Int → Bool} {ks : List Int} {k : Nat} {x : Int} (h : upS t lf ks k x) : has t.ns x = true := by
  obtain ⟨y, _, h, _⟩ := h
  exact (below_has h).1
theorem OutAt.lt {w : World} {k : Nat} {l : List Int} (h : OutAt w k l) : k < w.heap.size := by
  obtain ⟨_, n, D, h1, _⟩ := h
  exact h1.lt

set_option maxHeartbeats 16000000 in
theorem into_calls (p B k bt bv bi bo : Nat) (t : T) (je jr fe fr ep : Int) (M : Value) (src : Int → Int) (L : Low t) (hf : 0 ≤ fr ∧ fr ≤ 18446744073709551615) : ∀ (n : Nat) (r : Int) (w : World) (l : List Int), has t.ns r = true → 1024 - (getD t.ns r).h ≤ (n : Int) → IntoAt w p B k bt bv bi bo t je jr fe fr ep M src → OutAt w k l → (∀ x ∈ l, has t.ns x = true) →
    Calls Try.prog 17 #[.int .u64 r, .pointer (some ⟨bt, 0, none⟩), .pointer (some ⟨bv, 0, none⟩), .pointer (some ⟨bi, 0, none⟩), .pointer (some ⟨bo, 0, none⟩)] w fun e w' =>
      e = .returned (.bool (may t (lfOf t je fr ep src) r)) ∧ Done w k l (fun x => below t x r = true ∧ may t (lfOf t je fr ep src) x = true) w' := by
  intro n
  induction n with
  | zero =>
    intro r w l hr hn
    have := L.high r hr
    omega
  | succ n ih =>
    intro r w l hr hn hI hO hl
    have IH := Aside0.mk ih
    have HI := Aside0.mk hI
    have HR := Aside0.mk (L.fit.well.wide r hr)
    have HD0 : Aside0 (Done w k l (upS t (lfOf t je fr ep src) (kidsOf t r) 0) w) := ⟨⟨Nat.le_refl _, fun _ _ _ => rfl⟩, fun _ _ _ => Below.refl _ _, l, hO, fun x => by simp [upS]⟩
    have HLL := Aside0.mk L
    have HF := Aside0.mk hf
    have HH := Aside0.mk hr
    have HN := Aside0.mk hn
    have HX := Aside0.mk hl
    have HSO := Aside0.mk (isUp_all L (lfOf t je fr ep src) hr)
    have HKD : Aside0 (∀ x, x ∈ kidsOf t r → has t.ns x = true ∧ 1024 - (getD t.ns x).h ≤ (n : Int)) := ⟨fun x hx => by have := L.kid hx; exact ⟨this.1, by omega⟩⟩
    have HBK := Aside0.mk (below_kids L hr)
    have HLT := Aside0.mk hO.lt
    have hkl : (kidsOf t r).length ≤ 4096 := by
      unfold kidsOf
      have h1 := List.length_filter_le (fun x => decide (x ≠ t.first) && decide ((getD t.ns x).p = r)) (rootsOf t.ns)
      rw [roots_length] at h1
      have := L.len
      omega
    have HKL := Aside0.mk hkl
    clear hkl
    have c1 := cell1 hI.ct
    have c3 := cell1 hI.ci
    have c4 := cell1 hI.co
    clear ih hI hO hl hr hn
    go_enter Try.func17, Try.ntmps17
    go_wp2_with fail
    go_at_call 14
    refine (kids_calls p B t r w HI.out.tree HLL.out.fit.uniq HLL.out.fit.ne HLL.out.len HLL.out.fit.well.wide).mono ?_
    obtain ⟨ks, hks⟩ : ∃ ks, kidsOf t r = ks := ⟨_, rfl⟩
    rw [hks]
    rw [hks] at HD0 HSO HKD HBK HKL
    rintro e w1 ⟨v, rfl, hR, hb⟩
    obtain ⟨Ak, ck, rfl⟩ := Kd.R_slice hR
    have HRK : Aside0 (Kd.R (Kd.int .u64) 29 w1 w.heap.size (fun b => b ≠ k) (.slice Ak ks.length ck) ks) := ⟨Kd.R_reok rfl hR (fun b hb => by have := Kd.R_base hR b hb; have := HLT.out; omega)⟩
    have HDN := Aside0.mk (HD0.out.below hb)
    have HI1 := Aside0.mk (HI.out.below hb)
    clear hR hb HD0 c1 c3 c4
    by_cases hke : ks = []
    · subst hke
      rw [show ([] : List Int).length = 0 from rfl]
      have c1 := cell1 HI1.out.ct
      obtain ⟨v0, v1, v2, v3, v4, v5⟩ := cells6 HI1.out.cv
      have hm : lfOf t je fr ep src r = may t (lfOf t je fr ep src) r := by rw [← HSO.out]; simp [isUp]
      have HMY := Aside0.mk hm
      clear hm
      go_wp2_with fail
      go_at_call 18
      refine (leaf_calls p B k t je jr fe fr ep r M src w1 HI1.out.tree HLL.out.fit.well HI1.out.src HR.out HF.out).mono ?_
      rw [HMY.out]
      rintro e w2 ⟨rfl, hb⟩
      have HDN2 : Aside0 (Done w k l (upS t (lfOf t je fr ep src) [] ([] : List Int).length) w2) := ⟨HDN.out.below hb⟩
      have HI2 := Aside0.mk (HI1.out.below hb)
      clear hb c1 v0 v1 v2 v3 v4 v5
      by_cases hmr : may t (lfOf t je fr ep src) r = true
      · have HMR := Aside0.mk hmr
        have HUP := Aside0.mk (upS_all (lf := lfOf t je fr ep src) HBK.out)
        obtain ⟨l1, hO1, hm1⟩ := HDN2.out.out
        have HO1 := Aside0.mk hO1
        have HM1 := Aside0.mk hm1
        have HL1 : Aside0 (l1.length ≤ 4096) := ⟨out_len hO1 (fun x hx => ((hm1 x).1 hx).elim (HX.out x) upS_has) HLL.out.len⟩
        have c4 := cell1 HI2.out.co
        rw [hmr]
        clear hO1 hm1 hmr
        go_wp2_with fail
        refine wp_loop_rounds 1 ?_
        rw [rounds_succ]
        go_wp2_with (at_mapUpdate; go_loud (refine out_put HO1.out HL1.out rfl _ _ _ rfl rfl r rfl HR.out rfl ?_); go_loud (intro w3 h1 h2; have HO2 := Aside0.mk h1; have HT2 := Aside0.mk h2); clear h1 h2)
        go_ret
        exact ⟨by rw [HMR.out]; rfl, (HDN2.out.put l1 HM1.out HO2.out HT2.out).turn (fun x => by rw [← HUP.out x, HMR.out]; simp)⟩
      · have hmr' : may t (lfOf t je fr ep src) r = false := by simpa using hmr
        have HMR := Aside0.mk hmr'
        have HUP := Aside0.mk (upS_all (lf := lfOf t je fr ep src) HBK.out)
        rw [hmr']
        clear hmr hmr'
        go_wp2_with fail
        refine wp_loop_rounds 1 ?_
        rw [rounds_succ]
        go_wp2_with fail
        go_ret
        exact ⟨by rw [HMR.out]; rfl, HDN2.out.turn (fun x => by rw [← HUP.out x, HMR.out]; simp)⟩
    · have hz : ((ks.length : Int) == 0) = false := by
        rw [beq_eq_false_iff_ne]
        have := List.length_pos_iff.2 hke
        omega
      have HI0 : Aside0 (isUp t (lfOf t je fr ep src) ks r 0 = false) := ⟨by unfold isUp; cases ks with | nil => exact absurd rfl hke | cons a b => simp⟩
      clear hke
      go_wp2_with fail
      go_loopw [8, 25] (fun v8 v25 wr => ∃ j : Nat, j ≤ ks.length ∧ v25 = .int .i64 j ∧ v8 = .bool (isUp t (lfOf t je fr ep src) ks r j) ∧ Aside0 (IntoAt wr p B k bt bv bi bo t je jr fe fr ep M src) ∧ Aside0 (Kd.R (Kd.int .u64) 29 wr w.heap.size (fun b => b ≠ k) (.slice Ak ks.length ck) ks) ∧ Aside0 (Done w k l (upS t (lfOf t je fr ep src) ks j) wr)) (fun _ v25 _ => ks.length - (RowKit.intOf v25).toNat)
      case atStart => exact ⟨0, by omega, rfl, by rw [HI0.out], HI1, HRK, HDN⟩
      case round =>
        obtain ⟨j, hj, rfl, rfl, HI1, HRK, HDN⟩ := hrel
        by_cases hjl : j < ks.length
        · have t1 : decide ((j : Int) < (ks.length : Int)) = true := decide_eq_true (by omega)
          have hwk : wrap64 ((j : Int) + 1) = ((j + 1 : Nat) : Int) := by have := HKL.out; unfold wrap64; omega
          have HWK := Aside0.mk hwk
          obtain ⟨ad, rfl, hc⟩ := Kd.at_int (Kd.R_reads' HRK.out).2.2 (j : Int) (by omega) (by omega)
          rw [Int.toNat_natCast] at hc
          have c3 := cell1 HI1.out.ci
          obtain ⟨b0, hb0⟩ : ∃ b, isUp t (lfOf t je fr ep src) ks r j = b := ⟨_, rfl⟩
          have hnx := isUp_next t (lfOf t je fr ep src) ks r j hjl
          rw [hb0] at hnx
          rw [hb0]
          have HNX := Aside0.mk hnx
          clear hwk hnx hb0
          go_wp2_with fail
          have hqm : rd ks (j : Int) ∈ ks := by
            have : rd ks (j : Int) = ks[j] := by simp [rd, List.getD_eq_getElem?_getD, hjl]
            rw [this]
            exact List.getElem_mem hjl
          obtain ⟨l1, hO1, hm1⟩ := HDN.out.out
          have hx1 : ∀ x ∈ l1, has t.ns x = true := fun x hx => ((hm1 x).1 hx).elim (HX.out x) upS_has
          refine (IH.out (rd ks (j : Int)) wr l1 (HKD.out _ hqm).1 (HKD.out _ hqm).2 HI1.out hO1 hx1).mono ?_
          rintro e w2 ⟨rfl, hd⟩
          have HDN2 : Aside0 (Done w k l (upS t (lfOf t je fr ep src) ks (j + 1)) w2) := ⟨(HDN.out.then_ l1 hm1 hd).turn (fun x => upS_next t _ ks j hjl x)⟩
          have HI2 := Aside0.mk (HI1.out.kept hd.kept)
          have HRK2 := Aside0.mk (Kd.R_kept HRK.out hd.kept (fun b ho he => ho he))
          obtain ⟨mq, hmq⟩ : ∃ b, may t (lfOf t je fr ep src) (rd ks (j : Int)) = b := ⟨_, rfl⟩
          rw [hmq] at HNX
          rw [hmq]
          clear hqm hO1 hm1 hx1 hd hmq hc c3
          cases mq
          · go_wp2_with fail
            go_roundw
            case rel => exact ⟨j + 1, by omega, by rw [HWK.out], by rw [HNX.out]; rfl, HI2, HRK2, HDN2⟩
            case measure => rw [HWK.out]; simp [RowKit.intOf]; omega
          · go_wp2_with fail
            go_roundw
            case rel => exact ⟨j + 1, by omega, by rw [HWK.out], by rw [HNX.out]; rfl, HI2, HRK2, HDN2⟩
            case measure => rw [HWK.out]; simp [RowKit.intOf]; omega
        · have t1 : decide ((j : Int) < (ks.length : Int)) = false := decide_eq_false (by omega)
          obtain rfl : j = ks.length := by omega
          rw [HSO.out]
          by_cases hmr : may t (lfOf t je fr ep src) r = true
          · have HMR := Aside0.mk hmr
            have HUP := Aside0.mk (upS_all (lf := lfOf t je fr ep src) HBK.out)
            obtain ⟨l1, hO1, hm1⟩ := HDN.out.out
            have HO1 := Aside0.mk hO1
            have HM1 := Aside0.mk hm1
            have HL1 : Aside0 (l1.length ≤ 4096) := ⟨out_len hO1 (fun x hx => ((hm1 x).1 hx).elim (HX.out x) upS_has) HLL.out.len⟩
            have c4 := cell1 HI1.out.co
            rw [hmr]
            clear hO1 hm1 hmr
            go_wp2_with (at_mapUpdate; go_loud (refine out_put HO1.out HL1.out rfl _ _ _ rfl rfl r rfl HR.out rfl ?_); go_loud (intro w3 h1 h2; have HO2 := Aside0.mk h1; have HT2 := Aside0.mk h2); clear h1 h2)
            go_ret
            exact ⟨by rw [HMR.out]; rfl, (HDN.out.put l1 HM1.out HO2.out HT2.out).turn (fun x => by rw [← HUP.out x, HMR.out]; simp)⟩
          · have hmr' : may t (lfOf t je fr ep src) r = false := by simpa using hmr
            have HMR := Aside0.mk hmr'
            have HUP := Aside0.mk (upS_all (lf := lfOf t je fr ep src) HBK.out)
            rw [hmr']
            clear hmr hmr'
            go_wp2_with fail
            go_ret
            exact ⟨by rw [HMR.out]; rfl, HDN.out.turn (fun x => by rw [← HUP.out x, HMR.out]; simp)⟩
end Go.Proofs.Ytlhpokpdpjlhiaa.Tree
