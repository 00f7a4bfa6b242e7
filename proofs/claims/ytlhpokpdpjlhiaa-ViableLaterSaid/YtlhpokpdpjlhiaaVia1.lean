/-
  Package viable: which blocks may (the plain side); leaf, by its contract.
-/
import Derived.Test.YtlhpokpdpjlhiaaKids
import Derived.Test.YtlhpokpdpjlhiaaFit
namespace Go.Proofs.Ytlhpokpdpjlhiaa.Tree
open Go.RowKit Go.Maps Go.Proofs.YtlhpokpdpjlhiaaW.PrintWords
set_option linter.unusedVariables false
set_option maxRecDepth 100000

/-! ### the plain side -/
theorem kid_is (t : T) (r x : Int) : x ∈ kidsOf t r ↔ has t.ns x = true ∧ x ≠ t.first ∧ (getD t.ns x).p = r := by
  unfold kidsOf
  rw [List.mem_filter, roots_mem]
  simp
/-- May a block lead to the head? n: how far up at most. -/
def mayN (t : T) (lf : Int → Bool) : Nat → Int → Bool
  | 0, _ => false
  | n + 1, r => ((kidsOf t r).isEmpty && lf r) || (kidsOf t r).any (mayN t lf n)
def may (t : T) (lf : Int → Bool) (r : Int) : Bool := mayN t lf 1024 r
structure Low (t : T) : Prop where
  fit : Fit t
  high : ∀ x, has t.ns x = true → (getD t.ns x).h < 1024
  len : t.ns.length ≤ 4096
theorem Low.kid {t : T} (L : Low t) {r x : Int} (h : x ∈ kidsOf t r) : has t.ns x = true ∧ x ≠ t.first ∧ (getD t.ns x).p = r ∧ (getD t.ns x).h = (getD t.ns r).h + 1 ∧ x ≠ r := by
  obtain ⟨h1, h2, h3⟩ := (kid_is t r x).1 h
  have h4 := L.fit.well.up x h1 h2
  rw [h3] at h4
  refine ⟨h1, h2, h3, h4.2.symm, fun e => ?_⟩
  rw [e] at h4
  omega
theorem mayN_same {t : T} (L : Low t) (lf : Int → Bool) : ∀ (n m : Nat) (r : Int), has t.ns r = true → 1024 - (getD t.ns r).h ≤ (n : Int) → 1024 - (getD t.ns r).h ≤ (m : Int) → mayN t lf n r = mayN t lf m r := by
  intro n
  induction n with
  | zero =>
    intro m r hr hn _
    have := L.high r hr
    omega
  | succ n ih =>
    intro m r hr hn hm
    cases m with
    | zero =>
      have := L.high r hr
      omega
    | succ m =>
      unfold mayN
      congr 1
      have : ∀ x ∈ kidsOf t r, mayN t lf n x = mayN t lf m x := fun x hx => by
        have h := L.kid hx
        exact ih m x h.1 (by omega) (by omega)
      revert this
      generalize kidsOf t r = l
      intro h
      induction l with
      | nil => rfl
      | cons y l ihl =>
        rw [List.any_cons, List.any_cons, h y (by simp), ihl (fun x hx => h x (by simp [hx]))]
theorem mayN_succ (t : T) (lf : Int → Bool) (n : Nat) (r : Int) : mayN t lf (n + 1) r = (((kidsOf t r).isEmpty && lf r) || (kidsOf t r).any (mayN t lf n)) := rfl
theorem any_same {f g : Int → Bool} {l : List Int} (h : ∀ x ∈ l, f x = g x) : l.any f = l.any g := by
  induction l with
  | nil => rfl
  | cons y l ih => rw [List.any_cons, List.any_cons, h y (by simp), ih (fun x hx => h x (by simp [hx]))]
theorem mayN_eq {t : T} (L : Low t) (lf : Int → Bool) (n : Nat) (hn : 1023 ≤ n) {r : Int} (hr : has t.ns r = true) : mayN t lf (n + 1) r = (((kidsOf t r).isEmpty && lf r) || (kidsOf t r).any (mayN t lf (n + 1))) := by
  rw [mayN_succ t lf n r]
  congr 1
  refine any_same fun x hx => ?_
  have h := L.kid hx
  have h0 := L.fit.well.root r hr
  exact mayN_same L lf n (n + 1) x h.1 (by omega) (by omega)
theorem may_eq {t : T} (L : Low t) (lf : Int → Bool) {r : Int} (hr : has t.ns r = true) : may t lf r = (((kidsOf t r).isEmpty && lf r) || (kidsOf t r).any (may t lf)) :=
  mayN_eq L lf 1023 (Nat.le_refl _) hr
/-- What stands on a block: it, or what stands on one of its kids. -/
theorem below_kids {t : T} (L : Low t) {r : Int} (hr : has t.ns r = true) (x : Int) : below t x r = true ↔ x = r ∨ ∃ k ∈ kidsOf t r, below t x k = true := by
  have F := L.fit
  constructor
  · have key : ∀ (n : Nat) (x : Int), (getD t.ns x).h ≤ (n : Int) → below t x r = true → x = r ∨ ∃ k ∈ kidsOf t r, below t x k = true := by
      intro n
      induction n with
      | zero =>
        intro x hn h
        have hx := (below_has h).1
        by_cases e : x = r
        · exact .inl e
        · by_cases e1 : x = t.first
          · rw [e1, below_first (by rw [← e1]; exact e)] at h; cases h
          · have h1 := F.well.up x hx e1
            have := F.well.root _ h1.1
            omega
      | succ n ih =>
        intro x hn h
        have hx := (below_has h).1
        by_cases e : x = r
        · exact .inl e
        · by_cases e1 : x = t.first
          · rw [e1, below_first (by rw [← e1]; exact e)] at h; cases h
          · have h1 := F.well.up x hx e1
            rw [F.below_up hx e1 e] at h
            by_cases e2 : (getD t.ns x).p = r
            · exact .inr ⟨x, (kid_is t r x).2 ⟨hx, e1, e2⟩, below_refl hx⟩
            · rcases ih _ (by omega) h with e3 | ⟨k, hk, hb⟩
              · exact absurd e3 e2
              · have hk' := L.kid hk
                have e4 : x ≠ k := fun e => e2 (by rw [e]; exact hk'.2.2.1)
                exact .inr ⟨k, hk, by rw [F.below_up hx e1 e4]; exact hb⟩
    intro h
    have := F.well.root x (below_has h).1
    exact key (getD t.ns x).h.toNat x (by omega) h
  · rintro (e | ⟨k, hk, hb⟩)
    · rw [e]; exact below_refl hr
    · have hk' := L.kid hk
      have h1 : below t k r = true := by
        rw [F.below_up hk'.1 hk'.2.1 hk'.2.2.2.2, hk'.2.2.1]
        exact below_refl hr
      have hx := F.well.root x (below_has hb).1
      exact F.below_trans (getD t.ns x).h.toNat x k r (by omega) hb h1
theorem below_all {t : T} (L : Low t) (x : Int) : below t x t.first = true ↔ has t.ns x = true := by
  have F := L.fit
  constructor
  · exact fun h => (below_has h).1
  · have key : ∀ (n : Nat) (x : Int), (getD t.ns x).h ≤ (n : Int) → has t.ns x = true → below t x t.first = true := by
      intro n
      induction n with
      | zero =>
        intro x hn hx
        by_cases e1 : x = t.first
        · rw [e1]; exact below_refl F.well.first
        · have h1 := F.well.up x hx e1
          have := F.well.root _ h1.1
          omega
      | succ n ih =>
        intro x hn hx
        by_cases e1 : x = t.first
        · rw [e1]; exact below_refl F.well.first
        · have h1 := F.well.up x hx e1
          rw [F.below_up hx e1 e1]
          exact ih _ (by omega) h1.1
    intro hx
    have := F.well.root x hx
    exact key (getD t.ns x).h.toNat x (by omega) hx

/-! ### a map of bools: the blocks that may -/
structure SaysB (D : DataW Unit) (l : List Int) : Prop where
  tidy : Tidy D
  size : Maps.size D = l.length
  has : ∀ r, Maps.has D (key r) = decide (r ∈ l)
  at_ : ∀ r, D.atKey (key r) (.lit (.bool false)) = .lit (.bool (decide (r ∈ l)))
theorem saysB_nil : SaysB (.map []) [] := ⟨tidy_empty, rfl, fun r => rfl, fun r => rfl⟩
def ins (l : List Int) (r : Int) : List Int := if r ∈ l then l else l ++ [r]
theorem ins_mem (l : List Int) (r x : Int) : x ∈ ins l r ↔ x ∈ l ∨ x = r := by
  unfold ins
  split
  · rename_i h
    exact ⟨.inl, fun e => e.elim id (fun e => e ▸ h)⟩
  · simp
theorem ins_nodup {l : List Int} (h : l.Nodup) (r : Int) : (ins l r).Nodup := by
  unfold ins
  split
  · exact h
  · rename_i hr
    rw [List.nodup_append]
    refine ⟨h, by simp, fun a ha b hb e => ?_⟩
    simp at hb
    subst hb
    subst e
    exact hr ha
theorem saysB_put {D : DataW Unit} {l : List Int} (h : SaysB D l) (r : Int) : SaysB (D.put (key r) (.lit (.bool true))) (ins l r) := by
  have hm := h.tidy.isMap
  refine ⟨h.tidy.put (by trivial) _, ?_, fun q => ?_, fun q => ?_⟩
  · rw [size_put h.tidy, h.has, h.size]
    unfold ins
    by_cases e : r ∈ l <;> simp [e]
  · by_cases e : q = r
    · subst e
      rw [has_put_same hm (by trivial), decide_eq_true ((ins_mem l q q).2 (.inr rfl))]
    · rw [has_put_other (fun h => e (by injection h)), h.has]
      refine decide_eq_decide.2 ?_
      rw [ins_mem]
      simp [e]
  · by_cases e : q = r
    · subst e
      rw [atKey_put_same hm (by trivial), decide_eq_true ((ins_mem l q q).2 (.inr rfl))]
    · rw [atKey_put_other (fun h => e (by injection h)), h.at_]
      congr 2
      refine decide_eq_decide.2 ?_
      rw [ins_mem]
      simp [e]

/-! ### the sources -/
/-- What the map of sources says, from a world on; it is not the block k. -/
def SrcAt (w : World) (k : Nat) (M : Value) (src : Int → Int) : Prop :=
  (M = .map none ∧ ∀ r, src r = 0) ∨ ∃ (b n : Nat) (D : DataW Unit), M = .map (some b) ∧ b ≠ k ∧ w.ownsMap Try.prog 29 (plainElem Try.prog 3) b n D ∧ ∀ r, 0 ≤ r ∧ r ≤ 18446744073709551615 → D.atKey (key r) (.lit (.int .i64 0)) = .lit (.int .i64 (src r))
theorem SrcAt.kept {w w' : World} {k : Nat} {M : Value} {src : Int → Int} (h : SrcAt w k M src) (hk : Kept w w' (fun i => i = k)) : SrcAt w' k M src := by
  rcases h with h | ⟨b, n, D, e, hne, hD, hs⟩
  · exact .inl h
  · have hl := hD.lt
    obtain ⟨es, clock, h1, h2⟩ := hD
    exact .inr ⟨b, n, D, e, hne, ⟨es, clock, (hk.2 b hl hne).trans h1, h2⟩, hs⟩
theorem own_low {R : Value → Option (DataW Unit × List MemPlace)} {w w' : World} {B n : Nat} {D : DataW Unit} (h : w.ownsMap Try.prog 29 R B n D) (hb : Below w.heap.size w w') : w'.ownsMap Try.prog 29 R B n D := by
  have hl := h.lt
  obtain ⟨es, clock, h1, h2⟩ := h
  exact ⟨es, clock, (hb.block B hl).trans h1, h2⟩
theorem SrcAt.below {w w' : World} {k : Nat} {M : Value} {src : Int → Int} (h : SrcAt w k M src) (hb : Below w.heap.size w w') : SrcAt w' k M src := by
  rcases h with h | ⟨b, n, D, e, hne, hD, hs⟩
  · exact .inl h
  · exact .inr ⟨b, n, D, e, hne, own_low hD hb, hs⟩
theorem zero_i (w : World) : (zeroValue 3).run Try.prog w = .ok (.int .i64 0) w := by kernel_rfl
theorem none_look (r : Int) (w : World) : (Instr.lookup 32 (.map none) (.int .u64 r) false).run Try.prog w = .ok (.int .i64 0) w := by kernel_rfl
theorem SrcAt.look {w : World} {k : Nat} {M : Value} {src : Int → Int} (h : SrcAt w k M src) (r : Int) (hr : 0 ≤ r ∧ r ≤ 18446744073709551615) : (Instr.lookup 32 M (.int .u64 r) false).run Try.prog w = .ok (.int .i64 (src r)) w := by
  rcases h with ⟨rfl, h⟩ | ⟨b, n, D, rfl, hne, hD, hs⟩
  · rw [none_look, h]
  · obtain ⟨c, hrun, hat, _⟩ := hD.lookup_int law Try.underlying32 Try.underlying3 (zero_i w) (hkey hr)
    rw [hs r hr] at hat
    injection hat with hat
    injection hat with _ hat
    rw [hrun, hat]
section
variable {ops : Array Oper} {rest : List Oper} {o : Oper} {a : Act} {Q : Exit → Act → World → Prop}
theorem src_look {w : World} {k : Nat} {M : Value} {src : Int → Int} (h : SrcAt w k M src) (hg : o.guard = none) (m x : Operand) (hop : o.op = Op.lookup 32 m x false) (hm : a.eval m = M) (r : Int) (hx : a.eval x = .int .u64 r) (hr : 0 ≤ r ∧ r ≤ 18446744073709551615)
    (hK : wpList Try.prog ops Q rest (a.put o.dst (.int .i64 (src r))) w) : wpList Try.prog ops Q (o :: rest) a w := by
  refine wpList_plain hg fun K' hK' => ?_
  unfold Oper.wp
  simp [execOp, hop, hm, hx, h.look r hr, Result.andThen]
  exact hK' _ _ hK
end
/-- A block without others on it may, if .. -/
def lfOf (t : T) (je fr ep : Int) (src : Int → Int) (r : Int) : Bool := (je == 0 || src r == je || decide (wrap64 (src r + 2) ≥ ep)) && below t r fr
set_option maxHeartbeats 8000000 in
theorem leaf_calls (p B k : Nat) (t : T) (je jr fe fr ep r : Int) (M : Value) (src : Int → Int) (w : World) (h : Mem w p B t) (W : Well t) (hS : SrcAt w k M src) (hr : 0 ≤ r ∧ r ≤ 18446744073709551615) (hf : 0 ≤ fr ∧ fr ≤ 18446744073709551615) :
    Calls Try.prog 18 #[.pointer (some ⟨p, 0, none⟩), .agg #[.int .i64 je, .int .u64 jr, .int .i64 fe, .int .u64 fr, .int .i64 ep, M], .int .u64 r] w fun e w' => e = .returned (.bool (lfOf t je fr ep src r)) ∧ Below w.heap.size w w' := by
  have H := Aside0.mk h
  have HW := Aside0.mk W
  have HS := Aside0.mk hS
  have HR := Aside0.mk hr
  have HF := Aside0.mk hf
  obtain ⟨b, hb⟩ : ∃ b, below t r fr = b := ⟨_, rfl⟩
  obtain ⟨s, hs⟩ : ∃ s, src r = s := ⟨_, rfl⟩
  have HB := Aside0.mk hb
  have HSR := Aside0.mk hs
  have hlf : lfOf t je fr ep src r = ((je == 0 || s == je || decide (wrap64 (s + 2) ≥ ep)) && b) := by unfold lfOf; rw [hb, hs]
  rw [hlf]
  clear h W hS hr hf hb hs hlf
  by_cases h1 : (je == 0) = true
  · rw [h1]
    go_enter Try.func18, Try.ntmps18
    go_wp2_with (first
      | (at_lookup; refine src_look (HS.out.below (below_alloc (Below.refl _ _) _)) rfl _ _ rfl rfl r rfl HR.out ?_; rw [HSR.out])
      | (go_at_call 23; refine (below_calls p B t r fr _ (H.out.below (below_alloc (Below.refl _ _) _)) HW.out HR.out HF.out).mono ?_; rw [HB.out]; rintro e w2 ⟨rfl, hb⟩; have HB2 := Aside0.mk (below_then (below_alloc (Below.refl w.heap.size w) _) (by simp) hb); clear hb))
    go_ret
    exact ⟨by simp, HB2.out⟩
  · have h1' : (je == 0) = false := by simpa using h1
    clear h1
    by_cases h2 : (s == je) = true
    · rw [h1', h2]
      go_enter Try.func18, Try.ntmps18
      go_wp2_with (first
        | (at_lookup; refine src_look (HS.out.below (below_alloc (Below.refl _ _) _)) rfl _ _ rfl rfl r rfl HR.out ?_; rw [HSR.out])
        | (go_at_call 23; refine (below_calls p B t r fr _ (H.out.below (below_alloc (Below.refl _ _) _)) HW.out HR.out HF.out).mono ?_; rw [HB.out]; rintro e w2 ⟨rfl, hb⟩; have HB2 := Aside0.mk (below_then (below_alloc (Below.refl w.heap.size w) _) (by simp) hb); clear hb))
      go_ret
      exact ⟨by simp, HB2.out⟩
    · have h2' : (s == je) = false := by simpa using h2
      clear h2
      by_cases h3 : wrap64 (s + 2) ≥ ep
      · have h3' : decide (wrap64 (s + 2) ≥ ep) = true := decide_eq_true h3
        rw [h1', h2', h3']
        clear h3
        go_enter Try.func18, Try.ntmps18
        go_wp2_with (first
          | (at_lookup; refine src_look (HS.out.below (below_alloc (Below.refl _ _) _)) rfl _ _ rfl rfl r rfl HR.out ?_; rw [HSR.out])
          | (go_at_call 23; refine (below_calls p B t r fr _ (H.out.below (below_alloc (Below.refl _ _) _)) HW.out HR.out HF.out).mono ?_; rw [HB.out]; rintro e w2 ⟨rfl, hb⟩; have HB2 := Aside0.mk (below_then (below_alloc (Below.refl w.heap.size w) _) (by simp) hb); clear hb))
        go_ret
        exact ⟨by simp, HB2.out⟩
      · have h3' : decide (wrap64 (s + 2) ≥ ep) = false := decide_eq_false h3
        rw [h1', h2', h3']
        clear h3
        go_enter Try.func18, Try.ntmps18
        go_wp2_with (at_lookup; refine src_look (HS.out.below (below_alloc (Below.refl _ _) _)) rfl _ _ rfl rfl r rfl HR.out ?_; rw [HSR.out])
        go_ret
        exact ⟨rfl, below_alloc (Below.refl _ _) _⟩
end Go.Proofs.Ytlhpokpdpjlhiaa.Tree
