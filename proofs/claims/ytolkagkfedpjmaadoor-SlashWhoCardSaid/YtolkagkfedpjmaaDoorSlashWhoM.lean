/-
  The walk of the law SlashWho of package psephoslaw06: its call answers true, and writes nothing that was there; of any configuration and any two votes, where the library's variable is laid.
-/
import Derived.Test.YtolkagkfedpjmaaDoorQTx2
import Derived.Test.YtolkagkfedpjmaaDoorQTx3
import Derived.Test.YtolkagkfedpjmaaDoorQTx4
import Derived.Test.YtolkagkfedpjmaaDoorQTx5
import Derived.Test.YtolkagkfedpjmaaDoorQTx6
import Derived.Test.YtolkagkfedpjmaaDoorOwn
import Derived.Test.YtolkagkfedpjmaaDoorQTx11
import Derived.Test.YtolkagkfedpjmaaDoorQTx17
import Derived.Test.YtolkagkfedpjmaaDoorQTx18
import Derived.Test.YtolkagkfedpjmaaDoorQTx19
import Derived.Test.YtolkagkfedpjmaaDoorVotePureB
import Derived.Test.YtolkagkfedpjmaaDoorNumber
import Derived.Test.YtolkagkfedpjmaaDoorOpenStruct
import Derived.Test.YtolkagkfedpjmaaDoorQTx8
import Derived.Deep.RegionHeld3
namespace Go.Proofs.YtolkagkfedpjmaaDoor.QT
open Go.RowKit Go.Proofs.YtolkagkfedpjmaaDoorW.PrintWords Go.Proofs.YtolkagkfedpjmaaDoorW.PrintLast Go.Proofs.YtolkagkfedpjmaaDoorW.PrintMore
set_option linter.unusedVariables false

def sameB (s h se sr te tr s' h' se' sr' te' tr' : Int) : Bool := decide (s = s' ∧ h = h' ∧ (se = se' ∧ sr = sr') ∧ te = te' ∧ tr = tr')
def dblB (s h se sr te tr s' h' se' sr' te' tr' : Int) : Bool := decide (te = te') && !sameB s h se sr te tr s' h' se' sr' te' tr'
def arnB (se te se' te' : Int) : Bool := decide (se < se') && decide (te' < te)
theorem same_is (s h se sr te tr s' h' se' sr' te' tr' : Int) (l l' : List Int) : vote_Same.f s h se sr te tr l s' h' se' sr' te' tr' l' = some (sameB s h se sr te tr s' h' se' sr' te' tr') := by
  unfold vote_Same.f sameB
  by_cases c1 : s = s'
  · by_cases c2 : h = h'
    · by_cases c3 : se = se'
      · by_cases c4 : sr = sr'
        · by_cases c5 : te = te'
          · by_cases c6 : tr = tr' <;> simp [c1, c2, c3, c4, c5, c6]
          · simp [c1, c2, c3, c4, c5]
        · simp [c1, c2, c3, c4]
      · simp [c1, c2, c3]
    · simp [c1, c2]
  · simp [c1]
theorem dbl_is (s h se sr te tr s' h' se' sr' te' tr' : Int) (l l' : List Int) : slash_Double.f s h se sr te tr l s' h' se' sr' te' tr' l' = some (dblB s h se sr te tr s' h' se' sr' te' tr') := by
  unfold slash_Double.f dblB
  rw [same_is]
  by_cases c : te = te' <;> simp [c]
theorem arn_is (s h se sr te tr s' h' se' sr' te' tr' : Int) (l l' : List Int) : slash_Around.f s h se sr te tr l s' h' se' sr' te' tr' l' = some (arnB se te se' te') := by
  unfold slash_Around.f arnB
  by_cases c : se < se' <;> simp [c]
theorem bad_is (s h se sr te tr s' h' se' sr' te' tr' : Int) (l l' : List Int) : slash_Bad.f s h se sr te tr l s' h' se' sr' te' tr' l' = some (dblB s h se sr te tr s' h' se' sr' te' tr' || arnB se te se' te' || arnB se' te' se te) := by
  unfold slash_Bad.f
  rw [dbl_is, arn_is, arn_is]
  cases dblB s h se sr te tr s' h' se' sr' te' tr' <;> cases arnB se te se' te' <;> simp
theorem same_turn (s h se sr te tr s' h' se' sr' te' tr' : Int) : sameB s' h' se' sr' te' tr' s h se sr te tr = sameB s h se sr te tr s' h' se' sr' te' tr' := by
  unfold sameB
  simp only [eq_comm]
theorem dbl_turn (s h se sr te tr s' h' se' sr' te' tr' : Int) : dblB s' h' se' sr' te' tr' s h se sr te tr = dblB s h se sr te tr s' h' se' sr' te' tr' := by
  unfold dblB
  rw [same_turn]
  simp only [eq_comm]
theorem bad_self (s h se sr te tr : Int) (l : List Int) : slash_Bad.f s h se sr te tr l s h se sr te tr l = some false := by
  rw [bad_is]
  simp [dblB, sameB, arnB]
theorem awake_is : psephoslaw06_awake.f = some true := by decide +kernel
end Go.Proofs.YtolkagkfedpjmaaDoor.QT
namespace Go.Proofs.YtolkagkfedpjmaaDoor.Block
open Go.RowKit Go.Proofs.YtolkagkfedpjmaaDoorW.PrintWords Go.Proofs.YtolkagkfedpjmaaDoor.Own

/-- A store of a whole struct into a block that is known whole. -/
theorem store_block {P : Program} {ops : Array Oper} {rest : List Oper} {o : Oper} {a : Act} {Q : Exit → Act → World → Prop} {W : World} (hN : o.dst = none) (hgd : o.guard = none) (t : TypeId) (p x : Operand) (ho : o.op = .store t p x) (g : Nat) (e : TypeId) (cur cs : Array Value)
    (haddr : a.eval p = .pointer (some ⟨g, 0, none⟩)) (hx : a.eval x = .agg cs) (hh : W.heap[g]? = some (.cells cur e (0, 0))) (hsz : cs.size = cur.size) (ht : (P.info? t).map (·.size) = some cs.size) (h1 : ∀ q ∈ cs.toList, q.oneCell' = true)
    (h : ∀ w1, w1.heap[g]? = some (.cells cs e (0, 0)) → W.grownBy w1 (some g) → wpList P ops Q rest a w1) : wpList P ops Q (o :: rest) a W := by
  have hrun := run_store_run (P := P) (w := W) (o := 0) t (.agg cs) cs.toList hh rfl (by rw [ht, Array.length_toList]) (by simp [hsz]) h1
  have hs := setCells_same g cs.toList 0 W
  have hr := setCells_row cs.toList 0 W cur hh (by simp [hsz])
  refine wpList_plain hgd fun K hK => ?_
  unfold Oper.wp execOp
  simp only [ho, haddr, hx, Sem.run_bind, Sem.run_pure, Result.andThen_ok, hrun]
  show K (a.put o.dst undef) _
  rw [hN]
  refine hK a _ (h _ ?_ ⟨hs.1, hs.2.1, hs.2.2.1, by rw [hs.2.2.2]; omega, fun k hk hne => setCells_far _ _ k (fun e => hne (by rw [e]))⟩)
  obtain ⟨cur', h2, h3, h4⟩ := hr
  have : cur' = cs := by
    apply Array.ext'
    rw [h4]
    rw [List.drop_of_length_le (show cur.toList.length ≤ 0 + cs.toList.length by simp [hsz]), List.take_zero, List.nil_append, List.append_nil]
  rwa [this] at h2

/-- Boxes laid one behind the other. -/
theorem box1 (w : World) (A : Array Value) (s : TypeId) : (w.alloc (.cells A s)).heap[w.heap.size]? = some (.cells A s (0, 0)) := heap_alloc_new w _
theorem box3 (w : World) (A B C : Array Value) (s t u : TypeId) : (((w.alloc (.cells A s)).alloc (.cells B t)).alloc (.cells C u)).heap[w.heap.size]? = some (.cells A s (0, 0)) ∧
    (((w.alloc (.cells A s)).alloc (.cells B t)).alloc (.cells C u)).heap[w.heap.size + 1]? = some (.cells B t (0, 0)) ∧ (((w.alloc (.cells A s)).alloc (.cells B t)).alloc (.cells C u)).heap[w.heap.size + 1 + 1]? = some (.cells C u (0, 0)) := by
  refine ⟨?_, ?_, ?_⟩
  · rw [heap_alloc_old _ _ (by simp; omega), heap_alloc_old _ _ (by simp), heap_alloc_new]
  · rw [heap_alloc_old _ _ (by simp), heap_alloc2_new]
  · have := heap_alloc_new ((w.alloc (.cells A s)).alloc (.cells B t)) (.cells C u)
    simpa using this
/-- A block stays as it was below. -/
theorem stays {B : Nat} {w w1 : World} {g : Nat} {o : Obj} (h : w.heap[g]? = some o) (hb : Below B w w1) (hg : g < B) : w1.heap[g]? = some o := (hb.block g hg).trans h
end Go.Proofs.YtolkagkfedpjmaaDoor.Block
namespace Go.Proofs.YtolkagkfedpjmaaDoor.QT
open Go.RowKit Go.Proofs.YtolkagkfedpjmaaDoorW.PrintWords Go.Proofs.YtolkagkfedpjmaaDoorW.PrintLast Go.Proofs.YtolkagkfedpjmaaDoorW.PrintMore Go.Proofs.YtolkagkfedpjmaaDoor.Own
set_option linter.unusedVariables false

/-- What slash.Who answers. -/
def whoV (rx ry bad : Bool) (b : List Int) : List Int × Option Int := if rx && ry && bad && decide (b.length ≠ 0) then (b, none) else ([], some 11)
theorem who_f {bal W1 W2 : List Int} {sl bo f0 f1 f2 f3 f4 f5 g0 g1 g2 g3 g4 g5 : Int} {rx ry : Bool} (h1 : W1.length ≤ 17592186043904) (h2 : W2.length ≤ 140737488351232)
    (hx : Ev (fun k => vote_Right.f k bal sl bo f0 f1 f2 f3 f4 f5 W1) rx) (hy : Ev (fun k => vote_Right.f k bal sl bo g0 g1 g2 g3 g4 g5 W2) ry) :
    Ev (fun k => slash_Who.f k bal sl bo f0 f1 f2 f3 f4 f5 W1 g0 g1 g2 g3 g4 g5 W2) (whoV rx ry (dblB f0 f1 f2 f3 f4 f5 g0 g1 g2 g3 g4 g5 || arnB f2 f4 g2 g4 || arnB g2 g4 f2 f4) (both W1 W2)) := by
  have hj : ∀ b, Ev (fun k => slash_Who.j0 k (!b) f0 f1 f2 f3 f4 f5 W1 g0 g1 g2 g3 g4 g5 W2) (whoV true true b (both W1 W2)) := by
    intro b
    cases b with
    | false =>
      refine Ev.step (f := fun _ => some (([] : List Int), some 11)) (fun k => ?_) (Ev.now _)
      simp [slash_Who.j0]
    | true =>
      refine Ev.step (f := fun k => (vote_Both.f k f0 f1 f2 f3 f4 f5 W1 g0 g1 g2 g3 g4 g5 W2).bind fun t180 => (if (t180.length : Int) = 0 then (some (([] : List Int), some 11)) else (some (t180, none)))) (fun k => ?_) ?_
      · simp [slash_Who.j0]
      · refine Ev.bind (both_f W1 W2 f0 f1 f2 f3 f4 f5 g0 g1 g2 g3 g4 g5 h1 h2) ?_
        refine Ev.congr (f := fun _ => some (whoV true true true (both W1 W2))) (fun k => ?_) (Ev.now _)
        unfold whoV
        by_cases e : (both W1 W2).length = 0
        · rw [if_pos (by omega), if_neg (by simp [e])]
        · rw [if_neg (by omega), if_pos (by simpa using e)]
  refine Ev.bind hx ?_
  cases rx with
  | false =>
    simp only [Bool.false_eq_true, if_false]
    exact hj false
  | true =>
    simp only [if_true]
    refine Ev.bind hy ?_
    cases ry with
    | false =>
      simp only [Bool.false_eq_true, if_false]
      exact hj false
    | true =>
      simp only [if_true]
      rw [bad_is]
      simp only [Option.bind_some]
      exact hj _
theorem bad_turn (f0 f1 f2 f3 f4 f5 g0 g1 g2 g3 g4 g5 : Int) : (dblB g0 g1 g2 g3 g4 g5 f0 f1 f2 f3 f4 f5 || arnB g2 g4 f2 f4 || arnB f2 f4 g2 g4) = (dblB f0 f1 f2 f3 f4 f5 g0 g1 g2 g3 g4 g5 || arnB f2 f4 g2 g4 || arnB g2 g4 f2 f4) := by
  rw [dbl_turn]
  cases dblB f0 f1 f2 f3 f4 f5 g0 g1 g2 g3 g4 g5 <;> cases arnB f2 f4 g2 g4 <;> cases arnB g2 g4 f2 f4 <;> rfl
theorem whoV_len (rx ry bad : Bool) (b : List Int) (n : Nat) (h : b.length ≤ n) : (whoV rx ry bad b).1.length ≤ n := by
  unfold whoV
  split
  · exact h
  · simp
theorem laid_below {w w' : World} (h : Number.Laid w) (hb : Below w.heap.size w w') : Number.Laid w' := pw_cell_below hb h
/-- A slice that is read. -/
def Row (w : World) (k : IntKind) (A : Option Addr) (n c : Nat) (xs : List Int) : Prop := xs.length = n ∧ n ≤ c ∧ Kd.C (Kd.int k) w A n xs
theorem Row.below {w w' : World} {k : IntKind} {A : Option Addr} {n c : Nat} {xs : List Int} (h : Row w k A n c xs) (hb : Below w.heap.size w w') : Row w' k A n c xs := ⟨h.1, h.2.1, Kd.C_below h.2.2 hb⟩
theorem row_of {w : World} {base e : Nat} {k : IntKind} {ok : Nat → Prop} {v : Value} {xs : List Int} (h : Kd.R (Kd.int k) e w base ok v xs) : ∃ A c, v = .slice A xs.length c ∧ Row w k A xs.length c xs := by
  obtain ⟨A, c, h1, h2, h3⟩ := Kd.R_reads h
  exact ⟨A, c, h1, rfl, h2, h3⟩
theorem row_R {w : World} {base e : Nat} {k : IntKind} {ok : Nat → Prop} {A : Option Addr} {n c : Nat} {xs : List Int} (h : Kd.R (Kd.int k) e w base ok (.slice A n c) xs) : Row w k A n c xs := by
  obtain ⟨h1, h2, h3⟩ := Kd.R_reads' h
  subst h1
  exact ⟨rfl, h2, h3⟩
/-- A row stays where a vote's variable is written. -/
theorem R_over {w w1 : World} {base g : Nat} {v : Value} {xs : List Int} {cs : Array Value} (h : Kd.R (Kd.int .i64) 3 w base (fun _ => True) v xs) (hb : w.heap[g]? = some (.cells cs 30 (0, 0))) (hg : w.grownBy w1 (some g)) : Kd.R (Kd.int .i64) 3 w1 base (fun _ => True) v xs :=
  Kd.R_mono (Kd.R_grown (Kd.R_types h hb (by decide)) hg (fun k hk e => hk.2 (by injection e))) (fun _ _ => trivial)
/-- A store of a whole struct in a region that draws its order, into a block that is known whole. -/
theorem store_step {P : Program} {ops : Array Oper} {oi : Oper} {a : Act} {K : Act → World → Prop} {Q : Exit → Act → World → Prop} {W : World} (hw : Region.wanted oi (yielded ops a.tmps) = true) (hN : oi.dst = none) (t : TypeId) (p x : Operand) (ho : oi.op = .store t p x) (g : Nat) (e : TypeId) (cur cs : Array Value)
    (haddr : a.eval p = .pointer (some ⟨g, 0, none⟩)) (hx : a.eval x = .agg cs) (hh : W.heap[g]? = some (.cells cur e (0, 0))) (hsz : cs.size = cur.size) (ht : (P.info? t).map (·.size) = some cs.size) (h1 : ∀ q ∈ cs.toList, q.oneCell' = true)
    (h : ∀ w1, w1.heap[g]? = some (.cells cs e (0, 0)) → W.grownBy w1 (some g) → K a w1) : if Region.wanted oi (yielded ops a.tmps) = true then Oper.wp P oi a W K Q else K (a.put none undef) W := by
  have hrun := run_store_run (P := P) (w := W) (o := 0) t (.agg cs) cs.toList hh rfl (by rw [ht, Array.length_toList]) (by simp [hsz]) h1
  have hs := setCells_same g cs.toList 0 W
  have hr := setCells_row cs.toList 0 W cur hh (by simp [hsz])
  rw [if_pos hw]
  unfold Oper.wp execOp
  simp only [ho, haddr, hx, Sem.run_bind, Sem.run_pure, Result.andThen_ok, hrun]
  show K (a.put oi.dst undef) _
  rw [hN]
  refine h _ ?_ ⟨hs.1, hs.2.1, hs.2.2.1, by rw [hs.2.2.2]; omega, fun k hk hne => setCells_far _ _ k (fun e => hne (by rw [e]))⟩
  obtain ⟨cur', h2, h3, h4⟩ := hr
  have : cur' = cs := by
    apply Array.ext'
    rw [h4]
    rw [List.drop_of_length_le (show cur.toList.length ≤ 0 + cs.toList.length by simp [hsz]), List.take_zero, List.nil_append, List.append_nil]
  rwa [this] at h2
theorem make5_at {r : Nat} {n0 n1 : Nat} {A0 A1 : Option Addr} {c0 c1 : Nat} {l0 l1 : List Int} {a1 a2 f0 f1 f2 f3 f4 f5 x0 x1 x2 x3 x4 x5 : Int} {W : List Int} {w : World} (h0 : Row w .u64 A0 n0 c0 l0) (h1 : Row w .i64 A1 n1 c1 l1) (h : psephoslaw05_Make.f r l0 a1 a2 f0 f1 f2 f3 f4 f5 l1 = some (x0, x1, x2, x3, x4, x5, W)) :
    Calls Tryd.prog 8 #[.agg #[.slice A0 n0 c0, .int .i64 a1, .int .i64 a2], .agg #[.int .i64 f0, .int .u64 f1, .int .i64 f2, .int .u64 f3, .int .i64 f4, .int .u64 f5, .slice A1 n1 c1]] w fun e w' => ∃ A c, e = .returned (.agg #[.int .i64 x0, .int .u64 x1, .int .i64 x2, .int .u64 x3, .int .i64 x4, .int .u64 x5, .slice A W.length c]) ∧ Kd.R (Kd.int .i64) 3 w' w.heap.size (fun _ => True) (.slice A W.length c) W ∧ Below w.heap.size w w' := by
  obtain ⟨rfl, hc0, hC0⟩ := h0
  obtain ⟨rfl, hc1, hC1⟩ := h1
  refine (psephoslaw05_Make.calls r A0 c0 l0 a1 a2 f0 f1 f2 f3 f4 f5 A1 c1 l1 _ _ _ _ _ _ _ w hC0 hc0 hC1 hc1 h).mono ?_
  rintro e w' ⟨v, rfl, hR, hb⟩
  obtain ⟨A, c, rfl⟩ := Kd.R_slice hR
  exact ⟨A, c, rfl, hR, hb⟩
theorem who_at {r : Nat} {n0 n1 n2 : Nat} {A0 A1 A2 : Option Addr} {c0 c1 c2 : Nat} {l0 l1 l2 : List Int} {a1 a2 f0 f1 f2 f3 f4 f5 g0 g1 g2 g3 g4 g5 : Int} {L : List Int} {er : Option Int} {w : World} (h0 : Row w .u64 A0 n0 c0 l0) (h1 : Row w .i64 A1 n1 c1 l1) (h2 : Row w .i64 A2 n2 c2 l2) (h : slash_Who.f r l0 a1 a2 f0 f1 f2 f3 f4 f5 l1 g0 g1 g2 g3 g4 g5 l2 = some (L, er)) :
    Calls Tryd.prog 9 #[.agg #[.slice A0 n0 c0, .int .i64 a1, .int .i64 a2], .agg #[.int .i64 f0, .int .u64 f1, .int .i64 f2, .int .u64 f3, .int .i64 f4, .int .u64 f5, .slice A1 n1 c1, .int .i64 g0, .int .u64 g1, .int .i64 g2, .int .u64 g3, .int .i64 g4, .int .u64 g5, .slice A2 n2 c2]] w fun e w' => ∃ A c, e = .returned (.tuple #[.slice A L.length c, errW er]) ∧ Row w' .i64 A L.length c L ∧ Below w.heap.size w w' := by
  obtain ⟨rfl, hc0, hC0⟩ := h0
  obtain ⟨rfl, hc1, hC1⟩ := h1
  obtain ⟨rfl, hc2, hC2⟩ := h2
  refine (slash_Who.calls r A0 c0 l0 a1 a2 f0 f1 f2 f3 f4 f5 A1 c1 l1 g0 g1 g2 g3 g4 g5 A2 c2 l2 L er w hC0 hc0 hC1 hc1 hC2 hc2 h).mono ?_
  rintro e w' ⟨v, rfl, hR, hb⟩
  obtain ⟨A, c, rfl, hr⟩ := row_of hR
  exact ⟨A, c, rfl, hr, hb⟩
end Go.Proofs.YtolkagkfedpjmaaDoor.QT
namespace Go.Proofs.YtolkagkfedpjmaaDoor.QT
open Go.RowKit Go.Proofs.YtolkagkfedpjmaaDoorW.PrintWords Go.Proofs.YtolkagkfedpjmaaDoorW.PrintLast Go.Proofs.YtolkagkfedpjmaaDoorW.PrintMore Go.Proofs.YtolkagkfedpjmaaDoor.Own
set_option linter.unusedVariables false
set_option linter.unusedSimpArgs false

theorem right_at {r : Nat} {n0 n1 : Nat} {A0 A1 : Option Addr} {c0 c1 : Nat} {l0 l1 : List Int} {a1 a2 f0 f1 f2 f3 f4 f5 : Int} {b : Bool} {w : World} (h0 : Row w .u64 A0 n0 c0 l0) (h1 : Row w .i64 A1 n1 c1 l1) (h : vote_Right.f r l0 a1 a2 f0 f1 f2 f3 f4 f5 l1 = some b) :
    Calls Tryd.prog 11 #[.agg #[.slice A0 n0 c0, .int .i64 a1, .int .i64 a2], .agg #[.int .i64 f0, .int .u64 f1, .int .i64 f2, .int .u64 f3, .int .i64 f4, .int .u64 f5, .slice A1 n1 c1]] w fun e w' => e = .returned (.bool b) ∧ Below w.heap.size w w' := by
  obtain ⟨rfl, hc0, hC0⟩ := h0
  obtain ⟨rfl, hc1, hC1⟩ := h1
  exact vote_Right.calls r A0 c0 l0 a1 a2 f0 f1 f2 f3 f4 f5 A1 c1 l1 b w hC0 hc0 hC1 hc1 h
theorem both_at {r n1 n2 : Nat} {A1 A2 : Option Addr} {c1 c2 : Nat} {l1 l2 L : List Int} {f0 f1 f2 f3 f4 f5 g0 g1 g2 g3 g4 g5 : Int} {w : World} (h1 : Row w .i64 A1 n1 c1 l1) (h2 : Row w .i64 A2 n2 c2 l2) (h : vote_Both.f r f0 f1 f2 f3 f4 f5 l1 g0 g1 g2 g3 g4 g5 l2 = some L) :
    Calls Tryd.prog 10 #[.agg #[.int .i64 f0, .int .u64 f1, .int .i64 f2, .int .u64 f3, .int .i64 f4, .int .u64 f5, .slice A1 n1 c1], .agg #[.int .i64 g0, .int .u64 g1, .int .i64 g2, .int .u64 g3, .int .i64 g4, .int .u64 g5, .slice A2 n2 c2]] w fun e w' => ∃ A c, e = .returned (.slice A L.length c) ∧ Row w' .i64 A L.length c L ∧ Below w.heap.size w w' := by
  obtain ⟨rfl, hc1, hC1⟩ := h1
  obtain ⟨rfl, hc2, hC2⟩ := h2
  refine (vote_Both.calls r f0 f1 f2 f3 f4 f5 A1 c1 l1 g0 g1 g2 g3 g4 g5 A2 c2 l2 L w hC1 hc1 hC2 hc2 h).mono ?_
  rintro e w' ⟨v, rfl, hR, hb⟩
  obtain ⟨A, c, rfl, hr⟩ := row_of hR
  exact ⟨A, c, rfl, hr, hb⟩
theorem bad_at {n1 n2 : Nat} {A1 A2 : Option Addr} {c1 c2 : Nat} {l1 l2 : List Int} {b : Bool} {f0 f1 f2 f3 f4 f5 g0 g1 g2 g3 g4 g5 : Int} {w : World} (h1 : Row w .i64 A1 n1 c1 l1) (h2 : Row w .i64 A2 n2 c2 l2) (h : slash_Bad.f f0 f1 f2 f3 f4 f5 l1 g0 g1 g2 g3 g4 g5 l2 = some b) :
    Calls Tryd.prog 12 #[.agg #[.int .i64 f0, .int .u64 f1, .int .i64 f2, .int .u64 f3, .int .i64 f4, .int .u64 f5, .slice A1 n1 c1], .agg #[.int .i64 g0, .int .u64 g1, .int .i64 g2, .int .u64 g3, .int .i64 g4, .int .u64 g5, .slice A2 n2 c2]] w fun e w' => e = .returned (.bool b) ∧ Below w.heap.size w w' := by
  obtain ⟨rfl, hc1, hC1⟩ := h1
  obtain ⟨rfl, hc2, hC2⟩ := h2
  exact slash_Bad.calls f0 f1 f2 f3 f4 f5 A1 c1 l1 g0 g1 g2 g3 g4 g5 A2 c2 l2 b w hC1 hc1 hC2 hc2 h
theorem number_11 {w : World} (hL : Number.Laid w) : Calls Tryd.prog 13 #[.iface 43 (.int .i64 11)] w fun e w' => e = .returned (.int .i64 11) ∧ Below w.heap.size w w' := Number.number_some 11 w hL
/-- Balances stay where a vote's variable is written. -/
theorem U_over {w w1 : World} {base g : Nat} {v : Value} {xs : List Int} {cs : Array Value} (h : Kd.R (Kd.int .u64) 25 w base (fun _ => True) v xs) (hb : w.heap[g]? = some (.cells cs 30 (0, 0))) (hg : w.grownBy w1 (some g)) : Kd.R (Kd.int .u64) 25 w1 base (fun _ => True) v xs :=
  Kd.R_mono (Kd.R_grown (Kd.R_types h hb (by decide)) hg (fun k hk e => hk.2 (by injection e))) (fun _ _ => trivial)
theorem right_dec (who bal : List Int) (slots a2 s h se sr te tr : Int) (hn : who.length ≤ 140737488351232) (hs : s ≤ 9223372036854775807) : ∃ b, Ev (fun k => vote_Right.f k bal slots a2 s h se sr te tr who) b := by
  by_cases hg : Good bal.length slots s se te who
  · exact ⟨true, right_true who bal slots a2 s h se sr te tr hn hs hg⟩
  · exact ⟨false, right_false who bal slots a2 s h se sr te tr hn hs hg⟩

set_option maxHeartbeats 16000000 in
set_option maxRecDepth 100000 in
theorem slashWho_law (A0 : Option Addr) (n0 c0 : Nat) (bal : List Int) (sl bo s h se sr te tr : Int) (A1 : Option Addr) (n1 c1 : Nat) (z1 : List Int) (s2 h2 se2 sr2 te2 tr2 : Int) (A2 : Option Addr) (n2 c2 : Nat) (z2 : List Int) (gd : Bool) (w : World) (hL : Number.Laid w)
    (h0 : Row w .u64 A0 n0 c0 bal) (hn0 : n0 ≤ 17592186043904) (hb : -9223372036854775808 ≤ bo ∧ bo ≤ 9223372036854775807)
    (h1 : Row w .i64 A1 n1 c1 z1) (hn1 : n1 ≤ 17592186043904) (hs : -9223372036854775808 ≤ s ∧ s ≤ 9223372036854775807) (he : -9223372036854775808 ≤ se ∧ se ≤ 9223372036854775807)
    (h2' : Row w .i64 A2 n2 c2 z2) (hn2 : n2 ≤ 17592186043904) (hs2 : -9223372036854775808 ≤ s2 ∧ s2 ≤ 9223372036854775807) (he2 : -9223372036854775808 ≤ se2 ∧ se2 ≤ 9223372036854775807) :
    Calls Tryd.prog 3 #[.agg #[.slice A0 n0 c0, .int .i64 sl, .int .i64 bo], .agg #[.int .i64 s, .int .u64 h, .int .i64 se, .int .u64 sr, .int .i64 te, .int .u64 tr, .slice A1 n1 c1], .agg #[.int .i64 s2, .int .u64 h2, .int .i64 se2, .int .u64 sr2, .int .i64 te2, .int .u64 tr2, .slice A2 n2 c2], .bool gd] w fun x w' => x = .returned (.bool true) ∧ Below w.heap.size w w' := by
  have l0 : bal.length = n0 := h0.1
  have l1 : z1.length = n1 := h1.1
  have l2 : z2.length = n2 := h2'.1
  have hml := mkBal_len bal
  obtain ⟨k3, hk3⟩ := (make3_f bal sl bo (by omega) hb.1 hb.2).rounds
  have HK3 := Aside0.mk hk3
  have HL0 := Aside0.mk hL
  have H0 := Aside0.mk h0
  have H1w := Aside0.mk h1
  have H2w := Aside0.mk h2'
  subst l0
  clear hk3 hL h0 h1 h2'
  have HN := Aside0.mk (And.intro l1 l2)
  have HR := Aside0.mk (And.intro (And.intro hs he) (And.intro hs2 he2))
  have HML := Aside0.mk hml
  clear l1 l2 hs he hs2 he2 hml
  go_enter Tryd.func3, Tryd.ntmps3
  go_upto_if 18 with (first
    | (go_at_call 6; refine (psephoslaw06_awake.calls _ _ awake_is).mono ?_; rintro x w1 ⟨rfl, hb⟩; have HB1 := Aside0.mk (below_then (below_alloc (below_alloc (below_alloc (Below.refl w.heap.size w) _) _) _) (by simp; omega) hb); have qb := Block.box3 w #[.slice A0 bal.length c0, .int .i64 sl, .int .i64 bo] #[.int .i64 s, .int .u64 h, .int .i64 se, .int .u64 sr, .int .i64 te, .int .u64 tr, .slice A1 n1 c1] #[.int .i64 s2, .int .u64 h2, .int .i64 se2, .int .u64 sr2, .int .i64 te2, .int .u64 tr2, .slice A2 n2 c2] 24 30 30; have BC1 := Aside0.mk (blk_below qb.1 hb); have BA1 := Aside0.mk (blk_below qb.2.1 hb); have BB1 := Aside0.mk (blk_below qb.2.2 hb); clear qb; have hcg0 := blk_cell BC1.out; clear hb)
    | (go_at_call 7; refine (psephoslaw03_Make.calls k3 A0 c0 bal sl bo _ _ _ _ (Kd.C_below H0.out.2.2 HB1.out) H0.out.2.1 HK3.out).mono ?_; rintro x w2 ⟨v0, rfl, hR, hb⟩; have HB2 := Aside0.mk (below_then HB1.out HB1.out.size hb); obtain ⟨AX, cX, rfl⟩ := Kd.R_slice hR; have HX2 := Aside0.mk hR; have BA2 := Aside0.mk (blk_below BA1.out hb); have BB2 := Aside0.mk (blk_below BB1.out hb); clear hb hR hcg0))
  obtain ⟨wr, hwr⟩ : ∃ wr, wr = w2.alloc (.cells #[.slice AX (mkBal bal).length cX, .int .i64 (mkSlots sl), .int .i64 (mkBoost bo)] 24) := ⟨_, rfl⟩
  have BM' : Aside0 (wr.heap[w2.heap.size]? = some (.cells #[.slice AX (mkBal bal).length cX, .int .i64 (mkSlots sl), .int .i64 (mkBoost bo)] 24 (0, 0))) := ⟨by rw [hwr]; exact heap_alloc_new _ _⟩
  have BA : Aside0 (wr.heap[w.heap.size + 1]? = some (.cells #[.int .i64 s, .int .u64 h, .int .i64 se, .int .u64 sr, .int .i64 te, .int .u64 tr, .slice A1 n1 c1] 30 (0, 0))) := ⟨by rw [hwr]; exact blk_alloc BA2.out _⟩
  have BB : Aside0 (wr.heap[w.heap.size + 1 + 1]? = some (.cells #[.int .i64 s2, .int .u64 h2, .int .i64 se2, .int .u64 sr2, .int .i64 te2, .int .u64 tr2, .slice A2 n2 c2] 30 (0, 0))) := ⟨by rw [hwr]; exact blk_alloc BB2.out _⟩
  have HBR : Aside0 (Below w.heap.size w wr) := ⟨by rw [hwr]; exact below_alloc HB2.out _⟩
  have HXR : Aside0 (Kd.R (Kd.int .u64) 25 wr w1.heap.size (fun _ => True) (.slice AX (mkBal bal).length cX) (mkBal bal)) := ⟨by rw [hwr]; exact Kd.R_below HX2.out (below_alloc (Below.refl _ _) _)⟩
  have GM' : Aside0 (w.heap.size + 1 + 1 < w2.heap.size) := ⟨blk_lt BB2.out⟩
  rw [← hwr]
  clear hwr
  obtain ⟨gm, hgm⟩ : ∃ gm, w2.heap.size = gm := ⟨_, rfl⟩
  rw [hgm] at BM' GM' ⊢
  have BM := BM'
  have GM := GM'
  clear hgm BM' GM' HX2 BA1 BB1 BA2 BB2 BC1
  have H1 := Aside0.mk (H1w.out.below HBR.out)
  have H2 := Aside0.mk (H2w.out.below HBR.out)
  have HX := Aside0.mk (row_R HXR.out)
  cases gd with
  | false =>
    have hl1 : z1.length ≤ 17592186043904 := by rw [HN.out.1]; exact hn1
    have hl2 : z2.length ≤ 140737488351232 := by rw [HN.out.2]; omega
    obtain ⟨rx, hrx⟩ := right_dec z1 (mkBal bal) (mkSlots sl) (mkBoost bo) s h se sr te tr (by omega) HR.out.1.1.2
    obtain ⟨ry, hry⟩ := right_dec z2 (mkBal bal) (mkSlots sl) (mkBoost bo) s2 h2 se2 sr2 te2 tr2 (by omega) HR.out.2.1.2
    obtain ⟨kx, hkx⟩ := hrx.rounds
    obtain ⟨ky, hky⟩ := hry.rounds
    obtain ⟨kw, hkw⟩ := (who_f hl1 hl2 hrx hry).rounds
    have BM20 := BM
    have BA20 := BA
    have BB20 := BB
    have HX20 := HX
    have U1_20 := H1
    have U2_20 := H2
    have HB20 := HBR
    clear hrx hry
    obtain ⟨kb, hkb⟩ := (both_f z1 z2 s h se sr te tr s2 h2 se2 sr2 te2 tr2 hl1 hl2).rounds
    have HKB := Aside0.mk hkb
    clear hkb
    have hkd := bad_is s h se sr te tr s2 h2 se2 sr2 te2 tr2 z1 z2
    have hbl : (both z1 z2).length ≤ 17592186043904 := Nat.le_trans (both_len _ _) hl1
    have m20 := blk_cell BM20.out
    have a20 := blk_cell BA20.out
    have b20 := blk_cell BB20.out
    cases rx with
    | false =>
      have HKP : Aside0 (slash_Who.f kw (mkBal bal) (mkSlots sl) (mkBoost bo) s h se sr te tr z1 s2 h2 se2 sr2 te2 tr2 z2 = some ([], some 11)) := ⟨by rw [hkw]; simp [whoV]⟩
      have HRX := Aside0.mk hkx
      clear hkw hkx hky hkd
      go_wp2_with (first
        | (go_at_call 9; (have hw := who_at HX20.out U1_20.out U2_20.out HKP.out); (try rw [errW_none] at hw); (try rw [errW_some] at hw); with_reducible refine hw.mono ?_; clear hw; rintro x w21 ⟨ap, cp, rfl, hp, hb⟩; have HP21 := Aside0.mk hp; have HB21 := Aside0.mk (below_then HB20.out HB20.out.size hb); have HX21 := Aside0.mk (HX20.out.below hb); have U1_21 := Aside0.mk (U1_20.out.below hb); have U2_21 := Aside0.mk (U2_20.out.below hb); have BM21 := Aside0.mk (blk_below BM20.out hb); have BA21 := Aside0.mk (blk_below BA20.out hb); have BB21 := Aside0.mk (blk_below BB20.out hb); have m21 := blk_cell BM21.out; have a21 := blk_cell BA21.out; have b21 := blk_cell BB21.out; clear hb hp m20 a20 b20)
        | (go_at_call 10; with_reducible refine (both_at U1_21.out U2_21.out HKB.out).mono ?_; rintro x w22 ⟨aq, cq, rfl, hq, hb⟩; have HQ22 := Aside0.mk hq; have HP22 := Aside0.mk (HP21.out.below hb); have HB22 := Aside0.mk (below_then HB21.out HB21.out.size hb); have HX22 := Aside0.mk (HX21.out.below hb); have U1_22 := Aside0.mk (U1_21.out.below hb); have U2_22 := Aside0.mk (U2_21.out.below hb); have BM22 := Aside0.mk (blk_below BM21.out hb); have BA22 := Aside0.mk (blk_below BA21.out hb); have BB22 := Aside0.mk (blk_below BB21.out hb); have m22 := blk_cell BM22.out; have a22 := blk_cell BA22.out; have b22 := blk_cell BB22.out; clear hb hq m21 a21 b21)
        | (go_at_call 11; with_reducible refine (right_at HX22.out U1_22.out HRX.out).mono ?_; rintro x w23 ⟨rfl, hb⟩; have HP23 := Aside0.mk (HP22.out.below hb); have HQ23 := Aside0.mk (HQ22.out.below hb); have HL23 := Aside0.mk (laid_below HL0.out (below_then HB22.out HB22.out.size hb)); have HB23 := Aside0.mk (below_then HB22.out HB22.out.size hb); have HX23 := Aside0.mk (HX22.out.below hb); have U1_23 := Aside0.mk (U1_22.out.below hb); have U2_23 := Aside0.mk (U2_22.out.below hb); have BM23 := Aside0.mk (blk_below BM22.out hb); have BA23 := Aside0.mk (blk_below BA22.out hb); have BB23 := Aside0.mk (blk_below BB22.out hb); have m23 := blk_cell BM23.out; have a23 := blk_cell BA23.out; have b23 := blk_cell BB23.out; clear hb m22 a22 b22)
        | (go_at_call 13; with_reducible refine (number_11 HL23.out).mono ?_; rintro x w30 ⟨rfl, hb⟩; have HB30 := Aside0.mk (below_then HB23.out HB23.out.size hb); clear hb))
      go_ret
      exact ⟨by first | rfl | simp, HB30.out⟩
    | true =>
      cases ry with
      | false =>
        have HKP : Aside0 (slash_Who.f kw (mkBal bal) (mkSlots sl) (mkBoost bo) s h se sr te tr z1 s2 h2 se2 sr2 te2 tr2 z2 = some ([], some 11)) := ⟨by rw [hkw]; simp [whoV]⟩
        have HRX := Aside0.mk hkx
        have HRY := Aside0.mk hky
        clear hkw hkx hky hkd
        go_wp2_with (first
        | (go_at_call 9; (have hw := who_at HX20.out U1_20.out U2_20.out HKP.out); (try rw [errW_none] at hw); (try rw [errW_some] at hw); with_reducible refine hw.mono ?_; clear hw; rintro x w21 ⟨ap, cp, rfl, hp, hb⟩; have HP21 := Aside0.mk hp; have HB21 := Aside0.mk (below_then HB20.out HB20.out.size hb); have HX21 := Aside0.mk (HX20.out.below hb); have U1_21 := Aside0.mk (U1_20.out.below hb); have U2_21 := Aside0.mk (U2_20.out.below hb); have BM21 := Aside0.mk (blk_below BM20.out hb); have BA21 := Aside0.mk (blk_below BA20.out hb); have BB21 := Aside0.mk (blk_below BB20.out hb); have m21 := blk_cell BM21.out; have a21 := blk_cell BA21.out; have b21 := blk_cell BB21.out; clear hb hp m20 a20 b20)
        | (go_at_call 10; with_reducible refine (both_at U1_21.out U2_21.out HKB.out).mono ?_; rintro x w22 ⟨aq, cq, rfl, hq, hb⟩; have HQ22 := Aside0.mk hq; have HP22 := Aside0.mk (HP21.out.below hb); have HB22 := Aside0.mk (below_then HB21.out HB21.out.size hb); have HX22 := Aside0.mk (HX21.out.below hb); have U1_22 := Aside0.mk (U1_21.out.below hb); have U2_22 := Aside0.mk (U2_21.out.below hb); have BM22 := Aside0.mk (blk_below BM21.out hb); have BA22 := Aside0.mk (blk_below BA21.out hb); have BB22 := Aside0.mk (blk_below BB21.out hb); have m22 := blk_cell BM22.out; have a22 := blk_cell BA22.out; have b22 := blk_cell BB22.out; clear hb hq m21 a21 b21)
        | (go_at_call 11; with_reducible refine (right_at HX22.out U1_22.out HRX.out).mono ?_; rintro x w23 ⟨rfl, hb⟩; have HP23 := Aside0.mk (HP22.out.below hb); have HQ23 := Aside0.mk (HQ22.out.below hb); have HL23 := Aside0.mk (laid_below HL0.out (below_then HB22.out HB22.out.size hb)); have HB23 := Aside0.mk (below_then HB22.out HB22.out.size hb); have HX23 := Aside0.mk (HX22.out.below hb); have U1_23 := Aside0.mk (U1_22.out.below hb); have U2_23 := Aside0.mk (U2_22.out.below hb); have BM23 := Aside0.mk (blk_below BM22.out hb); have BA23 := Aside0.mk (blk_below BA22.out hb); have BB23 := Aside0.mk (blk_below BB22.out hb); have m23 := blk_cell BM23.out; have a23 := blk_cell BA23.out; have b23 := blk_cell BB23.out; clear hb m22 a22 b22)
        | (go_at_call 11; with_reducible refine (right_at HX23.out U2_23.out HRY.out).mono ?_; rintro x w24 ⟨rfl, hb⟩; have HP24 := Aside0.mk (HP23.out.below hb); have HQ24 := Aside0.mk (HQ23.out.below hb); have HL24 := Aside0.mk (laid_below HL0.out (below_then HB23.out HB23.out.size hb)); have HB24 := Aside0.mk (below_then HB23.out HB23.out.size hb); have HX24 := Aside0.mk (HX23.out.below hb); have U1_24 := Aside0.mk (U1_23.out.below hb); have U2_24 := Aside0.mk (U2_23.out.below hb); have BM24 := Aside0.mk (blk_below BM23.out hb); have BA24 := Aside0.mk (blk_below BA23.out hb); have BB24 := Aside0.mk (blk_below BB23.out hb); have m24 := blk_cell BM24.out; have a24 := blk_cell BA24.out; have b24 := blk_cell BB24.out; clear hb m23 a23 b23)
        | (go_at_call 13; with_reducible refine (number_11 HL24.out).mono ?_; rintro x w30 ⟨rfl, hb⟩; have HB30 := Aside0.mk (below_then HB24.out HB24.out.size hb); clear hb))
        go_ret
        exact ⟨by first | rfl | simp, HB30.out⟩
      | true =>
        cases hbd : (dblB s h se sr te tr s2 h2 se2 sr2 te2 tr2 || arnB se te se2 te2 || arnB se2 te2 se te) with
        | false =>
          rw [hbd] at hkw hkd
          have HKP : Aside0 (slash_Who.f kw (mkBal bal) (mkSlots sl) (mkBoost bo) s h se sr te tr z1 s2 h2 se2 sr2 te2 tr2 z2 = some ([], some 11)) := ⟨by rw [hkw]; simp [whoV]⟩
          have HRX := Aside0.mk hkx
          have HRY := Aside0.mk hky
          have HKD := Aside0.mk hkd
          clear hkw hkx hky hkd hbd
          go_wp2_with (first
        | (go_at_call 9; (have hw := who_at HX20.out U1_20.out U2_20.out HKP.out); (try rw [errW_none] at hw); (try rw [errW_some] at hw); with_reducible refine hw.mono ?_; clear hw; rintro x w21 ⟨ap, cp, rfl, hp, hb⟩; have HP21 := Aside0.mk hp; have HB21 := Aside0.mk (below_then HB20.out HB20.out.size hb); have HX21 := Aside0.mk (HX20.out.below hb); have U1_21 := Aside0.mk (U1_20.out.below hb); have U2_21 := Aside0.mk (U2_20.out.below hb); have BM21 := Aside0.mk (blk_below BM20.out hb); have BA21 := Aside0.mk (blk_below BA20.out hb); have BB21 := Aside0.mk (blk_below BB20.out hb); have m21 := blk_cell BM21.out; have a21 := blk_cell BA21.out; have b21 := blk_cell BB21.out; clear hb hp m20 a20 b20)
        | (go_at_call 10; with_reducible refine (both_at U1_21.out U2_21.out HKB.out).mono ?_; rintro x w22 ⟨aq, cq, rfl, hq, hb⟩; have HQ22 := Aside0.mk hq; have HP22 := Aside0.mk (HP21.out.below hb); have HB22 := Aside0.mk (below_then HB21.out HB21.out.size hb); have HX22 := Aside0.mk (HX21.out.below hb); have U1_22 := Aside0.mk (U1_21.out.below hb); have U2_22 := Aside0.mk (U2_21.out.below hb); have BM22 := Aside0.mk (blk_below BM21.out hb); have BA22 := Aside0.mk (blk_below BA21.out hb); have BB22 := Aside0.mk (blk_below BB21.out hb); have m22 := blk_cell BM22.out; have a22 := blk_cell BA22.out; have b22 := blk_cell BB22.out; clear hb hq m21 a21 b21)
        | (go_at_call 11; with_reducible refine (right_at HX22.out U1_22.out HRX.out).mono ?_; rintro x w23 ⟨rfl, hb⟩; have HP23 := Aside0.mk (HP22.out.below hb); have HQ23 := Aside0.mk (HQ22.out.below hb); have HL23 := Aside0.mk (laid_below HL0.out (below_then HB22.out HB22.out.size hb)); have HB23 := Aside0.mk (below_then HB22.out HB22.out.size hb); have HX23 := Aside0.mk (HX22.out.below hb); have U1_23 := Aside0.mk (U1_22.out.below hb); have U2_23 := Aside0.mk (U2_22.out.below hb); have BM23 := Aside0.mk (blk_below BM22.out hb); have BA23 := Aside0.mk (blk_below BA22.out hb); have BB23 := Aside0.mk (blk_below BB22.out hb); have m23 := blk_cell BM23.out; have a23 := blk_cell BA23.out; have b23 := blk_cell BB23.out; clear hb m22 a22 b22)
        | (go_at_call 11; with_reducible refine (right_at HX23.out U2_23.out HRY.out).mono ?_; rintro x w24 ⟨rfl, hb⟩; have HP24 := Aside0.mk (HP23.out.below hb); have HQ24 := Aside0.mk (HQ23.out.below hb); have HL24 := Aside0.mk (laid_below HL0.out (below_then HB23.out HB23.out.size hb)); have HB24 := Aside0.mk (below_then HB23.out HB23.out.size hb); have HX24 := Aside0.mk (HX23.out.below hb); have U1_24 := Aside0.mk (U1_23.out.below hb); have U2_24 := Aside0.mk (U2_23.out.below hb); have BM24 := Aside0.mk (blk_below BM23.out hb); have BA24 := Aside0.mk (blk_below BA23.out hb); have BB24 := Aside0.mk (blk_below BB23.out hb); have m24 := blk_cell BM24.out; have a24 := blk_cell BA24.out; have b24 := blk_cell BB24.out; clear hb m23 a23 b23)
        | (go_at_call 12; with_reducible refine (bad_at U1_24.out U2_24.out HKD.out).mono ?_; rintro x w25 ⟨rfl, hb⟩; have HP25 := Aside0.mk (HP24.out.below hb); have HQ25 := Aside0.mk (HQ24.out.below hb); have HL25 := Aside0.mk (laid_below HL0.out (below_then HB24.out HB24.out.size hb)); have HB25 := Aside0.mk (below_then HB24.out HB24.out.size hb); clear hb m24 a24 b24)
        | (go_at_call 13; with_reducible refine (number_11 HL25.out).mono ?_; rintro x w30 ⟨rfl, hb⟩; have HB30 := Aside0.mk (below_then HB25.out HB25.out.size hb); clear hb))
          go_ret
          exact ⟨by first | rfl | simp, HB30.out⟩
        | true =>
          rw [hbd] at hkw hkd
          have HRX := Aside0.mk hkx
          have HRY := Aside0.mk hky
          have HKD := Aside0.mk hkd
          clear hkx hky hkd hbd
          by_cases hem : (both z1 z2).length = 0
          · have HKP : Aside0 (slash_Who.f kw (mkBal bal) (mkSlots sl) (mkBoost bo) s h se sr te tr z1 s2 h2 se2 sr2 te2 tr2 z2 = some ([], some 11)) := ⟨by rw [hkw]; simp [whoV, hem]⟩
            have t9 : (((both z1 z2).length : Int) == 0) = true := by rw [hem]; rfl
            clear hkw hem
            go_wp2_with (first
        | (go_at_call 9; (have hw := who_at HX20.out U1_20.out U2_20.out HKP.out); (try rw [errW_none] at hw); (try rw [errW_some] at hw); with_reducible refine hw.mono ?_; clear hw; rintro x w21 ⟨ap, cp, rfl, hp, hb⟩; have HP21 := Aside0.mk hp; have HB21 := Aside0.mk (below_then HB20.out HB20.out.size hb); have HX21 := Aside0.mk (HX20.out.below hb); have U1_21 := Aside0.mk (U1_20.out.below hb); have U2_21 := Aside0.mk (U2_20.out.below hb); have BM21 := Aside0.mk (blk_below BM20.out hb); have BA21 := Aside0.mk (blk_below BA20.out hb); have BB21 := Aside0.mk (blk_below BB20.out hb); have m21 := blk_cell BM21.out; have a21 := blk_cell BA21.out; have b21 := blk_cell BB21.out; clear hb hp m20 a20 b20)
        | (go_at_call 10; with_reducible refine (both_at U1_21.out U2_21.out HKB.out).mono ?_; rintro x w22 ⟨aq, cq, rfl, hq, hb⟩; have HQ22 := Aside0.mk hq; have HP22 := Aside0.mk (HP21.out.below hb); have HB22 := Aside0.mk (below_then HB21.out HB21.out.size hb); have HX22 := Aside0.mk (HX21.out.below hb); have U1_22 := Aside0.mk (U1_21.out.below hb); have U2_22 := Aside0.mk (U2_21.out.below hb); have BM22 := Aside0.mk (blk_below BM21.out hb); have BA22 := Aside0.mk (blk_below BA21.out hb); have BB22 := Aside0.mk (blk_below BB21.out hb); have m22 := blk_cell BM22.out; have a22 := blk_cell BA22.out; have b22 := blk_cell BB22.out; clear hb hq m21 a21 b21)
        | (go_at_call 11; with_reducible refine (right_at HX22.out U1_22.out HRX.out).mono ?_; rintro x w23 ⟨rfl, hb⟩; have HP23 := Aside0.mk (HP22.out.below hb); have HQ23 := Aside0.mk (HQ22.out.below hb); have HL23 := Aside0.mk (laid_below HL0.out (below_then HB22.out HB22.out.size hb)); have HB23 := Aside0.mk (below_then HB22.out HB22.out.size hb); have HX23 := Aside0.mk (HX22.out.below hb); have U1_23 := Aside0.mk (U1_22.out.below hb); have U2_23 := Aside0.mk (U2_22.out.below hb); have BM23 := Aside0.mk (blk_below BM22.out hb); have BA23 := Aside0.mk (blk_below BA22.out hb); have BB23 := Aside0.mk (blk_below BB22.out hb); have m23 := blk_cell BM23.out; have a23 := blk_cell BA23.out; have b23 := blk_cell BB23.out; clear hb m22 a22 b22)
        | (go_at_call 11; with_reducible refine (right_at HX23.out U2_23.out HRY.out).mono ?_; rintro x w24 ⟨rfl, hb⟩; have HP24 := Aside0.mk (HP23.out.below hb); have HQ24 := Aside0.mk (HQ23.out.below hb); have HL24 := Aside0.mk (laid_below HL0.out (below_then HB23.out HB23.out.size hb)); have HB24 := Aside0.mk (below_then HB23.out HB23.out.size hb); have HX24 := Aside0.mk (HX23.out.below hb); have U1_24 := Aside0.mk (U1_23.out.below hb); have U2_24 := Aside0.mk (U2_23.out.below hb); have BM24 := Aside0.mk (blk_below BM23.out hb); have BA24 := Aside0.mk (blk_below BA23.out hb); have BB24 := Aside0.mk (blk_below BB23.out hb); have m24 := blk_cell BM24.out; have a24 := blk_cell BA24.out; have b24 := blk_cell BB24.out; clear hb m23 a23 b23)
        | (go_at_call 12; with_reducible refine (bad_at U1_24.out U2_24.out HKD.out).mono ?_; rintro x w25 ⟨rfl, hb⟩; have HP25 := Aside0.mk (HP24.out.below hb); have HQ25 := Aside0.mk (HQ24.out.below hb); have HL25 := Aside0.mk (laid_below HL0.out (below_then HB24.out HB24.out.size hb)); have HB25 := Aside0.mk (below_then HB24.out HB24.out.size hb); clear hb m24 a24 b24)
        | (go_at_call 13; with_reducible refine (number_11 HL25.out).mono ?_; rintro x w30 ⟨rfl, hb⟩; have HB30 := Aside0.mk (below_then HB25.out HB25.out.size hb); clear hb))
            go_ret
            exact ⟨by first | rfl | simp, HB30.out⟩
          · have HKP : Aside0 (slash_Who.f kw (mkBal bal) (mkSlots sl) (mkBoost bo) s h se sr te tr z1 s2 h2 se2 sr2 te2 tr2 z2 = some (both z1 z2, none)) := ⟨by rw [hkw]; simp [whoV, hem]⟩
            have t9 : (((both z1 z2).length : Int) == 0) = false := by rw [beq_eq_false_iff_ne]; omega
            have t8 : (((both z1 z2).length : Int) != ((both z1 z2).length : Int)) = false := by simp
            clear hkw hem
            go_wp2_with (first
        | (go_at_call 9; (have hw := who_at HX20.out U1_20.out U2_20.out HKP.out); (try rw [errW_none] at hw); (try rw [errW_some] at hw); with_reducible refine hw.mono ?_; clear hw; rintro x w21 ⟨ap, cp, rfl, hp, hb⟩; have HP21 := Aside0.mk hp; have HB21 := Aside0.mk (below_then HB20.out HB20.out.size hb); have HX21 := Aside0.mk (HX20.out.below hb); have U1_21 := Aside0.mk (U1_20.out.below hb); have U2_21 := Aside0.mk (U2_20.out.below hb); have BM21 := Aside0.mk (blk_below BM20.out hb); have BA21 := Aside0.mk (blk_below BA20.out hb); have BB21 := Aside0.mk (blk_below BB20.out hb); have m21 := blk_cell BM21.out; have a21 := blk_cell BA21.out; have b21 := blk_cell BB21.out; clear hb hp m20 a20 b20)
        | (go_at_call 10; with_reducible refine (both_at U1_21.out U2_21.out HKB.out).mono ?_; rintro x w22 ⟨aq, cq, rfl, hq, hb⟩; have HQ22 := Aside0.mk hq; have HP22 := Aside0.mk (HP21.out.below hb); have HB22 := Aside0.mk (below_then HB21.out HB21.out.size hb); have HX22 := Aside0.mk (HX21.out.below hb); have U1_22 := Aside0.mk (U1_21.out.below hb); have U2_22 := Aside0.mk (U2_21.out.below hb); have BM22 := Aside0.mk (blk_below BM21.out hb); have BA22 := Aside0.mk (blk_below BA21.out hb); have BB22 := Aside0.mk (blk_below BB21.out hb); have m22 := blk_cell BM22.out; have a22 := blk_cell BA22.out; have b22 := blk_cell BB22.out; clear hb hq m21 a21 b21)
        | (go_at_call 11; with_reducible refine (right_at HX22.out U1_22.out HRX.out).mono ?_; rintro x w23 ⟨rfl, hb⟩; have HP23 := Aside0.mk (HP22.out.below hb); have HQ23 := Aside0.mk (HQ22.out.below hb); have HL23 := Aside0.mk (laid_below HL0.out (below_then HB22.out HB22.out.size hb)); have HB23 := Aside0.mk (below_then HB22.out HB22.out.size hb); have HX23 := Aside0.mk (HX22.out.below hb); have U1_23 := Aside0.mk (U1_22.out.below hb); have U2_23 := Aside0.mk (U2_22.out.below hb); have BM23 := Aside0.mk (blk_below BM22.out hb); have BA23 := Aside0.mk (blk_below BA22.out hb); have BB23 := Aside0.mk (blk_below BB22.out hb); have m23 := blk_cell BM23.out; have a23 := blk_cell BA23.out; have b23 := blk_cell BB23.out; clear hb m22 a22 b22)
        | (go_at_call 11; with_reducible refine (right_at HX23.out U2_23.out HRY.out).mono ?_; rintro x w24 ⟨rfl, hb⟩; have HP24 := Aside0.mk (HP23.out.below hb); have HQ24 := Aside0.mk (HQ23.out.below hb); have HL24 := Aside0.mk (laid_below HL0.out (below_then HB23.out HB23.out.size hb)); have HB24 := Aside0.mk (below_then HB23.out HB23.out.size hb); have HX24 := Aside0.mk (HX23.out.below hb); have U1_24 := Aside0.mk (U1_23.out.below hb); have U2_24 := Aside0.mk (U2_23.out.below hb); have BM24 := Aside0.mk (blk_below BM23.out hb); have BA24 := Aside0.mk (blk_below BA23.out hb); have BB24 := Aside0.mk (blk_below BB23.out hb); have m24 := blk_cell BM24.out; have a24 := blk_cell BA24.out; have b24 := blk_cell BB24.out; clear hb m23 a23 b23)
        | (go_at_call 12; with_reducible refine (bad_at U1_24.out U2_24.out HKD.out).mono ?_; rintro x w25 ⟨rfl, hb⟩; have HP25 := Aside0.mk (HP24.out.below hb); have HQ25 := Aside0.mk (HQ24.out.below hb); have HL25 := Aside0.mk (laid_below HL0.out (below_then HB24.out HB24.out.size hb)); have HB25 := Aside0.mk (below_then HB24.out HB24.out.size hb); clear hb m24 a24 b24))
            go_loopw [76] (fun c wv => ∃ k : Nat, k ≤ (both z1 z2).length ∧ c = .int .i64 k ∧ Aside0 (Below w25.heap.size w25 wv)) (fun c _ => (both z1 z2).length - (intOf c).toNat)
            case atStart => exact ⟨0, by omega, rfl, ⟨Below.refl _ _⟩⟩
            case round =>
              obtain ⟨k, hk, rfl, HBV⟩ := hrel
              by_cases hlt : k < (both z1 z2).length
              · have t0 : decide ((k : Int) < ((both z1 z2).length : Int)) = true := decide_eq_true (by omega)
                have i0 : (0 : Int) ≤ (k : Int) := by omega
                have i1 : (k : Int) < ((both z1 z2).length : Int) := by omega
                obtain ⟨adp, rfl, hcp⟩ := Kd.at_int HP25.out.2.2 (k : Int) i0 i1
                obtain ⟨adq, rfl, hcq⟩ := Kd.at_int HQ25.out.2.2 (k : Int) i0 i1
                rw [Int.toNat_natCast] at hcp hcq
                have hcp' := pw_cell_below HBV.out hcp
                have hcq' := pw_cell_below HBV.out hcq
                have hnx : (rd (both z1 z2) (k : Int) != rd (both z1 z2) (k : Int)) = false := by simp
                clear hcp hcq
                go_upto_region 15 with fail
                go_region_held3 (fun w' => w'.cell? (adp.add k) = some (.int .i64 (rd (both z1 z2) (k : Int))) ∧ w'.cell? (adq.add k) = some (.int .i64 (rd (both z1 z2) (k : Int))))
                  (exact ⟨hcp', hcq'⟩)
                  (fail)
                all_goals
                  go_wp2_with fail
                  go_roundw
                  case rel => exact ⟨k + 1, by omega, by go_num, ⟨by with_reducible repeat (first | exact HBV.out | apply below_drew1)⟩⟩
                  case measure => simp [intOf]; omega
              · have t0 : decide ((k : Int) < ((both z1 z2).length : Int)) = false := decide_eq_false (by omega)
                go_wp2_with fail
                go_ret
                exact ⟨rfl, below_then HB25.out HB25.out.size HBV.out⟩
  | true =>
    have ha1 := mkAt_in s
    have ha2 := mkAt_in s2
    have hw1 := mkWho_len (mkBal bal).length HML.out.1 z1
    have hw2 := mkWho_len (mkBal bal).length HML.out.1 z2
    have hm2 := HML.out.2
    have e1 := HN.out.1
    have e2 := HN.out.2
    obtain ⟨k1, hk1⟩ := (make5_f (mkBal bal) z1 (mkSlots sl) (mkBoost bo) s h se sr te tr HML.out.2 (by omega) HR.out.1.1.1 HR.out.1.1.2 HR.out.1.2.1 HR.out.1.2.2).rounds
    obtain ⟨k2, hk2⟩ := (make5_f (mkBal bal) z2 (mkSlots sl) (mkBoost bo) s2 h2 se2 sr2 te2 tr2 HML.out.2 (by omega) HR.out.2.1.1 HR.out.2.1.2 HR.out.2.2.1 HR.out.2.2.2).rounds
    obtain ⟨rx, hrx⟩ := right_dec (mkWho (mkBal bal).length z1) (mkBal bal) (mkSlots sl) (mkBoost bo) (mkAt s) (Int.tmod h 8) (mkSe (mkSlots sl) s se) (Int.tmod sr 8) (mkTe (mkSlots sl) s) (Int.tmod tr 8) (by omega) (by omega)
    obtain ⟨ry, hry⟩ := right_dec (mkWho (mkBal bal).length z2) (mkBal bal) (mkSlots sl) (mkBoost bo) (mkAt s2) (Int.tmod h2 8) (mkSe (mkSlots sl) s2 se2) (Int.tmod sr2 8) (mkTe (mkSlots sl) s2) (Int.tmod tr2 8) (by omega) (by omega)
    have hl1 : (mkWho (mkBal bal).length z1).length ≤ 17592186043904 := by omega
    have hl2 : (mkWho (mkBal bal).length z2).length ≤ 140737488351232 := by omega
    obtain ⟨W1, hW1⟩ : ∃ W, mkWho (mkBal bal).length z1 = W := ⟨_, rfl⟩
    obtain ⟨W2, hW2⟩ : ∃ W, mkWho (mkBal bal).length z2 = W := ⟨_, rfl⟩
    rw [hW1] at hk1 hrx hl1
    rw [hW2] at hk2 hry hl2
    have HK1 := Aside0.mk hk1
    have HK2 := Aside0.mk hk2
    clear hk1 hk2 hW1 hW2 hw1 hw2 ha1 ha2 hm2 e1 e2
    go_upto_region 5 with fail
    have hq0 : wr.cell? ⟨gm, 0, none⟩ = some (.slice AX (mkBal bal).length cX) := blk_cell BM.out 0
    have hq1 : wr.cell? ⟨gm, 1, none⟩ = some (.int .i64 (mkSlots sl)) := blk_cell BM.out 1
    have hq2 : wr.cell? ⟨gm, 2, none⟩ = some (.int .i64 (mkBoost bo)) := blk_cell BM.out 2
    have hq3 : wr.cell? ⟨w.heap.size + 1, 0, none⟩ = some (.int .i64 s) := blk_cell BA.out 0
    have hq4 : wr.cell? ⟨w.heap.size + 1, 1, none⟩ = some (.int .u64 h) := blk_cell BA.out 1
    have hq5 : wr.cell? ⟨w.heap.size + 1, 2, none⟩ = some (.int .i64 se) := blk_cell BA.out 2
    have hq6 : wr.cell? ⟨w.heap.size + 1, 3, none⟩ = some (.int .u64 sr) := blk_cell BA.out 3
    have hq7 : wr.cell? ⟨w.heap.size + 1, 4, none⟩ = some (.int .i64 te) := blk_cell BA.out 4
    have hq8 : wr.cell? ⟨w.heap.size + 1, 5, none⟩ = some (.int .u64 tr) := blk_cell BA.out 5
    have hq9 : wr.cell? ⟨w.heap.size + 1, 6, none⟩ = some (.slice A1 n1 c1) := blk_cell BA.out 6
    have hq10 : wr.cell? ⟨w.heap.size + 1 + 1, 0, none⟩ = some (.int .i64 s2) := blk_cell BB.out 0
    have hq11 : wr.cell? ⟨w.heap.size + 1 + 1, 1, none⟩ = some (.int .u64 h2) := blk_cell BB.out 1
    have hq12 : wr.cell? ⟨w.heap.size + 1 + 1, 2, none⟩ = some (.int .i64 se2) := blk_cell BB.out 2
    have hq13 : wr.cell? ⟨w.heap.size + 1 + 1, 3, none⟩ = some (.int .u64 sr2) := blk_cell BB.out 3
    have hq14 : wr.cell? ⟨w.heap.size + 1 + 1, 4, none⟩ = some (.int .i64 te2) := blk_cell BB.out 4
    have hq15 : wr.cell? ⟨w.heap.size + 1 + 1, 5, none⟩ = some (.int .u64 tr2) := blk_cell BB.out 5
    have hq16 : wr.cell? ⟨w.heap.size + 1 + 1, 6, none⟩ = some (.slice A2 n2 c2) := blk_cell BB.out 6
    refine start_ (n := 8) (S := fun w' => w'.cell? ⟨gm, 0, none⟩ = some (.slice AX (mkBal bal).length cX) ∧ w'.cell? ⟨gm, 1, none⟩ = some (.int .i64 (mkSlots sl)) ∧ w'.cell? ⟨gm, 2, none⟩ = some (.int .i64 (mkBoost bo)) ∧ w'.cell? ⟨w.heap.size + 1, 0, none⟩ = some (.int .i64 s) ∧ w'.cell? ⟨w.heap.size + 1, 1, none⟩ = some (.int .u64 h) ∧ w'.cell? ⟨w.heap.size + 1, 2, none⟩ = some (.int .i64 se) ∧ w'.cell? ⟨w.heap.size + 1, 3, none⟩ = some (.int .u64 sr) ∧ w'.cell? ⟨w.heap.size + 1, 4, none⟩ = some (.int .i64 te) ∧ w'.cell? ⟨w.heap.size + 1, 5, none⟩ = some (.int .u64 tr) ∧ w'.cell? ⟨w.heap.size + 1, 6, none⟩ = some (.slice A1 n1 c1) ∧ w'.cell? ⟨w.heap.size + 1 + 1, 0, none⟩ = some (.int .i64 s2) ∧ w'.cell? ⟨w.heap.size + 1 + 1, 1, none⟩ = some (.int .u64 h2) ∧ w'.cell? ⟨w.heap.size + 1 + 1, 2, none⟩ = some (.int .i64 se2) ∧ w'.cell? ⟨w.heap.size + 1 + 1, 3, none⟩ = some (.int .u64 sr2) ∧ w'.cell? ⟨w.heap.size + 1 + 1, 4, none⟩ = some (.int .i64 te2) ∧ w'.cell? ⟨w.heap.size + 1 + 1, 5, none⟩ = some (.int .u64 tr2) ∧ w'.cell? ⟨w.heap.size + 1 + 1, 6, none⟩ = some (.slice A2 n2 c2)) (ds := [6, 7]) #[false, false, false, false, false, false, false, false] (by kernel_rfl) rfl rfl ⟨hq0, hq1, hq2, hq3, hq4, hq5, hq6, hq7, hq8, hq9, hq10, hq11, hq12, hq13, hq14, hq15, hq16⟩ (fun hHeld => ?_)
    refine take_ (i := 0) (N := some 19) (v := ?_) (a' := ?_) #[true, false, false, false, false, false, false, false] rfl rfl (by kernel_rfl) (fun _ _ _ h => h) (Or.inl ⟨by rfl, ?_⟩) hHeld ?_ ?_
    rotate_left
    · rintro w' ⟨s0, s1, s2, s3, s4, s5, s6, s7, s8, s9, s10, s11, s12, s13, s14, s15, s16⟩
      go_simp
      with_reducible rfl
    rotate_left
    · simp only [Act.put, List.setIfInBounds_toArray, List.set_cons_zero, List.set_cons_succ, i64_w, i32_w]
      rfl
    refine take_ (i := 1) (N := some 20) (v := ?_) (a' := ?_) #[true, true, false, false, false, false, false, false] rfl rfl (by kernel_rfl) (fun _ _ _ h => h) (Or.inl ⟨by rfl, ?_⟩) hHeld ?_ ?_
    rotate_left
    · rintro w' ⟨s0, s1, s2, s3, s4, s5, s6, s7, s8, s9, s10, s11, s12, s13, s14, s15, s16⟩
      go_simp
      with_reducible rfl
    rotate_left
    · simp only [Act.put, List.setIfInBounds_toArray, List.set_cons_zero, List.set_cons_succ, i64_w, i32_w]
      rfl
    refine take_ (i := 3) (N := some 22) (v := ?_) (a' := ?_) #[true, true, false, true, false, false, false, false] rfl rfl (by kernel_rfl) (fun _ _ _ h => h) (Or.inl ⟨by rfl, ?_⟩) hHeld ?_ ?_
    rotate_left
    · rintro w' ⟨s0, s1, s2, s3, s4, s5, s6, s7, s8, s9, s10, s11, s12, s13, s14, s15, s16⟩
      go_simp
      with_reducible rfl
    rotate_left
    · simp only [Act.put, List.setIfInBounds_toArray, List.set_cons_zero, List.set_cons_succ, i64_w, i32_w]
      rfl
    refine take_ (i := 4) (N := some 23) (v := ?_) (a' := ?_) #[true, true, false, true, true, false, false, false] rfl rfl (by kernel_rfl) (fun _ _ _ h => h) (Or.inl ⟨by rfl, ?_⟩) hHeld ?_ ?_
    rotate_left
    · rintro w' ⟨s0, s1, s2, s3, s4, s5, s6, s7, s8, s9, s10, s11, s12, s13, s14, s15, s16⟩
      go_simp
      with_reducible rfl
    rotate_left
    · simp only [Act.put, List.setIfInBounds_toArray, List.set_cons_zero, List.set_cons_succ, i64_w, i32_w]
      rfl
    refine one_ (i := 2) (N := some 21) #[true, true, true, true, true, false, false, false] rfl rfl (by kernel_rfl) (by decide) (fun K hK => ?_)
    refine goes_ Tryd.func8 (by kernel_rfl) rfl #[.agg #[.slice AX (mkBal bal).length cX, .int .i64 (mkSlots sl), .int .i64 (mkBoost bo)], .agg #[.int .i64 s, .int .u64 h, .int .i64 se, .int .u64 sr, .int .i64 te, .int .u64 tr, .slice A1 n1 c1]] (by rfl) rfl rfl (by simp only [List.map_toArray, List.map_cons, List.map_nil]; rfl) ?_
    with_reducible refine (make5_at (HX.out.below (below_drew (Below.refl wr.heap.size wr))) (H1.out.below (below_drew (Below.refl wr.heap.size wr))) HK1.out).mono ?_
    rintro e wp1 ⟨a1, c1_, rfl, hrow, hb⟩
    refine ⟨_, rfl, ?_⟩
    have HP1 := Aside0.mk (below_then (below_drew (Below.refl wr.heap.size wr)) (Nat.le_refl _) hb)
    have R1_1 := Aside0.mk (Kd.R_lower hrow (Nat.le_refl _))
    clear hb hrow
    refine hK.out _ _ ⟨(pw_cell_below HP1.out hq0), (pw_cell_below HP1.out hq1), (pw_cell_below HP1.out hq2), (pw_cell_below HP1.out hq3), (pw_cell_below HP1.out hq4), (pw_cell_below HP1.out hq5), (pw_cell_below HP1.out hq6), (pw_cell_below HP1.out hq7), (pw_cell_below HP1.out hq8), (pw_cell_below HP1.out hq9), (pw_cell_below HP1.out hq10), (pw_cell_below HP1.out hq11), (pw_cell_below HP1.out hq12), (pw_cell_below HP1.out hq13), (pw_cell_below HP1.out hq14), (pw_cell_below HP1.out hq15), (pw_cell_below HP1.out hq16)⟩ (fun hHeld => ?_)
    clear hK K
    refine norm_ (a' := ?_) ?_ ?_
    rotate_left
    · show Act.put _ (some 21) _ = _
      simp only [Act.put, List.setIfInBounds_toArray, List.set_cons_zero, List.set_cons_succ, i64_w, i32_w]
      rfl
    refine one_ (i := 5) (N := some 24) #[true, true, true, true, true, true, false, false] rfl rfl (by kernel_rfl) (by decide) (fun K hK => ?_)
    refine goes_ Tryd.func8 (by kernel_rfl) rfl #[.agg #[.slice AX (mkBal bal).length cX, .int .i64 (mkSlots sl), .int .i64 (mkBoost bo)], .agg #[.int .i64 s2, .int .u64 h2, .int .i64 se2, .int .u64 sr2, .int .i64 te2, .int .u64 tr2, .slice A2 n2 c2]] (by rfl) rfl rfl (by simp only [List.map_toArray, List.map_cons, List.map_nil]; rfl) ?_
    with_reducible refine (make5_at (HX.out.below HP1.out) (H2.out.below HP1.out) HK2.out).mono ?_
    rintro e wp2 ⟨a2, c2_, rfl, hrow, hb⟩
    refine ⟨_, rfl, ?_⟩
    have HP2 := Aside0.mk (below_then HP1.out HP1.out.size hb)
    have R2_2 := Aside0.mk (Kd.R_lower hrow HP1.out.size)
    have R1_2 := Aside0.mk (Kd.R_below R1_1.out hb)
    have BA2 := Aside0.mk (blk_below BA.out HP2.out)
    have BB2 := Aside0.mk (blk_below BB.out HP2.out)
    have BM2 := Aside0.mk (blk_below BM.out HP2.out)
    clear hb hrow
    refine hK.out _ _ ⟨(pw_cell_below HP2.out hq0), (pw_cell_below HP2.out hq1), (pw_cell_below HP2.out hq2), (pw_cell_below HP2.out hq3), (pw_cell_below HP2.out hq4), (pw_cell_below HP2.out hq5), (pw_cell_below HP2.out hq6), (pw_cell_below HP2.out hq7), (pw_cell_below HP2.out hq8), (pw_cell_below HP2.out hq9), (pw_cell_below HP2.out hq10), (pw_cell_below HP2.out hq11), (pw_cell_below HP2.out hq12), (pw_cell_below HP2.out hq13), (pw_cell_below HP2.out hq14), (pw_cell_below HP2.out hq15), (pw_cell_below HP2.out hq16)⟩ (fun hHeld => ?_)
    clear hK K
    refine norm_ (a' := ?_) ?_ ?_
    rotate_left
    · show Act.put _ (some 24) _ = _
      simp only [Act.put, List.setIfInBounds_toArray, List.set_cons_zero, List.set_cons_succ, i64_w, i32_w]
      rfl
    refine last_ (i := 6) (N := none) #[true, true, true, true, true, true, true, false] rfl rfl (by kernel_rfl) (by decide) (fun K hK => ?_)
    refine store_step (by rfl) rfl 30 (.tmp 5) (.tmp 21) rfl (w.heap.size + 1) 30 _ #[.int .i64 (mkAt s), .int .u64 (Int.tmod h 8), .int .i64 (mkSe (mkSlots sl) s se), .int .u64 (Int.tmod sr 8), .int .i64 (mkTe (mkSlots sl) s), .int .u64 (Int.tmod tr 8), .slice a1 W1.length c1_] rfl rfl BA2.out rfl (by kernel_rfl) (by simp [Value.oneCell']) ?_
    intro wk hbk hgr
    have BAk := Aside0.mk hbk
    have HK6 := Aside0.mk ((below_then HBR.out HBR.out.size HP2.out).grown hgr (below_then HBR.out HBR.out.size HP2.out).size (fun k hk => by cases hk; exact Nat.le_succ _))
    have R1k := Aside0.mk (R_over R1_2.out BA2.out hgr)
    have R2k := Aside0.mk (R_over R2_2.out BA2.out hgr)
    have BBk := Aside0.mk (blk_grown BB2.out hgr (fun e => by injection e with e; omega))
    have BMk := Aside0.mk (blk_grown BM2.out hgr (fun e => by injection e with e; have := GM.out; omega))
    have HXk := Aside0.mk (U_over (Kd.R_below HXR.out HP2.out) BA2.out hgr)
    clear hbk hgr
    refine hK.out _ _ ?_
    clear hK K
    refine last_ (i := 7) (N := none) #[true, true, true, true, true, true, true, true] rfl rfl (by kernel_rfl) (by decide) (fun K hK => ?_)
    refine store_step (by rfl) rfl 30 (.tmp 6) (.tmp 24) rfl (w.heap.size + 1 + 1) 30 _ #[.int .i64 (mkAt s2), .int .u64 (Int.tmod h2 8), .int .i64 (mkSe (mkSlots sl) s2 se2), .int .u64 (Int.tmod sr2 8), .int .i64 (mkTe (mkSlots sl) s2), .int .u64 (Int.tmod tr2 8), .slice a2 W2.length c2_] rfl rfl BBk.out rfl (by kernel_rfl) (by simp [Value.oneCell']) ?_
    intro wz hbk hgr
    have B9 := Aside0.mk hbk
    have HZ := Aside0.mk (HK6.out.grown hgr HK6.out.size (fun k hk => by cases hk; exact Nat.le_add_right _ 2))
    have RW1 := Aside0.mk (row_R (R_over R1k.out BBk.out hgr))
    have RW2 := Aside0.mk (row_R (R_over R2k.out BBk.out hgr))
    have B8 := Aside0.mk (blk_grown BAk.out hgr (fun e => by injection e with e; omega))
    have BMz := Aside0.mk (blk_grown BMk.out hgr (fun e => by injection e with e; have := GM.out; omega))
    have HXz := Aside0.mk (U_over HXk.out BBk.out hgr)
    clear hbk hgr
    refine hK.out _ _ ?_
    clear hK K
    refine done_ (by kernel_rfl) ?_

    obtain ⟨kx, hkx⟩ := hrx.rounds
    obtain ⟨ky, hky⟩ := hry.rounds
    obtain ⟨kw, hkw⟩ := (who_f hl1 hl2 hrx hry).rounds
    have BM20 := BMz
    have BA20 := B8
    have BB20 := B9
    have HX20 := Aside0.mk (row_R HXz.out)
    have U1_20 := RW1
    have U2_20 := RW2
    have HB20 := HZ
    clear hrx hry
    obtain ⟨kb, hkb⟩ := (both_f W1 W2 (mkAt s) (Int.tmod h 8) (mkSe (mkSlots sl) s se) (Int.tmod sr 8) (mkTe (mkSlots sl) s) (Int.tmod tr 8) (mkAt s2) (Int.tmod h2 8) (mkSe (mkSlots sl) s2 se2) (Int.tmod sr2 8) (mkTe (mkSlots sl) s2) (Int.tmod tr2 8) hl1 hl2).rounds
    have HKB := Aside0.mk hkb
    clear hkb
    have hkd := bad_is (mkAt s) (Int.tmod h 8) (mkSe (mkSlots sl) s se) (Int.tmod sr 8) (mkTe (mkSlots sl) s) (Int.tmod tr 8) (mkAt s2) (Int.tmod h2 8) (mkSe (mkSlots sl) s2 se2) (Int.tmod sr2 8) (mkTe (mkSlots sl) s2) (Int.tmod tr2 8) W1 W2
    have hbl : (both W1 W2).length ≤ 17592186043904 := Nat.le_trans (both_len _ _) hl1
    have m20 := blk_cell BM20.out
    have a20 := blk_cell BA20.out
    have b20 := blk_cell BB20.out
    cases rx with
    | false =>
      have HKP : Aside0 (slash_Who.f kw (mkBal bal) (mkSlots sl) (mkBoost bo) (mkAt s) (Int.tmod h 8) (mkSe (mkSlots sl) s se) (Int.tmod sr 8) (mkTe (mkSlots sl) s) (Int.tmod tr 8) W1 (mkAt s2) (Int.tmod h2 8) (mkSe (mkSlots sl) s2 se2) (Int.tmod sr2 8) (mkTe (mkSlots sl) s2) (Int.tmod tr2 8) W2 = some ([], some 11)) := ⟨by rw [hkw]; simp [whoV]⟩
      have HRX := Aside0.mk hkx
      clear hkw hkx hky hkd
      go_wp2_with (first
        | (go_at_call 9; (have hw := who_at HX20.out U1_20.out U2_20.out HKP.out); (try rw [errW_none] at hw); (try rw [errW_some] at hw); with_reducible refine hw.mono ?_; clear hw; rintro x w21 ⟨ap, cp, rfl, hp, hb⟩; have HP21 := Aside0.mk hp; have HB21 := Aside0.mk (below_then HB20.out HB20.out.size hb); have HX21 := Aside0.mk (HX20.out.below hb); have U1_21 := Aside0.mk (U1_20.out.below hb); have U2_21 := Aside0.mk (U2_20.out.below hb); have BM21 := Aside0.mk (blk_below BM20.out hb); have BA21 := Aside0.mk (blk_below BA20.out hb); have BB21 := Aside0.mk (blk_below BB20.out hb); have m21 := blk_cell BM21.out; have a21 := blk_cell BA21.out; have b21 := blk_cell BB21.out; clear hb hp m20 a20 b20)
        | (go_at_call 10; with_reducible refine (both_at U1_21.out U2_21.out HKB.out).mono ?_; rintro x w22 ⟨aq, cq, rfl, hq, hb⟩; have HQ22 := Aside0.mk hq; have HP22 := Aside0.mk (HP21.out.below hb); have HB22 := Aside0.mk (below_then HB21.out HB21.out.size hb); have HX22 := Aside0.mk (HX21.out.below hb); have U1_22 := Aside0.mk (U1_21.out.below hb); have U2_22 := Aside0.mk (U2_21.out.below hb); have BM22 := Aside0.mk (blk_below BM21.out hb); have BA22 := Aside0.mk (blk_below BA21.out hb); have BB22 := Aside0.mk (blk_below BB21.out hb); have m22 := blk_cell BM22.out; have a22 := blk_cell BA22.out; have b22 := blk_cell BB22.out; clear hb hq m21 a21 b21)
        | (go_at_call 11; with_reducible refine (right_at HX22.out U1_22.out HRX.out).mono ?_; rintro x w23 ⟨rfl, hb⟩; have HP23 := Aside0.mk (HP22.out.below hb); have HQ23 := Aside0.mk (HQ22.out.below hb); have HL23 := Aside0.mk (laid_below HL0.out (below_then HB22.out HB22.out.size hb)); have HB23 := Aside0.mk (below_then HB22.out HB22.out.size hb); have HX23 := Aside0.mk (HX22.out.below hb); have U1_23 := Aside0.mk (U1_22.out.below hb); have U2_23 := Aside0.mk (U2_22.out.below hb); have BM23 := Aside0.mk (blk_below BM22.out hb); have BA23 := Aside0.mk (blk_below BA22.out hb); have BB23 := Aside0.mk (blk_below BB22.out hb); have m23 := blk_cell BM23.out; have a23 := blk_cell BA23.out; have b23 := blk_cell BB23.out; clear hb m22 a22 b22)
        | (go_at_call 13; with_reducible refine (number_11 HL23.out).mono ?_; rintro x w30 ⟨rfl, hb⟩; have HB30 := Aside0.mk (below_then HB23.out HB23.out.size hb); clear hb))
      go_ret
      exact ⟨by first | rfl | simp, HB30.out⟩
    | true =>
      cases ry with
      | false =>
        have HKP : Aside0 (slash_Who.f kw (mkBal bal) (mkSlots sl) (mkBoost bo) (mkAt s) (Int.tmod h 8) (mkSe (mkSlots sl) s se) (Int.tmod sr 8) (mkTe (mkSlots sl) s) (Int.tmod tr 8) W1 (mkAt s2) (Int.tmod h2 8) (mkSe (mkSlots sl) s2 se2) (Int.tmod sr2 8) (mkTe (mkSlots sl) s2) (Int.tmod tr2 8) W2 = some ([], some 11)) := ⟨by rw [hkw]; simp [whoV]⟩
        have HRX := Aside0.mk hkx
        have HRY := Aside0.mk hky
        clear hkw hkx hky hkd
        go_wp2_with (first
        | (go_at_call 9; (have hw := who_at HX20.out U1_20.out U2_20.out HKP.out); (try rw [errW_none] at hw); (try rw [errW_some] at hw); with_reducible refine hw.mono ?_; clear hw; rintro x w21 ⟨ap, cp, rfl, hp, hb⟩; have HP21 := Aside0.mk hp; have HB21 := Aside0.mk (below_then HB20.out HB20.out.size hb); have HX21 := Aside0.mk (HX20.out.below hb); have U1_21 := Aside0.mk (U1_20.out.below hb); have U2_21 := Aside0.mk (U2_20.out.below hb); have BM21 := Aside0.mk (blk_below BM20.out hb); have BA21 := Aside0.mk (blk_below BA20.out hb); have BB21 := Aside0.mk (blk_below BB20.out hb); have m21 := blk_cell BM21.out; have a21 := blk_cell BA21.out; have b21 := blk_cell BB21.out; clear hb hp m20 a20 b20)
        | (go_at_call 10; with_reducible refine (both_at U1_21.out U2_21.out HKB.out).mono ?_; rintro x w22 ⟨aq, cq, rfl, hq, hb⟩; have HQ22 := Aside0.mk hq; have HP22 := Aside0.mk (HP21.out.below hb); have HB22 := Aside0.mk (below_then HB21.out HB21.out.size hb); have HX22 := Aside0.mk (HX21.out.below hb); have U1_22 := Aside0.mk (U1_21.out.below hb); have U2_22 := Aside0.mk (U2_21.out.below hb); have BM22 := Aside0.mk (blk_below BM21.out hb); have BA22 := Aside0.mk (blk_below BA21.out hb); have BB22 := Aside0.mk (blk_below BB21.out hb); have m22 := blk_cell BM22.out; have a22 := blk_cell BA22.out; have b22 := blk_cell BB22.out; clear hb hq m21 a21 b21)
        | (go_at_call 11; with_reducible refine (right_at HX22.out U1_22.out HRX.out).mono ?_; rintro x w23 ⟨rfl, hb⟩; have HP23 := Aside0.mk (HP22.out.below hb); have HQ23 := Aside0.mk (HQ22.out.below hb); have HL23 := Aside0.mk (laid_below HL0.out (below_then HB22.out HB22.out.size hb)); have HB23 := Aside0.mk (below_then HB22.out HB22.out.size hb); have HX23 := Aside0.mk (HX22.out.below hb); have U1_23 := Aside0.mk (U1_22.out.below hb); have U2_23 := Aside0.mk (U2_22.out.below hb); have BM23 := Aside0.mk (blk_below BM22.out hb); have BA23 := Aside0.mk (blk_below BA22.out hb); have BB23 := Aside0.mk (blk_below BB22.out hb); have m23 := blk_cell BM23.out; have a23 := blk_cell BA23.out; have b23 := blk_cell BB23.out; clear hb m22 a22 b22)
        | (go_at_call 11; with_reducible refine (right_at HX23.out U2_23.out HRY.out).mono ?_; rintro x w24 ⟨rfl, hb⟩; have HP24 := Aside0.mk (HP23.out.below hb); have HQ24 := Aside0.mk (HQ23.out.below hb); have HL24 := Aside0.mk (laid_below HL0.out (below_then HB23.out HB23.out.size hb)); have HB24 := Aside0.mk (below_then HB23.out HB23.out.size hb); have HX24 := Aside0.mk (HX23.out.below hb); have U1_24 := Aside0.mk (U1_23.out.below hb); have U2_24 := Aside0.mk (U2_23.out.below hb); have BM24 := Aside0.mk (blk_below BM23.out hb); have BA24 := Aside0.mk (blk_below BA23.out hb); have BB24 := Aside0.mk (blk_below BB23.out hb); have m24 := blk_cell BM24.out; have a24 := blk_cell BA24.out; have b24 := blk_cell BB24.out; clear hb m23 a23 b23)
        | (go_at_call 13; with_reducible refine (number_11 HL24.out).mono ?_; rintro x w30 ⟨rfl, hb⟩; have HB30 := Aside0.mk (below_then HB24.out HB24.out.size hb); clear hb))
        go_ret
        exact ⟨by first | rfl | simp, HB30.out⟩
      | true =>
        cases hbd : (dblB (mkAt s) (Int.tmod h 8) (mkSe (mkSlots sl) s se) (Int.tmod sr 8) (mkTe (mkSlots sl) s) (Int.tmod tr 8) (mkAt s2) (Int.tmod h2 8) (mkSe (mkSlots sl) s2 se2) (Int.tmod sr2 8) (mkTe (mkSlots sl) s2) (Int.tmod tr2 8) || arnB (mkSe (mkSlots sl) s se) (mkTe (mkSlots sl) s) (mkSe (mkSlots sl) s2 se2) (mkTe (mkSlots sl) s2) || arnB (mkSe (mkSlots sl) s2 se2) (mkTe (mkSlots sl) s2) (mkSe (mkSlots sl) s se) (mkTe (mkSlots sl) s)) with
        | false =>
          rw [hbd] at hkw hkd
          have HKP : Aside0 (slash_Who.f kw (mkBal bal) (mkSlots sl) (mkBoost bo) (mkAt s) (Int.tmod h 8) (mkSe (mkSlots sl) s se) (Int.tmod sr 8) (mkTe (mkSlots sl) s) (Int.tmod tr 8) W1 (mkAt s2) (Int.tmod h2 8) (mkSe (mkSlots sl) s2 se2) (Int.tmod sr2 8) (mkTe (mkSlots sl) s2) (Int.tmod tr2 8) W2 = some ([], some 11)) := ⟨by rw [hkw]; simp [whoV]⟩
          have HRX := Aside0.mk hkx
          have HRY := Aside0.mk hky
          have HKD := Aside0.mk hkd
          clear hkw hkx hky hkd hbd
          go_wp2_with (first
        | (go_at_call 9; (have hw := who_at HX20.out U1_20.out U2_20.out HKP.out); (try rw [errW_none] at hw); (try rw [errW_some] at hw); with_reducible refine hw.mono ?_; clear hw; rintro x w21 ⟨ap, cp, rfl, hp, hb⟩; have HP21 := Aside0.mk hp; have HB21 := Aside0.mk (below_then HB20.out HB20.out.size hb); have HX21 := Aside0.mk (HX20.out.below hb); have U1_21 := Aside0.mk (U1_20.out.below hb); have U2_21 := Aside0.mk (U2_20.out.below hb); have BM21 := Aside0.mk (blk_below BM20.out hb); have BA21 := Aside0.mk (blk_below BA20.out hb); have BB21 := Aside0.mk (blk_below BB20.out hb); have m21 := blk_cell BM21.out; have a21 := blk_cell BA21.out; have b21 := blk_cell BB21.out; clear hb hp m20 a20 b20)
        | (go_at_call 10; with_reducible refine (both_at U1_21.out U2_21.out HKB.out).mono ?_; rintro x w22 ⟨aq, cq, rfl, hq, hb⟩; have HQ22 := Aside0.mk hq; have HP22 := Aside0.mk (HP21.out.below hb); have HB22 := Aside0.mk (below_then HB21.out HB21.out.size hb); have HX22 := Aside0.mk (HX21.out.below hb); have U1_22 := Aside0.mk (U1_21.out.below hb); have U2_22 := Aside0.mk (U2_21.out.below hb); have BM22 := Aside0.mk (blk_below BM21.out hb); have BA22 := Aside0.mk (blk_below BA21.out hb); have BB22 := Aside0.mk (blk_below BB21.out hb); have m22 := blk_cell BM22.out; have a22 := blk_cell BA22.out; have b22 := blk_cell BB22.out; clear hb hq m21 a21 b21)
        | (go_at_call 11; with_reducible refine (right_at HX22.out U1_22.out HRX.out).mono ?_; rintro x w23 ⟨rfl, hb⟩; have HP23 := Aside0.mk (HP22.out.below hb); have HQ23 := Aside0.mk (HQ22.out.below hb); have HL23 := Aside0.mk (laid_below HL0.out (below_then HB22.out HB22.out.size hb)); have HB23 := Aside0.mk (below_then HB22.out HB22.out.size hb); have HX23 := Aside0.mk (HX22.out.below hb); have U1_23 := Aside0.mk (U1_22.out.below hb); have U2_23 := Aside0.mk (U2_22.out.below hb); have BM23 := Aside0.mk (blk_below BM22.out hb); have BA23 := Aside0.mk (blk_below BA22.out hb); have BB23 := Aside0.mk (blk_below BB22.out hb); have m23 := blk_cell BM23.out; have a23 := blk_cell BA23.out; have b23 := blk_cell BB23.out; clear hb m22 a22 b22)
        | (go_at_call 11; with_reducible refine (right_at HX23.out U2_23.out HRY.out).mono ?_; rintro x w24 ⟨rfl, hb⟩; have HP24 := Aside0.mk (HP23.out.below hb); have HQ24 := Aside0.mk (HQ23.out.below hb); have HL24 := Aside0.mk (laid_below HL0.out (below_then HB23.out HB23.out.size hb)); have HB24 := Aside0.mk (below_then HB23.out HB23.out.size hb); have HX24 := Aside0.mk (HX23.out.below hb); have U1_24 := Aside0.mk (U1_23.out.below hb); have U2_24 := Aside0.mk (U2_23.out.below hb); have BM24 := Aside0.mk (blk_below BM23.out hb); have BA24 := Aside0.mk (blk_below BA23.out hb); have BB24 := Aside0.mk (blk_below BB23.out hb); have m24 := blk_cell BM24.out; have a24 := blk_cell BA24.out; have b24 := blk_cell BB24.out; clear hb m23 a23 b23)
        | (go_at_call 12; with_reducible refine (bad_at U1_24.out U2_24.out HKD.out).mono ?_; rintro x w25 ⟨rfl, hb⟩; have HP25 := Aside0.mk (HP24.out.below hb); have HQ25 := Aside0.mk (HQ24.out.below hb); have HL25 := Aside0.mk (laid_below HL0.out (below_then HB24.out HB24.out.size hb)); have HB25 := Aside0.mk (below_then HB24.out HB24.out.size hb); clear hb m24 a24 b24)
        | (go_at_call 13; with_reducible refine (number_11 HL25.out).mono ?_; rintro x w30 ⟨rfl, hb⟩; have HB30 := Aside0.mk (below_then HB25.out HB25.out.size hb); clear hb))
          go_ret
          exact ⟨by first | rfl | simp, HB30.out⟩
        | true =>
          rw [hbd] at hkw hkd
          have HRX := Aside0.mk hkx
          have HRY := Aside0.mk hky
          have HKD := Aside0.mk hkd
          clear hkx hky hkd hbd
          by_cases hem : (both W1 W2).length = 0
          · have HKP : Aside0 (slash_Who.f kw (mkBal bal) (mkSlots sl) (mkBoost bo) (mkAt s) (Int.tmod h 8) (mkSe (mkSlots sl) s se) (Int.tmod sr 8) (mkTe (mkSlots sl) s) (Int.tmod tr 8) W1 (mkAt s2) (Int.tmod h2 8) (mkSe (mkSlots sl) s2 se2) (Int.tmod sr2 8) (mkTe (mkSlots sl) s2) (Int.tmod tr2 8) W2 = some ([], some 11)) := ⟨by rw [hkw]; simp [whoV, hem]⟩
            have t9 : (((both W1 W2).length : Int) == 0) = true := by rw [hem]; rfl
            clear hkw hem
            go_wp2_with (first
        | (go_at_call 9; (have hw := who_at HX20.out U1_20.out U2_20.out HKP.out); (try rw [errW_none] at hw); (try rw [errW_some] at hw); with_reducible refine hw.mono ?_; clear hw; rintro x w21 ⟨ap, cp, rfl, hp, hb⟩; have HP21 := Aside0.mk hp; have HB21 := Aside0.mk (below_then HB20.out HB20.out.size hb); have HX21 := Aside0.mk (HX20.out.below hb); have U1_21 := Aside0.mk (U1_20.out.below hb); have U2_21 := Aside0.mk (U2_20.out.below hb); have BM21 := Aside0.mk (blk_below BM20.out hb); have BA21 := Aside0.mk (blk_below BA20.out hb); have BB21 := Aside0.mk (blk_below BB20.out hb); have m21 := blk_cell BM21.out; have a21 := blk_cell BA21.out; have b21 := blk_cell BB21.out; clear hb hp m20 a20 b20)
        | (go_at_call 10; with_reducible refine (both_at U1_21.out U2_21.out HKB.out).mono ?_; rintro x w22 ⟨aq, cq, rfl, hq, hb⟩; have HQ22 := Aside0.mk hq; have HP22 := Aside0.mk (HP21.out.below hb); have HB22 := Aside0.mk (below_then HB21.out HB21.out.size hb); have HX22 := Aside0.mk (HX21.out.below hb); have U1_22 := Aside0.mk (U1_21.out.below hb); have U2_22 := Aside0.mk (U2_21.out.below hb); have BM22 := Aside0.mk (blk_below BM21.out hb); have BA22 := Aside0.mk (blk_below BA21.out hb); have BB22 := Aside0.mk (blk_below BB21.out hb); have m22 := blk_cell BM22.out; have a22 := blk_cell BA22.out; have b22 := blk_cell BB22.out; clear hb hq m21 a21 b21)
        | (go_at_call 11; with_reducible refine (right_at HX22.out U1_22.out HRX.out).mono ?_; rintro x w23 ⟨rfl, hb⟩; have HP23 := Aside0.mk (HP22.out.below hb); have HQ23 := Aside0.mk (HQ22.out.below hb); have HL23 := Aside0.mk (laid_below HL0.out (below_then HB22.out HB22.out.size hb)); have HB23 := Aside0.mk (below_then HB22.out HB22.out.size hb); have HX23 := Aside0.mk (HX22.out.below hb); have U1_23 := Aside0.mk (U1_22.out.below hb); have U2_23 := Aside0.mk (U2_22.out.below hb); have BM23 := Aside0.mk (blk_below BM22.out hb); have BA23 := Aside0.mk (blk_below BA22.out hb); have BB23 := Aside0.mk (blk_below BB22.out hb); have m23 := blk_cell BM23.out; have a23 := blk_cell BA23.out; have b23 := blk_cell BB23.out; clear hb m22 a22 b22)
        | (go_at_call 11; with_reducible refine (right_at HX23.out U2_23.out HRY.out).mono ?_; rintro x w24 ⟨rfl, hb⟩; have HP24 := Aside0.mk (HP23.out.below hb); have HQ24 := Aside0.mk (HQ23.out.below hb); have HL24 := Aside0.mk (laid_below HL0.out (below_then HB23.out HB23.out.size hb)); have HB24 := Aside0.mk (below_then HB23.out HB23.out.size hb); have HX24 := Aside0.mk (HX23.out.below hb); have U1_24 := Aside0.mk (U1_23.out.below hb); have U2_24 := Aside0.mk (U2_23.out.below hb); have BM24 := Aside0.mk (blk_below BM23.out hb); have BA24 := Aside0.mk (blk_below BA23.out hb); have BB24 := Aside0.mk (blk_below BB23.out hb); have m24 := blk_cell BM24.out; have a24 := blk_cell BA24.out; have b24 := blk_cell BB24.out; clear hb m23 a23 b23)
        | (go_at_call 12; with_reducible refine (bad_at U1_24.out U2_24.out HKD.out).mono ?_; rintro x w25 ⟨rfl, hb⟩; have HP25 := Aside0.mk (HP24.out.below hb); have HQ25 := Aside0.mk (HQ24.out.below hb); have HL25 := Aside0.mk (laid_below HL0.out (below_then HB24.out HB24.out.size hb)); have HB25 := Aside0.mk (below_then HB24.out HB24.out.size hb); clear hb m24 a24 b24)
        | (go_at_call 13; with_reducible refine (number_11 HL25.out).mono ?_; rintro x w30 ⟨rfl, hb⟩; have HB30 := Aside0.mk (below_then HB25.out HB25.out.size hb); clear hb))
            go_ret
            exact ⟨by first | rfl | simp, HB30.out⟩
          · have HKP : Aside0 (slash_Who.f kw (mkBal bal) (mkSlots sl) (mkBoost bo) (mkAt s) (Int.tmod h 8) (mkSe (mkSlots sl) s se) (Int.tmod sr 8) (mkTe (mkSlots sl) s) (Int.tmod tr 8) W1 (mkAt s2) (Int.tmod h2 8) (mkSe (mkSlots sl) s2 se2) (Int.tmod sr2 8) (mkTe (mkSlots sl) s2) (Int.tmod tr2 8) W2 = some (both W1 W2, none)) := ⟨by rw [hkw]; simp [whoV, hem]⟩
            have t9 : (((both W1 W2).length : Int) == 0) = false := by rw [beq_eq_false_iff_ne]; omega
            have t8 : (((both W1 W2).length : Int) != ((both W1 W2).length : Int)) = false := by simp
            clear hkw hem
            go_wp2_with (first
        | (go_at_call 9; (have hw := who_at HX20.out U1_20.out U2_20.out HKP.out); (try rw [errW_none] at hw); (try rw [errW_some] at hw); with_reducible refine hw.mono ?_; clear hw; rintro x w21 ⟨ap, cp, rfl, hp, hb⟩; have HP21 := Aside0.mk hp; have HB21 := Aside0.mk (below_then HB20.out HB20.out.size hb); have HX21 := Aside0.mk (HX20.out.below hb); have U1_21 := Aside0.mk (U1_20.out.below hb); have U2_21 := Aside0.mk (U2_20.out.below hb); have BM21 := Aside0.mk (blk_below BM20.out hb); have BA21 := Aside0.mk (blk_below BA20.out hb); have BB21 := Aside0.mk (blk_below BB20.out hb); have m21 := blk_cell BM21.out; have a21 := blk_cell BA21.out; have b21 := blk_cell BB21.out; clear hb hp m20 a20 b20)
        | (go_at_call 10; with_reducible refine (both_at U1_21.out U2_21.out HKB.out).mono ?_; rintro x w22 ⟨aq, cq, rfl, hq, hb⟩; have HQ22 := Aside0.mk hq; have HP22 := Aside0.mk (HP21.out.below hb); have HB22 := Aside0.mk (below_then HB21.out HB21.out.size hb); have HX22 := Aside0.mk (HX21.out.below hb); have U1_22 := Aside0.mk (U1_21.out.below hb); have U2_22 := Aside0.mk (U2_21.out.below hb); have BM22 := Aside0.mk (blk_below BM21.out hb); have BA22 := Aside0.mk (blk_below BA21.out hb); have BB22 := Aside0.mk (blk_below BB21.out hb); have m22 := blk_cell BM22.out; have a22 := blk_cell BA22.out; have b22 := blk_cell BB22.out; clear hb hq m21 a21 b21)
        | (go_at_call 11; with_reducible refine (right_at HX22.out U1_22.out HRX.out).mono ?_; rintro x w23 ⟨rfl, hb⟩; have HP23 := Aside0.mk (HP22.out.below hb); have HQ23 := Aside0.mk (HQ22.out.below hb); have HL23 := Aside0.mk (laid_below HL0.out (below_then HB22.out HB22.out.size hb)); have HB23 := Aside0.mk (below_then HB22.out HB22.out.size hb); have HX23 := Aside0.mk (HX22.out.below hb); have U1_23 := Aside0.mk (U1_22.out.below hb); have U2_23 := Aside0.mk (U2_22.out.below hb); have BM23 := Aside0.mk (blk_below BM22.out hb); have BA23 := Aside0.mk (blk_below BA22.out hb); have BB23 := Aside0.mk (blk_below BB22.out hb); have m23 := blk_cell BM23.out; have a23 := blk_cell BA23.out; have b23 := blk_cell BB23.out; clear hb m22 a22 b22)
        | (go_at_call 11; with_reducible refine (right_at HX23.out U2_23.out HRY.out).mono ?_; rintro x w24 ⟨rfl, hb⟩; have HP24 := Aside0.mk (HP23.out.below hb); have HQ24 := Aside0.mk (HQ23.out.below hb); have HL24 := Aside0.mk (laid_below HL0.out (below_then HB23.out HB23.out.size hb)); have HB24 := Aside0.mk (below_then HB23.out HB23.out.size hb); have HX24 := Aside0.mk (HX23.out.below hb); have U1_24 := Aside0.mk (U1_23.out.below hb); have U2_24 := Aside0.mk (U2_23.out.below hb); have BM24 := Aside0.mk (blk_below BM23.out hb); have BA24 := Aside0.mk (blk_below BA23.out hb); have BB24 := Aside0.mk (blk_below BB23.out hb); have m24 := blk_cell BM24.out; have a24 := blk_cell BA24.out; have b24 := blk_cell BB24.out; clear hb m23 a23 b23)
        | (go_at_call 12; with_reducible refine (bad_at U1_24.out U2_24.out HKD.out).mono ?_; rintro x w25 ⟨rfl, hb⟩; have HP25 := Aside0.mk (HP24.out.below hb); have HQ25 := Aside0.mk (HQ24.out.below hb); have HL25 := Aside0.mk (laid_below HL0.out (below_then HB24.out HB24.out.size hb)); have HB25 := Aside0.mk (below_then HB24.out HB24.out.size hb); clear hb m24 a24 b24))
            go_loopw [76] (fun c wv => ∃ k : Nat, k ≤ (both W1 W2).length ∧ c = .int .i64 k ∧ Aside0 (Below w25.heap.size w25 wv)) (fun c _ => (both W1 W2).length - (intOf c).toNat)
            case atStart => exact ⟨0, by omega, rfl, ⟨Below.refl _ _⟩⟩
            case round =>
              obtain ⟨k, hk, rfl, HBV⟩ := hrel
              by_cases hlt : k < (both W1 W2).length
              · have t0 : decide ((k : Int) < ((both W1 W2).length : Int)) = true := decide_eq_true (by omega)
                have i0 : (0 : Int) ≤ (k : Int) := by omega
                have i1 : (k : Int) < ((both W1 W2).length : Int) := by omega
                obtain ⟨adp, rfl, hcp⟩ := Kd.at_int HP25.out.2.2 (k : Int) i0 i1
                obtain ⟨adq, rfl, hcq⟩ := Kd.at_int HQ25.out.2.2 (k : Int) i0 i1
                rw [Int.toNat_natCast] at hcp hcq
                have hcp' := pw_cell_below HBV.out hcp
                have hcq' := pw_cell_below HBV.out hcq
                have hnx : (rd (both W1 W2) (k : Int) != rd (both W1 W2) (k : Int)) = false := by simp
                clear hcp hcq
                go_upto_region 15 with fail
                go_region_held3 (fun w' => w'.cell? (adp.add k) = some (.int .i64 (rd (both W1 W2) (k : Int))) ∧ w'.cell? (adq.add k) = some (.int .i64 (rd (both W1 W2) (k : Int))))
                  (exact ⟨hcp', hcq'⟩)
                  (fail)
                all_goals
                  go_wp2_with fail
                  go_roundw
                  case rel => exact ⟨k + 1, by omega, by go_num, ⟨by with_reducible repeat (first | exact HBV.out | apply below_drew1)⟩⟩
                  case measure => simp [intOf]; omega
              · have t0 : decide ((k : Int) < ((both W1 W2).length : Int)) = false := decide_eq_false (by omega)
                go_wp2_with fail
                go_ret
                exact ⟨rfl, below_then HB25.out HB25.out.size HBV.out⟩

/-- The same, of arguments as they are opened. -/
theorem slashWho_args {A0 A1 A2 : Option Addr} {n0 c0 n1 c1 n2 c2 : Nat} {z0 z1 z2 : List Int} {sl bo s h se sr te tr s2 h2 se2 sr2 te2 tr2 : Int} {gd : Bool} {w : World} (hL : Number.Laid w) (g0 : Open.ConfigArg w A0 n0 c0 z0 sl bo) (g1 : Open.VoteArg w s h se sr te tr A1 n1 c1 z1) (g2 : Open.VoteArg w s2 h2 se2 sr2 te2 tr2 A2 n2 c2 z2) :
    Calls Tryd.prog 3 #[.agg #[.slice A0 n0 c0, .int .i64 sl, .int .i64 bo], .agg #[.int .i64 s, .int .u64 h, .int .i64 se, .int .u64 sr, .int .i64 te, .int .u64 tr, .slice A1 n1 c1], .agg #[.int .i64 s2, .int .u64 h2, .int .i64 se2, .int .u64 sr2, .int .i64 te2, .int .u64 tr2, .slice A2 n2 c2], .bool gd] w fun x w' => x = .returned (.bool true) ∧ Below w.heap.size w w' := by
  have h0 := Kd.C_of_reads (d := (0 : Int)) (h1 := fun _ => rfl) g0.row.reads
  have h1 := Kd.C_of_reads (d := (0 : Int)) (h1 := fun _ => rfl) g1.row.reads
  have h3 := Kd.C_of_reads (d := (0 : Int)) (h1 := fun _ => rfl) g2.row.reads
  have s0 := g0.row.size
  have s1 := g1.row.size
  have s3 := g2.row.size
  exact slashWho_law A0 n0 c0 z0 sl bo s h se sr te tr A1 n1 c1 z1 s2 h2 se2 sr2 te2 tr2 A2 n2 c2 z2 gd w hL ⟨h0.1, g0.row.le, h0⟩ (by omega) (bd_i64 g0.wb) ⟨h1.1, g1.row.le, h1⟩ (by omega) (bd_i64 g1.ws) (bd_i64 g1.s.1) ⟨h3.1, g2.row.le, h3⟩ (by omega) (bd_i64 g2.ws) (bd_i64 g2.s.1)
end Go.Proofs.YtolkagkfedpjmaaDoor.QT
