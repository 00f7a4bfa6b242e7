/-
  The walk of the law SlashTurn of package psephoslaw06: its call answers true, and writes nothing that was there; of any configuration and any two votes, where the library's variable is laid.
-/
import Derived.Test.YtolkagkfedpjmaaDoorQTx2
import Derived.Test.YtolkagkfedpjmaaDoorQTx3
import Derived.Test.YtolkagkfedpjmaaDoorQTx4
import Derived.Test.YtolkagkfedpjmaaDoorQTx5
import Derived.Test.YtolkagkfedpjmaaDoorQTx6
import Derived.Test.YtolkagkfedpjmaaDoorOwn
import Derived.Test.YtolkagkfedpjmaaDoorQTx11
import Derived.Test.YtolkagkfedpjmaaDoorQTx17
import Derived.Test.YtolkagkfedpjmaaDoorQTx18
import Derived.Test.YtolkagkfedpjmaaDoorQTx19
import Derived.Test.YtolkagkfedpjmaaDoorVotePureB
import Derived.Test.YtolkagkfedpjmaaDoorNumber
import Derived.Test.YtolkagkfedpjmaaDoorOpenStruct
import Derived.Test.YtolkagkfedpjmaaDoorQTx8
import Derived.Test.YtolkagkfedpjmaaDoorQTx20
import Derived.Deep.RegionHeld3
namespace Go.Proofs.YtolkagkfedpjmaaDoor.QT
open Go.RowKit Go.Proofs.YtolkagkfedpjmaaDoorW.PrintWords Go.Proofs.YtolkagkfedpjmaaDoorW.PrintLast Go.Proofs.YtolkagkfedpjmaaDoorW.PrintMore
set_option linter.unusedVariables false

def sameB (s h se sr te tr s' h' se' sr' te' tr' : Int) : Bool := decide (s = s' ∧ h = h' ∧ (se = se' ∧ sr = sr') ∧ te = te' ∧ tr = tr')
def dblB (s h se sr te tr s' h' se' sr' te' tr' : Int) : Bool := decide (te = te') && !sameB s h se sr te tr s' h' se' sr' te' tr'
def arnB (se te se' te' : Int) : Bool := decide (se < se') && decide (te' < te)
theorem same_is (s h se sr te tr s' h' se' sr' te' tr' : Int) (l l' : List Int) : vote_Same.f s h se sr te tr l s' h' se' sr' te' tr' l' = some (sameB s h se sr te tr s' h' se' sr' te' tr') := by
  unfold vote_Same.f sameB
  by_cases c1 : s = s'
  · by_cases c2 : h = h'
    · by_cases c3 : se = se'
      · by_cases c4 : sr = sr'
        · by_cases c5 : te = te'
          · by_cases c6 : tr = tr' <;> simp [c1, c2, c3, c4, c5, c6]
          · simp [c1, c2, c3, c4, c5]
        · simp [c1, c2, c3, c4]
      · simp [c1, c2, c3]
    · simp [c1, c2]
  · simp [c1]
theorem dbl_is (s h se sr te tr s' h' se' sr' te' tr' : Int) (l l' : List Int) : slash_Double.f s h se sr te tr l s' h' se' sr' te' tr' l' = some (dblB s h se sr te tr s' h' se' sr' te' tr') := by
  unfold slash_Double.f dblB
  rw [same_is]
  by_cases c : te = te' <;> simp [c]
theorem arn_is (s h se sr te tr s' h' se' sr' te' tr' : Int) (l l' : List Int) : slash_Around.f s h se sr te tr l s' h' se' sr' te' tr' l' = some (arnB se te se' te') := by
  unfold slash_Around.f arnB
  by_cases c : se < se' <;> simp [c]
theorem bad_is (s h se sr te tr s' h' se' sr' te' tr' : Int) (l l' : List Int) : slash_Bad.f s h se sr te tr l s' h' se' sr' te' tr' l' = some (dblB s h se sr te tr s' h' se' sr' te' tr' || arnB se te se' te' || arnB se' te' se te) := by
  unfold slash_Bad.f
  rw [dbl_is, arn_is, arn_is]
  cases dblB s h se sr te tr s' h' se' sr' te' tr' <;> cases arnB se te se' te' <;> simp
theorem same_turn (s h se sr te tr s' h' se' sr' te' tr' : Int) : sameB s' h' se' sr' te' tr' s h se sr te tr = sameB s h se sr te tr s' h' se' sr' te' tr' := by
  unfold sameB
  simp only [eq_comm]
theorem dbl_turn (s h se sr te tr s' h' se' sr' te' tr' : Int) : dblB s' h' se' sr' te' tr' s h se sr te tr = dblB s h se sr te tr s' h' se' sr' te' tr' := by
  unfold dblB
  rw [same_turn]
  simp only [eq_comm]
theorem bad_self (s h se sr te tr : Int) (l : List Int) : slash_Bad.f s h se sr te tr l s h se sr te tr l = some false := by
  rw [bad_is]
  simp [dblB, sameB, arnB]
theorem awake_is : psephoslaw06_awake.f = some true := by decide +kernel
end Go.Proofs.YtolkagkfedpjmaaDoor.QT
namespace Go.Proofs.YtolkagkfedpjmaaDoor.Block
open Go.RowKit Go.Proofs.YtolkagkfedpjmaaDoorW.PrintWords Go.Proofs.YtolkagkfedpjmaaDoor.Own

/-- A store of a whole struct into a block that is known whole. -/
theorem store_block {P : Program} {ops : Array Oper} {rest : List Oper} {o : Oper} {a : Act} {Q : Exit → Act → World → Prop} {W : World} (hN : o.dst = none) (hgd : o.guard = none) (t : TypeId) (p x : Operand) (ho : o.op = .store t p x) (g : Nat) (e : TypeId) (cur cs : Array Value)
    (haddr : a.eval p = .pointer (some ⟨g, 0, none⟩)) (hx : a.eval x = .agg cs) (hh : W.heap[g]? = some (.cells cur e (0, 0))) (hsz : cs.size = cur.size) (ht : (P.info? t).map (·.size) = some cs.size) (h1 : ∀ q ∈ cs.toList, q.oneCell' = true)
    (h : ∀ w1, w1.heap[g]? = some (.cells cs e (0, 0)) → W.grownBy w1 (some g) → wpList P ops Q rest a w1) : wpList P ops Q (o :: rest) a W := by
  have hrun := run_store_run (P := P) (w := W) (o := 0) t (.agg cs) cs.toList hh rfl (by rw [ht, Array.length_toList]) (by simp [hsz]) h1
  have hs := setCells_same g cs.toList 0 W
  have hr := setCells_row cs.toList 0 W cur hh (by simp [hsz])
  refine wpList_plain hgd fun K hK => ?_
  unfold Oper.wp execOp
  simp only [ho, haddr, hx, Sem.run_bind, Sem.run_pure, Result.andThen_ok, hrun]
  show K (a.put o.dst undef) _
  rw [hN]
  refine hK a _ (h _ ?_ ⟨hs.1, hs.2.1, hs.2.2.1, by rw [hs.2.2.2]; omega, fun k hk hne => setCells_far _ _ k (fun e => hne (by rw [e]))⟩)
  obtain ⟨cur', h2, h3, h4⟩ := hr
  have : cur' = cs := by
    apply Array.ext'
    rw [h4]
    rw [List.drop_of_length_le (show cur.toList.length ≤ 0 + cs.toList.length by simp [hsz]), List.take_zero, List.nil_append, List.append_nil]
  rwa [this] at h2

/-- Boxes laid one behind the other. -/
theorem box1 (w : World) (A : Array Value) (s : TypeId) : (w.alloc (.cells A s)).heap[w.heap.size]? = some (.cells A s (0, 0)) := heap_alloc_new w _
theorem box3 (w : World) (A B C : Array Value) (s t u : TypeId) : (((w.alloc (.cells A s)).alloc (.cells B t)).alloc (.cells C u)).heap[w.heap.size]? = some (.cells A s (0, 0)) ∧
    (((w.alloc (.cells A s)).alloc (.cells B t)).alloc (.cells C u)).heap[w.heap.size + 1]? = some (.cells B t (0, 0)) ∧ (((w.alloc (.cells A s)).alloc (.cells B t)).alloc (.cells C u)).heap[w.heap.size + 1 + 1]? = some (.cells C u (0, 0)) := by
  refine ⟨?_, ?_, ?_⟩
  · rw [heap_alloc_old _ _ (by simp; omega), heap_alloc_old _ _ (by simp), heap_alloc_new]
  · rw [heap_alloc_old _ _ (by simp), heap_alloc2_new]
  · have := heap_alloc_new ((w.alloc (.cells A s)).alloc (.cells B t)) (.cells C u)
    simpa using this
/-- A block stays as it was below. -/
theorem stays {B : Nat} {w w1 : World} {g : Nat} {o : Obj} (h : w.heap[g]? = some o) (hb : Below B w w1) (hg : g < B) : w1.heap[g]? = some o := (hb.block g hg).trans h
end Go.Proofs.YtolkagkfedpjmaaDoor.Block
namespace Go.Proofs.YtolkagkfedpjmaaDoor.QT
open Go.RowKit Go.Proofs.YtolkagkfedpjmaaDoorW.PrintWords Go.Proofs.YtolkagkfedpjmaaDoorW.PrintLast Go.Proofs.YtolkagkfedpjmaaDoorW.PrintMore Go.Proofs.YtolkagkfedpjmaaDoor.Own
set_option linter.unusedVariables false

/-- What slash.Who answers. -/
def whoV (rx ry bad : Bool) (b : List Int) : List Int × Option Int := if rx && ry && bad && decide (b.length ≠ 0) then (b, none) else ([], some 11)
theorem who_f {bal W1 W2 : List Int} {sl bo f0 f1 f2 f3 f4 f5 g0 g1 g2 g3 g4 g5 : Int} {rx ry : Bool} (h1 : W1.length ≤ 17592186043904) (h2 : W2.length ≤ 140737488351232)
    (hx : Ev (fun k => vote_Right.f k bal sl bo f0 f1 f2 f3 f4 f5 W1) rx) (hy : Ev (fun k => vote_Right.f k bal sl bo g0 g1 g2 g3 g4 g5 W2) ry) :
    Ev (fun k => slash_Who.f k bal sl bo f0 f1 f2 f3 f4 f5 W1 g0 g1 g2 g3 g4 g5 W2) (whoV rx ry (dblB f0 f1 f2 f3 f4 f5 g0 g1 g2 g3 g4 g5 || arnB f2 f4 g2 g4 || arnB g2 g4 f2 f4) (both W1 W2)) := by
  have hj : ∀ b, Ev (fun k => slash_Who.j0 k (!b) f0 f1 f2 f3 f4 f5 W1 g0 g1 g2 g3 g4 g5 W2) (whoV true true b (both W1 W2)) := by
    intro b
    cases b with
    | false =>
      refine Ev.step (f := fun _ => some (([] : List Int), some 11)) (fun k => ?_) (Ev.now _)
      simp [slash_Who.j0]
    | true =>
      refine Ev.step (f := fun k => (vote_Both.f k f0 f1 f2 f3 f4 f5 W1 g0 g1 g2 g3 g4 g5 W2).bind fun t180 => (if (t180.length : Int) = 0 then (some (([] : List Int), some 11)) else (some (t180, none)))) (fun k => ?_) ?_
      · simp [slash_Who.j0]
      · refine Ev.bind (both_f W1 W2 f0 f1 f2 f3 f4 f5 g0 g1 g2 g3 g4 g5 h1 h2) ?_
        refine Ev.congr (f := fun _ => some (whoV true true true (both W1 W2))) (fun k => ?_) (Ev.now _)
        unfold whoV
        by_cases e : (both W1 W2).length = 0
        · rw [if_pos (by omega), if_neg (by simp [e])]
        · rw [if_neg (by omega), if_pos (by simpa using e)]
  refine Ev.bind hx ?_
  cases rx with
  | false =>
    simp only [Bool.false_eq_true, if_false]
    exact hj false
  | true =>
    simp only [if_true]
    refine Ev.bind hy ?_
    cases ry with
    | false =>
      simp only [Bool.false_eq_true, if_false]
      exact hj false
    | true =>
      simp only [if_true]
      rw [bad_is]
      simp only [Option.bind_some]
      exact hj _
theorem bad_turn (f0 f1 f2 f3 f4 f5 g0 g1 g2 g3 g4 g5 : Int) : (dblB g0 g1 g2 g3 g4 g5 f0 f1 f2 f3 f4 f5 || arnB g2 g4 f2 f4 || arnB f2 f4 g2 g4) = (dblB f0 f1 f2 f3 f4 f5 g0 g1 g2 g3 g4 g5 || arnB f2 f4 g2 g4 || arnB g2 g4 f2 f4) := by
  rw [dbl_turn]
  cases dblB f0 f1 f2 f3 f4 f5 g0 g1 g2 g3 g4 g5 <;> cases arnB f2 f4 g2 g4 <;> cases arnB g2 g4 f2 f4 <;> rfl
theorem whoV_len (rx ry bad : Bool) (b : List Int) (n : Nat) (h : b.length ≤ n) : (whoV rx ry bad b).1.length ≤ n := by
  unfold whoV
  split
  · exact h
  · simp
theorem laid_below {w w' : World} (h : Number.Laid w) (hb : Below w.heap.size w w') : Number.Laid w' := pw_cell_below hb h
/-- A slice that is read. -/
def Row (w : World) (k : IntKind) (A : Option Addr) (n c : Nat) (xs : List Int) : Prop := xs.length = n ∧ n ≤ c ∧ Kd.C (Kd.int k) w A n xs
theorem Row.below {w w' : World} {k : IntKind} {A : Option Addr} {n c : Nat} {xs : List Int} (h : Row w k A n c xs) (hb : Below w.heap.size w w') : Row w' k A n c xs := ⟨h.1, h.2.1, Kd.C_below h.2.2 hb⟩
theorem row_of {w : World} {base e : Nat} {k : IntKind} {ok : Nat → Prop} {v : Value} {xs : List Int} (h : Kd.R (Kd.int k) e w base ok v xs) : ∃ A c, v = .slice A xs.length c ∧ Row w k A xs.length c xs := by
  obtain ⟨A, c, h1, h2, h3⟩ := Kd.R_reads h
  exact ⟨A, c, h1, rfl, h2, h3⟩
theorem row_R {w : World} {base e : Nat} {k : IntKind} {ok : Nat → Prop} {A : Option Addr} {n c : Nat} {xs : List Int} (h : Kd.R (Kd.int k) e w base ok (.slice A n c) xs) : Row w k A n c xs := by
  obtain ⟨h1, h2, h3⟩ := Kd.R_reads' h
  subst h1
  exact ⟨rfl, h2, h3⟩
/-- A row stays where a vote's variable is written. -/
theorem R_over {w w1 : World} {base g : Nat} {v : Value} {xs : List Int} {cs : Array Value} (h : Kd.R (Kd.int .i64) 3 w base (fun _ => True) v xs) (hb : w.heap[g]? = some (.cells cs 30 (0, 0))) (hg : w.grownBy w1 (some g)) : Kd.R (Kd.int .i64) 3 w1 base (fun _ => True) v xs :=
  Kd.R_mono (Kd.R_grown (Kd.R_types h hb (by decide)) hg (fun k hk e => hk.2 (by injection e))) (fun _ _ => trivial)
/-- A store of a whole struct in a region that draws its order, into a block that is known whole. -/
theorem store_step {P : Program} {ops : Array Oper} {oi : Oper} {a : Act} {K : Act → World → Prop} {Q : Exit → Act → World → Prop} {W : World} (hw : Region.wanted oi (yielded ops a.tmps) = true) (hN : oi.dst = none) (t : TypeId) (p x : Operand) (ho : oi.op = .store t p x) (g : Nat) (e : TypeId) (cur cs : Array Value)
    (haddr : a.eval p = .pointer (some ⟨g, 0, none⟩)) (hx : a.eval x = .agg cs) (hh : W.heap[g]? = some (.cells cur e (0, 0))) (hsz : cs.size = cur.size) (ht : (P.info? t).map (·.size) = some cs.size) (h1 : ∀ q ∈ cs.toList, q.oneCell' = true)
    (h : ∀ w1, w1.heap[g]? = some (.cells cs e (0, 0)) → W.grownBy w1 (some g) → K a w1) : if Region.wanted oi (yielded ops a.tmps) = true then Oper.wp P oi a W K Q else K (a.put none undef) W := by
  have hrun := run_store_run (P := P) (w := W) (o := 0) t (.agg cs) cs.toList hh rfl (by rw [ht, Array.length_toList]) (by simp [hsz]) h1
  have hs := setCells_same g cs.toList 0 W
  have hr := setCells_row cs.toList 0 W cur hh (by simp [hsz])
  rw [if_pos hw]
  unfold Oper.wp execOp
  simp only [ho, haddr, hx, Sem.run_bind, Sem.run_pure, Result.andThen_ok, hrun]
  show K (a.put oi.dst undef) _
  rw [hN]
  refine h _ ?_ ⟨hs.1, hs.2.1, hs.2.2.1, by rw [hs.2.2.2]; omega, fun k hk hne => setCells_far _ _ k (fun e => hne (by rw [e]))⟩
  obtain ⟨cur', h2, h3, h4⟩ := hr
  have : cur' = cs := by
    apply Array.ext'
    rw [h4]
    rw [List.drop_of_length_le (show cur.toList.length ≤ 0 + cs.toList.length by simp [hsz]), List.take_zero, List.nil_append, List.append_nil]
  rwa [this] at h2
theorem make5_at {r : Nat} {n0 n1 : Nat} {A0 A1 : Option Addr} {c0 c1 : Nat} {l0 l1 : List Int} {a1 a2 f0 f1 f2 f3 f4 f5 x0 x1 x2 x3 x4 x5 : Int} {W : List Int} {w : World} (h0 : Row w .u64 A0 n0 c0 l0) (h1 : Row w .i64 A1 n1 c1 l1) (h : psephoslaw05_Make.f r l0 a1 a2 f0 f1 f2 f3 f4 f5 l1 = some (x0, x1, x2, x3, x4, x5, W)) :
    Calls Tryd.prog 8 #[.agg #[.slice A0 n0 c0, .int .i64 a1, .int .i64 a2], .agg #[.int .i64 f0, .int .u64 f1, .int .i64 f2, .int .u64 f3, .int .i64 f4, .int .u64 f5, .slice A1 n1 c1]] w fun e w' => ∃ A c, e = .returned (.agg #[.int .i64 x0, .int .u64 x1, .int .i64 x2, .int .u64 x3, .int .i64 x4, .int .u64 x5, .slice A W.length c]) ∧ Kd.R (Kd.int .i64) 3 w' w.heap.size (fun _ => True) (.slice A W.length c) W ∧ Below w.heap.size w w' := by
  obtain ⟨rfl, hc0, hC0⟩ := h0
  obtain ⟨rfl, hc1, hC1⟩ := h1
  refine (psephoslaw05_Make.calls r A0 c0 l0 a1 a2 f0 f1 f2 f3 f4 f5 A1 c1 l1 _ _ _ _ _ _ _ w hC0 hc0 hC1 hc1 h).mono ?_
  rintro e w' ⟨v, rfl, hR, hb⟩
  obtain ⟨A, c, rfl⟩ := Kd.R_slice hR
  exact ⟨A, c, rfl, hR, hb⟩
theorem who_at {r : Nat} {n0 n1 n2 : Nat} {A0 A1 A2 : Option Addr} {c0 c1 c2 : Nat} {l0 l1 l2 : List Int} {a1 a2 f0 f1 f2 f3 f4 f5 g0 g1 g2 g3 g4 g5 : Int} {L : List Int} {er : Option Int} {w : World} (h0 : Row w .u64 A0 n0 c0 l0) (h1 : Row w .i64 A1 n1 c1 l1) (h2 : Row w .i64 A2 n2 c2 l2) (h : slash_Who.f r l0 a1 a2 f0 f1 f2 f3 f4 f5 l1 g0 g1 g2 g3 g4 g5 l2 = some (L, er)) :
    Calls Tryd.prog 9 #[.agg #[.slice A0 n0 c0, .int .i64 a1, .int .i64 a2], .agg #[.int .i64 f0, .int .u64 f1, .int .i64 f2, .int .u64 f3, .int .i64 f4, .int .u64 f5, .slice A1 n1 c1, .int .i64 g0, .int .u64 g1, .int .i64 g2, .int .u64 g3, .int .i64 g4, .int .u64 g5, .slice A2 n2 c2]] w fun e w' => ∃ A c, e = .returned (.tuple #[.slice A L.length c, errW er]) ∧ Row w' .i64 A L.length c L ∧ Below w.heap.size w w' := by
  obtain ⟨rfl, hc0, hC0⟩ := h0
  obtain ⟨rfl, hc1, hC1⟩ := h1
  obtain ⟨rfl, hc2, hC2⟩ := h2
  refine (slash_Who.calls r A0 c0 l0 a1 a2 f0 f1 f2 f3 f4 f5 A1 c1 l1 g0 g1 g2 g3 g4 g5 A2 c2 l2 L er w hC0 hc0 hC1 hc1 hC2 hc2 h).mono ?_
  rintro e w' ⟨v, rfl, hR, hb⟩
  obtain ⟨A, c, rfl, hr⟩ := row_of hR
  exact ⟨A, c, rfl, hr, hb⟩
end Go.Proofs.YtolkagkfedpjmaaDoor.QT
namespace Go.Proofs.YtolkagkfedpjmaaDoor.QT
open Go.RowKit Go.Proofs.YtolkagkfedpjmaaDoorW.PrintWords Go.Proofs.YtolkagkfedpjmaaDoorW.PrintLast Go.Proofs.YtolkagkfedpjmaaDoorW.PrintMore Go.Proofs.YtolkagkfedpjmaaDoor.Own
set_option linter.unusedVariables false
set_option linter.unusedSimpArgs false

set_option maxHeartbeats 16000000 in
set_option maxRecDepth 100000 in
theorem slashTurn_law (A0 : Option Addr) (n0 c0 : Nat) (bal : List Int) (sl bo s h se sr te tr : Int) (A1 : Option Addr) (n1 c1 : Nat) (z1 : List Int) (s2 h2 se2 sr2 te2 tr2 : Int) (A2 : Option Addr) (n2 c2 : Nat) (z2 : List Int) (w : World) (hL : Number.Laid w)
    (h0 : Row w .u64 A0 n0 c0 bal) (hn0 : n0 ≤ 17592186043904) (hb : -9223372036854775808 ≤ bo ∧ bo ≤ 9223372036854775807)
    (h1 : Row w .i64 A1 n1 c1 z1) (hn1 : n1 ≤ 17592186043904) (hs : -9223372036854775808 ≤ s ∧ s ≤ 9223372036854775807) (he : -9223372036854775808 ≤ se ∧ se ≤ 9223372036854775807)
    (h2' : Row w .i64 A2 n2 c2 z2) (hn2 : n2 ≤ 17592186043904) (hs2 : -9223372036854775808 ≤ s2 ∧ s2 ≤ 9223372036854775807) (he2 : -9223372036854775808 ≤ se2 ∧ se2 ≤ 9223372036854775807) :
    Calls Tryd.prog 4 #[.agg #[.slice A0 n0 c0, .int .i64 sl, .int .i64 bo], .agg #[.int .i64 s, .int .u64 h, .int .i64 se, .int .u64 sr, .int .i64 te, .int .u64 tr, .slice A1 n1 c1], .agg #[.int .i64 s2, .int .u64 h2, .int .i64 se2, .int .u64 sr2, .int .i64 te2, .int .u64 tr2, .slice A2 n2 c2]] w fun x w' => x = .returned (.bool true) ∧ Below w.heap.size w w' := by
  have l0 : bal.length = n0 := h0.1
  have l1 : z1.length = n1 := h1.1
  have l2 : z2.length = n2 := h2'.1
  have hml := mkBal_len bal
  have hw1 := mkWho_len (mkBal bal).length hml.1 z1
  have hw2 := mkWho_len (mkBal bal).length hml.1 z2
  have ha1 := mkAt_in s
  have ha2 := mkAt_in s2
  obtain ⟨k3, hk3⟩ := (make3_f bal sl bo (by omega) hb.1 hb.2).rounds
  obtain ⟨k1, hk1⟩ := (make5_f (mkBal bal) z1 (mkSlots sl) (mkBoost bo) s h se sr te tr hml.2 (by omega) hs.1 hs.2 he.1 he.2).rounds
  obtain ⟨k2, hk2⟩ := (make5_f (mkBal bal) z2 (mkSlots sl) (mkBoost bo) s2 h2 se2 sr2 te2 tr2 hml.2 (by omega) hs2.1 hs2.2 he2.1 he2.2).rounds
  have rx := right_true (mkWho (mkBal bal).length z1) (mkBal bal) (mkSlots sl) (mkBoost bo) (mkAt s) (Int.tmod h 8) (mkSe (mkSlots sl) s se) (Int.tmod sr 8) (mkTe (mkSlots sl) s) (Int.tmod tr 8) (by omega) (by omega) (made_good (mkBal bal).length hml.1 (mkSlots sl) s se z1)
  have ry := right_true (mkWho (mkBal bal).length z2) (mkBal bal) (mkSlots sl) (mkBoost bo) (mkAt s2) (Int.tmod h2 8) (mkSe (mkSlots sl) s2 se2) (Int.tmod sr2 8) (mkTe (mkSlots sl) s2) (Int.tmod tr2 8) (by omega) (by omega) (made_good (mkBal bal).length hml.1 (mkSlots sl) s2 se2 z2)
  obtain ⟨W1, hW1⟩ : ∃ W, mkWho (mkBal bal).length z1 = W := ⟨_, rfl⟩
  obtain ⟨W2, hW2⟩ : ∃ W, mkWho (mkBal bal).length z2 = W := ⟨_, rfl⟩
  rw [hW1] at hk1 hw1 rx
  rw [hW2] at hk2 hw2 ry
  obtain ⟨kp, hkp⟩ := (who_f (by omega) (by omega) rx ry).rounds
  obtain ⟨kq, hkq⟩ := (who_f (by omega) (by omega) ry rx).rounds
  rw [bad_turn, both_turn] at hkq
  obtain ⟨V, hV⟩ : ∃ V, whoV true true (dblB (mkAt s) (Int.tmod h 8) (mkSe (mkSlots sl) s se) (Int.tmod sr 8) (mkTe (mkSlots sl) s) (Int.tmod tr 8) (mkAt s2) (Int.tmod h2 8) (mkSe (mkSlots sl) s2 se2) (Int.tmod sr2 8) (mkTe (mkSlots sl) s2) (Int.tmod tr2 8) || arnB (mkSe (mkSlots sl) s se) (mkTe (mkSlots sl) s) (mkSe (mkSlots sl) s2 se2) (mkTe (mkSlots sl) s2) || arnB (mkSe (mkSlots sl) s2 se2) (mkTe (mkSlots sl) s2) (mkSe (mkSlots sl) s se) (mkTe (mkSlots sl) s)) (both W1 W2) = V := ⟨_, rfl⟩
  have hVL : V.1.length ≤ 4096 := by rw [← hV]; exact whoV_len _ _ _ _ 4096 (by have := both_len W1 W2; omega)
  rw [hV] at hkp hkq
  obtain ⟨L, er⟩ := V
  simp only at hVL
  have HK3 := Aside0.mk hk3
  have HK1 := Aside0.mk hk1
  have HK2 := Aside0.mk hk2
  have HKP := Aside0.mk hkp
  have HKQ := Aside0.mk hkq
  have HL0 := Aside0.mk hL
  have H0 := Aside0.mk h0
  have H1w := Aside0.mk h1
  have H2w := Aside0.mk h2'
  subst l0
  clear hk3 hk1 hk2 hkp hkq hL h0 h1 h2' rx ry hs he hs2 he2 hb hV hW1 hW2 l1 l2
  go_enter Tryd.func4, Tryd.ntmps4
  go_wp2_with (first
    | (go_at_call 6; refine (psephoslaw06_awake.calls _ _ awake_is).mono ?_; rintro x w1 ⟨rfl, hb⟩; have HB1 := Aside0.mk (below_then (below_alloc (below_alloc (below_alloc (Below.refl w.heap.size w) _) _) _) (by simp; omega) hb); have qb := Block.box3 w #[.slice A0 bal.length c0, .int .i64 sl, .int .i64 bo] #[.int .i64 s, .int .u64 h, .int .i64 se, .int .u64 sr, .int .i64 te, .int .u64 tr, .slice A1 n1 c1] #[.int .i64 s2, .int .u64 h2, .int .i64 se2, .int .u64 sr2, .int .i64 te2, .int .u64 tr2, .slice A2 n2 c2] 24 30 30; have BC1 := Aside0.mk (blk_below qb.1 hb); have BA1 := Aside0.mk (blk_below qb.2.1 hb); have BB1 := Aside0.mk (blk_below qb.2.2 hb); clear qb; have hcg0 := blk_cell BC1.out; clear hb)
    | (go_at_call 7; refine (psephoslaw03_Make.calls k3 A0 c0 bal sl bo _ _ _ _ (Kd.C_below H0.out.2.2 HB1.out) H0.out.2.1 HK3.out).mono ?_; rintro x w2 ⟨v0, rfl, hR, hb⟩; have HB2 := Aside0.mk (below_then HB1.out HB1.out.size hb); obtain ⟨AX, cX, rfl, hrow⟩ := row_of hR; have HX2 := Aside0.mk hrow; have BA2 := Aside0.mk (blk_below BA1.out hb); have BB2 := Aside0.mk (blk_below BB1.out hb); clear hb hR hrow hcg0))
  obtain ⟨wr, hwr⟩ : ∃ wr, wr = w2.alloc (.cells #[.slice AX (mkBal bal).length cX, .int .i64 (mkSlots sl), .int .i64 (mkBoost bo)] 24) := ⟨_, rfl⟩
  have BM' : Aside0 (wr.heap[w2.heap.size]? = some (.cells #[.slice AX (mkBal bal).length cX, .int .i64 (mkSlots sl), .int .i64 (mkBoost bo)] 24 (0, 0))) := ⟨by rw [hwr]; exact heap_alloc_new _ _⟩
  have BA : Aside0 (wr.heap[w.heap.size + 1]? = some (.cells #[.int .i64 s, .int .u64 h, .int .i64 se, .int .u64 sr, .int .i64 te, .int .u64 tr, .slice A1 n1 c1] 30 (0, 0))) := ⟨by rw [hwr]; exact blk_alloc BA2.out _⟩
  have BB : Aside0 (wr.heap[w.heap.size + 1 + 1]? = some (.cells #[.int .i64 s2, .int .u64 h2, .int .i64 se2, .int .u64 sr2, .int .i64 te2, .int .u64 tr2, .slice A2 n2 c2] 30 (0, 0))) := ⟨by rw [hwr]; exact blk_alloc BB2.out _⟩
  have HBR : Aside0 (Below w.heap.size w wr) := ⟨by rw [hwr]; exact below_alloc HB2.out _⟩
  have HX : Aside0 (Row wr .u64 AX (mkBal bal).length cX (mkBal bal)) := ⟨by rw [hwr]; exact HX2.out.below (below_alloc (Below.refl _ _) _)⟩
  rw [← hwr]
  clear hwr
  obtain ⟨gm, hgm⟩ : ∃ gm, w2.heap.size = gm := ⟨_, rfl⟩
  rw [hgm] at BM' ⊢
  have BM := BM'
  clear hgm BM' HX2 BA1 BB1 BA2 BB2 BC1
  have H1 := Aside0.mk (H1w.out.below HBR.out)
  have H2 := Aside0.mk (H2w.out.below HBR.out)
  go_upto_region 4 with fail
  have hq0 : wr.cell? ⟨gm, 0, none⟩ = some (.slice AX (mkBal bal).length cX) := blk_cell BM.out 0
  have hq1 : wr.cell? ⟨gm, 1, none⟩ = some (.int .i64 (mkSlots sl)) := blk_cell BM.out 1
  have hq2 : wr.cell? ⟨gm, 2, none⟩ = some (.int .i64 (mkBoost bo)) := blk_cell BM.out 2
  have hq3 : wr.cell? ⟨w.heap.size + 1, 0, none⟩ = some (.int .i64 s) := blk_cell BA.out 0
  have hq4 : wr.cell? ⟨w.heap.size + 1, 1, none⟩ = some (.int .u64 h) := blk_cell BA.out 1
  have hq5 : wr.cell? ⟨w.heap.size + 1, 2, none⟩ = some (.int .i64 se) := blk_cell BA.out 2
  have hq6 : wr.cell? ⟨w.heap.size + 1, 3, none⟩ = some (.int .u64 sr) := blk_cell BA.out 3
  have hq7 : wr.cell? ⟨w.heap.size + 1, 4, none⟩ = some (.int .i64 te) := blk_cell BA.out 4
  have hq8 : wr.cell? ⟨w.heap.size + 1, 5, none⟩ = some (.int .u64 tr) := blk_cell BA.out 5
  have hq9 : wr.cell? ⟨w.heap.size + 1, 6, none⟩ = some (.slice A1 n1 c1) := blk_cell BA.out 6
  have hq10 : wr.cell? ⟨w.heap.size + 1 + 1, 0, none⟩ = some (.int .i64 s2) := blk_cell BB.out 0
  have hq11 : wr.cell? ⟨w.heap.size + 1 + 1, 1, none⟩ = some (.int .u64 h2) := blk_cell BB.out 1
  have hq12 : wr.cell? ⟨w.heap.size + 1 + 1, 2, none⟩ = some (.int .i64 se2) := blk_cell BB.out 2
  have hq13 : wr.cell? ⟨w.heap.size + 1 + 1, 3, none⟩ = some (.int .u64 sr2) := blk_cell BB.out 3
  have hq14 : wr.cell? ⟨w.heap.size + 1 + 1, 4, none⟩ = some (.int .i64 te2) := blk_cell BB.out 4
  have hq15 : wr.cell? ⟨w.heap.size + 1 + 1, 5, none⟩ = some (.int .u64 tr2) := blk_cell BB.out 5
  have hq16 : wr.cell? ⟨w.heap.size + 1 + 1, 6, none⟩ = some (.slice A2 n2 c2) := blk_cell BB.out 6
  refine start_ (n := 10) (S := fun w' => w'.cell? ⟨gm, 0, none⟩ = some (.slice AX (mkBal bal).length cX) ∧ w'.cell? ⟨gm, 1, none⟩ = some (.int .i64 (mkSlots sl)) ∧ w'.cell? ⟨gm, 2, none⟩ = some (.int .i64 (mkBoost bo)) ∧ w'.cell? ⟨w.heap.size + 1, 0, none⟩ = some (.int .i64 s) ∧ w'.cell? ⟨w.heap.size + 1, 1, none⟩ = some (.int .u64 h) ∧ w'.cell? ⟨w.heap.size + 1, 2, none⟩ = some (.int .i64 se) ∧ w'.cell? ⟨w.heap.size + 1, 3, none⟩ = some (.int .u64 sr) ∧ w'.cell? ⟨w.heap.size + 1, 4, none⟩ = some (.int .i64 te) ∧ w'.cell? ⟨w.heap.size + 1, 5, none⟩ = some (.int .u64 tr) ∧ w'.cell? ⟨w.heap.size + 1, 6, none⟩ = some (.slice A1 n1 c1) ∧ w'.cell? ⟨w.heap.size + 1 + 1, 0, none⟩ = some (.int .i64 s2) ∧ w'.cell? ⟨w.heap.size + 1 + 1, 1, none⟩ = some (.int .u64 h2) ∧ w'.cell? ⟨w.heap.size + 1 + 1, 2, none⟩ = some (.int .i64 se2) ∧ w'.cell? ⟨w.heap.size + 1 + 1, 3, none⟩ = some (.int .u64 sr2) ∧ w'.cell? ⟨w.heap.size + 1 + 1, 4, none⟩ = some (.int .i64 te2) ∧ w'.cell? ⟨w.heap.size + 1 + 1, 5, none⟩ = some (.int .u64 tr2) ∧ w'.cell? ⟨w.heap.size + 1 + 1, 6, none⟩ = some (.slice A2 n2 c2)) (ds := [8, 9]) #[false, false, false, false, false, false, false, false, false, false] (by kernel_rfl) rfl rfl ⟨hq0, hq1, hq2, hq3, hq4, hq5, hq6, hq7, hq8, hq9, hq10, hq11, hq12, hq13, hq14, hq15, hq16⟩ (fun hHeld => ?_)
  refine take_ (i := 0) (N := some 19) (v := ?_) (a' := ?_) #[true, false, false, false, false, false, false, false, false, false] rfl rfl (by kernel_rfl) (fun _ _ _ h => h) (Or.inl ⟨by rfl, ?_⟩) hHeld ?_ ?_
  rotate_left
  · rintro w' ⟨s0, s1, s2, s3, s4, s5, s6, s7, s8, s9, s10, s11, s12, s13, s14, s15, s16⟩
    go_simp
    with_reducible rfl
  rotate_left
  · simp only [Act.put, List.setIfInBounds_toArray, List.set_cons_zero, List.set_cons_succ, i64_w, i32_w]
    rfl
  refine take_ (i := 1) (N := some 20) (v := ?_) (a' := ?_) #[true, true, false, false, false, false, false, false, false, false] rfl rfl (by kernel_rfl) (fun _ _ _ h => h) (Or.inl ⟨by rfl, ?_⟩) hHeld ?_ ?_
  rotate_left
  · rintro w' ⟨s0, s1, s2, s3, s4, s5, s6, s7, s8, s9, s10, s11, s12, s13, s14, s15, s16⟩
    go_simp
    with_reducible rfl
  rotate_left
  · simp only [Act.put, List.setIfInBounds_toArray, List.set_cons_zero, List.set_cons_succ, i64_w, i32_w]
    rfl
  refine take_ (i := 3) (N := some 22) (v := ?_) (a' := ?_) #[true, true, false, true, false, false, false, false, false, false] rfl rfl (by kernel_rfl) (fun _ _ _ h => h) (Or.inl ⟨by rfl, ?_⟩) hHeld ?_ ?_
  rotate_left
  · rintro w' ⟨s0, s1, s2, s3, s4, s5, s6, s7, s8, s9, s10, s11, s12, s13, s14, s15, s16⟩
    go_simp
    with_reducible rfl
  rotate_left
  · simp only [Act.put, List.setIfInBounds_toArray, List.set_cons_zero, List.set_cons_succ, i64_w, i32_w]
    rfl
  refine take_ (i := 4) (N := some 23) (v := ?_) (a' := ?_) #[true, true, false, true, true, false, false, false, false, false] rfl rfl (by kernel_rfl) (fun _ _ _ h => h) (Or.inl ⟨by rfl, ?_⟩) hHeld ?_ ?_
  rotate_left
  · rintro w' ⟨s0, s1, s2, s3, s4, s5, s6, s7, s8, s9, s10, s11, s12, s13, s14, s15, s16⟩
    go_simp
    with_reducible rfl
  rotate_left
  · simp only [Act.put, List.setIfInBounds_toArray, List.set_cons_zero, List.set_cons_succ, i64_w, i32_w]
    rfl
  refine join_ (σ := Value × Value × Nat × Nat) 2 #[true, true, true, true, true, true, true, true, false, false] (fun s_ => [(21, .agg #[.int .i64 (mkAt s), .int .u64 (Int.tmod h 8), .int .i64 (mkSe (mkSlots sl) s se), .int .u64 (Int.tmod sr 8), .int .i64 (mkTe (mkSlots sl) s), .int .u64 (Int.tmod tr 8), s_.1]), (24, .agg #[.int .i64 (mkAt s2), .int .u64 (Int.tmod h2 8), .int .i64 (mkSe (mkSlots sl) s2 se2), .int .u64 (Int.tmod sr2 8), .int .i64 (mkTe (mkSlots sl) s2), .int .u64 (Int.tmod tr2 8), s_.2.1]), (8, .pointer (some ⟨s_.2.2.1, 0, none⟩)), (9, .pointer (some ⟨s_.2.2.2, 0, none⟩))]) (fun s_ w' => (w'.cell? ⟨gm, 0, none⟩ = some (.slice AX (mkBal bal).length cX) ∧ w'.cell? ⟨gm, 1, none⟩ = some (.int .i64 (mkSlots sl)) ∧ w'.cell? ⟨gm, 2, none⟩ = some (.int .i64 (mkBoost bo)) ∧ w'.cell? ⟨w.heap.size + 1, 0, none⟩ = some (.int .i64 s) ∧ w'.cell? ⟨w.heap.size + 1, 1, none⟩ = some (.int .u64 h) ∧ w'.cell? ⟨w.heap.size + 1, 2, none⟩ = some (.int .i64 se) ∧ w'.cell? ⟨w.heap.size + 1, 3, none⟩ = some (.int .u64 sr) ∧ w'.cell? ⟨w.heap.size + 1, 4, none⟩ = some (.int .i64 te) ∧ w'.cell? ⟨w.heap.size + 1, 5, none⟩ = some (.int .u64 tr) ∧ w'.cell? ⟨w.heap.size + 1, 6, none⟩ = some (.slice A1 n1 c1) ∧ w'.cell? ⟨w.heap.size + 1 + 1, 0, none⟩ = some (.int .i64 s2) ∧ w'.cell? ⟨w.heap.size + 1 + 1, 1, none⟩ = some (.int .u64 h2) ∧ w'.cell? ⟨w.heap.size + 1 + 1, 2, none⟩ = some (.int .i64 se2) ∧ w'.cell? ⟨w.heap.size + 1 + 1, 3, none⟩ = some (.int .u64 sr2) ∧ w'.cell? ⟨w.heap.size + 1 + 1, 4, none⟩ = some (.int .i64 te2) ∧ w'.cell? ⟨w.heap.size + 1 + 1, 5, none⟩ = some (.int .u64 tr2) ∧ w'.cell? ⟨w.heap.size + 1 + 1, 6, none⟩ = some (.slice A2 n2 c2)) ∧ (∃ a c, s_.1 = .slice a W1.length c ∧ Kd.R (Kd.int .i64) 3 w' wr.heap.size (fun _ => True) (.slice a W1.length c) W1) ∧ (∃ a c, s_.2.1 = .slice a W2.length c ∧ Kd.R (Kd.int .i64) 3 w' wr.heap.size (fun _ => True) (.slice a W2.length c) W2) ∧ w'.heap[s_.2.2.1]? = some (.cells #[.int .i64 0, .int .u64 0, .int .i64 0, .int .u64 0, .int .i64 0, .int .u64 0, .slice none 0 0] 30 (0, 0)) ∧ w'.heap[s_.2.2.2]? = some (.cells #[.int .i64 0, .int .u64 0, .int .i64 0, .int .u64 0, .int .i64 0, .int .u64 0, .slice none 0 0] 30 (0, 0)) ∧ s_.2.2.1 ≠ s_.2.2.2 ∧ Below wr.heap.size wr w' ∧ wr.heap.size ≤ s_.2.2.1 ∧ wr.heap.size ≤ s_.2.2.2) ?_ ?_
  rotate_left
  · intro hCont
    refine three_ (i := 2) (j := 6) (k := 7) (Ni := some 21) (Nj := some 8) (Nk := some 9) #[true, true, true, true, true, false, false, false, false, false] #[true, true, false, true, true, false, true, false, false, false] #[true, true, false, true, true, false, false, true, false, false] rfl rfl rfl rfl rfl rfl (by kernel_rfl) (by decide) (by decide) (by decide) (fun K hK => ?_) (fun K hK => ?_) (fun K hK => ?_)
    · skip
      refine goes_ Tryd.func8 (by kernel_rfl) rfl #[.agg #[.slice AX (mkBal bal).length cX, .int .i64 (mkSlots sl), .int .i64 (mkBoost bo)], .agg #[.int .i64 s, .int .u64 h, .int .i64 se, .int .u64 sr, .int .i64 te, .int .u64 tr, .slice A1 n1 c1]] (by rfl) rfl rfl (by simp only [List.map_toArray, List.map_cons, List.map_nil]; rfl) ?_
      with_reducible refine (make5_at (HX.out.below (below_drew (Below.refl wr.heap.size wr))) (H1.out.below (below_drew (Below.refl wr.heap.size wr))) HK1.out).mono ?_
      rintro e wp1 ⟨a1, c1_, rfl, hrow, hb⟩
      refine ⟨_, rfl, ?_⟩
      have HP1 := Aside0.mk (below_then (below_drew (Below.refl wr.heap.size wr)) (Nat.le_refl _) hb)
      have R1_1 := Aside0.mk (Kd.R_lower hrow (Nat.le_refl _))
      clear hb hrow
      refine hK.out _ _ ⟨(pw_cell_below HP1.out hq0), (pw_cell_below HP1.out hq1), (pw_cell_below HP1.out hq2), (pw_cell_below HP1.out hq3), (pw_cell_below HP1.out hq4), (pw_cell_below HP1.out hq5), (pw_cell_below HP1.out hq6), (pw_cell_below HP1.out hq7), (pw_cell_below HP1.out hq8), (pw_cell_below HP1.out hq9), (pw_cell_below HP1.out hq10), (pw_cell_below HP1.out hq11), (pw_cell_below HP1.out hq12), (pw_cell_below HP1.out hq13), (pw_cell_below HP1.out hq14), (pw_cell_below HP1.out hq15), (pw_cell_below HP1.out hq16)⟩ (fun hHeld => ?_)
      clear hK K
      refine norm_ (a' := ?_) ?_ ?_
      rotate_left
      · show Act.put _ (some 21) _ = _
        simp only [Act.put, List.setIfInBounds_toArray, List.set_cons_zero, List.set_cons_succ, i64_w, i32_w]
        rfl
      refine three_ (i := 5) (j := 6) (k := 7) (Ni := some 24) (Nj := some 8) (Nk := some 9) #[true, true, true, true, true, true, false, false, false, false] #[true, true, true, true, true, false, true, false, false, false] #[true, true, true, true, true, false, false, true, false, false] rfl rfl rfl rfl rfl rfl (by kernel_rfl) (by decide) (by decide) (by decide) (fun K hK => ?_) (fun K hK => ?_) (fun K hK => ?_)
      · skip
        refine goes_ Tryd.func8 (by kernel_rfl) rfl #[.agg #[.slice AX (mkBal bal).length cX, .int .i64 (mkSlots sl), .int .i64 (mkBoost bo)], .agg #[.int .i64 s2, .int .u64 h2, .int .i64 se2, .int .u64 sr2, .int .i64 te2, .int .u64 tr2, .slice A2 n2 c2]] (by rfl) rfl rfl (by simp only [List.map_toArray, List.map_cons, List.map_nil]; rfl) ?_
        with_reducible refine (make5_at (HX.out.below HP1.out) (H2.out.below HP1.out) HK2.out).mono ?_
        rintro e wp2 ⟨a2, c2_, rfl, hrow, hb⟩
        refine ⟨_, rfl, ?_⟩
        have HP2 := Aside0.mk (below_then HP1.out HP1.out.size hb)
        have R2_2 := Aside0.mk (Kd.R_lower hrow HP1.out.size)
        have R1_2 := Aside0.mk (Kd.R_below R1_1.out hb)
        clear hb hrow
        refine hK.out _ _ ⟨(pw_cell_below HP2.out hq0), (pw_cell_below HP2.out hq1), (pw_cell_below HP2.out hq2), (pw_cell_below HP2.out hq3), (pw_cell_below HP2.out hq4), (pw_cell_below HP2.out hq5), (pw_cell_below HP2.out hq6), (pw_cell_below HP2.out hq7), (pw_cell_below HP2.out hq8), (pw_cell_below HP2.out hq9), (pw_cell_below HP2.out hq10), (pw_cell_below HP2.out hq11), (pw_cell_below HP2.out hq12), (pw_cell_below HP2.out hq13), (pw_cell_below HP2.out hq14), (pw_cell_below HP2.out hq15), (pw_cell_below HP2.out hq16)⟩ (fun hHeld => ?_)
        clear hK K
        refine norm_ (a' := ?_) ?_ ?_
        rotate_left
        · show Act.put _ (some 24) _ = _
          simp only [Act.put, List.setIfInBounds_toArray, List.set_cons_zero, List.set_cons_succ, i64_w, i32_w]
          rfl
        refine two_ (i := 6) (j := 7) (Ni := some 8) (Nj := some 9) #[true, true, true, true, true, true, true, false, false, false] #[true, true, true, true, true, true, false, true, false, false] rfl rfl rfl rfl (by kernel_rfl) (by decide) (by decide) (fun K hK => ?_) (fun K hK => ?_)
        · skip
          refine box_step (cs := #[.int .i64 0, .int .u64 0, .int .i64 0, .int .u64 0, .int .i64 0, .int .u64 0, .slice none 0 0]) (t := 30) (by rfl) rfl ?_ ?_
          · first | (go_simp; done) | (go_simp; rfl) | kernel_rfl
          intro g8 hg8 wp3 hbk hb
          have HP3 := Aside0.mk (below_then HP2.out HP2.out.size hb)
          have G8_3 := Aside0.mk hbk
          have L8 : Aside0 (wr.heap.size ≤ g8) := ⟨by rw [hg8]; exact (HP2.out).size⟩
          have R1_3 := Aside0.mk (Kd.R_below R1_2.out hb)
          have R2_3 := Aside0.mk (Kd.R_below R2_2.out hb)
          clear hb hbk hg8
          refine hK.out _ _ ⟨(pw_cell_below HP3.out hq0), (pw_cell_below HP3.out hq1), (pw_cell_below HP3.out hq2), (pw_cell_below HP3.out hq3), (pw_cell_below HP3.out hq4), (pw_cell_below HP3.out hq5), (pw_cell_below HP3.out hq6), (pw_cell_below HP3.out hq7), (pw_cell_below HP3.out hq8), (pw_cell_below HP3.out hq9), (pw_cell_below HP3.out hq10), (pw_cell_below HP3.out hq11), (pw_cell_below HP3.out hq12), (pw_cell_below HP3.out hq13), (pw_cell_below HP3.out hq14), (pw_cell_below HP3.out hq15), (pw_cell_below HP3.out hq16)⟩ (fun hHeld => ?_)
          clear hK K
          refine norm_ (a' := ?_) ?_ ?_
          rotate_left
          · show Act.put _ (some 8) _ = _
            simp only [Act.put, List.setIfInBounds_toArray, List.set_cons_zero, List.set_cons_succ, i64_w, i32_w]
            rfl
          refine one_ (i := 7) (N := some 9) #[true, true, true, true, true, true, true, true, false, false] rfl rfl (by kernel_rfl) (by decide) (fun K hK => ?_)
          refine box_step (cs := #[.int .i64 0, .int .u64 0, .int .i64 0, .int .u64 0, .int .i64 0, .int .u64 0, .slice none 0 0]) (t := 30) (by rfl) rfl ?_ ?_
          · first | (go_simp; done) | (go_simp; rfl) | kernel_rfl
          intro g9 hg9 wp4 hbk hb
          have HP4 := Aside0.mk (below_then HP3.out HP3.out.size hb)
          have G9_4 := Aside0.mk hbk
          have L9 : Aside0 (wr.heap.size ≤ g9) := ⟨by rw [hg9]; exact (HP3.out).size⟩
          have NE : Aside0 (g8 ≠ g9) := ⟨by rw [hg9]; exact Nat.ne_of_lt (blk_lt G8_3.out)⟩
          have R1_4 := Aside0.mk (Kd.R_below R1_3.out hb)
          have R2_4 := Aside0.mk (Kd.R_below R2_3.out hb)
          have G8_4 := Aside0.mk (blk_below G8_3.out hb)
          clear hb hbk hg9
          refine hK.out _ _ ⟨(pw_cell_below HP4.out hq0), (pw_cell_below HP4.out hq1), (pw_cell_below HP4.out hq2), (pw_cell_below HP4.out hq3), (pw_cell_below HP4.out hq4), (pw_cell_below HP4.out hq5), (pw_cell_below HP4.out hq6), (pw_cell_below HP4.out hq7), (pw_cell_below HP4.out hq8), (pw_cell_below HP4.out hq9), (pw_cell_below HP4.out hq10), (pw_cell_below HP4.out hq11), (pw_cell_below HP4.out hq12), (pw_cell_below HP4.out hq13), (pw_cell_below HP4.out hq14), (pw_cell_below HP4.out hq15), (pw_cell_below HP4.out hq16)⟩ (fun hHeld => ?_)
          clear hK K
          refine norm_ (a' := ?_) ?_ ?_
          rotate_left
          · show Act.put _ (some 9) _ = _
            simp only [Act.put, List.setIfInBounds_toArray, List.set_cons_zero, List.set_cons_succ, i64_w, i32_w]
            rfl
          exact norm_ (by simp only [putAll, Act.put, List.setIfInBounds_toArray, List.set_cons_zero, List.set_cons_succ]) (hCont (.slice a1 W1.length c1_, .slice a2 W2.length c2_, g8, g9) _ ⟨hHeld, ⟨a1, c1_, rfl, R1_4.out⟩, ⟨a2, c2_, rfl, R2_4.out⟩, G8_4.out, G9_4.out, NE.out, HP4.out, L8.out, L9.out⟩)
        · skip
          refine box_step (cs := #[.int .i64 0, .int .u64 0, .int .i64 0, .int .u64 0, .int .i64 0, .int .u64 0, .slice none 0 0]) (t := 30) (by rfl) rfl ?_ ?_
          · first | (go_simp; done) | (go_simp; rfl) | kernel_rfl
          intro g9 hg9 wp3 hbk hb
          have HP3 := Aside0.mk (below_then HP2.out HP2.out.size hb)
          have G9_3 := Aside0.mk hbk
          have L9 : Aside0 (wr.heap.size ≤ g9) := ⟨by rw [hg9]; exact (HP2.out).size⟩
          have R1_3 := Aside0.mk (Kd.R_below R1_2.out hb)
          have R2_3 := Aside0.mk (Kd.R_below R2_2.out hb)
          clear hb hbk hg9
          refine hK.out _ _ ⟨(pw_cell_below HP3.out hq0), (pw_cell_below HP3.out hq1), (pw_cell_below HP3.out hq2), (pw_cell_below HP3.out hq3), (pw_cell_below HP3.out hq4), (pw_cell_below HP3.out hq5), (pw_cell_below HP3.out hq6), (pw_cell_below HP3.out hq7), (pw_cell_below HP3.out hq8), (pw_cell_below HP3.out hq9), (pw_cell_below HP3.out hq10), (pw_cell_below HP3.out hq11), (pw_cell_below HP3.out hq12), (pw_cell_below HP3.out hq13), (pw_cell_below HP3.out hq14), (pw_cell_below HP3.out hq15), (pw_cell_below HP3.out hq16)⟩ (fun hHeld => ?_)
          clear hK K
          refine norm_ (a' := ?_) ?_ ?_
          rotate_left
          · show Act.put _ (some 9) _ = _
            simp only [Act.put, List.setIfInBounds_toArray, List.set_cons_zero, List.set_cons_succ, i64_w, i32_w]
            rfl
          refine one_ (i := 6) (N := some 8) #[true, true, true, true, true, true, true, true, false, false] rfl rfl (by kernel_rfl) (by decide) (fun K hK => ?_)
          refine box_step (cs := #[.int .i64 0, .int .u64 0, .int .i64 0, .int .u64 0, .int .i64 0, .int .u64 0, .slice none 0 0]) (t := 30) (by rfl) rfl ?_ ?_
          · first | (go_simp; done) | (go_simp; rfl) | kernel_rfl
          intro g8 hg8 wp4 hbk hb
          have HP4 := Aside0.mk (below_then HP3.out HP3.out.size hb)
          have G8_4 := Aside0.mk hbk
          have L8 : Aside0 (wr.heap.size ≤ g8) := ⟨by rw [hg8]; exact (HP3.out).size⟩
          have NE : Aside0 (g8 ≠ g9) := ⟨by rw [hg8]; exact Nat.ne_of_gt (blk_lt G9_3.out)⟩
          have R1_4 := Aside0.mk (Kd.R_below R1_3.out hb)
          have R2_4 := Aside0.mk (Kd.R_below R2_3.out hb)
          have G9_4 := Aside0.mk (blk_below G9_3.out hb)
          clear hb hbk hg8
          refine hK.out _ _ ⟨(pw_cell_below HP4.out hq0), (pw_cell_below HP4.out hq1), (pw_cell_below HP4.out hq2), (pw_cell_below HP4.out hq3), (pw_cell_below HP4.out hq4), (pw_cell_below HP4.out hq5), (pw_cell_below HP4.out hq6), (pw_cell_below HP4.out hq7), (pw_cell_below HP4.out hq8), (pw_cell_below HP4.out hq9), (pw_cell_below HP4.out hq10), (pw_cell_below HP4.out hq11), (pw_cell_below HP4.out hq12), (pw_cell_below HP4.out hq13), (pw_cell_below HP4.out hq14), (pw_cell_below HP4.out hq15), (pw_cell_below HP4.out hq16)⟩ (fun hHeld => ?_)
          clear hK K
          refine norm_ (a' := ?_) ?_ ?_
          rotate_left
          · show Act.put _ (some 8) _ = _
            simp only [Act.put, List.setIfInBounds_toArray, List.set_cons_zero, List.set_cons_succ, i64_w, i32_w]
            rfl
          exact norm_ (by simp only [putAll, Act.put, List.setIfInBounds_toArray, List.set_cons_zero, List.set_cons_succ]) (hCont (.slice a1 W1.length c1_, .slice a2 W2.length c2_, g8, g9) _ ⟨hHeld, ⟨a1, c1_, rfl, R1_4.out⟩, ⟨a2, c2_, rfl, R2_4.out⟩, G8_4.out, G9_4.out, NE.out, HP4.out, L8.out, L9.out⟩)
      · skip
        refine box_step (cs := #[.int .i64 0, .int .u64 0, .int .i64 0, .int .u64 0, .int .i64 0, .int .u64 0, .slice none 0 0]) (t := 30) (by rfl) rfl ?_ ?_
        · first | (go_simp; done) | (go_simp; rfl) | kernel_rfl
        intro g8 hg8 wp2 hbk hb
        have HP2 := Aside0.mk (below_then HP1.out HP1.out.size hb)
        have G8_2 := Aside0.mk hbk
        have L8 : Aside0 (wr.heap.size ≤ g8) := ⟨by rw [hg8]; exact (HP1.out).size⟩
        have R1_2 := Aside0.mk (Kd.R_below R1_1.out hb)
        clear hb hbk hg8
        refine hK.out _ _ ⟨(pw_cell_below HP2.out hq0), (pw_cell_below HP2.out hq1), (pw_cell_below HP2.out hq2), (pw_cell_below HP2.out hq3), (pw_cell_below HP2.out hq4), (pw_cell_below HP2.out hq5), (pw_cell_below HP2.out hq6), (pw_cell_below HP2.out hq7), (pw_cell_below HP2.out hq8), (pw_cell_below HP2.out hq9), (pw_cell_below HP2.out hq10), (pw_cell_below HP2.out hq11), (pw_cell_below HP2.out hq12), (pw_cell_below HP2.out hq13), (pw_cell_below HP2.out hq14), (pw_cell_below HP2.out hq15), (pw_cell_below HP2.out hq16)⟩ (fun hHeld => ?_)
        clear hK K
        refine norm_ (a' := ?_) ?_ ?_
        rotate_left
        · show Act.put _ (some 8) _ = _
          simp only [Act.put, List.setIfInBounds_toArray, List.set_cons_zero, List.set_cons_succ, i64_w, i32_w]
          rfl
        refine two_ (i := 5) (j := 7) (Ni := some 24) (Nj := some 9) #[true, true, true, true, true, true, true, false, false, false] #[true, true, true, true, true, false, true, true, false, false] rfl rfl rfl rfl (by kernel_rfl) (by decide) (by decide) (fun K hK => ?_) (fun K hK => ?_)
        · skip
          refine goes_ Tryd.func8 (by kernel_rfl) rfl #[.agg #[.slice AX (mkBal bal).length cX, .int .i64 (mkSlots sl), .int .i64 (mkBoost bo)], .agg #[.int .i64 s2, .int .u64 h2, .int .i64 se2, .int .u64 sr2, .int .i64 te2, .int .u64 tr2, .slice A2 n2 c2]] (by rfl) rfl rfl (by simp only [List.map_toArray, List.map_cons, List.map_nil]; rfl) ?_
          with_reducible refine (make5_at (HX.out.below HP2.out) (H2.out.below HP2.out) HK2.out).mono ?_
          rintro e wp3 ⟨a2, c2_, rfl, hrow, hb⟩
          refine ⟨_, rfl, ?_⟩
          have HP3 := Aside0.mk (below_then HP2.out HP2.out.size hb)
          have R2_3 := Aside0.mk (Kd.R_lower hrow HP2.out.size)
          have R1_3 := Aside0.mk (Kd.R_below R1_2.out hb)
          have G8_3 := Aside0.mk (blk_below G8_2.out hb)
          clear hb hrow
          refine hK.out _ _ ⟨(pw_cell_below HP3.out hq0), (pw_cell_below HP3.out hq1), (pw_cell_below HP3.out hq2), (pw_cell_below HP3.out hq3), (pw_cell_below HP3.out hq4), (pw_cell_below HP3.out hq5), (pw_cell_below HP3.out hq6), (pw_cell_below HP3.out hq7), (pw_cell_below HP3.out hq8), (pw_cell_below HP3.out hq9), (pw_cell_below HP3.out hq10), (pw_cell_below HP3.out hq11), (pw_cell_below HP3.out hq12), (pw_cell_below HP3.out hq13), (pw_cell_below HP3.out hq14), (pw_cell_below HP3.out hq15), (pw_cell_below HP3.out hq16)⟩ (fun hHeld => ?_)
          clear hK K
          refine norm_ (a' := ?_) ?_ ?_
          rotate_left
          · show Act.put _ (some 24) _ = _
            simp only [Act.put, List.setIfInBounds_toArray, List.set_cons_zero, List.set_cons_succ, i64_w, i32_w]
            rfl
          refine one_ (i := 7) (N := some 9) #[true, true, true, true, true, true, true, true, false, false] rfl rfl (by kernel_rfl) (by decide) (fun K hK => ?_)
          refine box_step (cs := #[.int .i64 0, .int .u64 0, .int .i64 0, .int .u64 0, .int .i64 0, .int .u64 0, .slice none 0 0]) (t := 30) (by rfl) rfl ?_ ?_
          · first | (go_simp; done) | (go_simp; rfl) | kernel_rfl
          intro g9 hg9 wp4 hbk hb
          have HP4 := Aside0.mk (below_then HP3.out HP3.out.size hb)
          have G9_4 := Aside0.mk hbk
          have L9 : Aside0 (wr.heap.size ≤ g9) := ⟨by rw [hg9]; exact (HP3.out).size⟩
          have NE : Aside0 (g8 ≠ g9) := ⟨by rw [hg9]; exact Nat.ne_of_lt (blk_lt G8_3.out)⟩
          have R1_4 := Aside0.mk (Kd.R_below R1_3.out hb)
          have R2_4 := Aside0.mk (Kd.R_below R2_3.out hb)
          have G8_4 := Aside0.mk (blk_below G8_3.out hb)
          clear hb hbk hg9
          refine hK.out _ _ ⟨(pw_cell_below HP4.out hq0), (pw_cell_below HP4.out hq1), (pw_cell_below HP4.out hq2), (pw_cell_below HP4.out hq3), (pw_cell_below HP4.out hq4), (pw_cell_below HP4.out hq5), (pw_cell_below HP4.out hq6), (pw_cell_below HP4.out hq7), (pw_cell_below HP4.out hq8), (pw_cell_below HP4.out hq9), (pw_cell_below HP4.out hq10), (pw_cell_below HP4.out hq11), (pw_cell_below HP4.out hq12), (pw_cell_below HP4.out hq13), (pw_cell_below HP4.out hq14), (pw_cell_below HP4.out hq15), (pw_cell_below HP4.out hq16)⟩ (fun hHeld => ?_)
          clear hK K
          refine norm_ (a' := ?_) ?_ ?_
          rotate_left
          · show Act.put _ (some 9) _ = _
            simp only [Act.put, List.setIfInBounds_toArray, List.set_cons_zero, List.set_cons_succ, i64_w, i32_w]
            rfl
          exact norm_ (by simp only [putAll, Act.put, List.setIfInBounds_toArray, List.set_cons_zero, List.set_cons_succ]) (hCont (.slice a1 W1.length c1_, .slice a2 W2.length c2_, g8, g9) _ ⟨hHeld, ⟨a1, c1_, rfl, R1_4.out⟩, ⟨a2, c2_, rfl, R2_4.out⟩, G8_4.out, G9_4.out, NE.out, HP4.out, L8.out, L9.out⟩)
        · skip
          refine box_step (cs := #[.int .i64 0, .int .u64 0, .int .i64 0, .int .u64 0, .int .i64 0, .int .u64 0, .slice none 0 0]) (t := 30) (by rfl) rfl ?_ ?_
          · first | (go_simp; done) | (go_simp; rfl) | kernel_rfl
          intro g9 hg9 wp3 hbk hb
          have HP3 := Aside0.mk (below_then HP2.out HP2.out.size hb)
          have G9_3 := Aside0.mk hbk
          have L9 : Aside0 (wr.heap.size ≤ g9) := ⟨by rw [hg9]; exact (HP2.out).size⟩
          have NE : Aside0 (g8 ≠ g9) := ⟨by rw [hg9]; exact Nat.ne_of_lt (blk_lt G8_2.out)⟩
          have R1_3 := Aside0.mk (Kd.R_below R1_2.out hb)
          have G8_3 := Aside0.mk (blk_below G8_2.out hb)
          clear hb hbk hg9
          refine hK.out _ _ ⟨(pw_cell_below HP3.out hq0), (pw_cell_below HP3.out hq1), (pw_cell_below HP3.out hq2), (pw_cell_below HP3.out hq3), (pw_cell_below HP3.out hq4), (pw_cell_below HP3.out hq5), (pw_cell_below HP3.out hq6), (pw_cell_below HP3.out hq7), (pw_cell_below HP3.out hq8), (pw_cell_below HP3.out hq9), (pw_cell_below HP3.out hq10), (pw_cell_below HP3.out hq11), (pw_cell_below HP3.out hq12), (pw_cell_below HP3.out hq13), (pw_cell_below HP3.out hq14), (pw_cell_below HP3.out hq15), (pw_cell_below HP3.out hq16)⟩ (fun hHeld => ?_)
          clear hK K
          refine norm_ (a' := ?_) ?_ ?_
          rotate_left
          · show Act.put _ (some 9) _ = _
            simp only [Act.put, List.setIfInBounds_toArray, List.set_cons_zero, List.set_cons_succ, i64_w, i32_w]
            rfl
          refine one_ (i := 5) (N := some 24) #[true, true, true, true, true, true, true, true, false, false] rfl rfl (by kernel_rfl) (by decide) (fun K hK => ?_)
          refine goes_ Tryd.func8 (by kernel_rfl) rfl #[.agg #[.slice AX (mkBal bal).length cX, .int .i64 (mkSlots sl), .int .i64 (mkBoost bo)], .agg #[.int .i64 s2, .int .u64 h2, .int .i64 se2, .int .u64 sr2, .int .i64 te2, .int .u64 tr2, .slice A2 n2 c2]] (by rfl) rfl rfl (by simp only [List.map_toArray, List.map_cons, List.map_nil]; rfl) ?_
          with_reducible refine (make5_at (HX.out.below HP3.out) (H2.out.below HP3.out) HK2.out).mono ?_
          rintro e wp4 ⟨a2, c2_, rfl, hrow, hb⟩
          refine ⟨_, rfl, ?_⟩
          have HP4 := Aside0.mk (below_then HP3.out HP3.out.size hb)
          have R2_4 := Aside0.mk (Kd.R_lower hrow HP3.out.size)
          have R1_4 := Aside0.mk (Kd.R_below R1_3.out hb)
          have G8_4 := Aside0.mk (blk_below G8_3.out hb)
          have G9_4 := Aside0.mk (blk_below G9_3.out hb)
          clear hb hrow
          refine hK.out _ _ ⟨(pw_cell_below HP4.out hq0), (pw_cell_below HP4.out hq1), (pw_cell_below HP4.out hq2), (pw_cell_below HP4.out hq3), (pw_cell_below HP4.out hq4), (pw_cell_below HP4.out hq5), (pw_cell_below HP4.out hq6), (pw_cell_below HP4.out hq7), (pw_cell_below HP4.out hq8), (pw_cell_below HP4.out hq9), (pw_cell_below HP4.out hq10), (pw_cell_below HP4.out hq11), (pw_cell_below HP4.out hq12), (pw_cell_below HP4.out hq13), (pw_cell_below HP4.out hq14), (pw_cell_below HP4.out hq15), (pw_cell_below HP4.out hq16)⟩ (fun hHeld => ?_)
          clear hK K
          refine norm_ (a' := ?_) ?_ ?_
          rotate_left
          · show Act.put _ (some 24) _ = _
            simp only [Act.put, List.setIfInBounds_toArray, List.set_cons_zero, List.set_cons_succ, i64_w, i32_w]
            rfl
          exact norm_ (by simp only [putAll, Act.put, List.setIfInBounds_toArray, List.set_cons_zero, List.set_cons_succ]) (hCont (.slice a1 W1.length c1_, .slice a2 W2.length c2_, g8, g9) _ ⟨hHeld, ⟨a1, c1_, rfl, R1_4.out⟩, ⟨a2, c2_, rfl, R2_4.out⟩, G8_4.out, G9_4.out, NE.out, HP4.out, L8.out, L9.out⟩)
      · skip
        refine box_step (cs := #[.int .i64 0, .int .u64 0, .int .i64 0, .int .u64 0, .int .i64 0, .int .u64 0, .slice none 0 0]) (t := 30) (by rfl) rfl ?_ ?_
        · first | (go_simp; done) | (go_simp; rfl) | kernel_rfl
        intro g9 hg9 wp2 hbk hb
        have HP2 := Aside0.mk (below_then HP1.out HP1.out.size hb)
        have G9_2 := Aside0.mk hbk
        have L9 : Aside0 (wr.heap.size ≤ g9) := ⟨by rw [hg9]; exact (HP1.out).size⟩
        have R1_2 := Aside0.mk (Kd.R_below R1_1.out hb)
        clear hb hbk hg9
        refine hK.out _ _ ⟨(pw_cell_below HP2.out hq0), (pw_cell_below HP2.out hq1), (pw_cell_below HP2.out hq2), (pw_cell_below HP2.out hq3), (pw_cell_below HP2.out hq4), (pw_cell_below HP2.out hq5), (pw_cell_below HP2.out hq6), (pw_cell_below HP2.out hq7), (pw_cell_below HP2.out hq8), (pw_cell_below HP2.out hq9), (pw_cell_below HP2.out hq10), (pw_cell_below HP2.out hq11), (pw_cell_below HP2.out hq12), (pw_cell_below HP2.out hq13), (pw_cell_below HP2.out hq14), (pw_cell_below HP2.out hq15), (pw_cell_below HP2.out hq16)⟩ (fun hHeld => ?_)
        clear hK K
        refine norm_ (a' := ?_) ?_ ?_
        rotate_left
        · show Act.put _ (some 9) _ = _
          simp only [Act.put, List.setIfInBounds_toArray, List.set_cons_zero, List.set_cons_succ, i64_w, i32_w]
          rfl
        refine two_ (i := 5) (j := 6) (Ni := some 24) (Nj := some 8) #[true, true, true, true, true, true, false, true, false, false] #[true, true, true, true, true, false, true, true, false, false] rfl rfl rfl rfl (by kernel_rfl) (by decide) (by decide) (fun K hK => ?_) (fun K hK => ?_)
        · skip
          refine goes_ Tryd.func8 (by kernel_rfl) rfl #[.agg #[.slice AX (mkBal bal).length cX, .int .i64 (mkSlots sl), .int .i64 (mkBoost bo)], .agg #[.int .i64 s2, .int .u64 h2, .int .i64 se2, .int .u64 sr2, .int .i64 te2, .int .u64 tr2, .slice A2 n2 c2]] (by rfl) rfl rfl (by simp only [List.map_toArray, List.map_cons, List.map_nil]; rfl) ?_
          with_reducible refine (make5_at (HX.out.below HP2.out) (H2.out.below HP2.out) HK2.out).mono ?_
          rintro e wp3 ⟨a2, c2_, rfl, hrow, hb⟩
          refine ⟨_, rfl, ?_⟩
          have HP3 := Aside0.mk (below_then HP2.out HP2.out.size hb)
          have R2_3 := Aside0.mk (Kd.R_lower hrow HP2.out.size)
          have R1_3 := Aside0.mk (Kd.R_below R1_2.out hb)
          have G9_3 := Aside0.mk (blk_below G9_2.out hb)
          clear hb hrow
          refine hK.out _ _ ⟨(pw_cell_below HP3.out hq0), (pw_cell_below HP3.out hq1), (pw_cell_below HP3.out hq2), (pw_cell_below HP3.out hq3), (pw_cell_below HP3.out hq4), (pw_cell_below HP3.out hq5), (pw_cell_below HP3.out hq6), (pw_cell_below HP3.out hq7), (pw_cell_below HP3.out hq8), (pw_cell_below HP3.out hq9), (pw_cell_below HP3.out hq10), (pw_cell_below HP3.out hq11), (pw_cell_below HP3.out hq12), (pw_cell_below HP3.out hq13), (pw_cell_below HP3.out hq14), (pw_cell_below HP3.out hq15), (pw_cell_below HP3.out hq16)⟩ (fun hHeld => ?_)
          clear hK K
          refine norm_ (a' := ?_) ?_ ?_
          rotate_left
          · show Act.put _ (some 24) _ = _
            simp only [Act.put, List.setIfInBounds_toArray, List.set_cons_zero, List.set_cons_succ, i64_w, i32_w]
            rfl
          refine one_ (i := 6) (N := some 8) #[true, true, true, true, true, true, true, true, false, false] rfl rfl (by kernel_rfl) (by decide) (fun K hK => ?_)
          refine box_step (cs := #[.int .i64 0, .int .u64 0, .int .i64 0, .int .u64 0, .int .i64 0, .int .u64 0, .slice none 0 0]) (t := 30) (by rfl) rfl ?_ ?_
          · first | (go_simp; done) | (go_simp; rfl) | kernel_rfl
          intro g8 hg8 wp4 hbk hb
          have HP4 := Aside0.mk (below_then HP3.out HP3.out.size hb)
          have G8_4 := Aside0.mk hbk
          have L8 : Aside0 (wr.heap.size ≤ g8) := ⟨by rw [hg8]; exact (HP3.out).size⟩
          have NE : Aside0 (g8 ≠ g9) := ⟨by rw [hg8]; exact Nat.ne_of_gt (blk_lt G9_3.out)⟩
          have R1_4 := Aside0.mk (Kd.R_below R1_3.out hb)
          have R2_4 := Aside0.mk (Kd.R_below R2_3.out hb)
          have G9_4 := Aside0.mk (blk_below G9_3.out hb)
          clear hb hbk hg8
          refine hK.out _ _ ⟨(pw_cell_below HP4.out hq0), (pw_cell_below HP4.out hq1), (pw_cell_below HP4.out hq2), (pw_cell_below HP4.out hq3), (pw_cell_below HP4.out hq4), (pw_cell_below HP4.out hq5), (pw_cell_below HP4.out hq6), (pw_cell_below HP4.out hq7), (pw_cell_below HP4.out hq8), (pw_cell_below HP4.out hq9), (pw_cell_below HP4.out hq10), (pw_cell_below HP4.out hq11), (pw_cell_below HP4.out hq12), (pw_cell_below HP4.out hq13), (pw_cell_below HP4.out hq14), (pw_cell_below HP4.out hq15), (pw_cell_below HP4.out hq16)⟩ (fun hHeld => ?_)
          clear hK K
          refine norm_ (a' := ?_) ?_ ?_
          rotate_left
          · show Act.put _ (some 8) _ = _
            simp only [Act.put, List.setIfInBounds_toArray, List.set_cons_zero, List.set_cons_succ, i64_w, i32_w]
            rfl
          exact norm_ (by simp only [putAll, Act.put, List.setIfInBounds_toArray, List.set_cons_zero, List.set_cons_succ]) (hCont (.slice a1 W1.length c1_, .slice a2 W2.length c2_, g8, g9) _ ⟨hHeld, ⟨a1, c1_, rfl, R1_4.out⟩, ⟨a2, c2_, rfl, R2_4.out⟩, G8_4.out, G9_4.out, NE.out, HP4.out, L8.out, L9.out⟩)
        · skip
          refine box_step (cs := #[.int .i64 0, .int .u64 0, .int .i64 0, .int .u64 0, .int .i64 0, .int .u64 0, .slice none 0 0]) (t := 30) (by rfl) rfl ?_ ?_
          · first | (go_simp; done) | (go_simp; rfl) | kernel_rfl
          intro g8 hg8 wp3 hbk hb
          have HP3 := Aside0.mk (below_then HP2.out HP2.out.size hb)
          have G8_3 := Aside0.mk hbk
          have L8 : Aside0 (wr.heap.size ≤ g8) := ⟨by rw [hg8]; exact (HP2.out).size⟩
          have NE : Aside0 (g8 ≠ g9) := ⟨by rw [hg8]; exact Nat.ne_of_gt (blk_lt G9_2.out)⟩
          have R1_3 := Aside0.mk (Kd.R_below R1_2.out hb)
          have G9_3 := Aside0.mk (blk_below G9_2.out hb)
          clear hb hbk hg8
          refine hK.out _ _ ⟨(pw_cell_below HP3.out hq0), (pw_cell_below HP3.out hq1), (pw_cell_below HP3.out hq2), (pw_cell_below HP3.out hq3), (pw_cell_below HP3.out hq4), (pw_cell_below HP3.out hq5), (pw_cell_below HP3.out hq6), (pw_cell_below HP3.out hq7), (pw_cell_below HP3.out hq8), (pw_cell_below HP3.out hq9), (pw_cell_below HP3.out hq10), (pw_cell_below HP3.out hq11), (pw_cell_below HP3.out hq12), (pw_cell_below HP3.out hq13), (pw_cell_below HP3.out hq14), (pw_cell_below HP3.out hq15), (pw_cell_below HP3.out hq16)⟩ (fun hHeld => ?_)
          clear hK K
          refine norm_ (a' := ?_) ?_ ?_
          rotate_left
          · show Act.put _ (some 8) _ = _
            simp only [Act.put, List.setIfInBounds_toArray, List.set_cons_zero, List.set_cons_succ, i64_w, i32_w]
            rfl
          refine one_ (i := 5) (N := some 24) #[true, true, true, true, true, true, true, true, false, false] rfl rfl (by kernel_rfl) (by decide) (fun K hK => ?_)
          refine goes_ Tryd.func8 (by kernel_rfl) rfl #[.agg #[.slice AX (mkBal bal).length cX, .int .i64 (mkSlots sl), .int .i64 (mkBoost bo)], .agg #[.int .i64 s2, .int .u64 h2, .int .i64 se2, .int .u64 sr2, .int .i64 te2, .int .u64 tr2, .slice A2 n2 c2]] (by rfl) rfl rfl (by simp only [List.map_toArray, List.map_cons, List.map_nil]; rfl) ?_
          with_reducible refine (make5_at (HX.out.below HP3.out) (H2.out.below HP3.out) HK2.out).mono ?_
          rintro e wp4 ⟨a2, c2_, rfl, hrow, hb⟩
          refine ⟨_, rfl, ?_⟩
          have HP4 := Aside0.mk (below_then HP3.out HP3.out.size hb)
          have R2_4 := Aside0.mk (Kd.R_lower hrow HP3.out.size)
          have R1_4 := Aside0.mk (Kd.R_below R1_3.out hb)
          have G8_4 := Aside0.mk (blk_below G8_3.out hb)
          have G9_4 := Aside0.mk (blk_below G9_3.out hb)
          clear hb hrow
          refine hK.out _ _ ⟨(pw_cell_below HP4.out hq0), (pw_cell_below HP4.out hq1), (pw_cell_below HP4.out hq2), (pw_cell_below HP4.out hq3), (pw_cell_below HP4.out hq4), (pw_cell_below HP4.out hq5), (pw_cell_below HP4.out hq6), (pw_cell_below HP4.out hq7), (pw_cell_below HP4.out hq8), (pw_cell_below HP4.out hq9), (pw_cell_below HP4.out hq10), (pw_cell_below HP4.out hq11), (pw_cell_below HP4.out hq12), (pw_cell_below HP4.out hq13), (pw_cell_below HP4.out hq14), (pw_cell_below HP4.out hq15), (pw_cell_below HP4.out hq16)⟩ (fun hHeld => ?_)
          clear hK K
          refine norm_ (a' := ?_) ?_ ?_
          rotate_left
          · show Act.put _ (some 24) _ = _
            simp only [Act.put, List.setIfInBounds_toArray, List.set_cons_zero, List.set_cons_succ, i64_w, i32_w]
            rfl
          exact norm_ (by simp only [putAll, Act.put, List.setIfInBounds_toArray, List.set_cons_zero, List.set_cons_succ]) (hCont (.slice a1 W1.length c1_, .slice a2 W2.length c2_, g8, g9) _ ⟨hHeld, ⟨a1, c1_, rfl, R1_4.out⟩, ⟨a2, c2_, rfl, R2_4.out⟩, G8_4.out, G9_4.out, NE.out, HP4.out, L8.out, L9.out⟩)
    · skip
      refine box_step (cs := #[.int .i64 0, .int .u64 0, .int .i64 0, .int .u64 0, .int .i64 0, .int .u64 0, .slice none 0 0]) (t := 30) (by rfl) rfl ?_ ?_
      · first | (go_simp; done) | (go_simp; rfl) | kernel_rfl
      intro g8 hg8 wp1 hbk hb
      have HP1 := Aside0.mk (below_then (below_drew (Below.refl wr.heap.size wr)) (Nat.le_refl _) hb)
      have G8_1 := Aside0.mk hbk
      have L8 : Aside0 (wr.heap.size ≤ g8) := ⟨by rw [hg8]; exact ((below_drew (Below.refl wr.heap.size wr))).size⟩
      clear hb hbk hg8
      refine hK.out _ _ ⟨(pw_cell_below HP1.out hq0), (pw_cell_below HP1.out hq1), (pw_cell_below HP1.out hq2), (pw_cell_below HP1.out hq3), (pw_cell_below HP1.out hq4), (pw_cell_below HP1.out hq5), (pw_cell_below HP1.out hq6), (pw_cell_below HP1.out hq7), (pw_cell_below HP1.out hq8), (pw_cell_below HP1.out hq9), (pw_cell_below HP1.out hq10), (pw_cell_below HP1.out hq11), (pw_cell_below HP1.out hq12), (pw_cell_below HP1.out hq13), (pw_cell_below HP1.out hq14), (pw_cell_below HP1.out hq15), (pw_cell_below HP1.out hq16)⟩ (fun hHeld => ?_)
      clear hK K
      refine norm_ (a' := ?_) ?_ ?_
      rotate_left
      · show Act.put _ (some 8) _ = _
        simp only [Act.put, List.setIfInBounds_toArray, List.set_cons_zero, List.set_cons_succ, i64_w, i32_w]
        rfl
      refine two_ (i := 2) (j := 7) (Ni := some 21) (Nj := some 9) #[true, true, true, true, true, false, true, false, false, false] #[true, true, false, true, true, false, true, true, false, false] rfl rfl rfl rfl (by kernel_rfl) (by decide) (by decide) (fun K hK => ?_) (fun K hK => ?_)
      · skip
        refine goes_ Tryd.func8 (by kernel_rfl) rfl #[.agg #[.slice AX (mkBal bal).length cX, .int .i64 (mkSlots sl), .int .i64 (mkBoost bo)], .agg #[.int .i64 s, .int .u64 h, .int .i64 se, .int .u64 sr, .int .i64 te, .int .u64 tr, .slice A1 n1 c1]] (by rfl) rfl rfl (by simp only [List.map_toArray, List.map_cons, List.map_nil]; rfl) ?_
        with_reducible refine (make5_at (HX.out.below HP1.out) (H1.out.below HP1.out) HK1.out).mono ?_
        rintro e wp2 ⟨a1, c1_, rfl, hrow, hb⟩
        refine ⟨_, rfl, ?_⟩
        have HP2 := Aside0.mk (below_then HP1.out HP1.out.size hb)
        have R1_2 := Aside0.mk (Kd.R_lower hrow HP1.out.size)
        have G8_2 := Aside0.mk (blk_below G8_1.out hb)
        clear hb hrow
        refine hK.out _ _ ⟨(pw_cell_below HP2.out hq0), (pw_cell_below HP2.out hq1), (pw_cell_below HP2.out hq2), (pw_cell_below HP2.out hq3), (pw_cell_below HP2.out hq4), (pw_cell_below HP2.out hq5), (pw_cell_below HP2.out hq6), (pw_cell_below HP2.out hq7), (pw_cell_below HP2.out hq8), (pw_cell_below HP2.out hq9), (pw_cell_below HP2.out hq10), (pw_cell_below HP2.out hq11), (pw_cell_below HP2.out hq12), (pw_cell_below HP2.out hq13), (pw_cell_below HP2.out hq14), (pw_cell_below HP2.out hq15), (pw_cell_below HP2.out hq16)⟩ (fun hHeld => ?_)
        clear hK K
        refine norm_ (a' := ?_) ?_ ?_
        rotate_left
        · show Act.put _ (some 21) _ = _
          simp only [Act.put, List.setIfInBounds_toArray, List.set_cons_zero, List.set_cons_succ, i64_w, i32_w]
          rfl
        refine two_ (i := 5) (j := 7) (Ni := some 24) (Nj := some 9) #[true, true, true, true, true, true, true, false, false, false] #[true, true, true, true, true, false, true, true, false, false] rfl rfl rfl rfl (by kernel_rfl) (by decide) (by decide) (fun K hK => ?_) (fun K hK => ?_)
        · skip
          refine goes_ Tryd.func8 (by kernel_rfl) rfl #[.agg #[.slice AX (mkBal bal).length cX, .int .i64 (mkSlots sl), .int .i64 (mkBoost bo)], .agg #[.int .i64 s2, .int .u64 h2, .int .i64 se2, .int .u64 sr2, .int .i64 te2, .int .u64 tr2, .slice A2 n2 c2]] (by rfl) rfl rfl (by simp only [List.map_toArray, List.map_cons, List.map_nil]; rfl) ?_
          with_reducible refine (make5_at (HX.out.below HP2.out) (H2.out.below HP2.out) HK2.out).mono ?_
          rintro e wp3 ⟨a2, c2_, rfl, hrow, hb⟩
          refine ⟨_, rfl, ?_⟩
          have HP3 := Aside0.mk (below_then HP2.out HP2.out.size hb)
          have R2_3 := Aside0.mk (Kd.R_lower hrow HP2.out.size)
          have R1_3 := Aside0.mk (Kd.R_below R1_2.out hb)
          have G8_3 := Aside0.mk (blk_below G8_2.out hb)
          clear hb hrow
          refine hK.out _ _ ⟨(pw_cell_below HP3.out hq0), (pw_cell_below HP3.out hq1), (pw_cell_below HP3.out hq2), (pw_cell_below HP3.out hq3), (pw_cell_below HP3.out hq4), (pw_cell_below HP3.out hq5), (pw_cell_below HP3.out hq6), (pw_cell_below HP3.out hq7), (pw_cell_below HP3.out hq8), (pw_cell_below HP3.out hq9), (pw_cell_below HP3.out hq10), (pw_cell_below HP3.out hq11), (pw_cell_below HP3.out hq12), (pw_cell_below HP3.out hq13), (pw_cell_below HP3.out hq14), (pw_cell_below HP3.out hq15), (pw_cell_below HP3.out hq16)⟩ (fun hHeld => ?_)
          clear hK K
          refine norm_ (a' := ?_) ?_ ?_
          rotate_left
          · show Act.put _ (some 24) _ = _
            simp only [Act.put, List.setIfInBounds_toArray, List.set_cons_zero, List.set_cons_succ, i64_w, i32_w]
            rfl
          refine one_ (i := 7) (N := some 9) #[true, true, true, true, true, true, true, true, false, false] rfl rfl (by kernel_rfl) (by decide) (fun K hK => ?_)
          refine box_step (cs := #[.int .i64 0, .int .u64 0, .int .i64 0, .int .u64 0, .int .i64 0, .int .u64 0, .slice none 0 0]) (t := 30) (by rfl) rfl ?_ ?_
          · first | (go_simp; done) | (go_simp; rfl) | kernel_rfl
          intro g9 hg9 wp4 hbk hb
          have HP4 := Aside0.mk (below_then HP3.out HP3.out.size hb)
          have G9_4 := Aside0.mk hbk
          have L9 : Aside0 (wr.heap.size ≤ g9) := ⟨by rw [hg9]; exact (HP3.out).size⟩
          have NE : Aside0 (g8 ≠ g9) := ⟨by rw [hg9]; exact Nat.ne_of_lt (blk_lt G8_3.out)⟩
          have R1_4 := Aside0.mk (Kd.R_below R1_3.out hb)
          have R2_4 := Aside0.mk (Kd.R_below R2_3.out hb)
          have G8_4 := Aside0.mk (blk_below G8_3.out hb)
          clear hb hbk hg9
          refine hK.out _ _ ⟨(pw_cell_below HP4.out hq0), (pw_cell_below HP4.out hq1), (pw_cell_below HP4.out hq2), (pw_cell_below HP4.out hq3), (pw_cell_below HP4.out hq4), (pw_cell_below HP4.out hq5), (pw_cell_below HP4.out hq6), (pw_cell_below HP4.out hq7), (pw_cell_below HP4.out hq8), (pw_cell_below HP4.out hq9), (pw_cell_below HP4.out hq10), (pw_cell_below HP4.out hq11), (pw_cell_below HP4.out hq12), (pw_cell_below HP4.out hq13), (pw_cell_below HP4.out hq14), (pw_cell_below HP4.out hq15), (pw_cell_below HP4.out hq16)⟩ (fun hHeld => ?_)
          clear hK K
          refine norm_ (a' := ?_) ?_ ?_
          rotate_left
          · show Act.put _ (some 9) _ = _
            simp only [Act.put, List.setIfInBounds_toArray, List.set_cons_zero, List.set_cons_succ, i64_w, i32_w]
            rfl
          exact norm_ (by simp only [putAll, Act.put, List.setIfInBounds_toArray, List.set_cons_zero, List.set_cons_succ]) (hCont (.slice a1 W1.length c1_, .slice a2 W2.length c2_, g8, g9) _ ⟨hHeld, ⟨a1, c1_, rfl, R1_4.out⟩, ⟨a2, c2_, rfl, R2_4.out⟩, G8_4.out, G9_4.out, NE.out, HP4.out, L8.out, L9.out⟩)
        · skip
          refine box_step (cs := #[.int .i64 0, .int .u64 0, .int .i64 0, .int .u64 0, .int .i64 0, .int .u64 0, .slice none 0 0]) (t := 30) (by rfl) rfl ?_ ?_
          · first | (go_simp; done) | (go_simp; rfl) | kernel_rfl
          intro g9 hg9 wp3 hbk hb
          have HP3 := Aside0.mk (below_then HP2.out HP2.out.size hb)
          have G9_3 := Aside0.mk hbk
          have L9 : Aside0 (wr.heap.size ≤ g9) := ⟨by rw [hg9]; exact (HP2.out).size⟩
          have NE : Aside0 (g8 ≠ g9) := ⟨by rw [hg9]; exact Nat.ne_of_lt (blk_lt G8_2.out)⟩
          have R1_3 := Aside0.mk (Kd.R_below R1_2.out hb)
          have G8_3 := Aside0.mk (blk_below G8_2.out hb)
          clear hb hbk hg9
          refine hK.out _ _ ⟨(pw_cell_below HP3.out hq0), (pw_cell_below HP3.out hq1), (pw_cell_below HP3.out hq2), (pw_cell_below HP3.out hq3), (pw_cell_below HP3.out hq4), (pw_cell_below HP3.out hq5), (pw_cell_below HP3.out hq6), (pw_cell_below HP3.out hq7), (pw_cell_below HP3.out hq8), (pw_cell_below HP3.out hq9), (pw_cell_below HP3.out hq10), (pw_cell_below HP3.out hq11), (pw_cell_below HP3.out hq12), (pw_cell_below HP3.out hq13), (pw_cell_below HP3.out hq14), (pw_cell_below HP3.out hq15), (pw_cell_below HP3.out hq16)⟩ (fun hHeld => ?_)
          clear hK K
          refine norm_ (a' := ?_) ?_ ?_
          rotate_left
          · show Act.put _ (some 9) _ = _
            simp only [Act.put, List.setIfInBounds_toArray, List.set_cons_zero, List.set_cons_succ, i64_w, i32_w]
            rfl
          refine one_ (i := 5) (N := some 24) #[true, true, true, true, true, true, true, true, false, false] rfl rfl (by kernel_rfl) (by decide) (fun K hK => ?_)
          refine goes_ Tryd.func8 (by kernel_rfl) rfl #[.agg #[.slice AX (mkBal bal).length cX, .int .i64 (mkSlots sl), .int .i64 (mkBoost bo)], .agg #[.int .i64 s2, .int .u64 h2, .int .i64 se2, .int .u64 sr2, .int .i64 te2, .int .u64 tr2, .slice A2 n2 c2]] (by rfl) rfl rfl (by simp only [List.map_toArray, List.map_cons, List.map_nil]; rfl) ?_
          with_reducible refine (make5_at (HX.out.below HP3.out) (H2.out.below HP3.out) HK2.out).mono ?_
          rintro e wp4 ⟨a2, c2_, rfl, hrow, hb⟩
          refine ⟨_, rfl, ?_⟩
          have HP4 := Aside0.mk (below_then HP3.out HP3.out.size hb)
          have R2_4 := Aside0.mk (Kd.R_lower hrow HP3.out.size)
          have R1_4 := Aside0.mk (Kd.R_below R1_3.out hb)
          have G8_4 := Aside0.mk (blk_below G8_3.out hb)
          have G9_4 := Aside0.mk (blk_below G9_3.out hb)
          clear hb hrow
          refine hK.out _ _ ⟨(pw_cell_below HP4.out hq0), (pw_cell_below HP4.out hq1), (pw_cell_below HP4.out hq2), (pw_cell_below HP4.out hq3), (pw_cell_below HP4.out hq4), (pw_cell_below HP4.out hq5), (pw_cell_below HP4.out hq6), (pw_cell_below HP4.out hq7), (pw_cell_below HP4.out hq8), (pw_cell_below HP4.out hq9), (pw_cell_below HP4.out hq10), (pw_cell_below HP4.out hq11), (pw_cell_below HP4.out hq12), (pw_cell_below HP4.out hq13), (pw_cell_below HP4.out hq14), (pw_cell_below HP4.out hq15), (pw_cell_below HP4.out hq16)⟩ (fun hHeld => ?_)
          clear hK K
          refine norm_ (a' := ?_) ?_ ?_
          rotate_left
          · show Act.put _ (some 24) _ = _
            simp only [Act.put, List.setIfInBounds_toArray, List.set_cons_zero, List.set_cons_succ, i64_w, i32_w]
            rfl
          exact norm_ (by simp only [putAll, Act.put, List.setIfInBounds_toArray, List.set_cons_zero, List.set_cons_succ]) (hCont (.slice a1 W1.length c1_, .slice a2 W2.length c2_, g8, g9) _ ⟨hHeld, ⟨a1, c1_, rfl, R1_4.out⟩, ⟨a2, c2_, rfl, R2_4.out⟩, G8_4.out, G9_4.out, NE.out, HP4.out, L8.out, L9.out⟩)
      · skip
        refine box_step (cs := #[.int .i64 0, .int .u64 0, .int .i64 0, .int .u64 0, .int .i64 0, .int .u64 0, .slice none 0 0]) (t := 30) (by rfl) rfl ?_ ?_
        · first | (go_simp; done) | (go_simp; rfl) | kernel_rfl
        intro g9 hg9 wp2 hbk hb
        have HP2 := Aside0.mk (below_then HP1.out HP1.out.size hb)
        have G9_2 := Aside0.mk hbk
        have L9 : Aside0 (wr.heap.size ≤ g9) := ⟨by rw [hg9]; exact (HP1.out).size⟩
        have NE : Aside0 (g8 ≠ g9) := ⟨by rw [hg9]; exact Nat.ne_of_lt (blk_lt G8_1.out)⟩
        have G8_2 := Aside0.mk (blk_below G8_1.out hb)
        clear hb hbk hg9
        refine hK.out _ _ ⟨(pw_cell_below HP2.out hq0), (pw_cell_below HP2.out hq1), (pw_cell_below HP2.out hq2), (pw_cell_below HP2.out hq3), (pw_cell_below HP2.out hq4), (pw_cell_below HP2.out hq5), (pw_cell_below HP2.out hq6), (pw_cell_below HP2.out hq7), (pw_cell_below HP2.out hq8), (pw_cell_below HP2.out hq9), (pw_cell_below HP2.out hq10), (pw_cell_below HP2.out hq11), (pw_cell_below HP2.out hq12), (pw_cell_below HP2.out hq13), (pw_cell_below HP2.out hq14), (pw_cell_below HP2.out hq15), (pw_cell_below HP2.out hq16)⟩ (fun hHeld => ?_)
        clear hK K
        refine norm_ (a' := ?_) ?_ ?_
        rotate_left
        · show Act.put _ (some 9) _ = _
          simp only [Act.put, List.setIfInBounds_toArray, List.set_cons_zero, List.set_cons_succ, i64_w, i32_w]
          rfl
        refine one_ (i := 2) (N := some 21) #[true, true, true, true, true, false, true, true, false, false] rfl rfl (by kernel_rfl) (by decide) (fun K hK => ?_)
        refine goes_ Tryd.func8 (by kernel_rfl) rfl #[.agg #[.slice AX (mkBal bal).length cX, .int .i64 (mkSlots sl), .int .i64 (mkBoost bo)], .agg #[.int .i64 s, .int .u64 h, .int .i64 se, .int .u64 sr, .int .i64 te, .int .u64 tr, .slice A1 n1 c1]] (by rfl) rfl rfl (by simp only [List.map_toArray, List.map_cons, List.map_nil]; rfl) ?_
        with_reducible refine (make5_at (HX.out.below HP2.out) (H1.out.below HP2.out) HK1.out).mono ?_
        rintro e wp3 ⟨a1, c1_, rfl, hrow, hb⟩
        refine ⟨_, rfl, ?_⟩
        have HP3 := Aside0.mk (below_then HP2.out HP2.out.size hb)
        have R1_3 := Aside0.mk (Kd.R_lower hrow HP2.out.size)
        have G8_3 := Aside0.mk (blk_below G8_2.out hb)
        have G9_3 := Aside0.mk (blk_below G9_2.out hb)
        clear hb hrow
        refine hK.out _ _ ⟨(pw_cell_below HP3.out hq0), (pw_cell_below HP3.out hq1), (pw_cell_below HP3.out hq2), (pw_cell_below HP3.out hq3), (pw_cell_below HP3.out hq4), (pw_cell_below HP3.out hq5), (pw_cell_below HP3.out hq6), (pw_cell_below HP3.out hq7), (pw_cell_below HP3.out hq8), (pw_cell_below HP3.out hq9), (pw_cell_below HP3.out hq10), (pw_cell_below HP3.out hq11), (pw_cell_below HP3.out hq12), (pw_cell_below HP3.out hq13), (pw_cell_below HP3.out hq14), (pw_cell_below HP3.out hq15), (pw_cell_below HP3.out hq16)⟩ (fun hHeld => ?_)
        clear hK K
        refine norm_ (a' := ?_) ?_ ?_
        rotate_left
        · show Act.put _ (some 21) _ = _
          simp only [Act.put, List.setIfInBounds_toArray, List.set_cons_zero, List.set_cons_succ, i64_w, i32_w]
          rfl
        refine one_ (i := 5) (N := some 24) #[true, true, true, true, true, true, true, true, false, false] rfl rfl (by kernel_rfl) (by decide) (fun K hK => ?_)
        refine goes_ Tryd.func8 (by kernel_rfl) rfl #[.agg #[.slice AX (mkBal bal).length cX, .int .i64 (mkSlots sl), .int .i64 (mkBoost bo)], .agg #[.int .i64 s2, .int .u64 h2, .int .i64 se2, .int .u64 sr2, .int .i64 te2, .int .u64 tr2, .slice A2 n2 c2]] (by rfl) rfl rfl (by simp only [List.map_toArray, List.map_cons, List.map_nil]; rfl) ?_
        with_reducible refine (make5_at (HX.out.below HP3.out) (H2.out.below HP3.out) HK2.out).mono ?_
        rintro e wp4 ⟨a2, c2_, rfl, hrow, hb⟩
        refine ⟨_, rfl, ?_⟩
        have HP4 := Aside0.mk (below_then HP3.out HP3.out.size hb)
        have R2_4 := Aside0.mk (Kd.R_lower hrow HP3.out.size)
        have R1_4 := Aside0.mk (Kd.R_below R1_3.out hb)
        have G8_4 := Aside0.mk (blk_below G8_3.out hb)
        have G9_4 := Aside0.mk (blk_below G9_3.out hb)
        clear hb hrow
        refine hK.out _ _ ⟨(pw_cell_below HP4.out hq0), (pw_cell_below HP4.out hq1), (pw_cell_below HP4.out hq2), (pw_cell_below HP4.out hq3), (pw_cell_below HP4.out hq4), (pw_cell_below HP4.out hq5), (pw_cell_below HP4.out hq6), (pw_cell_below HP4.out hq7), (pw_cell_below HP4.out hq8), (pw_cell_below HP4.out hq9), (pw_cell_below HP4.out hq10), (pw_cell_below HP4.out hq11), (pw_cell_below HP4.out hq12), (pw_cell_below HP4.out hq13), (pw_cell_below HP4.out hq14), (pw_cell_below HP4.out hq15), (pw_cell_below HP4.out hq16)⟩ (fun hHeld => ?_)
        clear hK K
        refine norm_ (a' := ?_) ?_ ?_
        rotate_left
        · show Act.put _ (some 24) _ = _
          simp only [Act.put, List.setIfInBounds_toArray, List.set_cons_zero, List.set_cons_succ, i64_w, i32_w]
          rfl
        exact norm_ (by simp only [putAll, Act.put, List.setIfInBounds_toArray, List.set_cons_zero, List.set_cons_succ]) (hCont (.slice a1 W1.length c1_, .slice a2 W2.length c2_, g8, g9) _ ⟨hHeld, ⟨a1, c1_, rfl, R1_4.out⟩, ⟨a2, c2_, rfl, R2_4.out⟩, G8_4.out, G9_4.out, NE.out, HP4.out, L8.out, L9.out⟩)
    · skip
      refine box_step (cs := #[.int .i64 0, .int .u64 0, .int .i64 0, .int .u64 0, .int .i64 0, .int .u64 0, .slice none 0 0]) (t := 30) (by rfl) rfl ?_ ?_
      · first | (go_simp; done) | (go_simp; rfl) | kernel_rfl
      intro g9 hg9 wp1 hbk hb
      have HP1 := Aside0.mk (below_then (below_drew (Below.refl wr.heap.size wr)) (Nat.le_refl _) hb)
      have G9_1 := Aside0.mk hbk
      have L9 : Aside0 (wr.heap.size ≤ g9) := ⟨by rw [hg9]; exact ((below_drew (Below.refl wr.heap.size wr))).size⟩
      clear hb hbk hg9
      refine hK.out _ _ ⟨(pw_cell_below HP1.out hq0), (pw_cell_below HP1.out hq1), (pw_cell_below HP1.out hq2), (pw_cell_below HP1.out hq3), (pw_cell_below HP1.out hq4), (pw_cell_below HP1.out hq5), (pw_cell_below HP1.out hq6), (pw_cell_below HP1.out hq7), (pw_cell_below HP1.out hq8), (pw_cell_below HP1.out hq9), (pw_cell_below HP1.out hq10), (pw_cell_below HP1.out hq11), (pw_cell_below HP1.out hq12), (pw_cell_below HP1.out hq13), (pw_cell_below HP1.out hq14), (pw_cell_below HP1.out hq15), (pw_cell_below HP1.out hq16)⟩ (fun hHeld => ?_)
      clear hK K
      refine norm_ (a' := ?_) ?_ ?_
      rotate_left
      · show Act.put _ (some 9) _ = _
        simp only [Act.put, List.setIfInBounds_toArray, List.set_cons_zero, List.set_cons_succ, i64_w, i32_w]
        rfl
      refine two_ (i := 2) (j := 6) (Ni := some 21) (Nj := some 8) #[true, true, true, true, true, false, false, true, false, false] #[true, true, false, true, true, false, true, true, false, false] rfl rfl rfl rfl (by kernel_rfl) (by decide) (by decide) (fun K hK => ?_) (fun K hK => ?_)
      · skip
        refine goes_ Tryd.func8 (by kernel_rfl) rfl #[.agg #[.slice AX (mkBal bal).length cX, .int .i64 (mkSlots sl), .int .i64 (mkBoost bo)], .agg #[.int .i64 s, .int .u64 h, .int .i64 se, .int .u64 sr, .int .i64 te, .int .u64 tr, .slice A1 n1 c1]] (by rfl) rfl rfl (by simp only [List.map_toArray, List.map_cons, List.map_nil]; rfl) ?_
        with_reducible refine (make5_at (HX.out.below HP1.out) (H1.out.below HP1.out) HK1.out).mono ?_
        rintro e wp2 ⟨a1, c1_, rfl, hrow, hb⟩
        refine ⟨_, rfl, ?_⟩
        have HP2 := Aside0.mk (below_then HP1.out HP1.out.size hb)
        have R1_2 := Aside0.mk (Kd.R_lower hrow HP1.out.size)
        have G9_2 := Aside0.mk (blk_below G9_1.out hb)
        clear hb hrow
        refine hK.out _ _ ⟨(pw_cell_below HP2.out hq0), (pw_cell_below HP2.out hq1), (pw_cell_below HP2.out hq2), (pw_cell_below HP2.out hq3), (pw_cell_below HP2.out hq4), (pw_cell_below HP2.out hq5), (pw_cell_below HP2.out hq6), (pw_cell_below HP2.out hq7), (pw_cell_below HP2.out hq8), (pw_cell_below HP2.out hq9), (pw_cell_below HP2.out hq10), (pw_cell_below HP2.out hq11), (pw_cell_below HP2.out hq12), (pw_cell_below HP2.out hq13), (pw_cell_below HP2.out hq14), (pw_cell_below HP2.out hq15), (pw_cell_below HP2.out hq16)⟩ (fun hHeld => ?_)
        clear hK K
        refine norm_ (a' := ?_) ?_ ?_
        rotate_left
        · show Act.put _ (some 21) _ = _
          simp only [Act.put, List.setIfInBounds_toArray, List.set_cons_zero, List.set_cons_succ, i64_w, i32_w]
          rfl
        refine two_ (i := 5) (j := 6) (Ni := some 24) (Nj := some 8) #[true, true, true, true, true, true, false, true, false, false] #[true, true, true, true, true, false, true, true, false, false] rfl rfl rfl rfl (by kernel_rfl) (by decide) (by decide) (fun K hK => ?_) (fun K hK => ?_)
        · skip
          refine goes_ Tryd.func8 (by kernel_rfl) rfl #[.agg #[.slice AX (mkBal bal).length cX, .int .i64 (mkSlots sl), .int .i64 (mkBoost bo)], .agg #[.int .i64 s2, .int .u64 h2, .int .i64 se2, .int .u64 sr2, .int .i64 te2, .int .u64 tr2, .slice A2 n2 c2]] (by rfl) rfl rfl (by simp only [List.map_toArray, List.map_cons, List.map_nil]; rfl) ?_
          with_reducible refine (make5_at (HX.out.below HP2.out) (H2.out.below HP2.out) HK2.out).mono ?_
          rintro e wp3 ⟨a2, c2_, rfl, hrow, hb⟩
          refine ⟨_, rfl, ?_⟩
          have HP3 := Aside0.mk (below_then HP2.out HP2.out.size hb)
          have R2_3 := Aside0.mk (Kd.R_lower hrow HP2.out.size)
          have R1_3 := Aside0.mk (Kd.R_below R1_2.out hb)
          have G9_3 := Aside0.mk (blk_below G9_2.out hb)
          clear hb hrow
          refine hK.out _ _ ⟨(pw_cell_below HP3.out hq0), (pw_cell_below HP3.out hq1), (pw_cell_below HP3.out hq2), (pw_cell_below HP3.out hq3), (pw_cell_below HP3.out hq4), (pw_cell_below HP3.out hq5), (pw_cell_below HP3.out hq6), (pw_cell_below HP3.out hq7), (pw_cell_below HP3.out hq8), (pw_cell_below HP3.out hq9), (pw_cell_below HP3.out hq10), (pw_cell_below HP3.out hq11), (pw_cell_below HP3.out hq12), (pw_cell_below HP3.out hq13), (pw_cell_below HP3.out hq14), (pw_cell_below HP3.out hq15), (pw_cell_below HP3.out hq16)⟩ (fun hHeld => ?_)
          clear hK K
          refine norm_ (a' := ?_) ?_ ?_
          rotate_left
          · show Act.put _ (some 24) _ = _
            simp only [Act.put, List.setIfInBounds_toArray, List.set_cons_zero, List.set_cons_succ, i64_w, i32_w]
            rfl
          refine one_ (i := 6) (N := some 8) #[true, true, true, true, true, true, true, true, false, false] rfl rfl (by kernel_rfl) (by decide) (fun K hK => ?_)
          refine box_step (cs := #[.int .i64 0, .int .u64 0, .int .i64 0, .int .u64 0, .int .i64 0, .int .u64 0, .slice none 0 0]) (t := 30) (by rfl) rfl ?_ ?_
          · first | (go_simp; done) | (go_simp; rfl) | kernel_rfl
          intro g8 hg8 wp4 hbk hb
          have HP4 := Aside0.mk (below_then HP3.out HP3.out.size hb)
          have G8_4 := Aside0.mk hbk
          have L8 : Aside0 (wr.heap.size ≤ g8) := ⟨by rw [hg8]; exact (HP3.out).size⟩
          have NE : Aside0 (g8 ≠ g9) := ⟨by rw [hg8]; exact Nat.ne_of_gt (blk_lt G9_3.out)⟩
          have R1_4 := Aside0.mk (Kd.R_below R1_3.out hb)
          have R2_4 := Aside0.mk (Kd.R_below R2_3.out hb)
          have G9_4 := Aside0.mk (blk_below G9_3.out hb)
          clear hb hbk hg8
          refine hK.out _ _ ⟨(pw_cell_below HP4.out hq0), (pw_cell_below HP4.out hq1), (pw_cell_below HP4.out hq2), (pw_cell_below HP4.out hq3), (pw_cell_below HP4.out hq4), (pw_cell_below HP4.out hq5), (pw_cell_below HP4.out hq6), (pw_cell_below HP4.out hq7), (pw_cell_below HP4.out hq8), (pw_cell_below HP4.out hq9), (pw_cell_below HP4.out hq10), (pw_cell_below HP4.out hq11), (pw_cell_below HP4.out hq12), (pw_cell_below HP4.out hq13), (pw_cell_below HP4.out hq14), (pw_cell_below HP4.out hq15), (pw_cell_below HP4.out hq16)⟩ (fun hHeld => ?_)
          clear hK K
          refine norm_ (a' := ?_) ?_ ?_
          rotate_left
          · show Act.put _ (some 8) _ = _
            simp only [Act.put, List.setIfInBounds_toArray, List.set_cons_zero, List.set_cons_succ, i64_w, i32_w]
            rfl
          exact norm_ (by simp only [putAll, Act.put, List.setIfInBounds_toArray, List.set_cons_zero, List.set_cons_succ]) (hCont (.slice a1 W1.length c1_, .slice a2 W2.length c2_, g8, g9) _ ⟨hHeld, ⟨a1, c1_, rfl, R1_4.out⟩, ⟨a2, c2_, rfl, R2_4.out⟩, G8_4.out, G9_4.out, NE.out, HP4.out, L8.out, L9.out⟩)
        · skip
          refine box_step (cs := #[.int .i64 0, .int .u64 0, .int .i64 0, .int .u64 0, .int .i64 0, .int .u64 0, .slice none 0 0]) (t := 30) (by rfl) rfl ?_ ?_
          · first | (go_simp; done) | (go_simp; rfl) | kernel_rfl
          intro g8 hg8 wp3 hbk hb
          have HP3 := Aside0.mk (below_then HP2.out HP2.out.size hb)
          have G8_3 := Aside0.mk hbk
          have L8 : Aside0 (wr.heap.size ≤ g8) := ⟨by rw [hg8]; exact (HP2.out).size⟩
          have NE : Aside0 (g8 ≠ g9) := ⟨by rw [hg8]; exact Nat.ne_of_gt (blk_lt G9_2.out)⟩
          have R1_3 := Aside0.mk (Kd.R_below R1_2.out hb)
          have G9_3 := Aside0.mk (blk_below G9_2.out hb)
          clear hb hbk hg8
          refine hK.out _ _ ⟨(pw_cell_below HP3.out hq0), (pw_cell_below HP3.out hq1), (pw_cell_below HP3.out hq2), (pw_cell_below HP3.out hq3), (pw_cell_below HP3.out hq4), (pw_cell_below HP3.out hq5), (pw_cell_below HP3.out hq6), (pw_cell_below HP3.out hq7), (pw_cell_below HP3.out hq8), (pw_cell_below HP3.out hq9), (pw_cell_below HP3.out hq10), (pw_cell_below HP3.out hq11), (pw_cell_below HP3.out hq12), (pw_cell_below HP3.out hq13), (pw_cell_below HP3.out hq14), (pw_cell_below HP3.out hq15), (pw_cell_below HP3.out hq16)⟩ (fun hHeld => ?_)
          clear hK K
          refine norm_ (a' := ?_) ?_ ?_
          rotate_left
          · show Act.put _ (some 8) _ = _
            simp only [Act.put, List.setIfInBounds_toArray, List.set_cons_zero, List.set_cons_succ, i64_w, i32_w]
            rfl
          refine one_ (i := 5) (N := some 24) #[true, true, true, true, true, true, true, true, false, false] rfl rfl (by kernel_rfl) (by decide) (fun K hK => ?_)
          refine goes_ Tryd.func8 (by kernel_rfl) rfl #[.agg #[.slice AX (mkBal bal).length cX, .int .i64 (mkSlots sl), .int .i64 (mkBoost bo)], .agg #[.int .i64 s2, .int .u64 h2, .int .i64 se2, .int .u64 sr2, .int .i64 te2, .int .u64 tr2, .slice A2 n2 c2]] (by rfl) rfl rfl (by simp only [List.map_toArray, List.map_cons, List.map_nil]; rfl) ?_
          with_reducible refine (make5_at (HX.out.below HP3.out) (H2.out.below HP3.out) HK2.out).mono ?_
          rintro e wp4 ⟨a2, c2_, rfl, hrow, hb⟩
          refine ⟨_, rfl, ?_⟩
          have HP4 := Aside0.mk (below_then HP3.out HP3.out.size hb)
          have R2_4 := Aside0.mk (Kd.R_lower hrow HP3.out.size)
          have R1_4 := Aside0.mk (Kd.R_below R1_3.out hb)
          have G8_4 := Aside0.mk (blk_below G8_3.out hb)
          have G9_4 := Aside0.mk (blk_below G9_3.out hb)
          clear hb hrow
          refine hK.out _ _ ⟨(pw_cell_below HP4.out hq0), (pw_cell_below HP4.out hq1), (pw_cell_below HP4.out hq2), (pw_cell_below HP4.out hq3), (pw_cell_below HP4.out hq4), (pw_cell_below HP4.out hq5), (pw_cell_below HP4.out hq6), (pw_cell_below HP4.out hq7), (pw_cell_below HP4.out hq8), (pw_cell_below HP4.out hq9), (pw_cell_below HP4.out hq10), (pw_cell_below HP4.out hq11), (pw_cell_below HP4.out hq12), (pw_cell_below HP4.out hq13), (pw_cell_below HP4.out hq14), (pw_cell_below HP4.out hq15), (pw_cell_below HP4.out hq16)⟩ (fun hHeld => ?_)
          clear hK K
          refine norm_ (a' := ?_) ?_ ?_
          rotate_left
          · show Act.put _ (some 24) _ = _
            simp only [Act.put, List.setIfInBounds_toArray, List.set_cons_zero, List.set_cons_succ, i64_w, i32_w]
            rfl
          exact norm_ (by simp only [putAll, Act.put, List.setIfInBounds_toArray, List.set_cons_zero, List.set_cons_succ]) (hCont (.slice a1 W1.length c1_, .slice a2 W2.length c2_, g8, g9) _ ⟨hHeld, ⟨a1, c1_, rfl, R1_4.out⟩, ⟨a2, c2_, rfl, R2_4.out⟩, G8_4.out, G9_4.out, NE.out, HP4.out, L8.out, L9.out⟩)
      · skip
        refine box_step (cs := #[.int .i64 0, .int .u64 0, .int .i64 0, .int .u64 0, .int .i64 0, .int .u64 0, .slice none 0 0]) (t := 30) (by rfl) rfl ?_ ?_
        · first | (go_simp; done) | (go_simp; rfl) | kernel_rfl
        intro g8 hg8 wp2 hbk hb
        have HP2 := Aside0.mk (below_then HP1.out HP1.out.size hb)
        have G8_2 := Aside0.mk hbk
        have L8 : Aside0 (wr.heap.size ≤ g8) := ⟨by rw [hg8]; exact (HP1.out).size⟩
        have NE : Aside0 (g8 ≠ g9) := ⟨by rw [hg8]; exact Nat.ne_of_gt (blk_lt G9_1.out)⟩
        have G9_2 := Aside0.mk (blk_below G9_1.out hb)
        clear hb hbk hg8
        refine hK.out _ _ ⟨(pw_cell_below HP2.out hq0), (pw_cell_below HP2.out hq1), (pw_cell_below HP2.out hq2), (pw_cell_below HP2.out hq3), (pw_cell_below HP2.out hq4), (pw_cell_below HP2.out hq5), (pw_cell_below HP2.out hq6), (pw_cell_below HP2.out hq7), (pw_cell_below HP2.out hq8), (pw_cell_below HP2.out hq9), (pw_cell_below HP2.out hq10), (pw_cell_below HP2.out hq11), (pw_cell_below HP2.out hq12), (pw_cell_below HP2.out hq13), (pw_cell_below HP2.out hq14), (pw_cell_below HP2.out hq15), (pw_cell_below HP2.out hq16)⟩ (fun hHeld => ?_)
        clear hK K
        refine norm_ (a' := ?_) ?_ ?_
        rotate_left
        · show Act.put _ (some 8) _ = _
          simp only [Act.put, List.setIfInBounds_toArray, List.set_cons_zero, List.set_cons_succ, i64_w, i32_w]
          rfl
        refine one_ (i := 2) (N := some 21) #[true, true, true, true, true, false, true, true, false, false] rfl rfl (by kernel_rfl) (by decide) (fun K hK => ?_)
        refine goes_ Tryd.func8 (by kernel_rfl) rfl #[.agg #[.slice AX (mkBal bal).length cX, .int .i64 (mkSlots sl), .int .i64 (mkBoost bo)], .agg #[.int .i64 s, .int .u64 h, .int .i64 se, .int .u64 sr, .int .i64 te, .int .u64 tr, .slice A1 n1 c1]] (by rfl) rfl rfl (by simp only [List.map_toArray, List.map_cons, List.map_nil]; rfl) ?_
        with_reducible refine (make5_at (HX.out.below HP2.out) (H1.out.below HP2.out) HK1.out).mono ?_
        rintro e wp3 ⟨a1, c1_, rfl, hrow, hb⟩
        refine ⟨_, rfl, ?_⟩
        have HP3 := Aside0.mk (below_then HP2.out HP2.out.size hb)
        have R1_3 := Aside0.mk (Kd.R_lower hrow HP2.out.size)
        have G8_3 := Aside0.mk (blk_below G8_2.out hb)
        have G9_3 := Aside0.mk (blk_below G9_2.out hb)
        clear hb hrow
        refine hK.out _ _ ⟨(pw_cell_below HP3.out hq0), (pw_cell_below HP3.out hq1), (pw_cell_below HP3.out hq2), (pw_cell_below HP3.out hq3), (pw_cell_below HP3.out hq4), (pw_cell_below HP3.out hq5), (pw_cell_below HP3.out hq6), (pw_cell_below HP3.out hq7), (pw_cell_below HP3.out hq8), (pw_cell_below HP3.out hq9), (pw_cell_below HP3.out hq10), (pw_cell_below HP3.out hq11), (pw_cell_below HP3.out hq12), (pw_cell_below HP3.out hq13), (pw_cell_below HP3.out hq14), (pw_cell_below HP3.out hq15), (pw_cell_below HP3.out hq16)⟩ (fun hHeld => ?_)
        clear hK K
        refine norm_ (a' := ?_) ?_ ?_
        rotate_left
        · show Act.put _ (some 21) _ = _
          simp only [Act.put, List.setIfInBounds_toArray, List.set_cons_zero, List.set_cons_succ, i64_w, i32_w]
          rfl
        refine one_ (i := 5) (N := some 24) #[true, true, true, true, true, true, true, true, false, false] rfl rfl (by kernel_rfl) (by decide) (fun K hK => ?_)
        refine goes_ Tryd.func8 (by kernel_rfl) rfl #[.agg #[.slice AX (mkBal bal).length cX, .int .i64 (mkSlots sl), .int .i64 (mkBoost bo)], .agg #[.int .i64 s2, .int .u64 h2, .int .i64 se2, .int .u64 sr2, .int .i64 te2, .int .u64 tr2, .slice A2 n2 c2]] (by rfl) rfl rfl (by simp only [List.map_toArray, List.map_cons, List.map_nil]; rfl) ?_
        with_reducible refine (make5_at (HX.out.below HP3.out) (H2.out.below HP3.out) HK2.out).mono ?_
        rintro e wp4 ⟨a2, c2_, rfl, hrow, hb⟩
        refine ⟨_, rfl, ?_⟩
        have HP4 := Aside0.mk (below_then HP3.out HP3.out.size hb)
        have R2_4 := Aside0.mk (Kd.R_lower hrow HP3.out.size)
        have R1_4 := Aside0.mk (Kd.R_below R1_3.out hb)
        have G8_4 := Aside0.mk (blk_below G8_3.out hb)
        have G9_4 := Aside0.mk (blk_below G9_3.out hb)
        clear hb hrow
        refine hK.out _ _ ⟨(pw_cell_below HP4.out hq0), (pw_cell_below HP4.out hq1), (pw_cell_below HP4.out hq2), (pw_cell_below HP4.out hq3), (pw_cell_below HP4.out hq4), (pw_cell_below HP4.out hq5), (pw_cell_below HP4.out hq6), (pw_cell_below HP4.out hq7), (pw_cell_below HP4.out hq8), (pw_cell_below HP4.out hq9), (pw_cell_below HP4.out hq10), (pw_cell_below HP4.out hq11), (pw_cell_below HP4.out hq12), (pw_cell_below HP4.out hq13), (pw_cell_below HP4.out hq14), (pw_cell_below HP4.out hq15), (pw_cell_below HP4.out hq16)⟩ (fun hHeld => ?_)
        clear hK K
        refine norm_ (a' := ?_) ?_ ?_
        rotate_left
        · show Act.put _ (some 24) _ = _
          simp only [Act.put, List.setIfInBounds_toArray, List.set_cons_zero, List.set_cons_succ, i64_w, i32_w]
          rfl
        exact norm_ (by simp only [putAll, Act.put, List.setIfInBounds_toArray, List.set_cons_zero, List.set_cons_succ]) (hCont (.slice a1 W1.length c1_, .slice a2 W2.length c2_, g8, g9) _ ⟨hHeld, ⟨a1, c1_, rfl, R1_4.out⟩, ⟨a2, c2_, rfl, R2_4.out⟩, G8_4.out, G9_4.out, NE.out, HP4.out, L8.out, L9.out⟩)
  rintro ⟨vv1, vv2, g8, g9⟩ wj ⟨hS_, ⟨a1, c1_, e1_, hr1⟩, ⟨a2, c2_, e2_, hr2⟩, hg8, hg9, hne, hbj, hl8, hl9⟩
  simp only at e1_ e2_ hg8 hg9 hne hl8 hl9
  subst e1_ e2_
  have R1 := Aside0.mk hr1
  have R2 := Aside0.mk hr2
  have G8 := Aside0.mk hg8
  have G9 := Aside0.mk hg9
  have NE := Aside0.mk hne
  have HJ := Aside0.mk hbj
  have L8 := Aside0.mk hl8
  have L9 := Aside0.mk hl9
  clear hr1 hr2 hg8 hg9 hne hbj hl8 hl9
  have hHeld : wj.cell? ⟨gm, 0, none⟩ = some (.slice AX (mkBal bal).length cX) ∧ wj.cell? ⟨gm, 1, none⟩ = some (.int .i64 (mkSlots sl)) ∧ wj.cell? ⟨gm, 2, none⟩ = some (.int .i64 (mkBoost bo)) ∧ wj.cell? ⟨w.heap.size + 1, 0, none⟩ = some (.int .i64 s) ∧ wj.cell? ⟨w.heap.size + 1, 1, none⟩ = some (.int .u64 h) ∧ wj.cell? ⟨w.heap.size + 1, 2, none⟩ = some (.int .i64 se) ∧ wj.cell? ⟨w.heap.size + 1, 3, none⟩ = some (.int .u64 sr) ∧ wj.cell? ⟨w.heap.size + 1, 4, none⟩ = some (.int .i64 te) ∧ wj.cell? ⟨w.heap.size + 1, 5, none⟩ = some (.int .u64 tr) ∧ wj.cell? ⟨w.heap.size + 1, 6, none⟩ = some (.slice A1 n1 c1) ∧ wj.cell? ⟨w.heap.size + 1 + 1, 0, none⟩ = some (.int .i64 s2) ∧ wj.cell? ⟨w.heap.size + 1 + 1, 1, none⟩ = some (.int .u64 h2) ∧ wj.cell? ⟨w.heap.size + 1 + 1, 2, none⟩ = some (.int .i64 se2) ∧ wj.cell? ⟨w.heap.size + 1 + 1, 3, none⟩ = some (.int .u64 sr2) ∧ wj.cell? ⟨w.heap.size + 1 + 1, 4, none⟩ = some (.int .i64 te2) ∧ wj.cell? ⟨w.heap.size + 1 + 1, 5, none⟩ = some (.int .u64 tr2) ∧ wj.cell? ⟨w.heap.size + 1 + 1, 6, none⟩ = some (.slice A2 n2 c2) := hS_
  refine norm_ (a' := ?_) ?_ ?_
  rotate_left
  · simp only [putAll, Act.put, List.setIfInBounds_toArray, List.set_cons_zero, List.set_cons_succ]
    rfl
  refine last_ (i := 8) (N := none) #[true, true, true, true, true, true, true, true, true, false] rfl rfl (by kernel_rfl) (by decide) (fun K hK => ?_)
  refine store_step (by rfl) rfl 30 (.tmp 8) (.tmp 21) rfl g8 30 _ #[.int .i64 (mkAt s), .int .u64 (Int.tmod h 8), .int .i64 (mkSe (mkSlots sl) s se), .int .u64 (Int.tmod sr 8), .int .i64 (mkTe (mkSlots sl) s), .int .u64 (Int.tmod tr 8), .slice a1 W1.length c1_] rfl rfl G8.out rfl (by kernel_rfl) (by simp [Value.oneCell']) ?_
  intro wk hbk hgr
  have B8k := Aside0.mk hbk
  have HK8 := Aside0.mk (HJ.out.grown hgr HJ.out.size (fun k hk => by cases hk; exact L8.out))
  have R1k := Aside0.mk (R_over R1.out G8.out hgr)
  have R2k := Aside0.mk (R_over R2.out G8.out hgr)
  have G9k := Aside0.mk (blk_grown G9.out hgr (fun e => NE.out (by injection e with e; exact e.symm)))
  clear hbk hgr
  refine hK.out _ _ ?_
  clear hK K
  refine last_ (i := 9) (N := none) #[true, true, true, true, true, true, true, true, true, true] rfl rfl (by kernel_rfl) (by decide) (fun K hK => ?_)
  refine store_step (by rfl) rfl 30 (.tmp 9) (.tmp 24) rfl g9 30 _ #[.int .i64 (mkAt s2), .int .u64 (Int.tmod h2 8), .int .i64 (mkSe (mkSlots sl) s2 se2), .int .u64 (Int.tmod sr2 8), .int .i64 (mkTe (mkSlots sl) s2), .int .u64 (Int.tmod tr2 8), .slice a2 W2.length c2_] rfl rfl G9k.out rfl (by kernel_rfl) (by simp [Value.oneCell']) ?_
  intro wz hbk hgr
  have B9 := Aside0.mk hbk
  have HZ := Aside0.mk (HK8.out.grown hgr HK8.out.size (fun k hk => by cases hk; exact L9.out))
  have RW1 := Aside0.mk (row_R (R_over R1k.out G9k.out hgr))
  have RW2 := Aside0.mk (row_R (R_over R2k.out G9k.out hgr))
  have B8 := Aside0.mk (blk_grown B8k.out hgr (fun e => NE.out (by injection e)))
  clear hbk hgr
  refine hK.out _ _ ?_
  clear hK K
  refine done_ (by kernel_rfl) ?_

  have BMz := Aside0.mk (blk_below BM.out HZ.out)
  have HXz := Aside0.mk (HX.out.below HZ.out)
  have HBz := Aside0.mk (below_then HBR.out HBR.out.size HZ.out)
  have hcm := blk_cell BMz.out
  have hc8 := blk_cell B8.out
  have hc9 := blk_cell B9.out
  clear hHeld
  have hne : ((er.getD 0) != (er.getD 0)) = false := by simp
  have hnl : ((L.length : Int) != (L.length : Int)) = false := by simp
  go_wp2_with (first
    | (go_at_call 9; with_reducible refine (who_at HX7.out RV2.out RV1.out HKQ.out).mono ?_; rintro x w8 ⟨aq, cq, rfl, hq, hb⟩; have HQ8 := Aside0.mk hq; have HP8 := Aside0.mk (HP7.out.below hb); have HB8 := Aside0.mk (below_then HB7.out HB7.out.size hb); have HL8 := Aside0.mk (laid_below HL0.out HB8.out); clear hb hq)
    | (go_at_call 9; with_reducible refine (who_at HXz.out RW1.out RW2.out HKP.out).mono ?_; rintro x w7 ⟨ap, cp, rfl, hp, hb⟩; have HP7 := Aside0.mk hp; have HB7 := Aside0.mk (below_then HBz.out HBz.out.size hb); have HX7 := Aside0.mk (HXz.out.below hb); have RV1 := Aside0.mk (RW1.out.below hb); have RV2 := Aside0.mk (RW2.out.below hb); have BM7 := Aside0.mk (blk_below BMz.out hb); have B87 := Aside0.mk (blk_below B8.out hb); have B97 := Aside0.mk (blk_below B9.out hb); have hcm7 := blk_cell BM7.out; have hc87 := blk_cell B87.out; have hc97 := blk_cell B97.out; clear hb hp hcm hc8 hc9)
    | (go_at_call 13; with_reducible refine (api_Number.calls er (er.getD 0) _ rfl (laid_below HL0.out HB9.out)).mono ?_; rintro x w10 ⟨rfl, hb⟩; have HB10 := Aside0.mk (below_then HB9.out HB9.out.size hb); have HP10 := Aside0.mk (HP9.out.below hb); have HQ10 := Aside0.mk (HQ9.out.below hb); clear hb)
    | (go_at_call 13; with_reducible refine (api_Number.calls er (er.getD 0) _ rfl HL8.out).mono ?_; rintro x w9 ⟨rfl, hb⟩; have HB9 := Aside0.mk (below_then HB8.out HB8.out.size hb); have HP9 := Aside0.mk (HP8.out.below hb); have HQ9 := Aside0.mk (HQ8.out.below hb); clear hb))
  go_loopw [55] (fun c wv => ∃ k : Nat, k ≤ L.length ∧ c = .int .i64 k ∧ Aside0 (Below w10.heap.size w10 wv)) (fun c _ => L.length - (intOf c).toNat)
  case atStart => exact ⟨0, by omega, rfl, ⟨Below.refl _ _⟩⟩
  case round =>
    obtain ⟨k, hk, rfl, HBV⟩ := hrel
    by_cases hlt : k < L.length
    · have t0 : decide ((k : Int) < (L.length : Int)) = true := decide_eq_true (by omega)
      have i0 : (0 : Int) ≤ (k : Int) := by omega
      have i1 : (k : Int) < (L.length : Int) := by omega
      obtain ⟨adp, rfl, hcp⟩ := Kd.at_int HP10.out.2.2 (k : Int) i0 i1
      obtain ⟨adq, rfl, hcq⟩ := Kd.at_int HQ10.out.2.2 (k : Int) i0 i1
      rw [Int.toNat_natCast] at hcp hcq
      have hcp' := pw_cell_below HBV.out hcp
      have hcq' := pw_cell_below HBV.out hcq
      have hnx : (rd L (k : Int) != rd L (k : Int)) = false := by simp
      clear hcp hcq
      go_upto_region 12 with fail
      go_region_held3 (fun w' => w'.cell? (adp.add k) = some (.int .i64 (rd L (k : Int))) ∧ w'.cell? (adq.add k) = some (.int .i64 (rd L (k : Int))))
        (exact ⟨hcp', hcq'⟩)
        (fail)
      all_goals
        go_wp2_with fail
        go_roundw
        case rel => exact ⟨k + 1, by omega, by go_num, ⟨by with_reducible repeat (first | exact HBV.out | apply below_drew1)⟩⟩
        case measure => simp [intOf]; omega
    · have t0 : decide ((k : Int) < (L.length : Int)) = false := decide_eq_false (by omega)
      go_wp2_with fail
      go_ret
      exact ⟨rfl, below_then HB10.out HB10.out.size HBV.out⟩

/-- The same, of arguments as they are opened. -/
theorem slashTurn_args {A0 A1 A2 : Option Addr} {n0 c0 n1 c1 n2 c2 : Nat} {z0 z1 z2 : List Int} {sl bo s h se sr te tr s2 h2 se2 sr2 te2 tr2 : Int} {w : World} (hL : Number.Laid w) (g0 : Open.ConfigArg w A0 n0 c0 z0 sl bo) (g1 : Open.VoteArg w s h se sr te tr A1 n1 c1 z1) (g2 : Open.VoteArg w s2 h2 se2 sr2 te2 tr2 A2 n2 c2 z2) :
    Calls Tryd.prog 4 #[.agg #[.slice A0 n0 c0, .int .i64 sl, .int .i64 bo], .agg #[.int .i64 s, .int .u64 h, .int .i64 se, .int .u64 sr, .int .i64 te, .int .u64 tr, .slice A1 n1 c1], .agg #[.int .i64 s2, .int .u64 h2, .int .i64 se2, .int .u64 sr2, .int .i64 te2, .int .u64 tr2, .slice A2 n2 c2]] w fun x w' => x = .returned (.bool true) ∧ Below w.heap.size w w' := by
  have h0 := Kd.C_of_reads (d := (0 : Int)) (h1 := fun _ => rfl) g0.row.reads
  have h1 := Kd.C_of_reads (d := (0 : Int)) (h1 := fun _ => rfl) g1.row.reads
  have h3 := Kd.C_of_reads (d := (0 : Int)) (h1 := fun _ => rfl) g2.row.reads
  have s0 := g0.row.size
  have s1 := g1.row.size
  have s3 := g2.row.size
  exact slashTurn_law A0 n0 c0 z0 sl bo s h se sr te tr A1 n1 c1 z1 s2 h2 se2 sr2 te2 tr2 A2 n2 c2 z2 w hL ⟨h0.1, g0.row.le, h0⟩ (by omega) (bd_i64 g0.wb) ⟨h1.1, g1.row.le, h1⟩ (by omega) (bd_i64 g1.ws) (bd_i64 g1.s.1) ⟨h3.1, g2.row.le, h3⟩ (by omega) (bd_i64 g2.ws) (bd_i64 g2.s.1)
end Go.Proofs.YtolkagkfedpjmaaDoor.QT
