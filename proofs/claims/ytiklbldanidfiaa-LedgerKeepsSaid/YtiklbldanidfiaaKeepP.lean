/-
  The plain side of the law LedgerKeeps of package psephoslaw10: a vote counted twice counts once, and two in whatever order; a call through a function value in a region that draws its order.
-/
import Derived.Test.YtiklbldanidfiaaFix
import Derived.Test.YtiklbldanidfiaaVoteM5
namespace Go.Proofs.Ytiklbldanidfiaa.QL
open Go.RowKit Go.Proofs.YtiklbldanidfiaaW.PrintWords Go.Proofs.YtiklbldanidfiaaW.PrintLast Go.Proofs.YtiklbldanidfiaaW.PrintMore Go.Proofs.Ytiklbldanidfiaa.Own Go.Proofs.Ytiklbldanidfiaa.Justify Go.Proofs.Ytiklbldanidfiaa.QLV
set_option linter.unusedVariables false

theorem keep_marks_get (W : List Int) : ∀ (l : List Bool), (∀ x ∈ W, 0 ≤ x) → ∀ j, j < l.length → ((marks l W)[j]? = some true ↔ l[j]? = some true ∨ (j : Int) ∈ W) := by
  induction W with
  | nil => intro l _ j hj; simp [marks]
  | cons k W ih =>
    intro l hW j hj
    have hk := hW k (by simp)
    show (marks (l.set k.toNat true) W)[j]? = some true ↔ _
    rw [ih (l.set k.toNat true) (fun x hx => hW x (by simp [hx])) j (by simpa using hj), List.mem_cons, List.getElem?_set]
    by_cases e : k.toNat = j
    · have : (j : Int) = k := by omega
      simp [e, this, hj]
    · have : ¬ (j : Int) = k := by omega
      simp [e, this]
theorem bools_eq {a b : List Bool} (hl : a.length = b.length) (h : ∀ j, j < a.length → (a[j]? = some true ↔ b[j]? = some true)) : a = b := by
  refine List.ext_getElem hl fun j h1 h2 => ?_
  have := h j h1
  rw [List.getElem?_eq_getElem h1, List.getElem?_eq_getElem h2] at this
  simp only [Option.some.injEq] at this
  exact Bool.eq_iff_iff.2 this
theorem marks_twice (l : List Bool) (W : List Int) (hW : ∀ x ∈ W, 0 ≤ x) : marks (marks l W) W = marks l W := by
  refine bools_eq (by rw [marks_len]) fun j hj => ?_
  rw [marks_len, marks_len] at hj
  rw [keep_marks_get W _ hW j (by rw [marks_len]; exact hj), keep_marks_get W _ hW j hj]
  exact ⟨fun h => h.elim id .inr, .inl⟩
theorem marks_turn (l : List Bool) (V W : List Int) (hV : ∀ x ∈ V, 0 ≤ x) (hW : ∀ x ∈ W, 0 ≤ x) : marks (marks l V) W = marks (marks l W) V := by
  refine bools_eq (by simp only [marks_len]) fun j hj => ?_
  simp only [marks_len] at hj
  rw [keep_marks_get W _ hW j (by rw [marks_len]; exact hj), keep_marks_get V _ hV j hj, keep_marks_get V _ hV j (by rw [marks_len]; exact hj), keep_marks_get W _ hW j hj, or_assoc, or_assoc]
  exact or_congr_right (or_comm)
/-- A vote for the first epoch is counted. -/
theorem keep_count (sl : Int) (f : Int → Int) (s : LS) (W : List Int) (he : s.ep = 0) : countOf sl f s true s.j.ce s.j.cr 0 (f (startOf 0 sl)) W = (⟨s.j, s.ep, s.bf, marks s.nw W⟩, true) := by
  have hm : (0 : Int) = mx 0 0 := by unfold mx; omega
  unfold countOf refused
  simp [he, ← hm]
theorem keep_right (lx : List Int) (W : List Int) (sl a2 h sr tr : Int) (hl : lx.length ≤ 4096) (hW : W.length ≠ 0 ∧ W.length ≤ lx.length) (h1 : W.Pairwise (· < ·)) (h2 : ∀ x ∈ W, 0 ≤ x ∧ x < (lx.length : Int)) : Ev (fun k => vote_Right.f k lx sl a2 0 h 0 sr 0 tr W) true := by
  refine right_true _ lx sl a2 0 h 0 sr 0 tr (by omega) (by omega) ⟨hW.1, by omega, by omega, by omega, ?_, ok_of_rises h1 h2⟩
  rw [show max (0 : Int) 0 = 0 by omega, Int.zero_ediv]
/-- A state, and the one that Open gives. -/
theorem same_open {AX : Option Addr} {cX : Nat} {lx : List Int} {s : LS} {AB : Option Addr} {cB : Nat} {AN : Option Addr} {cN : Nat} {E1 : Option Addr} {f1 : Nat} {E2 : Option Addr} {f2 : Nat} {v : Value} {g : Int → Int} {w : World} {b : Nat} (h : SIn AX cX lx s AB cB AN cN v g w) (r : Rows2 b s E1 f1 E2 f2 w) : Same2 s AB cB AN cN E1 f1 E2 f2 w :=
  ⟨h.hB, h.hN, (Kd.R_reads' r.r1).2.2, (Kd.R_reads' r.r2).2.2, h.lB, h.lN⟩
/-- A function value called, in a region that draws its order. -/
theorem goesV_ {ops : Array Oper} {o : Oper} {a : Act} {Kc : Act → World → Prop} {Q : Exit → Act → World → Prop} {W : World} (hw : Region.wanted o (yielded ops a.tmps) = true) {x y : Operand} {ts : Array TypeId} (hop : o.op = .call { callee := .value x, args := #[y], argTypes := ts }) (F : FuncId) (C args : Array Value) (u : Value) (hx : a.eval x = .func (.func F) #[] C) (hy : a.eval y = u) (hargs : #[u] ++ C = args)
    (he : ∀ (args : Array Value) (w : World), (callFunc F args).run Try.prog w = .ok (.enter F args) w) (h : Calls Try.prog F args W fun e w' => ∃ r, e = .returned r ∧ Kc (a.put o.dst r) w') : if Region.wanted o (yielded ops a.tmps) = true then Oper.wp Try.prog o a W Kc Q else Kc (a.put o.dst undef) W := by
  have hrun : (execOp a.eval o).run Try.prog W = .ok (.enter F (#[u] ++ C)) W := by
    unfold execOp
    simp [hop, resolve, Deferred.ofValue, invoke, hx, hy, he]
  rw [if_pos hw]
  unfold Oper.wp
  rw [hrun, Oper.upon_enter, hargs]
  refine h.mono fun e w' hh => ?_
  obtain ⟨r, rfl, hk⟩ := hh
  exact hk
/-- A chain asked, in a region that draws its order. -/
theorem fireD_ {ops : Array Oper} {o : Oper} {a : Act} {Kc : Act → World → Prop} {Q : Exit → Act → World → Prop} {W w0 : World} {v : Value} {g : Int → Int} (hw : Region.wanted o (yielded ops a.tmps) = true) {x y : Operand} {ts : Array TypeId} (hop : o.op = .call { callee := .value x, args := #[y], argTypes := ts }) (hx : a.eval x = v) (s : Int) (hy : a.eval y = .int .i64 s) (hc : ChainAt v g w0) (hb : Below w0.heap.size w0 W) (hs : -9223372036854775808 ≤ s ∧ s ≤ 9223372036854775807)
    (h : ∀ w2, Below W.heap.size W w2 → Kc (a.put o.dst (.int .u64 (g s))) w2) : if Region.wanted o (yielded ops a.tmps) = true then Oper.wp Try.prog o a W Kc Q else Kc (a.put o.dst undef) W := by
  obtain ⟨F, C, rfl, he, _, hcc⟩ := hc
  refine goesV_ hw hop F C _ (.int .i64 s) hx hy rfl he ?_
  refine (hcc W hb s hs).mono fun e w' hh => ?_
  obtain ⟨rfl, hb2⟩ := hh
  exact ⟨_, rfl, h w' hb2⟩
end Go.Proofs.Ytiklbldanidfiaa.QL
