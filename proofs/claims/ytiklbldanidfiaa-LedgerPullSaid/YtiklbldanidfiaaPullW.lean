/-
  The walk of the law LedgerPull: a bool stored in a region that draws its order; what lies there between two rounds.
-/
import Derived.Test.YtiklbldanidfiaaPullP
namespace Go.Proofs.Ytiklbldanidfiaa.QL
open Go.RowKit Go.Proofs.YtiklbldanidfiaaW.PrintWords Go.Proofs.YtiklbldanidfiaaW.PrintLast Go.Proofs.YtiklbldanidfiaaW.PrintMore Go.Proofs.Ytiklbldanidfiaa.Own Go.Proofs.Ytiklbldanidfiaa.Justify
set_option linter.unusedVariables false

theorem storeB_step {ops : Array Oper} {o : Oper} {a : Act} {Kc : Act → World → Prop} {Q : Exit → Act → World → Prop} {W : World} (hw : Region.wanted o (yielded ops a.tmps) = true) (hN : o.dst = none) (p x : Operand) (ho : o.op = .store 4 p x) (g j : Nat) (b v0 : Bool) (haddr : a.eval p = .pointer (some ⟨g, j, none⟩)) (hx : a.eval x = .bool b) (hc : W.cell? ⟨g, j, none⟩ = some (.bool v0)) (hf : W.frozen? ⟨g, j, none⟩ = false)
    (h : Kc a (W.setCell ⟨g, j, none⟩ (.bool b))) : if Region.wanted o (yielded ops a.tmps) = true then Oper.wp Try.prog o a W Kc Q else Kc (a.put none undef) W := by
  have hrun : (execOp a.eval o).run Try.prog W = .ok .skip (W.setCell ⟨g, j, none⟩ (.bool b)) := by
    unfold execOp
    simp only [ho, haddr, hx]
    go_simp
  rw [if_pos hw]
  unfold Oper.wp
  rw [hrun]
  show Kc (a.put o.dst undef) _
  rw [hN]
  exact h
/-- Between two rounds of the first loop. -/
structure FillAt (w3 : World) (xb sb base : Nat) (AX : Option Addr) (cX n : Nat) (sx bx e : Int) (b1 b2 : List Bool) (AB : Option Addr) (cB : Nat) (AN : Option Addr) (cN : Nat) (k : Nat) (wr : World) : Prop where
  bel : Below w3.heap.size w3 wr
  hx : wr.heap[xb]? = some (.cells #[.slice AX n cX, .int .i64 sx, .int .i64 bx] 24 (0, 0))
  hs : wr.heap[sb]? = some (.cells #[.bool false, .bool false, .bool false, .bool false, .int .i64 0, .int .u64 7, .int .i64 0, .int .u64 7, .int .i64 0, .int .u64 7, .int .i64 e, .slice AB n cB, .slice AN n cN] 39 (0, 0))
  r1 : Kd.R Kd.bool 4 wr base (fun _ => True) (.slice AB n cB) (rowOf b1 k n)
  r2 : Kd.R Kd.bool 4 wr base (fun _ => True) (.slice AN n cN) (rowOf b2 k n)
  ne : ∀ q, (Value.slice AB n cB).ownBlock = some q → (Value.slice AN n cN).ownBlock = some q → False
  ba : w3.heap.size ≤ base ∧ xb < base
/-- Both marks of a round. -/
theorem FillAt.put {w3 : World} {xb sb base : Nat} {AX : Option Addr} {cX n : Nat} {sx bx e : Int} {b1 b2 : List Bool} {g1 cB g2 cN k : Nat} {wr wd : World} (h : FillAt w3 xb sb base AX cX n sx bx e b1 b2 (some ⟨g1, 0, none⟩) cB (some ⟨g2, 0, none⟩) cN k wr) (hd : Below wr.heap.size wr wd) (hk : k < n) :
    FillAt w3 xb sb base AX cX n sx bx e b1 b2 (some ⟨g1, 0, none⟩) cB (some ⟨g2, 0, none⟩) cN (k + 1) ((wd.setCell ⟨g1, k, none⟩ (.bool (rdOf false b1 (k : Int)))).setCell ⟨g2, k, none⟩ (.bool (rdOf false b2 (k : Int)))) := by
  have hba := h.ba
  have q1 := Kd.R_below h.r1 hd
  have q2 := Kd.R_below h.r2 hd
  have hx0 := blk_below h.hx hd
  have hs0 := blk_below h.hs hd
  have hb0 := below_then h.bel h.bel.size hd
  obtain ⟨hp1, hg1⟩ := Kd.R_putg (enc := Value.bool) (h1 := fun _ => rfl) q1 (k : Int) (rdOf false b1 (k : Int))
  rw [Int.toNat_natCast] at hp1 hg1
  rw [← rowOf_next b1 k n hk] at hp1
  have hb1 := Kd.R_base q1 g1 rfl
  have hn1 := R_ne q1 hs0
  have q2' := Kd.R_grown1 q2 rfl hg1 (fun e => h.ne g1 rfl e.symm)
  have hx1 := blk_grown hx0 hg1 (fun e => by injection e with e; omega)
  have hs1 := blk_grown hs0 hg1 (fun e => hn1 e.symm)
  have hbl1 := hb0.grown hg1 hb0.size (fun k e => by cases e; omega)
  obtain ⟨hp2, hg2⟩ := Kd.R_putg (enc := Value.bool) (h1 := fun _ => rfl) q2' (k : Int) (rdOf false b2 (k : Int))
  rw [Int.toNat_natCast] at hp2 hg2
  rw [← rowOf_next b2 k n hk] at hp2
  have hb2 := Kd.R_base q2' g2 rfl
  have hn2 := R_ne q2' hs1
  exact ⟨hbl1.grown hg2 hbl1.size (fun k e => by cases e; omega), blk_grown hx1 hg2 (fun e => by injection e with e; omega), blk_grown hs1 hg2 (fun e => hn2 e.symm), Kd.R_grown1 hp1 rfl hg2 (fun e => h.ne g2 e.symm rfl), hp2, h.ne, h.ba⟩
/-- The first of them, and what is known behind it. -/
theorem FillAt.half {w3 : World} {xb sb base : Nat} {AX : Option Addr} {cX n : Nat} {sx bx e : Int} {b1 b2 : List Bool} {g1 cB g2 cN k : Nat} {wr wd : World} (h : FillAt w3 xb sb base AX cX n sx bx e b1 b2 (some ⟨g1, 0, none⟩) cB (some ⟨g2, 0, none⟩) cN k wr) (hd : Below wr.heap.size wr wd) (hk : k < n) (b : Bool) :
    wd.cell? ⟨g1, k, none⟩ = some (.bool (rdOf false (rowOf b1 k n) (k : Int))) ∧ wd.frozen? ⟨g1, k, none⟩ = false ∧ (wd.setCell ⟨g1, k, none⟩ (.bool b)).cell? ⟨g2, k, none⟩ = some (.bool (rdOf false (rowOf b2 k n) (k : Int))) ∧ (wd.setCell ⟨g1, k, none⟩ (.bool b)).frozen? ⟨g2, k, none⟩ = false ∧
      (wd.setCell ⟨g1, k, none⟩ (.bool b)).heap[sb]? = some (.cells #[.bool false, .bool false, .bool false, .bool false, .int .i64 0, .int .u64 7, .int .i64 0, .int .u64 7, .int .i64 0, .int .u64 7, .int .i64 e, .slice (some ⟨g1, 0, none⟩) n cB, .slice (some ⟨g2, 0, none⟩) n cN] 39 (0, 0)) ∧ Below w3.heap.size w3 (wd.setCell ⟨g1, k, none⟩ (.bool b)) := by
  have hba := h.ba
  have q1 := Kd.R_below h.r1 hd
  have q2 := Kd.R_below h.r2 hd
  have hs0 := blk_below h.hs hd
  have hb0 := below_then h.bel h.bel.size hd
  obtain ⟨c1, f1⟩ := Kd.R_celln (enc := Value.bool) (h1 := fun _ => rfl) false q1 (k : Int) (by omega) (by omega)
  obtain ⟨hp1, hg1⟩ := Kd.R_putg (enc := Value.bool) (h1 := fun _ => rfl) q1 (k : Int) b
  rw [Int.toNat_natCast] at hp1 hg1 c1 f1
  have hb1 := Kd.R_base q1 g1 rfl
  have hn1 := R_ne q1 hs0
  have q2' := Kd.R_grown1 q2 rfl hg1 (fun e => h.ne g1 rfl e.symm)
  obtain ⟨c2, f2⟩ := Kd.R_celln (enc := Value.bool) (h1 := fun _ => rfl) false q2' (k : Int) (by omega) (by omega)
  rw [Int.toNat_natCast] at c2 f2
  exact ⟨c1, f1, c2, f2, blk_grown hs0 hg1 (fun e => hn1 e.symm), hb0.grown hg1 hb0.size (fun k e => by cases e; omega)⟩
end Go.Proofs.Ytiklbldanidfiaa.QL
