/-
  psephoslaw10's Same, by its contract: two states that read alike are the same.
-/
import Derived.Test.YtiklbldanidfiaaLF
import Derived.Test.YtiklbldanidfiaaEqBools
import Derived.Test.YtiklbldanidfiaaWEqStruct
import Derived.BigQuiet
namespace Go.Proofs.Ytiklbldanidfiaa.QL
open Go.RowKit Go.Proofs.YtiklbldanidfiaaW.PrintWords Go.Proofs.YtiklbldanidfiaaW.PrintLast Go.Proofs.YtiklbldanidfiaaW.PrintMore Go.Proofs.Ytiklbldanidfiaa.Own Go.Proofs.Ytiklbldanidfiaa.Justify
set_option linter.unusedVariables false
set_option linter.unusedSimpArgs false
attribute [local go_sem] max2_is min2_is max_pair min_pair

theorem eqA36 (d : Nat) (w : World) (b0 b1 b2 b3 c0 c1 c2 c3 : Bool) (x0 x1 x2 x3 x4 x5 y0 y1 y2 y3 y4 y5 : Int) :
    (Op.equalIn (d + 3) 36 (.agg #[.bool b0, .bool b1, .bool b2, .bool b3, .int .i64 x0, .int .u64 x1, .int .i64 x2, .int .u64 x3, .int .i64 x4, .int .u64 x5]) (.agg #[.bool c0, .bool c1, .bool c2, .bool c3, .int .i64 y0, .int .u64 y1, .int .i64 y2, .int .u64 y3, .int .i64 y4, .int .u64 y5])).run Try.prog w = .ok ((b0 == c0 && (b1 == c1 && (b2 == c2 && b3 == c3))) && ((x0 == y0 && (x1 == y1)) && ((x2 == y2 && (x3 == y3)) && (x4 == y4 && (x5 == y5))))) w := by
  refine eqA_of Try.underlying36 (by kernel_rfl) ?_
  refine eqf_cons (by rfl) (by go_simp) (by go_simp) (EqBools.eq_bools d b0 b1 b2 b3 c0 c1 c2 c3 w) ?_
  refine eqf_cons (by rfl) (by go_simp) (by go_simp) (eqA34 d w _ _ _ _) ?_
  refine eqf_cons (by rfl) (by go_simp) (by go_simp) (eqA34 d w _ _ _ _) ?_
  exact eqf_last (by rfl) (by go_simp) (by go_simp) (eqA34 d w _ _ _ _)
attribute [local go_sem high] eqA34 eqA36
/-- What Same has before it between two rounds. -/
structure SameAt (w : World) (s : LS) (AB : Option Addr) (cB : Nat) (AN : Option Addr) (cN : Nat) (AB' : Option Addr) (cB' : Nat) (AN' : Option Addr) (cN' : Nat) (wr : World) : Prop where
  bel : Below w.heap.size w wr
  m1 : wr.heap[w.heap.size]? = some (.cells (stC s AB cB AN cN) 39 (0, 0))
  m2 : wr.heap[w.heap.size + 1]? = some (.cells (stC s AB' cB' AN' cN') 39 (0, 0))
theorem SameAt.below {w : World} {s : LS} {AB : Option Addr} {cB : Nat} {AN : Option Addr} {cN : Nat} {AB' : Option Addr} {cB' : Nat} {AN' : Option Addr} {cN' : Nat} {wr w' : World} (h : SameAt w s AB cB AN cN AB' cB' AN' cN' wr) (hb : Below wr.heap.size wr w') : SameAt w s AB cB AN cN AB' cB' AN' cN' w' :=
  ⟨below_then h.bel h.bel.size hb, blk_below h.m1 hb, blk_below h.m2 hb⟩
/-- What Same is given. -/
structure Same2 (s : LS) (AB : Option Addr) (cB : Nat) (AN : Option Addr) (cN : Nat) (AB' : Option Addr) (cB' : Nat) (AN' : Option Addr) (cN' : Nat) (w : World) : Prop where
  b1 : Kd.C Kd.bool w AB s.bf.length s.bf
  n1 : Kd.C Kd.bool w AN s.nw.length s.nw
  b2 : Kd.C Kd.bool w AB' s.bf.length s.bf
  n2 : Kd.C Kd.bool w AN' s.nw.length s.nw
  lb : s.bf.length ≤ 17592186043904
  ln : s.nw.length ≤ 17592186043904
theorem SIn.same {AX : Option Addr} {cX : Nat} {lx : List Int} {s : LS} {AB : Option Addr} {cB : Nat} {AN : Option Addr} {cN : Nat} {AB' : Option Addr} {cB' : Nat} {AN' : Option Addr} {cN' : Nat} {v v' : Value} {g g' : Int → Int} {w : World} (h : SIn AX cX lx s AB cB AN cN v g w) (h' : SIn AX cX lx s AB' cB' AN' cN' v' g' w) : Same2 s AB cB AN cN AB' cB' AN' cN' w := ⟨h.hB, h.hN, h'.hB, h'.hN, h.lB, h.lN⟩
set_option maxHeartbeats 16000000 in
set_option maxRecDepth 100000 in
theorem same_calls (s : LS) (AB : Option Addr) (cB : Nat) (AN : Option Addr) (cN : Nat) (AB' : Option Addr) (cB' : Nat) (AN' : Option Addr) (cN' : Nat) (w : World) (h : Same2 s AB cB AN cN AB' cB' AN' cN' w) :
    Calls Try.prog 20 #[.agg (stC s AB cB AN cN), .agg (stC s AB' cB' AN' cN')] w fun x w' => x = .returned (.bool true) ∧ Below w.heap.size w w' := by
  obtain ⟨⟨b0, b1, b2, b3, pe, pr, ce, cr, fe, fr⟩, ep, B, N⟩ := s
  have H := Aside0.mk h
  have hlb := h.lb
  have hln := h.ln
  have HLB := Aside0.mk hlb
  have HLN := Aside0.mk hln
  clear h hlb hln
  simp only [stC]
  go_enter Try.func20, Try.ntmps20
  have hs : Aside0 (SameAt w ⟨⟨b0, b1, b2, b3, pe, pr, ce, cr, fe, fr⟩, ep, B, N⟩ AB cB AN cN AB' cB' AN' cN' ((w.alloc (.cells #[.bool b0, .bool b1, .bool b2, .bool b3, .int .i64 pe, .int .u64 pr, .int .i64 ce, .int .u64 cr, .int .i64 fe, .int .u64 fr, .int .i64 ep, .slice AB B.length cB, .slice AN N.length cN] 39)).alloc (.cells #[.bool b0, .bool b1, .bool b2, .bool b3, .int .i64 pe, .int .u64 pr, .int .i64 ce, .int .u64 cr, .int .i64 fe, .int .u64 fr, .int .i64 ep, .slice AB' B.length cB', .slice AN' N.length cN'] 39))) := ⟨by
    refine ⟨below_alloc (below_alloc (Below.refl _ _) _) _, blk_alloc (heap_alloc_new _ _) _, ?_⟩
    have := heap_alloc_new (w.alloc (.cells #[.bool b0, .bool b1, .bool b2, .bool b3, .int .i64 pe, .int .u64 pr, .int .i64 ce, .int .u64 cr, .int .i64 fe, .int .u64 fr, .int .i64 ep, .slice AB B.length cB, .slice AN N.length cN] 39)) (.cells #[.bool b0, .bool b1, .bool b2, .bool b3, .int .i64 pe, .int .u64 pr, .int .i64 ce, .int .u64 cr, .int .i64 fe, .int .u64 fr, .int .i64 ep, .slice AB' B.length cB', .slice AN' N.length cN'] 39)
    simpa using this⟩
  go_wp2_with fail
  go_loopw [40] (fun v40 wr => ∃ k : Nat, k ≤ B.length ∧ v40 = .int .i64 k ∧ Aside0 (SameAt w ⟨⟨b0, b1, b2, b3, pe, pr, ce, cr, fe, fr⟩, ep, B, N⟩ AB cB AN cN AB' cB' AN' cN' wr)) (fun v40 _ => B.length - (RowKit.intOf v40).toNat)
  case atStart => exact ⟨0, by omega, rfl, hs⟩
  case round =>
    obtain ⟨k, hk, rfl, HS⟩ := hrel
    by_cases hlt : k < B.length
    · have t0 : decide ((k : Int) < (B.length : Int)) = true := decide_eq_true (by omega)
      have hwk : wrap64 ((k : Int) + 1) = ((k + 1 : Nat) : Int) := by have := HLB.out; unfold wrap64; omega
      have HWK := Aside0.mk hwk
      have i0 : (0 : Int) ≤ (k : Int) := by omega
      have i1 : (k : Int) < (B.length : Int) := by omega
      obtain ⟨ad, rfl, hc1⟩ := Kd.at_bool (Kd.C_below H.out.b1 HS.out.bel) (k : Int) i0 i1
      obtain ⟨ae, rfl, hc2⟩ := Kd.at_bool (Kd.C_below H.out.b2 HS.out.bel) (k : Int) i0 i1
      rw [Int.toNat_natCast] at hc1 hc2
      obtain ⟨bb, hbb⟩ : ∃ b, rdOf false B (k : Int) = b := ⟨_, rfl⟩
      have hm1 := blk_cell HS.out.m1 11
      have hm2 := blk_cell HS.out.m2 11
      simp only [hbb] at hc1 hc2
      clear hbb hwk
      go_wp2_with fail
      go_quiet (fail)
      go_wp2_with fail
      go_roundw
      case rel => exact ⟨k + 1, by omega, by rw [HWK.out], ⟨HS.out.below (pw_below_drewN (Below.refl _ _) _)⟩⟩
      case measure => rw [HWK.out]; simp [RowKit.intOf]; omega
    · have t0 : decide ((k : Int) < (B.length : Int)) = false := decide_eq_false (by omega)
      have hm1 := blk_cell HS.out.m1 12
      go_wp2_with fail
      go_loopw [58] (fun v58 wr => ∃ k : Nat, k ≤ N.length ∧ v58 = .int .i64 k ∧ Aside0 (SameAt w ⟨⟨b0, b1, b2, b3, pe, pr, ce, cr, fe, fr⟩, ep, B, N⟩ AB cB AN cN AB' cB' AN' cN' wr)) (fun v58 _ => N.length - (RowKit.intOf v58).toNat)
      case atStart => exact ⟨0, by omega, rfl, HS⟩
      case round =>
        obtain ⟨k, hk, rfl, HS⟩ := hrel
        by_cases hlt : k < N.length
        · have t0 : decide ((k : Int) < (N.length : Int)) = true := decide_eq_true (by omega)
          have hwk : wrap64 ((k : Int) + 1) = ((k + 1 : Nat) : Int) := by have := HLN.out; unfold wrap64; omega
          have HWK := Aside0.mk hwk
          have i0 : (0 : Int) ≤ (k : Int) := by omega
          have i1 : (k : Int) < (N.length : Int) := by omega
          obtain ⟨ad, rfl, hc1⟩ := Kd.at_bool (Kd.C_below H.out.n1 HS.out.bel) (k : Int) i0 i1
          obtain ⟨ae, rfl, hc2⟩ := Kd.at_bool (Kd.C_below H.out.n2 HS.out.bel) (k : Int) i0 i1
          rw [Int.toNat_natCast] at hc1 hc2
          obtain ⟨bb, hbb⟩ : ∃ b, rdOf false N (k : Int) = b := ⟨_, rfl⟩
          have hm1 := blk_cell HS.out.m1 12
          have hm2 := blk_cell HS.out.m2 12
          simp only [hbb] at hc1 hc2
          clear hbb hwk
          go_wp2_with fail
          go_quiet (fail)
          go_wp2_with fail
          go_roundw
          case rel => exact ⟨k + 1, by omega, by rw [HWK.out], ⟨HS.out.below (pw_below_drewN (Below.refl _ _) _)⟩⟩
          case measure => rw [HWK.out]; simp [RowKit.intOf]; omega
        · have t0 : decide ((k : Int) < (N.length : Int)) = false := decide_eq_false (by omega)
          go_wp2_with fail
          go_ret
          exact ⟨rfl, HS.out.bel⟩
end Go.Proofs.Ytiklbldanidfiaa.QL
