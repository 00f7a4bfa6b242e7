/-
  Package tree: Kids, by its contract over a tree in memory.
-/
import Derived.Test.YtgbhblbfodphfaaDoorRootsA
namespace Go.Proofs.YtgbhblbfodphfaaDoor.Tree
open Go.RowKit Go.Maps Go.Proofs.YtgbhblbfodphfaaDoorW.PrintWords
set_option linter.unusedVariables false

/-- The blocks that stand on one at once, rising. -/
def kidsOf (t : T) (root : Int) : List Int := (rootsOf t.ns).filter (fun r => decide (r ≠ t.first) && decide ((getD t.ns r).p = root))
theorem filter_snoc (q : Int → Bool) (l : List Int) (k : Nat) (hk : k < l.length) : (l.take (k + 1)).filter q = (l.take k).filter q ++ if q (rd l (k : Int)) = true then [rd l (k : Int)] else [] := by
  rw [List.take_succ_eq_append_getElem hk, List.filter_append]
  have : rd l (k : Int) = l[k] := by simp [rd, List.getD_eq_getElem?_getD, hk]
  rw [this]
  congr 1
  by_cases h : q l[k] = true
  · rw [if_pos h, List.filter_cons_of_pos h, List.filter_nil]
  · rw [if_neg h, List.filter_cons_of_neg h, List.filter_nil]
section
variable {ops : Array Oper} {rest : List Oper} {o : Oper} {a : Act} {Q : Exit → Act → World → Prop}
/-- 't.nodes[r]' at a guarded operation. -/
theorem look_one_g {w : World} {p B : Nat} {t : T} (h : Mem w p B t) (hwt : Region.wanted o (yielded ops a.tmps) = true) (m x : Operand) (hop : o.op = Op.lookup 51 m x false) (hm : a.eval m = .map (some B)) (r : Int) (hx : a.eval x = .int .u64 r) (hr : 0 ≤ r ∧ r ≤ 18446744073709551615)
    (hK : wpList Tryd.prog ops Q rest (a.put o.dst (.agg #[.int .u64 (getD t.ns r).p, .int .i64 (getD t.ns r).s, .int .i64 (getD t.ns r).h])) w) : wpList Tryd.prog ops Q (o :: rest) a w := by
  obtain ⟨D, hown, hS⟩ := h.map
  refine wpList_step fun K' hK' => ?_
  rw [if_pos hwt]
  obtain ⟨v, ps, hrun, hv⟩ := hown.lookup law Tryd.underlying51 (zeroE _) (ndElem_mk 0 0 0) (hkey hr)
  obtain rfl := look (w := w) (B := B) (n := 0) hS hv
  unfold Oper.wp
  simp [execOp, hop, hm, hx, hrun, Result.andThen]
  exact hK' _ _ hK
/-- An operation that only computes, guarded. -/
theorem value_g {w : World} (hwt : Region.wanted o (yielded ops a.tmps) = true) (v : Value) (hrun : (execOp a.eval o).run Tryd.prog w = .ok (.value v) w) (hK : wpList Tryd.prog ops Q rest (a.put o.dst v) w) : wpList Tryd.prog ops Q (o :: rest) a w := by
  refine wpList_step fun K' hK' => ?_
  rw [if_pos hwt]
  unfold Oper.wp
  rw [hrun]
  exact hK' _ _ hK
end
set_option maxHeartbeats 8000000 in
set_option maxRecDepth 100000 in
theorem kids_calls (p B : Nat) (t : T) (root : Int) (w : World) (h : Mem w p B t) (hu : Uniq t.ns) (h0 : t.ns ≠ []) (hs : t.ns.length ≤ 4096) (hw : ∀ r, has t.ns r = true → 0 ≤ r ∧ r ≤ 18446744073709551615) :
    Calls Tryd.prog 10 #[.pointer (some ⟨p, 0, none⟩), .int .u64 root] w fun e w' => ∃ v, e = .returned v ∧ Kd.R (Kd.int .u64) 25 w' w.heap.size (fun _ => True) v (kidsOf t root) ∧ Below w.heap.size w w' := by
  have H := Aside0.mk h
  have HC := Aside0.mk (roots_calls p B t w h hu h0 hs)
  have HW := Aside0.mk hw
  obtain ⟨rs, hrs⟩ : ∃ rs, rootsOf t.ns = rs := ⟨_, rfl⟩
  have hl : rs.length ≤ 4096 := by rw [← hrs, roots_length]; exact hs
  have hm : ∀ k, k < rs.length → has t.ns (rd rs (k : Int)) = true := fun k hk => by
    rw [← roots_mem, hrs]
    have : rd rs (k : Int) = rs[k] := by simp [rd, List.getD_eq_getElem?_getD, hk]
    rw [this]
    exact List.getElem_mem hk
  have hkd : kidsOf t root = rs.filter (fun r => decide (r ≠ t.first) && decide ((getD t.ns r).p = root)) := by unfold kidsOf; rw [hrs]
  have HKD := Aside0.mk hkd
  have HL := Aside0.mk hl
  have HM := Aside0.mk hm
  rw [hrs] at HC
  clear h hu h0 hs hw hl hm hkd hrs
  obtain ⟨q, hq⟩ : ∃ q : Int → Bool, q = fun r => decide (r ≠ t.first) && decide ((getD t.ns r).p = root) := ⟨_, rfl⟩
  rw [← hq] at HKD
  have HQ := Aside0.mk hq
  clear hq
  go_enter Tryd.func10, Tryd.ntmps10
  go_wp2_with fail
  refine HC.out.mono ?_
  rintro e w1 ⟨v, rfl, hR, hb⟩
  obtain ⟨A, c, rfl⟩ := Kd.R_slice hR
  have HR := Aside0.mk hR
  have HB := Aside0.mk hb
  clear hR hb HC
  go_wp2_with fail
  go_loopw [5, 11] (fun v5 v11 wr => ∃ k : Nat, k ≤ rs.length ∧ v11 = .int .i64 k ∧ Aside0 (Kd.R (Kd.int .u64) 25 wr w.heap.size (fun b => some b ≠ (Value.slice A rs.length c).ownBlock) v5 ((rs.take k).filter q)) ∧ Aside0 (Kd.R (Kd.int .u64) 25 wr w.heap.size (fun _ => True) (.slice A rs.length c) rs) ∧ Aside0 (Below w.heap.size w wr)) (fun _ v11 _ => rs.length - (RowKit.intOf v11).toNat)
  case atStart => exact ⟨0, Nat.zero_le _, rfl, ⟨by rw [List.take_zero]; exact Kd.R_nil _ _ _ _ _⟩, HR, HB⟩
  case round =>
    obtain ⟨k, hk, rfl, HO, HRr, HBr⟩ := hrel
    by_cases hlt : k < rs.length
    · have t0 : decide ((k : Int) < (rs.length : Int)) = true := decide_eq_true (by omega)
      have hfs := filter_snoc q rs k hlt
      have hhas := HM.out k hlt
      obtain ⟨ad, rfl, hc⟩ := Kd.at_int (Kd.R_reads' HRr.out).2.2 (k : Int) (by omega) (by omega)
      rw [Int.toNat_natCast] at hc
      obtain ⟨r, hr⟩ : ∃ r, rd rs (k : Int) = r := ⟨_, rfl⟩
      rw [hr] at hc hhas hfs
      have hmr := H.out.below HBr.out
      have d0 := hmr.cell0
      have d1 := hmr.cell1
      have HMR := Aside0.mk hmr
      have HRG := Aside0.mk (HW.out r hhas)
      have HFS := Aside0.mk hfs
      have hwk : wrap64 ((k : Int) + 1) = ((k + 1 : Nat) : Int) := by have := HL.out; unfold wrap64; omega
      have HWK := Aside0.mk hwk
      clear hr hmr hhas hfs hwk
      by_cases e1 : r = t.first
      · have e2 : (r != t.first) = false := by simp [e1]
        have hqr : q r = false := by rw [HQ.out]; simp [e1]
        have HN : Aside0 ((rs.take (k + 1)).filter q = (rs.take k).filter q) := ⟨by rw [HFS.out, hqr]; simp⟩
        clear e1 hqr
        go_wp2_with fail
        go_roundw
        case rel => exact ⟨k + 1, by omega, by rw [HWK.out], ⟨by rw [HN.out]; exact HO.out⟩, HRr, HBr⟩
        case measure => rw [HWK.out]; simp [RowKit.intOf]; omega
      · have e2 : (r != t.first) = true := by simp [e1]
        by_cases e3 : (getD t.ns r).p = root
        · have e4 : ((getD t.ns r).p == root) = true := by simp [e3]
          have hqr : q r = true := by rw [HQ.out]; simp [e1, e3]
          have HN : Aside0 ((rs.take (k + 1)).filter q = (rs.take k).filter q ++ [r]) := ⟨by rw [HFS.out, hqr]; simp⟩
          have HLF : Aside0 (((rs.take k).filter q).length ≤ 4096) := ⟨by have h1 := List.length_filter_le q (rs.take k); have h2 := HL.out; rw [List.length_take] at h1; omega⟩
          clear e1 e3 hqr
          go_wp2_with (first
            | (at_lookup; refine look_one_g HMR.out rfl _ _ rfl rfl _ rfl HRG.out ?_)
            | (refine value_g (o := { dst := some 28, op := _, type := _, pos := _, after := _, guard := _ }) rfl (.int .u64 (getD t.ns r).p) (by rfl) ?_)
            | (at_builtin; refine Kd.R_append (Kd.int .u64) (w0 := w) w.heap.size rfl (.tmp 32) (.tmp 34) 32 25 (.int .u64 0) 8 rfl Tryd.underlying32 (by kernel_rfl) rfl (by decide) (by omega) _ ((rs.take k).filter q) r [.int .u64 r] (fun b => some b ≠ (Value.slice (some ad) rs.length c).ownBlock) (fun _ => False) rfl rfl ?aP (fun _ hk => hk.elim) ?aF HO.out HBr.out HBr.out.size ?aL ?_; (case aP => rfl); (case aF => intro b hb he; have := Kd.R_lt HRr.out b he.symm; omega); (case aL => have := HLF.out; omega); intro v4 w4 ho hb hg hat; have HRN := Aside0.mk ho; have HB4 := Aside0.mk hb; have HG := Aside0.mk hg; clear ho hb hg hat))
          go_roundw
          case rel => exact ⟨k + 1, by omega, by rw [HWK.out], ⟨by rw [HN.out]; exact HRN.out⟩, ⟨Kd.R_grown2 HRr.out rfl HG.out (fun b hb => (HO.out.1 b hb))⟩, HB4⟩
          case measure => rw [HWK.out]; simp [RowKit.intOf]; omega
        · have e4 : ((getD t.ns r).p == root) = false := by simp [e3]
          have hqr : q r = false := by rw [HQ.out]; simp [e3]
          have HN : Aside0 ((rs.take (k + 1)).filter q = (rs.take k).filter q) := ⟨by rw [HFS.out, hqr]; simp⟩
          clear e1 e3 hqr
          go_wp2_with (first
            | (at_lookup; refine look_one_g HMR.out rfl _ _ rfl rfl _ rfl HRG.out ?_)
            | (refine value_g (o := { dst := some 28, op := _, type := _, pos := _, after := _, guard := _ }) rfl (.int .u64 (getD t.ns r).p) (by rfl) ?_))
          go_roundw
          case rel => exact ⟨k + 1, by omega, by rw [HWK.out], ⟨by rw [HN.out]; exact HO.out⟩, HRr, HBr⟩
          case measure => rw [HWK.out]; simp [RowKit.intOf]; omega
    · have t0 : decide ((k : Int) < (rs.length : Int)) = false := decide_eq_false (by omega)
      obtain rfl : k = rs.length := by omega
      go_wp2_with fail
      go_ret
      refine ⟨_, rfl, ?_, HBr.out⟩
      rw [HKD.out]
      have := HO.out
      rw [List.take_length] at this
      exact Kd.R_mono this (fun _ _ => trivial)
end Go.Proofs.YtgbhblbfodphfaaDoor.Tree
