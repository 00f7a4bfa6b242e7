/-
  Package tree: Cut, by its contract over a tree in memory.
-/
import Derived.Test.YtgbhblbfodphfaaDoorFit
namespace Go.Proofs.YtgbhblbfodphfaaDoor.Tree
open Go.RowKit Go.Maps Go.Proofs.YtgbhblbfodphfaaDoorW.PrintWords
set_option linter.unusedVariables false
set_option maxRecDepth 100000

/-! ### the plain side -/
/-- What is gone, rising. -/
def goneOf (t : T) (root : Int) : List Int := (rootsOf t.ns).filter (fun r => !below t r root)
def stayNd (t : T) (base r : Int) : Nd := ⟨r, (getD t.ns r).p, (getD t.ns r).s, (getD t.ns r).h - base⟩
/-- What stays, by root, its heights above the cut; the parents as they were. -/
def stayOf (t : T) (base : Int) (l : List Int) : List Nd := l.map (stayNd t base)
def setAt (ns : List Nd) (r : Int) (m : Nd) : List Nd := ns.map (fun n => if n.r = r then m else n)
def cutOf (t : T) (root : Int) : T := ⟨root, setAt (stayOf t (getD t.ns root).h ((rootsOf t.ns).filter (fun r => below t r root))) root ⟨root, root, (getD t.ns root).s, 0⟩⟩
theorem stay_length (t : T) (base : Int) (l : List Int) : (stayOf t base l).length = l.length := by simp [stayOf]
theorem stay_find (t : T) (base : Int) (l : List Int) (r : Int) : find (stayOf t base l) r = if r ∈ l then some (stayNd t base r) else none := by
  induction l with
  | nil => rfl
  | cons x l ih =>
    unfold stayOf find at ih ⊢
    rw [List.map_cons, List.find?_cons]
    by_cases e : x = r
    · subst e
      simp [stayNd]
    · have : ((stayNd t base x).r == r) = false := by simp [stayNd, e]
      rw [this]
      simp only
      rw [ih]
      have h2 : (r ∈ x :: l) ↔ r ∈ l := by simp [Ne.symm e]
      simp only [h2]
theorem stay_has (t : T) (base : Int) (l : List Int) (r : Int) : has (stayOf t base l) r = decide (r ∈ l) := by
  unfold has
  rw [stay_find]
  by_cases h : r ∈ l <;> simp [h]
theorem stay_getD (t : T) (base : Int) (l : List Int) (r : Int) (h : r ∈ l) : getD (stayOf t base l) r = stayNd t base r := by
  unfold getD
  rw [stay_find, if_pos h]
  rfl
theorem set_find (ns : List Nd) (r : Int) (m : Nd) (hm : m.r = r) (q : Int) : find (setAt ns r m) q = if q = r then (find ns q).map (fun _ => m) else find ns q := by
  induction ns with
  | nil => simp [setAt, find]
  | cons x l ih =>
    unfold setAt find at ih ⊢
    rw [List.map_cons, List.find?_cons, List.find?_cons]
    by_cases e : x.r = r
    · rw [if_pos e]
      by_cases e2 : r = q
      · have h1 : (m.r == q) = true := by simp [hm, e2]
        have h2 : (x.r == q) = true := by simp [e, e2]
        rw [h1, h2]
        simp [e2]
      · have h1 : (m.r == q) = false := by simp [hm, e2]
        have h2 : (x.r == q) = false := by simp [e, e2]
        rw [h1, h2]
        exact ih
    · rw [if_neg e]
      by_cases e2 : x.r = q
      · have h1 : (x.r == q) = true := by simp [e2]
        rw [h1]
        have : q ≠ r := fun h => e (e2.trans h)
        simp [this]
      · have h1 : (x.r == q) = false := by simp [e2]
        rw [h1]
        exact ih
theorem set_has (ns : List Nd) (r : Int) (m : Nd) (hm : m.r = r) (q : Int) : has (setAt ns r m) q = has ns q := by
  unfold has
  rw [set_find ns r m hm]
  split
  · simp
  · rfl
theorem set_getD (ns : List Nd) (r : Int) (m : Nd) (hm : m.r = r) (h : has ns r = true) (q : Int) : getD (setAt ns r m) q = if q = r then m else getD ns q := by
  unfold getD
  rw [set_find ns r m hm]
  split
  · rename_i e
    subst e
    unfold has at h
    obtain ⟨x, hx⟩ := Option.isSome_iff_exists.1 h
    rw [hx]
    rfl
  · rfl
theorem set_length (ns : List Nd) (r : Int) (m : Nd) : (setAt ns r m).length = ns.length := by simp [setAt]
theorem says_set {D : DataW Unit} {ns : List Nd} (h : Says D ns) (r p s t : Int) (hyes : has ns r = true) : Says (D.put (key r) (ndData p s t)) (setAt ns r ⟨r, p, s, t⟩) := by
  have hm := h.tidy.isMap
  refine ⟨h.tidy.put (by trivial) _, ?_, ?_, ?_⟩
  · rw [size_put h.tidy, h.has, hyes, h.size, set_length]
    rfl
  · intro q
    rw [set_has ns r _ rfl]
    by_cases e : q = r
    · subst e
      rw [has_put_same hm (by trivial), hyes]
    · rw [has_put_other (fun h => e (by injection h)), h.has]
  · intro q
    rw [set_getD ns r _ rfl hyes]
    by_cases e : q = r
    · subst e
      rw [atKey_put_same hm (by trivial), if_pos rfl]
    · rw [atKey_put_other (fun h => e (by injection h)), h.at_, if_neg e]
section
variable {ops : Array Oper} {rest : List Oper} {o : Oper} {a : Act} {Q : Exit → Act → World → Prop}
/-- 'm[r]' at the operation, of a map that says what some nodes say. -/
theorem look_map {w : World} {B n : Nat} {D : DataW Unit} {ns : List Nd} (hown : w.ownsMap Tryd.prog 25 ndElem B n D) (hS : Says D ns) (hg : o.guard = none) (m x : Operand) (hop : o.op = Op.lookup 51 m x false) (hm : a.eval m = .map (some B)) (r : Int) (hx : a.eval x = .int .u64 r) (hr : 0 ≤ r ∧ r ≤ 18446744073709551615)
    (hK : wpList Tryd.prog ops Q rest (a.put o.dst (.agg #[.int .u64 (getD ns r).p, .int .i64 (getD ns r).s, .int .i64 (getD ns r).h])) w) : wpList Tryd.prog ops Q (o :: rest) a w := by
  refine wpList_plain hg fun K' hK' => ?_
  obtain ⟨v, ps, hrun, hv⟩ := hown.lookup law Tryd.underlying51 (zeroE _) (ndElem_mk 0 0 0) (hkey hr)
  obtain rfl := look (w := w) (B := B) (n := 0) hS hv
  unfold Oper.wp
  simp [execOp, hop, hm, hx, hrun, Result.andThen]
  exact hK' _ _ hK
theorem nd_0 {w : World} {p s h : Int} (hwt : Region.wanted o (yielded ops a.tmps) = true) (x : Operand) (hop : o.op = Op.field 50 x 0) (hx : a.eval x = .agg #[.int .u64 p, .int .i64 s, .int .i64 h])
    (hK : wpList Tryd.prog ops Q rest (a.put o.dst (.int .u64 p)) w) : wpList Tryd.prog ops Q (o :: rest) a w := by
  refine wpList_step fun K' hK' => ?_
  rw [if_pos hwt]
  unfold Oper.wp
  have hrun : (execOp a.eval o).run Tryd.prog w = .ok (.value (.int .u64 p)) w := by
    unfold execOp
    simp only [hop, hx]
    rfl
  rw [hrun]
  exact hK' _ _ hK
theorem nd_1 {w : World} {p s h : Int} (hwt : Region.wanted o (yielded ops a.tmps) = true) (x : Operand) (hop : o.op = Op.field 50 x 1) (hx : a.eval x = .agg #[.int .u64 p, .int .i64 s, .int .i64 h])
    (hK : wpList Tryd.prog ops Q rest (a.put o.dst (.int .i64 s)) w) : wpList Tryd.prog ops Q (o :: rest) a w := by
  refine wpList_step fun K' hK' => ?_
  rw [if_pos hwt]
  unfold Oper.wp
  have hrun : (execOp a.eval o).run Tryd.prog w = .ok (.value (.int .i64 s)) w := by
    unfold execOp
    simp only [hop, hx]
    rfl
  rw [hrun]
  exact hK' _ _ hK
theorem nd_2 {w : World} {p s h : Int} (hwt : Region.wanted o (yielded ops a.tmps) = true) (x : Operand) (hop : o.op = Op.field 50 x 2) (hx : a.eval x = .agg #[.int .u64 p, .int .i64 s, .int .i64 h])
    (hK : wpList Tryd.prog ops Q rest (a.put o.dst (.int .i64 h)) w) : wpList Tryd.prog ops Q (o :: rest) a w := by
  refine wpList_step fun K' hK' => ?_
  rw [if_pos hwt]
  unfold Oper.wp
  have hrun : (execOp a.eval o).run Tryd.prog w = .ok (.value (.int .i64 h)) w := by
    unfold execOp
    simp only [hop, hx]
    rfl
  rw [hrun]
  exact hK' _ _ hK
/-- 'm[r] = n' at the operation, where r is there. -/
theorem set_node {w : World} {B n : Nat} {D : DataW Unit} {ns : List Nd} (hown : w.ownsMap Tryd.prog 25 ndElem B n D) (hS : Says D ns) (hn : n < maxLen) (hg : o.guard = none) (m x v : Operand) (hop : o.op = Op.mapUpdate 51 m x v) (hm : a.eval m = .map (some B)) (r p s t : Int) (hx : a.eval x = .int .u64 r) (hr : 0 ≤ r ∧ r ≤ 18446744073709551615) (hv : a.eval v = .agg #[.int .u64 p, .int .i64 s, .int .i64 t]) (hyes : has ns r = true)
    (hK : ∀ w' D', w'.ownsMap Tryd.prog 25 ndElem B ns.length D' → Says D' (setAt ns r ⟨r, p, s, t⟩) → w.mapTurned w' B → wpList Tryd.prog ops Q rest (a.put o.dst undef) w') : wpList Tryd.prog ops Q (o :: rest) a w := by
  refine wpList_plain hg fun K' hK' => ?_
  obtain ⟨w', hrun, r1, r2⟩ := hown.store law Tryd.underlying51 hn (hkey hr) (ndElem_mk p s t)
  unfold Oper.wp
  simp [execOp, hop, hm, hx, hv, hrun, Result.andThen]
  have hs := says_set hS r p s t hyes
  have ht := own_tight r1
  rw [hs.size, set_length] at ht
  exact hK' _ _ (hK w' _ ht hs r2)
end
theorem set2 {w : World} {g e : Nat} {a b x y : Value} (h : w.heap[g]? = some (.cells #[a, b] e (0, 0))) : ((w.setCell ⟨g, 0, none⟩ x).setCell ⟨g, 1, none⟩ y).heap[g]? = some (.cells #[x, y] e (0, 0)) := by
  simp [World.setCell, Array.getElem?_modify, h]
theorem set3c {w : World} {g e : Nat} {a b c z : Value} (h : w.heap[g]? = some (.cells #[a, b, c] e (0, 0))) : (w.setCell ⟨g, 2, none⟩ z).heap[g]? = some (.cells #[a, b, z] e (0, 0)) := by
  simp [World.setCell, Array.getElem?_modify, h]
theorem set3a {w : World} {g e : Nat} {a b c z : Value} (h : w.heap[g]? = some (.cells #[a, b, c] e (0, 0))) : (w.setCell ⟨g, 0, none⟩ z).heap[g]? = some (.cells #[z, b, c] e (0, 0)) := by
  simp [World.setCell, Array.getElem?_modify, h]
theorem take_filter (q : Int → Bool) (l : List Int) (k : Nat) (hk : k < l.length) : (l.take (k + 1)).filter q = if q (rd l (k : Int)) = true then (l.take k).filter q ++ [rd l (k : Int)] else (l.take k).filter q := by
  rw [List.take_succ_eq_append_getElem hk, List.filter_append]
  have : rd l (k : Int) = l[k] := by simp [rd, List.getD_eq_getElem?_getD, hk]
  rw [this]
  by_cases h : q l[k] = true
  · rw [if_pos h, List.filter_cons_of_pos h, List.filter_nil]
  · rw [if_neg h, List.filter_cons_of_neg h, List.filter_nil, List.append_nil]
theorem nodup_new {l : List Int} (h : l.Nodup) (k : Nat) (hk : k < l.length) : rd l (k : Int) ∉ l.take k := by
  have e : rd l (k : Int) = l[k] := by simp [rd, List.getD_eq_getElem?_getD, hk]
  rw [e]
  intro hm
  obtain ⟨i, hi, he⟩ := List.mem_iff_getElem.1 hm
  have hik : i < k := by simp at hi; omega
  rw [List.getElem_take] at he
  have := (List.getElem_inj h).1 he
  omega

theorem tree_after {w w' : World} {p B B2 : Nat} {t : T} {o : Obj} (h : Mem w p B t) (ht : (w.alloc o).mapTurned w' B2) (hne : p ≠ B2) : w'.heap[p]? = some (.cells #[.int .u64 t.first, .map (some B)] 53 (0, 0)) := by
  have hl := h.lt.1
  have hx : p < (w.alloc o).heap.size := by
    simp
    omega
  exact ((turned_kept ht).2 p hx hne).trans ((Below.heap_alloc _ _ p hl).trans h.cells)
theorem tree_cells {w : World} {p B : Nat} {x : Int} (h : w.heap[p]? = some (.cells #[.int .u64 x, .map (some B)] 53 (0, 0))) : w.cell? ⟨p, 0, none⟩ = some (.int .u64 x) ∧ w.cell? ⟨p, 1, none⟩ = some (.map (some B)) ∧ w.frozen? ⟨p, 0, none⟩ = false ∧ w.frozen? ⟨p, 1, none⟩ = false :=
  ⟨by simp [World.cell?, h], by simp [World.cell?, h], by simp [World.frozen?, h], by simp [World.frozen?, h]⟩
/-! ### the walk -/
/-- Between two rounds. -/
structure CutAt (w : World) (p B B2 : Nat) (t : T) (base : Int) (ls lg : List Int) (A : Option Addr) (c : Nat) (rs : List Int) (v : Value) (wr : World) : Prop where
  mem : Mem wr p B t
  new_ : w.heap.size ≤ B2
  map : ∃ D, wr.ownsMap Tryd.prog 25 ndElem B2 ls.length D ∧ Says D (stayOf t base ls)
  gone : Kd.R (Kd.int .u64) 25 wr w.heap.size (fun b => b ≠ B2 ∧ some b ≠ (Value.slice A rs.length c).ownBlock) v lg
  row : Kd.R (Kd.int .u64) 25 wr w.heap.size (fun b => b ≠ B2) (.slice A rs.length c) rs
  bel : Below w.heap.size w wr
theorem CutAt.below {w : World} {p B B2 : Nat} {t : T} {base : Int} {ls lg : List Int} {A : Option Addr} {c : Nat} {rs : List Int} {v : Value} {wr w' : World} (h : CutAt w p B B2 t base ls lg A c rs v wr) (hb : Below wr.heap.size wr w') : CutAt w p B B2 t base ls lg A c rs v w' :=
  ⟨h.mem.below hb, h.new_, by obtain ⟨D, h1, h2⟩ := h.map; exact ⟨D, own_below h1 hb, h2⟩, Kd.R_below h.gone hb, Kd.R_below h.row hb, below_then h.bel h.bel.size hb⟩

set_option maxHeartbeats 16000000 in
set_option maxRecDepth 100000 in
theorem cut_calls (p B : Nat) (t : T) (root : Int) (w : World) (h : Mem w p B t) (W : Well t) (hu : Uniq t.ns) (h0 : t.ns ≠ []) (hs : t.ns.length ≤ 4096) (hh : ∀ x, has t.ns x = true → 0 ≤ (getD t.ns x).h ∧ (getD t.ns x).h < 1024) (hr : 0 ≤ root ∧ root ≤ 18446744073709551615) (hyes : has t.ns root = true) :
    Calls Tryd.prog 11 #[.pointer (some ⟨p, 0, none⟩), .int .u64 root] w fun e w' => ∃ v B', e = .returned v ∧ Kd.R (Kd.int .u64) 25 w' w.heap.size (fun b => b ≠ B') v (goneOf t root) ∧ Mem w' p B' (cutOf t root) ∧ w.heap.size ≤ B' ∧ (∀ b, b ≤ p → b ≤ w.heap.size → Below b w w') ∧ Kept w w' (fun k => k = p) := by
  have H := Aside0.mk h
  have HLT := Aside0.mk h.lt
  have c1 := h.cell1
  have HK := Aside0.mk hr
  have HY := Aside0.mk hyes
  have HW := Aside0.mk W
  have HWI := Aside0.mk W.wide
  have HU := Aside0.mk hu
  have HN0 := Aside0.mk h0
  have HSL := Aside0.mk hs
  have HH := Aside0.mk hh
  obtain ⟨base, hbase⟩ : ∃ base, (getD t.ns root).h = base := ⟨_, rfl⟩
  have hb1 : 0 ≤ base ∧ base < 1024 := by rw [← hbase]; exact hh root hyes
  obtain ⟨rs, hrs⟩ : ∃ rs, rootsOf t.ns = rs := ⟨_, rfl⟩
  have hrl : rs.length ≤ 4096 := by rw [← hrs, roots_length]; exact hs
  have HRL := Aside0.mk hrl
  have HRM : Aside0 (∀ k, k < rs.length → has t.ns (rd rs (k : Int)) = true) := ⟨fun k hk => by
    rw [← roots_mem, hrs]
    have : rd rs (k : Int) = rs[k] := by simp [rd, List.getD_eq_getElem?_getD, hk]
    rw [this]
    exact List.getElem_mem hk⟩
  have hnd : rs.Nodup := by rw [← hrs]; exact roots_nodup hu
  have HND := Aside0.mk hnd
  obtain ⟨q, hq⟩ : ∃ q : Int → Bool, q = fun r => below t r root := ⟨_, rfl⟩
  obtain ⟨qn, hqn⟩ : ∃ qn : Int → Bool, qn = fun r => !below t r root := ⟨_, rfl⟩
  have HGO : Aside0 (goneOf t root = rs.filter qn) := ⟨by unfold goneOf; rw [hrs, hqn]⟩
  have HCU : Aside0 (cutOf t root = ⟨root, setAt (stayOf t base (rs.filter q)) root ⟨root, root, (getD t.ns root).s, 0⟩⟩) := ⟨by unfold cutOf; rw [hrs, hq, hbase]⟩
  have HRF : Aside0 (root ∈ rs.filter q) := ⟨by rw [List.mem_filter, ← hrs, roots_mem, hq]; exact ⟨hyes, below_refl hyes⟩⟩
  have HBS := Aside0.mk hbase
  have HRS := Aside0.mk hrs
  have HQ := Aside0.mk hq
  have HQN := Aside0.mk hqn
  have hmk : ∀ w : World, (Instr.makeMap 51 none).run Tryd.prog w = .ok (.map (some w.heap.size)) (w.alloc (.map #[] 0)) := fun _ => run_makeMap _ _
  clear h W hu h0 hs hh hr hyes hrs hrl hnd hq hqn hbase
  go_enter Tryd.func11, Tryd.ntmps11
  go_wp2_with (first
    | (go_at_call 20; refine (has_calls p B t root w H.out HK.out).mono ?_; rw [HY.out]; rintro x w1 ⟨rfl, hb⟩; have HB1 := Aside0.mk hb; have HM1 := Aside0.mk (H.out.below hb); have d1 := (H.out.below hb).cell1; clear hb)
    | (at_lookup; refine look_one HM1.out rfl _ _ rfl rfl _ rfl HK.out ?_; rw [HBS.out])
    | (refine nd_0 rfl _ rfl rfl ?_)
    | (refine nd_1 rfl _ rfl rfl ?_)
    | (refine nd_2 rfl _ rfl rfl ?_)
    | (go_at_call 22; refine (roots_calls p B t _ (HM1.out.below (below_alloc (Below.refl _ _) _)) HU.out HN0.out HSL.out).mono ?_; rw [HRS.out]; rintro x w3 ⟨v, rfl, hR, hb⟩; obtain ⟨A, c, rfl⟩ := Kd.R_slice hR; have HR3 := Aside0.mk hR; have HB3 := Aside0.mk hb; clear hR hb))
  obtain ⟨B2, hB2⟩ : ∃ B2, w1.heap.size = B2 := ⟨_, rfl⟩
  have hz := HB1.out.size
  rw [hB2] at hz
  have CA : Aside0 (CutAt w p B B2 t base ((rs.take 0).filter q) ((rs.take 0).filter qn) A c rs (.slice none 0 0) w3) := ⟨by
    have hown := World.ownsMap_made w1 Tryd.prog 25 ndElem
    rw [hB2] at hown
    refine ⟨(HM1.out.below (below_alloc (Below.refl _ _) _)).below HB3.out, hz, ⟨_, own_below hown HB3.out, says_nil⟩, Kd.R_nil _ _ _ _ _, ?_, below_then (below_alloc HB1.out _) (by simp; omega) HB3.out⟩
    refine Kd.R_reok rfl (Kd.R_lower HR3.out (by simp; omega)) (fun k hk => ?_)
    have := Kd.R_base HR3.out k hk
    simp at this
    omega⟩
  simp only [hB2]
  clear HR3 HB3 hz hB2 hmk HM1 d1 c1
  go_loopw [6, 27] (fun v6 c' wr => ∃ k : Nat, k ≤ rs.length ∧ c' = .int .i64 k ∧ Aside0 (CutAt w p B B2 t base ((rs.take k).filter q) ((rs.take k).filter qn) A c rs v6 wr)) (fun _ c' _ => rs.length - (RowKit.intOf c').toNat)
  case atStart => exact ⟨0, Nat.zero_le _, rfl, CA⟩
  case round =>
    obtain ⟨k, hk, rfl, CA⟩ := hrel
    have HM := Aside0.mk CA.out.mem
    have d1 := CA.out.mem.cell1
    by_cases hlt : k < rs.length
    · have t0 : decide ((k : Int) < (rs.length : Int)) = true := decide_eq_true (by omega)
      obtain ⟨ad, rfl, hc⟩ := Kd.at_int (Kd.R_reads' CA.out.row).2.2 (k : Int) (by omega) (by omega)
      rw [Int.toNat_natCast] at hc
      have hfs := take_filter q rs k hlt
      have hfn := take_filter qn rs k hlt
      have hnew := nodup_new HND.out k hlt
      have hhas := HRM.out k hlt
      obtain ⟨r, hr⟩ : ∃ r, rd rs (k : Int) = r := ⟨_, rfl⟩
      rw [hr] at hc hfs hfn hhas hnew
      have HRG := Aside0.mk (HWI.out r hhas)
      have hhr := HH.out r hhas
      have hwk : wrap64 ((k : Int) + 1) = ((k + 1 : Nat) : Int) := by have := HRL.out; unfold wrap64; omega
      have HWK := Aside0.mk hwk
      obtain ⟨pp, hpp⟩ : ∃ pp, (getD t.ns r).p = pp := ⟨_, rfl⟩
      obtain ⟨ss, hss⟩ : ∃ ss, (getD t.ns r).s = ss := ⟨_, rfl⟩
      obtain ⟨hh, hhh⟩ : ∃ hh, (getD t.ns r).h = hh := ⟨_, rfl⟩
      rw [hhh] at hhr
      have HST : Aside0 (stayNd t base r = ⟨r, pp, ss, hh - base⟩) := ⟨by unfold stayNd; rw [hpp, hss, hhh]⟩
      have HPS := Aside0.mk (And.intro hpp (And.intro hss hhh))
      have HLF : Aside0 (((rs.take k).filter q).length < maxLen ∧ ((rs.take k).filter qn).length ≤ 4096) := ⟨by
        have h1 := List.length_filter_le q (rs.take k)
        have h2 := List.length_filter_le qn (rs.take k)
        have h3 := HRL.out
        rw [List.length_take] at h1 h2
        unfold maxLen
        omega⟩
      have HNW : Aside0 (has (stayOf t base ((rs.take k).filter q)) r = false) := ⟨by
        rw [stay_has]
        refine decide_eq_false fun hm => hnew (List.mem_filter.1 hm).1⟩
      obtain ⟨gb, hgb⟩ : ∃ gb, wr.heap.size = gb := ⟨_, rfl⟩
      have HGB : Aside0 (w.heap.size ≤ gb ∧ B2 < gb) := ⟨by
        obtain ⟨D, hD, _⟩ := CA.out.map
        have := hD.lt
        have := CA.out.bel.size
        omega⟩
      clear hr hhas hwk hpp hss hhh hnew
      by_cases hb : below t r root = true
      · have HBE := Aside0.mk hb
        have hqr : q r = true := by rw [HQ.out]; exact hb
        have hqnr : qn r = false := by rw [HQN.out]; simp [hb]
        have HN1 : Aside0 ((rs.take (k + 1)).filter q = (rs.take k).filter q ++ [r]) := ⟨by rw [hfs, if_pos hqr]⟩
        have HN2 : Aside0 ((rs.take (k + 1)).filter qn = (rs.take k).filter qn) := ⟨by rw [hfn, if_neg (by rw [hqnr]; simp)]⟩
        clear hfs hfn hb hqr hqnr
        go_wp2_with (first
          | (at_lookup; refine look_one HM.out rfl _ _ rfl rfl _ rfl HRG.out ?_; rw [HPS.out.1, HPS.out.2.1, HPS.out.2.2])
          | (refine nd_0 rfl _ rfl rfl ?_)
          | (refine nd_1 rfl _ rfl rfl ?_)
          | (refine nd_2 rfl _ rfl rfl ?_)
          | (go_at_call 16; refine (below_calls p B t r root _ (HM.out.below (below_alloc (Below.refl _ _) _)) HW.out HRG.out HK.out).mono ?_; rw [HBE.out]; rintro x w5 ⟨rfl, hb5⟩; have CA5 := Aside0.mk ((CA.out.below (below_alloc (Below.refl _ _) _)).below hb5); have HX5 := Aside0.mk ((hb5.block wr.heap.size (by simp)).trans (new_block _ _)); rw [hgb] at HX5; obtain ⟨b0, b1, b2, z0, z1, z2⟩ := cells3 HX5.out; obtain ⟨D, hD, hS⟩ := CA5.out.map; have HD := Aside0.mk hD; have HS := Aside0.mk hS; clear hb5 hD hS)
          | (refine put_node (w := w5.setCell ⟨gb, 2, none⟩ (.int .i64 (hh - base))) (own_set HD.out (by have := HGB.out; omega) _) HS.out HLF.out.1 rfl _ _ _ rfl rfl r pp ss (hh - base) rfl HRG.out rfl HNW.out ?_; intro w6 D6 r1 r2 r3; have R1 := Aside0.mk r1; have R2 := Aside0.mk r2; have R3 := Aside0.mk r3; clear r1 r2 r3))
        go_roundw
        case rel =>
          refine ⟨k + 1, by omega, by rw [HWK.out], ⟨?_⟩⟩
          rw [HN1.out, HN2.out]
          have hkp := turned_kept R3.out
          have hg := HGB.out
          have hl := HLT.out
          have hsz := (Array.getElem?_eq_some_iff.1 HX5.out).1
          have hl5 := CA5.out.mem.lt
          have hn := CA5.out.new_
          have hbp : ∀ i, i < w.heap.size → i ≠ gb → w6.heap[i]? = w5.heap[i]? := fun i hi hne => (hkp.2 i (by simp [World.setCell]; omega) (fun e => by have : i = B2 := e; omega)).trans (Below.heap_setCell w5 ⟨gb, 2, none⟩ _ i hne)
          refine ⟨CA5.out.mem.move (hbp p hl.1 (by omega)) (hbp B hl.2 (by omega)), hn, ⟨D6, ?_, ?_⟩, ?_, ?_, ?_⟩
          · rw [List.length_append]
            exact R1.out
          · have := R2.out
            have e : stayOf t base ((rs.take k).filter q ++ [r]) = stayOf t base ((rs.take k).filter q) ++ [⟨r, pp, ss, hh - base⟩] := by
              unfold stayOf
              rw [List.map_append, List.map_cons, List.map_nil, HST.out]
            rw [e]
            exact this
          · exact Kd.R_kept (Kd.R_set CA5.out.gone HX5.out (by decide) 2 _) hkp (fun b ho he => ho.1 he)
          · exact Kd.R_kept (Kd.R_set CA5.out.row HX5.out (by decide) 2 _) hkp (fun b ho he => ho he)
          · exact (CA5.out.bel.setCell (p := ⟨gb, 2, none⟩) hg.1 _).trans (turned_below R3.out hn)
        case measure => rw [HWK.out]; simp [RowKit.intOf]; omega
      · have hb' : below t r root = false := by simpa using hb
        have HBE := Aside0.mk hb'
        have hqr : q r = false := by rw [HQ.out]; exact hb'
        have hqnr : qn r = true := by rw [HQN.out]; simp [hb']
        have HN1 : Aside0 ((rs.take (k + 1)).filter q = (rs.take k).filter q) := ⟨by rw [hfs, if_neg (by rw [hqr]; simp)]⟩
        have HN2 : Aside0 ((rs.take (k + 1)).filter qn = (rs.take k).filter qn ++ [r]) := ⟨by rw [hfn, if_pos hqnr]⟩
        clear hfs hfn hb hb' hqr hqnr
        go_wp2_with (first
          | (at_lookup; refine look_one HM.out rfl _ _ rfl rfl _ rfl HRG.out ?_; rw [HPS.out.1, HPS.out.2.1, HPS.out.2.2])
          | (refine nd_0 rfl _ rfl rfl ?_)
          | (refine nd_1 rfl _ rfl rfl ?_)
          | (refine nd_2 rfl _ rfl rfl ?_)
          | (go_at_call 16; refine (below_calls p B t r root _ (HM.out.below (below_alloc (Below.refl _ _) _)) HW.out HRG.out HK.out).mono ?_; rw [HBE.out]; rintro x w5 ⟨rfl, hb5⟩; have CA5 := Aside0.mk ((CA.out.below (below_alloc (Below.refl _ _) _)).below hb5); clear hb5)
          | (at_builtin; refine Kd.R_append (Kd.int .u64) (w0 := w) w.heap.size rfl (.tmp 49) (.tmp 51) 32 25 (.int .u64 0) 8 rfl Tryd.underlying32 (by kernel_rfl) rfl (by decide) (by omega) _ ((rs.take k).filter qn) r [.int .u64 r] (fun b => b ≠ B2 ∧ some b ≠ (Value.slice (some ad) rs.length c).ownBlock) (fun _ => False) rfl rfl ?aP (fun _ hk => hk.elim) ?aF CA5.out.gone CA5.out.bel CA5.out.bel.size ?aL ?_; (case aP => rfl); (case aF => intro b hb; refine ⟨?_, fun he => ?_⟩; (obtain ⟨D, hD, _⟩ := CA5.out.map; have := hD.lt; omega); (have := Kd.R_lt CA5.out.row b he.symm; omega)); (case aL => have := HLF.out.2; omega); intro v4 w6 ho hb hg hat; have HRN := Aside0.mk ho; have HB6 := Aside0.mk hb; have HG := Aside0.mk hg; clear ho hb hg hat))
        go_roundw
        case rel =>
          refine ⟨k + 1, by omega, by rw [HWK.out], ⟨?_⟩⟩
          rw [HN1.out, HN2.out]
          have hl := HLT.out
          have hl5 := CA5.out.mem.lt
          have hne : ∀ i, i < w.heap.size → ∀ v : Value, (∀ b, v.ownBlock = some b → w.heap.size ≤ b) → some i ≠ v.ownBlock := fun i hi v hv e => by have := hv i e.symm; omega
          refine ⟨CA5.out.mem.move (HG.out.block p hl5.1 (hne p hl.1 _ (Kd.R_base CA5.out.gone))) (HG.out.block B hl5.2 (hne B hl.2 _ (Kd.R_base CA5.out.gone))), CA5.out.new_, ?_, HRN.out, Kd.R_grown2 CA5.out.row rfl HG.out (fun b hb => (CA5.out.gone.1 b hb).2), HB6.out⟩
          obtain ⟨D, ⟨es, clock, h1, h2⟩, hS⟩ := CA5.out.map
          have hlt2 := (Array.getElem?_eq_some_iff.1 h1).1
          exact ⟨D, ⟨es, clock, (HG.out.block B2 hlt2 (fun e => (CA5.out.gone.1 B2 e.symm).1 rfl)).trans h1, h2⟩, hS⟩
        case measure => rw [HWK.out]; simp [RowKit.intOf]; omega
    · have t0 : decide ((k : Int) < (rs.length : Int)) = false := decide_eq_false (by omega)
      obtain rfl : k = rs.length := by omega
      have hca := CA.out
      rw [List.take_length] at hca
      have CB := Aside0.mk hca
      clear hca CA
      obtain ⟨D, hD, hS⟩ := CB.out.map
      have HD := Aside0.mk hD
      have HS := Aside0.mk hS
      have HGD : Aside0 (getD (stayOf t base (rs.filter q)) root = ⟨root, (getD t.ns root).p, (getD t.ns root).s, 0⟩) := ⟨by
        rw [stay_getD t base _ root HRF.out]
        unfold stayNd
        rw [HBS.out, Int.sub_self]⟩
      obtain ⟨pp, hpp⟩ : ∃ pp, (getD t.ns root).p = pp := ⟨_, rfl⟩
      obtain ⟨ss, hss⟩ : ∃ ss, (getD t.ns root).s = ss := ⟨_, rfl⟩
      rw [hpp, hss] at HGD
      rw [hss] at HCU
      have HYS : Aside0 (has (stayOf t base (rs.filter q)) root = true) := ⟨by rw [stay_has]; exact decide_eq_true HRF.out⟩
      have HLF : Aside0 ((rs.filter q).length < maxLen) := ⟨by
        have h1 := List.length_filter_le q rs
        have h3 := HRL.out
        unfold maxLen
        omega⟩
      obtain ⟨gb, hgb⟩ : ∃ gb, wr.heap.size = gb := ⟨_, rfl⟩
      have HGB : Aside0 (w.heap.size ≤ gb ∧ B2 < gb) := ⟨by
        have := hD.lt
        have := CB.out.bel.size
        omega⟩
      have HPB : Aside0 (p ≠ B2) := ⟨by have := CB.out.new_; have := HLT.out; omega⟩
      clear hpp hss hD hS
      go_wp2_with (first
        | (at_lookup; refine look_map HD.out HS.out rfl _ _ rfl rfl root rfl HK.out ?_; rw [HGD.out])
        | (refine nd_0 rfl _ rfl rfl ?_)
        | (refine nd_1 rfl _ rfl rfl ?_)
        | (refine nd_2 rfl _ rfl rfl ?_)
        | (at_mapUpdate; go_loud (refine set_node (w := wr.alloc (.cells #[.int .u64 root, .int .i64 ss, .int .i64 0] 50)) (own_below HD.out (below_alloc (Below.refl _ _) _)) HS.out HLF.out rfl _ _ _ rfl rfl root root ss 0 rfl HK.out rfl HYS.out ?_); go_loud (intro w6 D6 r1 r2 r3; have R1 := Aside0.mk r1; have R2 := Aside0.mk r2; have R3 := Aside0.mk r3; have HM6 := Aside0.mk (tree_after CB.out.mem r3 HPB.out); clear r1 r2 r3); go_loud (obtain ⟨m0, m1, f0, f1⟩ := tree_cells HM6.out)))
      go_ret
      have hl := HLT.out
      have hg := HGB.out
      have hn := CB.out.new_
      have hb6 : Below w.heap.size w w6 := (below_alloc CB.out.bel _).trans (turned_below R3.out hn)
      refine ⟨_, B2, rfl, ?_, ⟨by omega, ?_, D6, ?_, ?_⟩, hn, ?_, ?_⟩
      · rw [HGO.out]
        have q1 := Kd.R_kept (Kd.R_below CB.out.gone (below_alloc (Below.refl _ _) _)) (turned_kept R3.out) (fun b ho he => ho.1 he)
        have q2 := Kd.R_set q1 HM6.out (by decide) 0 (.int .u64 root)
        have h7 : ((w6.setCell ⟨p, 0, none⟩ (.int .u64 root)).heap[p]? = some (.cells #[.int .u64 root, .map (some B)] 53 (0, 0))) := by simp [World.setCell, Array.getElem?_modify, HM6.out]
        exact Kd.R_mono (Kd.R_set q2 h7 (by decide) 1 (.map (some B2))) (fun b hb => hb.1)
      · rw [HCU.out]
        exact set2 HM6.out
      · rw [HCU.out]
        show (World.setCell _ _ _).ownsMap _ _ _ _ (setAt _ _ _).length _
        rw [set_length]
        exact own_set (own_set R1.out (by omega) _) (by omega) _
      · rw [HCU.out]
        exact R2.out
      · intro b hbp hbw
        exact ((hb6.mono hbw).setCell (p := ⟨p, 0, none⟩) hbp _).setCell (p := ⟨p, 1, none⟩) hbp _
      · refine ⟨by have := hb6.size; simp [World.setCell]; omega, fun i hi hne => ?_⟩
        exact (Below.heap_setCell _ ⟨p, 1, none⟩ _ i hne).trans ((Below.heap_setCell _ ⟨p, 0, none⟩ _ i hne).trans (hb6.block i hi))
end Go.Proofs.YtgbhblbfodphfaaDoor.Tree
