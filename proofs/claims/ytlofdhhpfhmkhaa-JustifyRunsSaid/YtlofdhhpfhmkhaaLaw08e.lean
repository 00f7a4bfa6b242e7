/-
  The walk of the law JustifyRuns of package psephoslaw08: its call answers true, and writes nothing that was there; of slices of bools that are read as they came.
-/
import Derived.Test.YtlofdhhpfhmkhaaJustifyE
import Derived.Test.YtlofdhhpfhmkhaaBlock
import Derived.Maps.OwnOps
import Derived.Maps.OwnSet
import Derived.Maps.Views
import Derived.ChangeMaps4
import Derived.Carry
import Derived.Deep.RegionHeld3
import Derived.Test.YtlofdhhpfhmkhaaWGuard
import Derived.Outline
namespace Go.Proofs.Ytlofdhhpfhmkhaa.Law08
open Go.RowKit Go.Maps Go.ChangeMaps Go.Proofs.YtlofdhhpfhmkhaaW.PrintWords Go.Proofs.Ytlofdhhpfhmkhaa.Own Go.Proofs.Ytlofdhhpfhmkhaa.Justify

/-! ### a map from whole numbers to bools -/
def bElem : Value → Option (DataW Unit × List MemPlace)
  | .bool b => some (.lit (.bool b), [])
  | _ => none
theorem bElem_inv {v : Value} {z : DataW Unit × List MemPlace} (e : bElem v = some z) : ∃ b, v = .bool b ∧ z = (.lit (.bool b), []) := by
  cases v with
  | bool b => exact ⟨b, rfl, (Option.some.inj e).symm⟩
  | _ => cases e
def kI (r : Int) : Lit := .int .i64 r
/-- A map's datum says which numbers are so. -/
structure SaysB (D : DataW Unit) (S : Int → Bool) : Prop where
  tidy : Tidy D
  at_ : ∀ r, D.atKey (kI r) (.lit (.bool false)) = .lit (.bool (S r))
def setB (S : Int → Bool) (r : Int) : Int → Bool := fun q => q == r || S q
theorem saysB_nil : SaysB (.map []) (fun _ => false) := ⟨tidy_empty, fun r => rfl⟩
theorem saysB_put {D : DataW Unit} {S : Int → Bool} (h : SaysB D S) (r : Int) : SaysB (D.put (kI r) (.lit (.bool true))) (setB S r) := by
  have hm := h.tidy.isMap
  refine ⟨h.tidy.put (by trivial) _, fun q => ?_⟩
  unfold setB
  by_cases e : q = r
  · subst e
    rw [atKey_put_same hm (by trivial)]
    simp
  · rw [atKey_put_other (fun h => e (by injection h)), h.at_]
    have : (q == r) = false := by simpa using e
    rw [this, Bool.false_or]
theorem lawI : Keyed Try.prog 3 := int_keyed Try.underlying3
theorem zeroB (w : World) : (zeroValue 4).run Try.prog w = .ok (.bool false) w := by kernel_rfl
theorem hkeyI {r : Int} (h : -9223372036854775808 ≤ r ∧ r ≤ 9223372036854775807) : keyOf Try.prog 3 (.int .i64 r) = some (kI r) :=
  keyOf_int_mk Try.underlying3 (by simp [Lit.wf, IntKind.min, IntKind.max, IntKind.signed, IntKind.bits]; omega)
/-- The map in memory. -/
def MemB (w : World) (B n : Nat) (S : Int → Bool) : Prop := ∃ D : DataW Unit, w.ownsMap Try.prog 3 bElem B n D ∧ SaysB D S
theorem MemB.lt {w : World} {B n : Nat} {S : Int → Bool} (h : MemB w B n S) : B < w.heap.size := by
  obtain ⟨D, h1, _⟩ := h
  exact h1.lt
theorem MemB.move {w w' : World} {B n : Nat} {S : Int → Bool} (h : MemB w B n S) (hB : w'.heap[B]? = w.heap[B]?) : MemB w' B n S := by
  obtain ⟨D, ⟨es, clock, h1, h2⟩, hS⟩ := h
  exact ⟨D, ⟨es, clock, hB.trans h1, h2⟩, hS⟩
theorem MemB.below {w w' : World} {B n : Nat} {S : Int → Bool} (h : MemB w B n S) (hb : Below w.heap.size w w') : MemB w' B n S := h.move (hb.block B h.lt)
section
variable {ops : Array Oper} {rest : List Oper} {o : Oper} {a : Act} {Q : Exit → Act → World → Prop}
theorem lookB {w : World} {B n : Nat} {S : Int → Bool} (h : MemB w B n S) (hg : o.guard = none) (m x : Operand) (hop : o.op = Op.lookup 32 m x false) (hm : a.eval m = .map (some B)) (r : Int) (hx : a.eval x = .int .i64 r) (hr : -9223372036854775808 ≤ r ∧ r ≤ 9223372036854775807)
    (hK : wpList Try.prog ops Q rest (a.put o.dst (.bool (S r))) w) : wpList Try.prog ops Q (o :: rest) a w := by
  obtain ⟨D, hown, hS⟩ := h
  refine wpList_plain hg fun K' hK' => ?_
  obtain ⟨v, ps, hrun, hv⟩ := hown.lookup lawI Try.underlying32 (zeroB _) (show bElem (.bool false) = some (.lit (.bool false), []) from rfl) (hkeyI hr)
  obtain ⟨b, rfl, hz⟩ := bElem_inv hv
  have e := congrArg Prod.fst hz
  simp only at e
  rw [hS.at_] at e
  obtain rfl : S r = b := by injection e with e; injection e
  unfold Oper.wp
  simp [execOp, hop, hm, hx, hrun, Result.andThen]
  exact hK' _ _ hK
theorem storeB {w : World} {B n : Nat} {S : Int → Bool} (h : MemB w B n S) (hn : n < maxLen) (hg : o.guard = none) (m x v : Operand) (hop : o.op = Op.mapUpdate 32 m x v ∨ o.op = Op.insert 32 m x v) (hm : a.eval m = .map (some B)) (r : Int) (hx : a.eval x = .int .i64 r) (hr : -9223372036854775808 ≤ r ∧ r ≤ 9223372036854775807) (hv : a.eval v = .bool true)
    (hK : ∀ w', MemB w' B (n + 1) (setB S r) → w.mapTurned w' B → wpList Try.prog ops Q rest (a.put o.dst undef) w') : wpList Try.prog ops Q (o :: rest) a w := by
  obtain ⟨D, hown, hS⟩ := h
  refine wpList_plain hg fun K' hK' => ?_
  obtain ⟨w', hrun, r1, r2⟩ := hown.store lawI Try.underlying32 hn (hkeyI hr) (show bElem (.bool true) = some (.lit (.bool true), []) from rfl)
  have hk := hK' _ _ (hK w' ⟨_, r1, saysB_put hS r⟩ r2)
  unfold Oper.wp
  rcases hop with hop | hop <;> (simp [execOp, hop, hm, hx, hv, hrun, Result.andThen]; exact hk)
end
theorem turned_belowB {w w' : World} {b B : Nat} (h : w.mapTurned w' b) (hB : B ≤ b) : Below B w w' := by
  obtain ⟨es, clock, es', clock', h1, rfl⟩ := h
  refine ⟨rfl, rfl, rfl, by simp [setBlock], fun i hi => ?_⟩
  show (w.heap.setIfInBounds b _)[i]? = w.heap[i]?
  rw [Array.getElem?_setIfInBounds_ne (by omega)]
theorem turned_other {w w' : World} {b g : Nat} {o : Obj} (h : w.mapTurned w' b) (hg : w.heap[g]? = some o) (hne : g ≠ b) : w'.heap[g]? = some o := by
  obtain ⟨es, clock, es', clock', h1, rfl⟩ := h
  show (w.heap.setIfInBounds b _)[g]? = _
  rw [Array.getElem?_setIfInBounds_ne (fun h => hne h.symm)]
  exact hg

theorem turned_block {w w' : World} {b g t : Nat} {cs : Array Value} (h : w.mapTurned w' b) (hg : w.heap[g]? = some (.cells cs t (0, 0))) : w'.heap[g]? = some (.cells cs t (0, 0)) := by
  refine turned_other h hg ?_
  rintro rfl
  obtain ⟨es, clock, es', clock', h1, rfl⟩ := h
  rw [h1] at hg
  cases hg
theorem turned_cell {w w' : World} {b : Nat} {a : Addr} {v : Value} (h : w.mapTurned w' b) (hc : w.cell? a = some v) : w'.cell? a = some v := by
  obtain ⟨es, clock, es', clock', h1, rfl⟩ := h
  have hne : b ≠ a.block := by
    intro e
    rw [e] at h1
    simp [World.cell?, h1] at hc
  show World.cell? _ a = some v
  rw [← hc]
  unfold World.cell?
  have e : (setBlock w b (Obj.map es' clock')).heap[a.block]? = w.heap[a.block]? := by
    show (w.heap.setIfInBounds b _)[a.block]? = _
    rw [Array.getElem?_setIfInBounds_ne hne]
  rw [e]

/-! ### what holds at the head of the loop -/
structure RunAt (e : Int) (S : Int → Bool) (s : St) : Prop where
  f0 : 0 ≤ s.fe
  fp : s.fe ≤ s.pe
  pc : s.pe ≤ s.ce
  ce : s.ce ≤ e - 1
  sf : S s.fe = true
  sp : S s.pe = true
  sc : S s.ce = true
def wasAt (S : Int → Bool) (e : Int) (before now : Bool) : Int → Bool :=
  let T := if before then setB S (e - 1) else S
  if now then setB T e else T
/-- What a round asks, and what it leaves. -/
theorem run_step {e : Int} {S : Int → Bool} {s n : St} (h : RunAt e S s) (h1 : 1 ≤ e) (before now : Bool) (hn : next s e before now (e - 1) 5 e 5 = n) :
    ¬ n.fe < s.fe ∧ ¬ n.fe > n.ce ∧ S n.fe = true ∧ ¬ n.ce < s.ce - 1 ∧ RunAt (e + 1) (wasAt S e before now) n := by
  obtain ⟨f0, fp, pc, ce, sf, sp, sc⟩ := h
  have hf : n.fe = s.fe ∨ n.fe = s.pe ∨ n.fe = s.ce := by
    subst hn
    simp only [next]
    repeat' split
    all_goals simp
  have hp : n.pe = s.ce := by subst hn; rfl
  have hc : n.ce = if now then e else if before then e - 1 else s.ce := by
    subst hn
    simp only [next]
    split
    · rfl
    · split <;> rfl
  have hc2 : s.ce ≤ n.ce := by rw [hc]; split; omega; split <;> omega
  have hc3 : n.ce ≤ e := by rw [hc]; split; omega; split <;> omega
  have mono : ∀ r, S r = true → wasAt S e before now r = true := fun r hr => by
    unfold wasAt setB
    cases before <;> cases now <;> simp [hr]
  have hsc : wasAt S e before now n.ce = true := by
    rw [hc]
    unfold wasAt setB
    cases before <;> cases now <;> simp [sc]
  have hsf : S n.fe = true := by rcases hf with h | h | h <;> rw [h] <;> assumption
  refine ⟨?_, ?_, hsf, by omega, ⟨?_, ?_, ?_, ?_, mono _ hsf, by rw [hp]; exact mono _ sc, hsc⟩⟩ <;> omega

/-- Facts of the round's head, carried on. -/
theorem keepS {w w' : World} {g t : Nat} {v0 v1 v2 v3 v4 v5 v6 v7 v8 v9 x y : Value} {p q : Addr} (hb : Below w.heap.size w w') (h : w.heap[g]? = some (.cells #[v0, v1, v2, v3, v4, v5, v6, v7, v8, v9] t (0, 0))) (h1 : w.cell? p = some x) (h2 : w.cell? q = some y) :
    w'.cell? ⟨g, 0, none⟩ = some v0 ∧ w'.cell? ⟨g, 1, none⟩ = some v1 ∧ w'.cell? ⟨g, 2, none⟩ = some v2 ∧ w'.cell? ⟨g, 3, none⟩ = some v3 ∧ w'.cell? ⟨g, 4, none⟩ = some v4 ∧ w'.cell? ⟨g, 5, none⟩ = some v5 ∧ w'.cell? ⟨g, 6, none⟩ = some v6 ∧ w'.cell? ⟨g, 7, none⟩ = some v7 ∧ w'.cell? ⟨g, 8, none⟩ = some v8 ∧ w'.cell? ⟨g, 9, none⟩ = some v9 ∧ w'.cell? p = some x ∧ w'.cell? q = some y := by
  have hg := (Array.getElem?_eq_some_iff.1 h).1
  have h' := (hb.block g hg).trans h
  refine ⟨?_, ?_, ?_, ?_, ?_, ?_, ?_, ?_, ?_, ?_, pw_cell_below hb h1, pw_cell_below hb h2⟩ <;> simp [World.cell?, h']
/-- Ten stores, one for each cell of a struct. -/
theorem set10 {w : World} {g t : Nat} {a0 a1 a2 a3 a4 a5 a6 a7 a8 a9 x0 x1 x2 x3 x4 x5 x6 x7 x8 x9 : Value} (h : w.heap[g]? = some (.cells #[a0, a1, a2, a3, a4, a5, a6, a7, a8, a9] t (0, 0))) :
    ((((((((((w.setCell ⟨g, 0, none⟩ x0).setCell ⟨g, 1, none⟩ x1).setCell ⟨g, 2, none⟩ x2).setCell ⟨g, 3, none⟩ x3).setCell ⟨g, 4, none⟩ x4).setCell ⟨g, 5, none⟩ x5).setCell ⟨g, 6, none⟩ x6).setCell ⟨g, 7, none⟩ x7).setCell ⟨g, 8, none⟩ x8).setCell ⟨g, 9, none⟩ x9).heap[g]? = some (.cells #[x0, x1, x2, x3, x4, x5, x6, x7, x8, x9] t (0, 0)) := by
  simp [World.setCell, Array.getElem?_modify, h]

set_option linter.unusedVariables false
set_option maxHeartbeats 8000000 in
set_option maxRecDepth 100000 in
theorem justifyRuns_law (A0 : Option Addr) (l0 c0 : Nat) (z0 : List Bool) (A1 : Option Addr) (l1 c1 : Nat) (z1 : List Bool) (w : World) (h0 : ReadsOf Value.bool false w A0 l0 z0) (h1 : ReadsOf Value.bool false w A1 l1 z1) :
    Calls Try.prog 4 #[.slice A0 l0 c0, .slice A1 l1 c1] w fun x w' => x = .returned (.bool true) ∧ Below w.heap.size w w' := by
  have hl0 := h0.2.1
  have hl1 := h1.2.1
  have R0 := Aside0.mk h0
  have R1 := Aside0.mk h1
  clear h0 h1
  have hmk : ∀ w : World, (Instr.makeMap 32 none).run Try.prog w = .ok (.map (some w.heap.size)) (w.alloc (.map #[] 0)) := fun _ => run_makeMap _ _
  go_enter Try.func4, Try.ntmps4
  go_wp2_with (first
    | (go_at_call 9; refine (awake_calls _).mono ?_; rintro x w1 ⟨rfl, hb⟩; have HB := Aside0.mk hb; have HM := Aside0.mk (show MemB ((w1.alloc (.cells #[.bool false, .bool false, .bool false, .bool false, .int .i64 0, .int .u64 0, .int .i64 0, .int .u64 0, .int .i64 0, .int .u64 0] 27)).alloc (.map #[] 0)) (w1.heap.size + 1) 0 (fun _ => false) from ⟨_, by have h := World.ownsMap_made (w1.alloc (.cells #[.bool false, .bool false, .bool false, .bool false, .int .i64 0, .int .u64 0, .int .i64 0, .int .u64 0, .int .i64 0, .int .u64 0] 27)) Try.prog 3 bElem; simpa using h, saysB_nil⟩); clear hb)
    | (refine storeB HM.out (by unfold maxLen; omega) rfl _ _ _ (Or.inr rfl) rfl 0 rfl (by omega) rfl ?_; intro w2 h1 h2; have HM2 := Aside0.mk h1; have HT2 := Aside0.mk h2; clear h1 h2))
  have HBK0 : Aside0 (w2.heap[w1.heap.size]? = some (.cells #[.bool false, .bool false, .bool false, .bool false, .int .i64 0, .int .u64 0, .int .i64 0, .int .u64 0, .int .i64 0, .int .u64 0] 27 (0, 0))) := ⟨turned_other HT2.out (by rw [heap_alloc_old _ _ (by simp)]; exact heap_alloc_new w1 _) (by omega)⟩
  have HB0 : Aside0 (Below w1.heap.size w1 w2) := ⟨Below.trans (((Below.refl _ w1).alloc (Nat.le_refl _) _).alloc (by simp) _) (turned_belowB HT2.out (by omega))⟩
  clear HT2 HM
  go_loopw [7] (fun x wr => ∃ (k : Nat) (S : Int → Bool) (n0 n1 n2 n3 : Bool) (npe npr nce ncr nfe nfr : Int), k ≤ 60 ∧ x = .int .i64 (k + 1) ∧
      Aside0 (wr.heap[w1.heap.size]? = some (.cells #[.bool n0, .bool n1, .bool n2, .bool n3, .int .i64 npe, .int .u64 npr, .int .i64 nce, .int .u64 ncr, .int .i64 nfe, .int .u64 nfr] 27 (0, 0))) ∧
      Aside0 (∃ nn, nn ≤ 2 * k + 1 ∧ MemB wr (w1.heap.size + 1) nn S) ∧
      Aside0 (Below w1.heap.size w1 wr) ∧ Aside0 (RunAt (k + 1) S ⟨n0, n1, n2, n3, npe, npr, nce, ncr, nfe, nfr⟩))
    (fun x _ => (61 - intOf x).toNat)
  case atStart => exact ⟨0, _, false, false, false, false, 0, 0, 0, 0, 0, 0, by omega, by simp, HBK0, ⟨1, by omega, HM2.out⟩, HB0, ⟨⟨by simp, by simp, by simp, by simp, by simp [setB], by simp [setB], by simp [setB]⟩⟩⟩
  case round =>
    obtain ⟨k, S, n0, n1, n2, n3, npe, npr, nce, ncr, nfe, nfr, hk, rfl, HBK, HMP, HB1, HI⟩ := hrel
    have hg := blk_lt HBK.out
    have hcg := blk_cell HBK.out
    by_cases hlt : k < 59 ∧ k < l0 ∧ k < l1
    · obtain ⟨a1, a2, a3⟩ := hlt
      obtain ⟨ad0, rfl, hc0⟩ := R0.out.2.2 (by omega)
      obtain ⟨ad1, rfl, hc1⟩ := R1.out.2.2 (by omega)
      have d0 := pw_cell_below (below_then HB.out HB.out.size HB1.out) (hc0 k a2)
      have d1 := pw_cell_below (below_then HB.out HB.out.size HB1.out) (hc1 k a3)
      clear hc0 hc1
      obtain ⟨bb, hbb⟩ : ∃ bb, z0.getD k false = bb := ⟨_, rfl⟩
      obtain ⟨nw, hnw⟩ : ∃ nw, z1.getD k false = nw := ⟨_, rfl⟩
      rw [hbb] at d0
      rw [hnw] at d1
      clear hbb hnw
      have t1 : decide ((k : Int) + 1 ≤ (l1 : Int)) = true := decide_eq_true (by omega)
      have b0 : decide ((k : Int) + 1 < 60) = true := decide_eq_true (by omega)
      have b1 : decide ((k : Int) + 1 ≤ (l0 : Int)) = true := decide_eq_true (by omega)
      have e0 : IntKind.i64.wrap ((k : Int) + 1 - 1) = k := (IntWalk.i64_in _ (by omega)).trans (by omega)
      have e0' : IntKind.i64.wrap (k : Int) = k := IntWalk.i64_in _ (by omega)
      have e1 : (k : Int).toNat = k := by omega
      have e2 : (0 : Int) ≤ (k : Int) := by omega
      have e3 : (k : Int) < (l0 : Int) := by omega
      have e4 : (k : Int) < (l1 : Int) := by omega
      go_upto_region 8 with fail
      go_region_held3 (fun w' => w'.cell? ⟨w1.heap.size, 0, none⟩ = some (.bool n0) ∧ w'.cell? ⟨w1.heap.size, 1, none⟩ = some (.bool n1) ∧ w'.cell? ⟨w1.heap.size, 2, none⟩ = some (.bool n2) ∧ w'.cell? ⟨w1.heap.size, 3, none⟩ = some (.bool n3) ∧ w'.cell? ⟨w1.heap.size, 4, none⟩ = some (.int .i64 npe) ∧ w'.cell? ⟨w1.heap.size, 5, none⟩ = some (.int .u64 npr) ∧ w'.cell? ⟨w1.heap.size, 6, none⟩ = some (.int .i64 nce) ∧ w'.cell? ⟨w1.heap.size, 7, none⟩ = some (.int .u64 ncr) ∧ w'.cell? ⟨w1.heap.size, 8, none⟩ = some (.int .i64 nfe) ∧ w'.cell? ⟨w1.heap.size, 9, none⟩ = some (.int .u64 nfr) ∧ w'.cell? (ad0.add k) = some (.bool bb) ∧ w'.cell? (ad1.add k) = some (.bool nw))
        ((refine keepS ?_ HBK.out d0 d1; with_reducible repeat (first | exact HB2.out | exact Below.refl _ _ | apply below_alloc | apply below_drew | refine below_set ?_ (Nat.le_refl _))))
        ((go_at_call 10; refine (next_some _ _ _ _ _ _ _ _ _ _ _ _ _ _ _ _ _ _).mono ?_; rintro x w3 ⟨m0, m1, m2, m3, mpe, mpr, mce, mcr, mfe, mfr, rfl, hm, hb⟩; have HN := Aside0.mk hm; (try (have HZ := Aside0.mk ((hb.block wr.heap.size (by simp)).trans (heap_alloc_new _ _)); have hz1 := blk_cell HZ.out; have hz2 := blk_frozen HZ.out)); have HB2 := Aside0.mk (show Below wr.heap.size wr w3 from below_then (by repeat (first | exact Below.refl _ _ | apply below_alloc | apply below_drew)) (by simp) hb); clear hb hm))
      all_goals first
        | (obtain ⟨wx, hwx⟩ : ∃ wx, wx = w3.alloc (.cells #[.bool m0, .bool m1, .bool m2, .bool m3, .int .i64 mpe, .int .u64 mpr, .int .i64 mce, .int .u64 mcr, .int .i64 mfe, .int .u64 mfr] 27) := ⟨_, rfl⟩
           have HG : Aside0 (wx.heap[w3.heap.size]? = some (.cells #[.bool m0, .bool m1, .bool m2, .bool m3, .int .i64 mpe, .int .u64 mpr, .int .i64 mce, .int .u64 mcr, .int .i64 mfe, .int .u64 mfr] 27 (0, 0))) := ⟨by rw [hwx]; exact heap_alloc_new _ _⟩
           have HX : Aside0 (Below wr.heap.size wr wx) := ⟨by rw [hwx]; exact below_alloc HB2.out _⟩
           have HLE : Aside0 (wr.heap.size ≤ w3.heap.size) := ⟨HB2.out.size⟩
           rw [← hwx]
           clear hwx
           obtain ⟨g, hgg⟩ : ∃ g, w3.heap.size = g := ⟨_, rfl⟩
           rw [hgg] at HG HLE ⊢
           clear hgg)
        | (obtain ⟨wx, hwx⟩ : ∃ wx, wx = ((((((((((w3.setCell ⟨wr.heap.size, 0, none⟩ (.bool m0)).setCell ⟨wr.heap.size, 1, none⟩ (.bool m1)).setCell ⟨wr.heap.size, 2, none⟩ (.bool m2)).setCell ⟨wr.heap.size, 3, none⟩ (.bool m3)).setCell ⟨wr.heap.size, 4, none⟩ (.int .i64 mpe)).setCell ⟨wr.heap.size, 5, none⟩ (.int .u64 mpr)).setCell ⟨wr.heap.size, 6, none⟩ (.int .i64 mce)).setCell ⟨wr.heap.size, 7, none⟩ (.int .u64 mcr)).setCell ⟨wr.heap.size, 8, none⟩ (.int .i64 mfe)).setCell ⟨wr.heap.size, 9, none⟩ (.int .u64 mfr)) := ⟨_, rfl⟩
           have HG : Aside0 (wx.heap[wr.heap.size]? = some (.cells #[.bool m0, .bool m1, .bool m2, .bool m3, .int .i64 mpe, .int .u64 mpr, .int .i64 mce, .int .u64 mcr, .int .i64 mfe, .int .u64 mfr] 27 (0, 0))) := ⟨by rw [hwx]; exact set10 HZ.out⟩
           have HX : Aside0 (Below wr.heap.size wr wx) := ⟨by rw [hwx]; with_reducible repeat (first | exact HB2.out | refine below_set ?_ (Nat.le_refl _))⟩
           have HLE : Aside0 (wr.heap.size ≤ wr.heap.size) := ⟨Nat.le_refl _⟩
           clear hz1 hz2 HZ
           rw [← hwx]
           clear hwx
           obtain ⟨g, hgg⟩ : ∃ g, wr.heap.size = g := ⟨_, rfl⟩
           rw [hgg] at HG ⊢
           have HLE : Aside0 (wr.heap.size ≤ g) := ⟨by omega⟩
           clear hgg)
      all_goals
        have HBX := Aside0.mk (blk_below HBK.out HX.out)
        have HMX : Aside0 (∃ nn, nn ≤ 2 * k + 1 ∧ MemB wx (w1.heap.size + 1) nn S) := ⟨by obtain ⟨nn, h1, h2⟩ := HMP.out; exact ⟨nn, h1, h2.below HX.out⟩⟩
        have HST := Aside0.mk (run_step (n := ⟨m0, m1, m2, m3, mpe, mpr, mce, mcr, mfe, mfr⟩) HI.out (by omega) bb nw (by rw [show ((k : Int) + 1 - 1) = k by omega]; exact HN.out))
        have d2 := pw_cell_below HX.out d0
        have d3 := pw_cell_below HX.out d1
        clear d0 d1 hcg hg
        have hg := blk_lt HBX.out
        have hcg := blk_cell HBX.out
        have hcm := blk_cell HG.out
        have t2 : decide (mfe < nfe) = false := decide_eq_false HST.out.1
        have t3 : decide (mfe > mce) = false := decide_eq_false HST.out.2.1
        have t4 : decide (mce < nce - 1) = false := decide_eq_false HST.out.2.2.2.1
        have e5 : IntKind.i64.wrap (nce - 1) = nce - 1 := IntWalk.i64_in _ (by have h1 := HI.out.ce; have h2 := HI.out.f0; have h3 := HI.out.fp; have h4 := HI.out.pc; simp only at h1 h2 h3 h4; omega)
        obtain ⟨nn, hnn, hmb⟩ := HMX.out
        have HMB := Aside0.mk hmb
        clear hmb HMX
        have HR : Aside0 (-9223372036854775808 ≤ mfe ∧ mfe ≤ 9223372036854775807) := ⟨by have h1 := HST.out.2.2.2.2.f0; have h2 := HST.out.2.1; have h3 := HST.out.2.2.2.2.ce; simp only at h1 h2 h3; omega⟩
        have HX2 := Aside0.mk (below_then HB1.out HB1.out.size HX.out)
        clear HX HBK HMP
        cases bb <;> cases nw
        all_goals
          go_wp2_with (first
            | (at_lookup; refine gate_guard rfl ?_; refine lookB HMB.out rfl _ _ rfl rfl _ rfl HR.out ?_; rw [HST.out.2.2.1])
            | (refine storeB HMB.out (by unfold maxLen; omega) rfl _ _ _ (Or.inl rfl) rfl (k : Int) rfl (by omega) rfl ?_; intro w5 h1 h2; have hmb' := Aside0.mk h1; clear HMB hg hcg hcm; have HMB := hmb'; clear hmb'; have hbx' := Aside0.mk (turned_block h2 HBX.out); clear HBX; have HBX := hbx'; clear hbx'; have hg' := Aside0.mk (turned_block h2 HG.out); clear HG; have HG := hg'; clear hg'; have hx' := Aside0.mk (Below.trans HX2.out (turned_belowB h2 (Nat.le_succ _))); clear HX2; have HX2 := hx'; clear hx'; have d3' := turned_cell h2 d3; clear d3; have d3 := d3'; clear d3'; have hg := blk_lt HBX.out; have hcg := blk_cell HBX.out; have hcm := blk_cell HG.out; clear h1 h2; (try clear d2))
            | (refine storeB HMB.out (by unfold maxLen; omega) rfl _ _ _ (Or.inl rfl) rfl ((k : Int) + 1) rfl (by omega) rfl ?_; intro w6 h1 h2; have hmb' := Aside0.mk h1; clear HMB hg hcg hcm; have HMB := hmb'; clear hmb'; have hbx' := Aside0.mk (turned_block h2 HBX.out); clear HBX; have HBX := hbx'; clear hbx'; have hg' := Aside0.mk (turned_block h2 HG.out); clear HG; have HG := hg'; clear hg'; have hx' := Aside0.mk (Below.trans HX2.out (turned_belowB h2 (Nat.le_succ _))); clear HX2; have HX2 := hx'; clear hx'; have d3' := turned_cell h2 d3; clear d3; have d3 := d3'; clear d3'; have hg := blk_lt HBX.out; have hcg := blk_cell HBX.out; have hcm := blk_cell HG.out; clear h1 h2; (try clear d2))
            | (refine Block.store_block rfl rfl 27 (.tmp 5) (.tmp 97) rfl w1.heap.size 27 _ _ rfl rfl HBX.out rfl (by kernel_rfl) (by simp [Value.oneCell']) ?_; intro w7 hbk hgr; have HBK := Aside0.mk hbk; have HMP := Aside0.mk (HMB.out.move (hgr.block _ HMB.out.lt (fun h => by injection h with h; omega))); have HB2 := Aside0.mk (HX2.out.grown hgr HX2.out.size (fun k hk => by cases hk; exact Nat.le_refl _)); clear hgr hbk))
          go_roundw
          case rel => exact ⟨k + 1, _, m0, m1, m2, m3, mpe, mpr, mce, mcr, mfe, mfr, by omega, by simp, HBK, ⟨_, by omega, HMP.out⟩, HB2, ⟨by have h := HST.out.2.2.2.2; simpa [wasAt] using h⟩⟩
          case measure => simp [intOf]; omega
    · by_cases a1 : k < 59
      · by_cases a2 : k < l0
        · have a3 : ¬ k < l1 := fun h => hlt ⟨a1, a2, h⟩
          have b0 : decide ((k : Int) + 1 < 60) = true := decide_eq_true (by omega)
          have b1 : decide ((k : Int) + 1 ≤ (l0 : Int)) = true := decide_eq_true (by omega)
          have t1 : decide ((k : Int) + 1 ≤ (l1 : Int)) = false := decide_eq_false (by omega)
          go_wp2_with fail
          go_ret
          exact ⟨rfl, below_then HB.out HB.out.size HB1.out⟩
        · have b0 : decide ((k : Int) + 1 < 60) = true := decide_eq_true (by omega)
          have t1 : decide ((k : Int) + 1 ≤ (l0 : Int)) = false := decide_eq_false (by omega)
          go_wp2_with fail
          go_ret
          exact ⟨rfl, below_then HB.out HB.out.size HB1.out⟩
      · have t1 : decide ((k : Int) + 1 < 60) = false := decide_eq_false (by omega)
        go_wp2_with fail
        go_ret
        exact ⟨rfl, below_then HB.out HB.out.size HB1.out⟩
end Go.Proofs.Ytlofdhhpfhmkhaa.Law08
