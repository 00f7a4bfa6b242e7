/-
  What an argument of type []psephoslaw10.Act reads as: rows of two octets and a vote. No condition.
-/
import Derived.Test.YtiklbldanidfiaaOpenStruct
namespace Go.Proofs.Ytiklbldanidfiaa.Open
open Go.ChangeShapes Go.WideShapes Go.ChangeAt Go.RowKit Go.Deep Go.Proofs.YtiklbldanidfiaaW.PrintWords Go.Proofs.Ytiklbldanidfiaa.Own
set_option maxRecDepth 100000

theorem cells_act10 : Try.prog.cellsOf 45 = 9 := by kernel_rfl
theorem cells_u8 : Try.prog.cellsOf 5 = 1 := by kernel_rfl
/-- A deed. -/
structure DV where
  op : Int
  sl : Int
  vs : Int
  vh : Int
  vse : Int
  vsr : Int
  vte : Int
  vtr : Int
  A : Option Addr
  n : Nat
  c : Nat
  zs : List Int
instance : Inhabited DV := ⟨⟨0, 0, 0, 0, 0, 0, 0, 0, none, 0, 0, []⟩⟩
/-- The k-th deed: its cells lie there. -/
structure DeedAt (w : World) (ad : Addr) (k : Nat) (a : DV) : Prop where
  c0 : w.cell? (ad.add (k * 9)) = some (.int .u8 a.op)
  c1 : w.cell? ⟨(ad.add (k * 9)).block, (ad.add (k * 9)).off + 1, none⟩ = some (.int .u8 a.sl)
  c2 : w.cell? ⟨(ad.add (k * 9)).block, (ad.add (k * 9)).off + 2, none⟩ = some (.int .i64 a.vs)
  c3 : w.cell? ⟨(ad.add (k * 9)).block, (ad.add (k * 9)).off + 3, none⟩ = some (.int .u64 a.vh)
  c4 : w.cell? ⟨(ad.add (k * 9)).block, (ad.add (k * 9)).off + 4, none⟩ = some (.int .i64 a.vse)
  c5 : w.cell? ⟨(ad.add (k * 9)).block, (ad.add (k * 9)).off + 5, none⟩ = some (.int .u64 a.vsr)
  c6 : w.cell? ⟨(ad.add (k * 9)).block, (ad.add (k * 9)).off + 6, none⟩ = some (.int .i64 a.vte)
  c7 : w.cell? ⟨(ad.add (k * 9)).block, (ad.add (k * 9)).off + 7, none⟩ = some (.int .u64 a.vtr)
  c8 : w.cell? ⟨(ad.add (k * 9)).block, (ad.add (k * 9)).off + 8, none⟩ = some (.slice a.A a.n a.c)
/-- What is known of a deed, wherever it lies. -/
structure DeedIn (w : World) (a : DV) : Prop where
  row : Kd.C (Kd.int .i64) w a.A a.n a.zs
  le : a.n ≤ a.c
  size : a.n ≤ 17592186043904
  bo : 0 ≤ a.op ∧ a.op ≤ 255
  bs : 0 ≤ a.sl ∧ a.sl ≤ 255
  ws : -9223372036854775808 ≤ a.vs ∧ a.vs ≤ 9223372036854775807
  we : -9223372036854775808 ≤ a.vse ∧ a.vse ≤ 9223372036854775807
structure ActsArg (w : World) (A : Option Addr) (n c : Nat) (f : Nat → DV) : Prop where
  le : n ≤ c
  cap : c ≤ 9223372036854775807
  at_ : ∀ k, k < n → ∃ ad, A = some ad ∧ DeedAt w ad k (f k) ∧ DeedIn w (f k)
theorem cell_below {w w' : World} (hb : Below w.heap.size w w') {a : Addr} {v : Value} (h : w.cell? a = some v) : w'.cell? a = some v := by
  have hlt : a.block < w.heap.size := by
    refine Nat.lt_of_not_le fun hle => ?_
    have : w.heap[a.block]? = none := Array.getElem?_eq_none hle
    unfold World.cell? at h
    rw [this] at h
    cases h
  unfold World.cell? at h ⊢
  rw [hb.block _ hlt]
  exact h
theorem DeedAt.below {w w' : World} {ad : Addr} {k : Nat} {a : DV} (h : DeedAt w ad k a) (hb : Below w.heap.size w w') : DeedAt w' ad k a :=
  ⟨cell_below hb h.c0, cell_below hb h.c1, cell_below hb h.c2, cell_below hb h.c3, cell_below hb h.c4, cell_below hb h.c5, cell_below hb h.c6, cell_below hb h.c7, cell_below hb h.c8⟩
theorem DeedIn.below {w w' : World} {a : DV} (h : DeedIn w a) (hb : Below w.heap.size w w') : DeedIn w' a := ⟨Kd.C_below h.row hb, h.le, h.size, h.bo, h.bs, h.ws, h.we⟩
theorem ActsArg.below {w w' : World} {A : Option Addr} {n c : Nat} {f : Nat → DV} (h : ActsArg w A n c f) (hb : Below w.heap.size w w') : ActsArg w' A n c f :=
  ⟨h.le, h.cap, fun k hk => by obtain ⟨ad, e, hd, hi⟩ := h.at_ k hk; exact ⟨ad, e, hd.below hb, hi.below hb⟩⟩
theorem weights_all_mem {H : Type} {P : Program} {e : TypeId} {d : DataW H} {m : Nat} (hm : m ∈ d.weights P e) : ∀ l : List (DataW H), d ∈ l → m ∈ DataW.weightsAll P e l
  | [], h => by cases h
  | x :: r, h => by
    simp only [DataW.weightsAll, List.mem_append]
    cases List.mem_cons.1 h with
    | inl e => subst e; exact .inl hm
    | inr e => exact .inr (weights_all_mem hm r e)
section
variable {H : Type} {enc : TypeId × Value → H} {w : World} {base : Nat} {held : Bool}
theorem rd_vote {fuel : Nat} {cs : List Value} {x : DataW H × List MemPlace} (hf : DataW.trod enc Try.prog w base (fun _ => true) held fuel 43 cs = some x) (hwt : ∀ m ∈ x.1.weights Try.prog 43, m ≤ reachBytes) :
    ∃ (sl hd se sr te tr : Int) (A : Option Addr) (n c : Nat) (zs : List Int), cs = [.int .i64 sl, .int .u64 hd, .int .i64 se, .int .u64 sr, .int .i64 te, .int .u64 tr, .slice A n c] ∧ VoteArg w sl hd se sr te tr A n c zs := by
  obtain ⟨hl, m, hx⟩ := rd_struct Try.underlying43 hf hwt
  rw [cells_vote] at hl
  obtain ⟨c0, c1, c2, c3, c4, c5, c6, rfl⟩ := list7 hl
  obtain ⟨y0, h0, _, _⟩ := hx 0 _ rfl
  obtain ⟨y1, h1, _, _⟩ := hx 1 _ rfl
  obtain ⟨y2, h2, g2, _⟩ := hx 2 _ rfl
  obtain ⟨y3, h3, g3, _⟩ := hx 3 _ rfl
  obtain ⟨y4, h4, g4, u4⟩ := hx 4 _ rfl
  simp only [List.getElem_toArray, List.getElem_cons_zero, List.getElem_cons_succ] at g2 g3 g4
  simp only [List.getElem_toArray, List.getElem_cons_zero, List.getElem_cons_succ, cells_ints, cells_int, cells_u64, cells_point, List.drop_zero, List.drop_succ_cons, List.take_succ_cons, List.take_zero] at h0 h1 h2 h3 h4
  obtain ⟨sl, k0, _, w0⟩ := DataW.trod_int Try.underlying3 h0
  obtain ⟨hd, k1, _, w1⟩ := DataW.trod_int Try.underlying32 h1
  obtain ⟨se, sr, k2, a2, b2⟩ := rd_point h2 g2
  obtain ⟨te, tr, k3, a3, b3⟩ := rd_point h3 g3
  obtain ⟨A, n, c, zs, k4, ga, gu⟩ := rd_ints (k := .i64) (B := 8) Try.underlying41 Try.underlying3 (by kernel_rfl) (by kernel_rfl) h4 g4
  injection k0 with k0
  injection k1 with k1
  injection k4 with k4
  simp only [List.cons.injEq, and_true] at k2 k3
  exact ⟨sl, hd, se, sr, te, tr, A, n, c, zs, by rw [k0, k1, k2.1, k2.2, k3.1, k3.2, k4], ⟨w0, w1, ⟨a2, b2⟩, ⟨a3, b3⟩, ga⟩⟩
theorem rd_act10 {fuel : Nat} {cs : List Value} {x : DataW H × List MemPlace} (hf : DataW.trod enc Try.prog w base (fun _ => true) held fuel 45 cs = some x) (hwt : ∀ m ∈ x.1.weights Try.prog 45, m ≤ reachBytes) :
    ∃ a : DV, cs = [.int .u8 a.op, .int .u8 a.sl, .int .i64 a.vs, .int .u64 a.vh, .int .i64 a.vse, .int .u64 a.vsr, .int .i64 a.vte, .int .u64 a.vtr, .slice a.A a.n a.c] ∧ DeedIn w a := by
  obtain ⟨hl, m, hx⟩ := rd_struct Try.underlying45 hf hwt
  rw [cells_act10] at hl
  match cs, hl with
  | [v0, v1, v2, v3, v4, v5, v6, v7, v8], _ =>
    obtain ⟨y0, h0, _, _⟩ := hx 0 _ rfl
    obtain ⟨y1, h1, _, _⟩ := hx 1 _ rfl
    obtain ⟨y2, h2, g2, _⟩ := hx 2 _ rfl
    simp only [List.getElem_toArray, List.getElem_cons_zero, List.getElem_cons_succ] at g2
    simp only [List.getElem_toArray, List.getElem_cons_zero, List.getElem_cons_succ, cells_u8, cells_vote, List.drop_zero, List.drop_succ_cons, List.take_succ_cons, List.take_zero] at h0 h1 h2
    obtain ⟨a0, k0, _, w0⟩ := DataW.trod_int Try.underlying5 h0
    obtain ⟨a1, k1, _, w1⟩ := DataW.trod_int Try.underlying5 h1
    obtain ⟨sl, hd, se, sr, te, tr, A, n, c, zs, k2, hv⟩ := rd_vote h2 g2
    injection k0 with k0
    injection k1 with k1
    simp only [List.cons.injEq, and_true] at k2
    obtain ⟨q2, q3, q4, q5, q6, q7, q8⟩ := k2
    refine ⟨⟨a0, a1, sl, hd, se, sr, te, tr, A, n, c, zs⟩, by rw [k0, k1, q2, q3, q4, q5, q6, q7, q8], ⟨Kd.C_of_reads (d := (0 : Int)) (h1 := fun _ => rfl) hv.row.reads, hv.row.le, ?_, bd_u8 w0, bd_u8 w1, bd_i64 hv.ws, bd_i64 hv.s.1⟩⟩
    have := hv.row.size
    show n ≤ 17592186043904
    omega
theorem open_acts {rr : Reach} {b0 : Nat} {v : Value} {d : DataW H} {ps : List MemPlace} (hv : Value.okWide Try.prog w rr b0 25 v) (h : DataW.Trod enc Try.prog w base (fun _ => true) held 25 v d ps) (hwt : ∀ m ∈ d.weights Try.prog 25, m ≤ reachBytes) :
    ∃ A n c f, v = .slice A n c ∧ ActsArg w A n c f := by
  obtain ⟨a, l, c, rfl⟩ := okWide_slice Try.underlying25 hv
  obtain ⟨fuel, hf⟩ := h
  rcases open_slice Try.underlying25 hf with ⟨hcs, hx⟩ | ⟨a', len, cap, m, n, D, Pl, hcs, _, hl, hm, hmm, hx, hel⟩
  · simp [Value.cells] at hcs
    obtain ⟨rfl, rfl, rfl⟩ := hcs
    exact ⟨none, 0, 0, fun _ => ⟨0, 0, 0, 0, 0, 0, 0, 0, none, 0, 0, []⟩, rfl, Nat.le_refl _, by omega, fun k hk => absurd hk (by omega)⟩
  · simp [Value.cells] at hcs
    obtain ⟨rfl, rfl, rfl⟩ := hcs
    simp only [if_true] at hmm
    subst hmm
    have hd : d = .slice ((List.range l).map D) ((List.range (m - l)).map fun j => D (l + j)) := congrArg Prod.fst hx
    have hw : ∀ i, i < l → ∀ q ∈ (D i).weights Try.prog 45, q ≤ reachBytes := fun i hi q hq => by
      refine hwt q ?_
      rw [hd]
      simp only [DataW.weights, Try.underlying25, List.mem_cons, List.mem_append]
      exact .inr (.inl (weights_all_mem hq _ (List.mem_map_of_mem (List.mem_range.2 hi))))
    obtain ⟨f, hf⟩ := choose_lt (α := DV) (p := fun i y => DeedAt w a' i y ∧ DeedIn w y) (n := l) (fun i hi => by
      obtain ⟨cs', h1, h2⟩ := hel i (by omega)
      obtain ⟨y, rfl, hin⟩ := rd_act10 h2 (hw i hi)
      obtain ⟨_, _, hc⟩ := World.cells?_some h1
      rw [cells_act10] at hc
      have g0 := hc 0 (by omega)
      have g1 := hc 1 (by omega)
      have g2 := hc 2 (by omega)
      have g3 := hc 3 (by omega)
      have g4 := hc 4 (by omega)
      have g5 := hc 5 (by omega)
      have g6 := hc 6 (by omega)
      have g7 := hc 7 (by omega)
      have g8 := hc 8 (by omega)
      simp only [Addr.add_add] at g0 g1 g2 g3 g4 g5 g6 g7 g8
      refine ⟨y, ⟨?_, ?_, ?_, ?_, ?_, ?_, ?_, ?_, ?_⟩, hin⟩
      · simpa using g0
      · rw [← add_field _ _ 1 (by omega)]; simpa using g1
      · rw [← add_field _ _ 2 (by omega)]; simpa using g2
      · rw [← add_field _ _ 3 (by omega)]; simpa using g3
      · rw [← add_field _ _ 4 (by omega)]; simpa using g4
      · rw [← add_field _ _ 5 (by omega)]; simpa using g5
      · rw [← add_field _ _ 6 (by omega)]; simpa using g6
      · rw [← add_field _ _ 7 (by omega)]; simpa using g7
      · rw [← add_field _ _ 8 (by omega)]; simpa using g8)
    exact ⟨some a', l, m, f, rfl, hl, by unfold maxLen at hm; omega, fun k hk => ⟨a', rfl, hf k hk⟩⟩
end
end Go.Proofs.Ytiklbldanidfiaa.Open
