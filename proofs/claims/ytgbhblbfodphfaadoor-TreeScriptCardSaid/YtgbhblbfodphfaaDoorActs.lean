/-
  What an argument of type []psephoslaw09.Act reads as: rows of four octets. No condition.
-/
import Derived.Test.YtgbhblbfodphfaaDoorOpen
namespace Go.Proofs.YtgbhblbfodphfaaDoor.Open
open Go.ChangeShapes Go.WideShapes Go.ChangeAt Go.RowKit Go.Deep Go.Proofs.YtgbhblbfodphfaaDoorW.PrintWords Go.Proofs.YtgbhblbfodphfaaDoor.Own
set_option maxRecDepth 100000

theorem cells_act : Tryd.prog.cellsOf 41 = 4 := by kernel_rfl
theorem cells_u8 : Tryd.prog.cellsOf 5 = 1 := by kernel_rfl
/-- The k-th deed: its four octets lie there, and are octets. -/
structure DeedAt (w : World) (ad : Addr) (k : Nat) (a : Int × Int × Int × Int) : Prop where
  c0 : w.cell? (ad.add (k * 4)) = some (.int .u8 a.1)
  c1 : w.cell? ⟨(ad.add (k * 4)).block, (ad.add (k * 4)).off + 1, none⟩ = some (.int .u8 a.2.1)
  c2 : w.cell? ⟨(ad.add (k * 4)).block, (ad.add (k * 4)).off + 2, none⟩ = some (.int .u8 a.2.2.1)
  c3 : w.cell? ⟨(ad.add (k * 4)).block, (ad.add (k * 4)).off + 3, none⟩ = some (.int .u8 a.2.2.2)
  b0 : 0 ≤ a.1 ∧ a.1 ≤ 255
  b1 : 0 ≤ a.2.1 ∧ a.2.1 ≤ 255
  b2 : 0 ≤ a.2.2.1 ∧ a.2.2.1 ≤ 255
  b3 : 0 ≤ a.2.2.2 ∧ a.2.2.2 ≤ 255
structure ActsArg (w : World) (A : Option Addr) (n c : Nat) (f : Nat → Int × Int × Int × Int) : Prop where
  le : n ≤ c
  cap : c ≤ 9223372036854775807
  at_ : ∀ k, k < n → ∃ ad, A = some ad ∧ DeedAt w ad k (f k)
theorem cell_below {w w' : World} (hb : Below w.heap.size w w') {a : Addr} {v : Value} (h : w.cell? a = some v) : w'.cell? a = some v := by
  have hlt : a.block < w.heap.size := by
    refine Nat.lt_of_not_le fun hle => ?_
    have : w.heap[a.block]? = none := Array.getElem?_eq_none hle
    unfold World.cell? at h
    rw [this] at h
    cases h
  unfold World.cell? at h ⊢
  rw [hb.block _ hlt]
  exact h
theorem DeedAt.below {w w' : World} {ad : Addr} {k : Nat} {a : Int × Int × Int × Int} (h : DeedAt w ad k a) (hb : Below w.heap.size w w') : DeedAt w' ad k a :=
  ⟨cell_below hb h.c0, cell_below hb h.c1, cell_below hb h.c2, cell_below hb h.c3, h.b0, h.b1, h.b2, h.b3⟩
theorem ActsArg.below {w w' : World} {A : Option Addr} {n c : Nat} {f : Nat → Int × Int × Int × Int} (h : ActsArg w A n c f) (hb : Below w.heap.size w w') : ActsArg w' A n c f :=
  ⟨h.le, h.cap, fun k hk => by obtain ⟨ad, e, hd⟩ := h.at_ k hk; exact ⟨ad, e, hd.below hb⟩⟩
section
variable {H : Type} {enc : TypeId × Value → H} {w : World} {base : Nat} {held : Bool}
theorem rd_act {fuel : Nat} {cs : List Value} {x : DataW H × List MemPlace} (hf : DataW.trod enc Tryd.prog w base (fun _ => true) held fuel 41 cs = some x) :
    ∃ a : Int × Int × Int × Int, cs = [.int .u8 a.1, .int .u8 a.2.1, .int .u8 a.2.2.1, .int .u8 a.2.2.2] ∧ (Lit.int .u8 a.1).wf = true ∧ (Lit.int .u8 a.2.1).wf = true ∧ (Lit.int .u8 a.2.2.1).wf = true ∧ (Lit.int .u8 a.2.2.2).wf = true := by
  obtain ⟨xs, n, _, rfl, hl, hlen, hfs⟩ := DataW.trod_struct Tryd.underlying41 hf
  rw [cells_act] at hl
  match cs, hl with
  | [v0, v1, v2, v3], _ =>
    have hx : ∀ (i : Nat) f, (Tryd.prog.underlying 41).bind (fun d => match d with | .struct fs => fs[i]? | _ => none) = some f → ∃ y, DataW.trod enc Tryd.prog w base (fun _ => true) held n f.type (([v0, v1, v2, v3].drop f.offset).take (Tryd.prog.cellsOf f.type)) = some y := by
      intro i f hi
      rw [Tryd.underlying41] at hi
      have hlt : i < xs.length := by rw [hlen]; exact (Array.getElem?_eq_some_iff.1 hi).1
      exact ⟨xs[i], by rw [hfs i f hi, List.getElem?_eq_getElem hlt]⟩
    rw [Tryd.underlying41] at hx
    obtain ⟨y0, h0⟩ := hx 0 _ rfl
    obtain ⟨y1, h1⟩ := hx 1 _ rfl
    obtain ⟨y2, h2⟩ := hx 2 _ rfl
    obtain ⟨y3, h3⟩ := hx 3 _ rfl
    simp only [List.getElem_toArray, List.getElem_cons_zero, List.getElem_cons_succ, cells_u8, List.drop_zero, List.drop_succ_cons, List.take_succ_cons, List.take_zero] at h0 h1 h2 h3
    obtain ⟨a0, k0, _, w0⟩ := DataW.trod_int Tryd.underlying5 h0
    obtain ⟨a1, k1, _, w1⟩ := DataW.trod_int Tryd.underlying5 h1
    obtain ⟨a2, k2, _, w2⟩ := DataW.trod_int Tryd.underlying5 h2
    obtain ⟨a3, k3, _, w3⟩ := DataW.trod_int Tryd.underlying5 h3
    injection k0 with k0
    injection k1 with k1
    injection k2 with k2
    injection k3 with k3
    exact ⟨(a0, a1, a2, a3), by rw [k0, k1, k2, k3], w0, w1, w2, w3⟩
theorem open_acts {rr : Reach} {b0 : Nat} {v : Value} {d : DataW H} {ps : List MemPlace} (hv : Value.okWide Tryd.prog w rr b0 35 v) (h : DataW.Trod enc Tryd.prog w base (fun _ => true) held 35 v d ps) :
    ∃ A n c f, v = .slice A n c ∧ ActsArg w A n c f := by
  obtain ⟨a, l, c, rfl⟩ := okWide_slice Tryd.underlying35 hv
  obtain ⟨fuel, hf⟩ := h
  rcases open_slice Tryd.underlying35 hf with ⟨hcs, hx⟩ | ⟨a', len, cap, m, n, D, Pl, hcs, _, hl, hm, hmm, hx, hel⟩
  · simp [Value.cells] at hcs
    obtain ⟨rfl, rfl, rfl⟩ := hcs
    exact ⟨none, 0, 0, fun _ => (0, 0, 0, 0), rfl, Nat.le_refl _, by omega, fun k hk => absurd hk (by omega)⟩
  · simp [Value.cells] at hcs
    obtain ⟨rfl, rfl, rfl⟩ := hcs
    simp only [if_true] at hmm
    subst hmm
    obtain ⟨f, hf⟩ := choose_lt (α := Int × Int × Int × Int) (p := fun i y => DeedAt w a' i y) (n := m) (fun i hi => by
      obtain ⟨cs', h1, h2⟩ := hel i hi
      obtain ⟨y, rfl, w0, w1, w2, w3⟩ := rd_act h2
      obtain ⟨_, _, hc⟩ := World.cells?_some h1
      rw [cells_act] at hc
      have g0 := hc 0 (by omega)
      have g1 := hc 1 (by omega)
      have g2 := hc 2 (by omega)
      have g3 := hc 3 (by omega)
      simp only [Addr.add_add] at g0 g1 g2 g3
      refine ⟨y, ⟨?_, ?_, ?_, ?_, bd_u8 w0, bd_u8 w1, bd_u8 w2, bd_u8 w3⟩⟩
      · simpa using g0
      · rw [← add_field _ _ 1 (by omega)]; simpa using g1
      · rw [← add_field _ _ 2 (by omega)]; simpa using g2
      · rw [← add_field _ _ 3 (by omega)]; simpa using g3)
    exact ⟨some a', l, m, f, rfl, hl, by unfold maxLen at hm; omega, fun k hk => ⟨a', rfl, hf k (by omega)⟩⟩
end
end Go.Proofs.YtgbhblbfodphfaaDoor.Open
