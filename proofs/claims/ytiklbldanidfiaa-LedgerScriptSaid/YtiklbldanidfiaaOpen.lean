/-
  What an argument reads as, told by its cells: slices of whole numbers, of bools; their sizes, and their bulk for the second form. No condition of its own.
-/
import Derived.Test.YtiklbldanidfiaaRows
import Derived.Test.YtiklbldanidfiaaOwn
import Derived.ProofKit
import Derived.OpenShut
import Derived.ChangeOld
import Derived.SizedLaws
import Derived.Deep.Slices
namespace Go.Proofs.Ytiklbldanidfiaa.Open
open Go.ChangeShapes Go.WideShapes Go.ChangeAt Go.RowKit Go.Deep Go.Proofs.YtiklbldanidfiaaW.PrintWords Go.Proofs.Ytiklbldanidfiaa.Own

/-- A slice of whole numbers that came in: what it reads as, and how long it is. -/
structure IntsArg (w : World) (k : IntKind) (B : Nat) (A : Option Addr) (n c : Nat) (zs : List Int) : Prop where
  reads : ReadsInt w k A n zs
  le : n ≤ c
  cap : c ≤ 9223372036854775807
  wf : ∀ z ∈ zs, (Lit.int k z).wf = true
  size : n * B ≤ 140737488351232
/-- A slice of bools that came in. -/
structure BoolsArg (w : World) (A : Option Addr) (n c : Nat) (zs : List Bool) : Prop where
  reads : ReadsOf Value.bool false w A n zs
  le : n ≤ c
  cap : c ≤ 9223372036854775807
  size : n ≤ 140737488351232

/-! ### bulk -/
theorem one_le {H : Type} (d : DataW H) : 1 ≤ Rows.uptoBulk d := by
  cases d with
  | lit l => cases l <;> simp [Rows.uptoBulk]
  | nil => simp [Rows.uptoBulk]
  | ptr d => simp [Rows.uptoBulk]
  | slice elems spare => simp [Rows.uptoBulk]
  | agg parts => simp [Rows.uptoBulk]
  | iface t d => simp [Rows.uptoBulk]
  | map entries => simp [Rows.uptoBulk]
  | held h => simp [Rows.uptoBulk]
theorem length_le {H : Type} (l : List (DataW H)) : l.length ≤ Rows.uptoBulkAll l := by
  induction l with
  | nil => simp [Rows.uptoBulkAll]
  | cons x r ih => have := one_le x; simp only [Rows.uptoBulkAll, List.length_cons]; omega
theorem slice_le {H : Type} (elems spare : List (DataW H)) : elems.length + 1 ≤ Rows.uptoBulk (.slice elems spare) := by
  have h1 := length_le elems
  simp only [Rows.uptoBulk]
  omega
theorem part_le {H : Type} {d : DataW H} {l : List (DataW H)} (h : d ∈ l) : Rows.uptoBulk d ≤ Rows.uptoBulkAll l := by
  induction l with
  | nil => cases h
  | cons x r ih =>
    simp only [Rows.uptoBulkAll]
    cases List.mem_cons.1 h with
    | inl e => subst e; omega
    | inr e => have := ih e; omega
theorem bound {H : Type} {l : List (DataW H)} (hk : Rows.uptoSmall H l = true) : Rows.uptoBulkAll l ≤ 1048576 := of_decide_eq_true hk

section
variable {H : Type} {enc : TypeId × Value → H} {P : Program} {w : World} {base : Nat} {held : Bool}

theorem rd_ints {t e : TypeId} {k : IntKind} {B fuel : Nat} {cs : List Value} {x : DataW H × List MemPlace} (ht : P.underlying t = some (.slice e)) (he : P.underlying e = some (.int k)) (hc : P.cellsOf e = 1) (hB : P.bytesOf e = B)
    (hf : DataW.trod enc P w base (fun _ => true) held fuel t cs = some x) (hwt : ∀ m ∈ x.1.weights P t, m ≤ reachBytes) :
    ∃ A n c zs, cs = [.slice A n c] ∧ IntsArg w k B A n c zs ∧ n + 1 ≤ Rows.uptoBulk x.1 := by
  rcases open_ints ht he hc hf with ⟨hcs, hx⟩ | ⟨a, l, c, zs, hcs, _, hl, hm, hz, hx, hcell, hwz⟩
  · subst hx
    refine ⟨none, 0, 0, [], hcs, ⟨⟨rfl, by omega, fun h => absurd h (by omega)⟩, Nat.le_refl _, by omega, by simp, by omega⟩, by simp [Rows.uptoBulk]⟩
  · have hz' : zs.length = c := by simpa using hz
    subst hx
    have hwl : (lits (H := H) k (zs.take l)).length = l := by simp [lits]; omega
    have hwd : (lits (H := H) k (zs.drop l)).length = c - l := by simp [lits]; omega
    have hmx : c ≤ 9223372036854775807 := by unfold maxLen at hm; omega
    refine ⟨some a, l, c, zs.take l, hcs, ⟨⟨by simp; omega, by omega, fun _ => ⟨a, rfl, fun j hj => ?_⟩⟩, hl, hmx, fun z hz => hwz z (List.mem_of_mem_take hz), ?_⟩, ?_⟩
    · rw [hcell j (by omega)]
      simp [List.getD_eq_getElem?_getD, hj]
    · have h1 := hwt ((lits (H := H) k (zs.take l)).length * B + (lits (H := H) k (zs.drop l)).length * B) (by simp [DataW.weights, ht, hB, Nat.add_mul])
      rw [hwl, hwd] at h1
      have : reachBytes = 140737488351232 := by decide
      omega
    · have := slice_le (lits (H := H) k (zs.take l)) (lits (H := H) k (zs.drop l))
      rw [hwl] at this
      exact this

theorem rd_bools {t e : TypeId} {fuel : Nat} {cs : List Value} {x : DataW H × List MemPlace} (ht : P.underlying t = some (.slice e)) (he : P.underlying e = some .bool) (hc : P.cellsOf e = 1) (hB : P.bytesOf e = 1)
    (hf : DataW.trod enc P w base (fun _ => true) held fuel t cs = some x) (hwt : ∀ m ∈ x.1.weights P t, m ≤ reachBytes) :
    ∃ A n c zs, cs = [.slice A n c] ∧ BoolsArg w A n c zs ∧ n + 1 ≤ Rows.uptoBulk x.1 := by
  rcases open_slice1 ht hc hf with ⟨hcs, hx⟩ | ⟨a, l, c, m, n, V, D, Pl, hcs, _, hl, hm, hmm, hx, hcell⟩
  · subst hx
    refine ⟨none, 0, 0, [], hcs, ⟨⟨rfl, by omega, fun h => absurd h (by omega)⟩, Nat.le_refl _, by omega, by omega⟩, by simp [Rows.uptoBulk]⟩
  · simp only [if_true] at hmm
    subst hmm
    have hmx : m ≤ 9223372036854775807 := by unfold maxLen at hm; omega
    have hV : ∀ i, i < m → ∃ b, V i = .bool b := fun i hi => by
      obtain ⟨b, hb, _⟩ := DataW.trod_bool he (hcell i hi).2
      exact ⟨b, by simpa using hb⟩
    refine ⟨some a, l, m, (List.range l).map (fun i => match V i with | .bool b => b | _ => false), hcs, ⟨⟨by simp, by omega, fun _ => ⟨a, rfl, fun j hj => ?_⟩⟩, hl, hmx, ?_⟩, ?_⟩
    · obtain ⟨b, hb⟩ := hV j (by omega)
      rw [(hcell j (by omega)).1]
      simp [List.getD_eq_getElem?_getD, List.getElem?_range hj, hb]
    · subst hx
      have h1 := hwt (l + (m - l)) (by simp [DataW.weights, ht, hB])
      have : reachBytes = 140737488351232 := by decide
      omega
    · subst hx
      have := slice_le ((List.range l).map D) ((List.range (m - l)).map fun j => D (l + j))
      simpa using this

/-- A struct's fields, each with its cells. -/
theorem rd_struct {t : TypeId} {fs : Array Field} {fuel : Nat} {cs : List Value} {x : DataW H × List MemPlace} (ht : P.underlying t = some (.struct fs))
    (hf : DataW.trod enc P w base (fun _ => true) held fuel t cs = some x) (hwt : ∀ m ∈ x.1.weights P t, m ≤ reachBytes) :
    cs.length = P.cellsOf t ∧ ∃ n, ∀ (i : Nat) (f : Field), fs[i]? = some f → ∃ y, DataW.trod enc P w base (fun _ => true) held n f.type ((cs.drop f.offset).take (P.cellsOf f.type)) = some y ∧ (∀ m ∈ y.1.weights P f.type, m ≤ reachBytes) ∧ Rows.uptoBulk y.1 + 1 ≤ Rows.uptoBulk x.1 := by
  obtain ⟨xs, n, _, rfl, hl, hlen, hfs⟩ := DataW.trod_struct ht hf
  refine ⟨hl, n, fun i f hi => ?_⟩
  have hlt : i < xs.length := by rw [hlen]; exact (Array.getElem?_eq_some_iff.1 hi).1
  refine ⟨xs[i], by rw [hfs i f hi, List.getElem?_eq_getElem hlt], fun m hm => hwt m ?_, ?_⟩
  · simp only [DataW.weights, ht]
    exact DataW.weights_mem_each (j := i) (t := f.type) (d := xs[i].1) (by simp [hi]) (by simp [List.getElem?_eq_getElem hlt]) m hm
  · have := part_le (d := xs[i].1) (l := xs.map (·.1)) (List.mem_map_of_mem (List.getElem_mem hlt))
    simp only [Rows.uptoBulk]
    omega

/-- An argument's weights. -/
theorem arg_weights {ts : List TypeId} {ds : List (DataW H)} (h : (DataW.weightsEach P ts ds).all (· ≤ reachBytes) = true) {j : Nat} {t : TypeId} {d : DataW H} (ht : ts[j]? = some t) (hd : ds[j]? = some d) : ∀ m ∈ d.weights P t, m ≤ reachBytes :=
  fun m hm => by simpa using List.all_eq_true.1 h m (DataW.weights_mem_each ht hd m hm)
theorem open_ints_arg {r : Reach} {b0 : Nat} {t e : TypeId} {k : IntKind} {B : Nat} {v : Value} {d : DataW H} {ps : List MemPlace} (ht : P.underlying t = some (.slice e)) (he : P.underlying e = some (.int k)) (hc : P.cellsOf e = 1) (hB : P.bytesOf e = B)
    (hv : Value.okWide P w r b0 t v) (h : DataW.Trod enc P w base (fun _ => true) held t v d ps) (hwt : ∀ m ∈ d.weights P t, m ≤ reachBytes) :
    ∃ A n c zs, v = .slice A n c ∧ IntsArg w k B A n c zs ∧ n + 1 ≤ Rows.uptoBulk d := by
  obtain ⟨a, l, c, rfl⟩ := okWide_slice ht hv
  obtain ⟨fuel, hf⟩ := h
  obtain ⟨A, n, c', zs, hcs, ha, hb⟩ := rd_ints ht he hc hB hf hwt
  simp [Value.cells] at hcs
  obtain ⟨rfl, rfl, rfl⟩ := hcs
  exact ⟨_, _, _, zs, rfl, ha, hb⟩
theorem open_bools_arg {r : Reach} {b0 : Nat} {t e : TypeId} {v : Value} {d : DataW H} {ps : List MemPlace} (ht : P.underlying t = some (.slice e)) (he : P.underlying e = some .bool) (hc : P.cellsOf e = 1) (hB : P.bytesOf e = 1)
    (hv : Value.okWide P w r b0 t v) (h : DataW.Trod enc P w base (fun _ => true) held t v d ps) (hwt : ∀ m ∈ d.weights P t, m ≤ reachBytes) :
    ∃ A n c zs, v = .slice A n c ∧ BoolsArg w A n c zs ∧ n + 1 ≤ Rows.uptoBulk d := by
  obtain ⟨a, l, c, rfl⟩ := okWide_slice ht hv
  obtain ⟨fuel, hf⟩ := h
  obtain ⟨A, n, c', zs, hcs, ha, hb⟩ := rd_bools ht he hc hB hf hwt
  simp [Value.cells] at hcs
  obtain ⟨rfl, rfl, rfl⟩ := hcs
  exact ⟨_, _, _, zs, rfl, ha, hb⟩
end
end Go.Proofs.Ytiklbldanidfiaa.Open
