/-
  The walks of the laws of package psephoslaw01: each law's call answers true, and writes nothing that was there; of slices that are read as they came.
-/
import Derived.Test.YtaglcnnanomekaaOctet2
import Derived.Lib.SlBytesConst
namespace Go.Proofs.Ytaglcnnanomekaa.Law01
open Go.RowKit Go.Proofs.YtaglcnnanomekaaW.PrintWords Go.Proofs.Ytaglcnnanomekaa.Own Go.Proofs.Ytaglcnnanomekaa.Octet
attribute [local go_sem] max2_is min2_is max_pair min_pair

theorem str_of (A : Option Addr) (n c : Nat) (xs : List Int) (W : World) (h : ReadsInt W .u8 A n xs) : (convert 22 9 (.slice A n c)).run Try.prog W = .ok (.string (strOfNums xs)) W :=
  string_of_reads Try.underlying22 Try.underlying5 Try.underlying9 h

theorem reads_lit (W : World) (k : IntKind) (xs : List Int) (e : TypeId) (fr : Nat × Nat) (h : xs.length ≤ 9223372036854775807) : ReadsInt (W.alloc (.cells (nums k xs).toArray e fr)) k (some ⟨W.heap.size, 0, none⟩) xs.length xs := by
  refine ⟨rfl, h, fun _ => ⟨_, rfl, fun j hj => ?_⟩⟩
  rw [add_plain, World.cell?_alloc_mark]
  simp [nums, List.getElem?_eq_getElem hj, List.getD_eq_getElem?_getD]

theorem reads_one (w : World) (k : IntKind) (xs : List Int) (e : TypeId) (fr : Nat × Nat) (o : Obj) (h : xs.length ≤ 9223372036854775807) : ReadsInt ((w.alloc (.cells (nums k xs).toArray e fr)).alloc o) k (some ⟨w.heap.size, 0, none⟩) xs.length xs := (reads_lit w k xs e fr h).allocS o
theorem reads_two (w : World) (k : IntKind) (xs : List Int) (e : TypeId) (fr : Nat × Nat) (o : Obj) (h : xs.length ≤ 9223372036854775807) : ReadsInt ((w.alloc o).alloc (.cells (nums k xs).toArray e fr)) k (some ⟨w.heap.size + 1, 0, none⟩) xs.length xs := by
  have := reads_lit (w.alloc o) k xs e fr h
  rwa [World.size_alloc] at this
theorem first_below (A : Option Addr) (n c : Nat) (xs : List Int) (A' : Option Addr) (n' c' : Nat) (bs : List Int) (w : World) (ha : ReadsInt w .u8 A n xs) (hb : ReadsInt w .u8 A' n' bs) :
    Calls Try.prog 13 #[.slice A n c, .slice A' n' c'] w fun e w' => e = .returned (.int .i64 (first xs bs)) ∧ Below w.heap.size w w' :=
  (first_calls A n c xs A' n' c' bs w ha hb).mono fun _ _ ⟨he, q, hq⟩ => ⟨he, by rw [hq]; exact pw_below_drewN (Below.refl _ _) q⟩
theorem conv_at (w : World) (C : Array Value) (n c g : Nat) (h : g = w.heap.size) : (convert 22 22 (.slice (some ⟨g, 0, none⟩) n c)).run Try.prog (w.alloc (.cells C 5)) = .ok (.slice (some ⟨g, 0, none⟩) n c) (w.alloc (.cells C 5 (C.size, C.size + 1))) := by
  subst h
  exact Lib.run_convert_bytes_const (P := Try.prog) w 22 5 C n c Try.underlying22 Try.underlying5
theorem awake_calls (w : World) : Calls Try.prog 10 #[] w fun e w' => e = .returned (.bool true) ∧ Below w.heap.size w w' := by
  have kc := conv_at
  have hp := put_calls none 0 0 [] (some ⟨w.heap.size, 0, none⟩) 1 1 [1] _ ⟨rfl, by omega, fun h => absurd h (by omega)⟩ (reads_lit w .u64 [1] 26 (0, 0) (by decide)) (by simp) (by omega)
  have e1 : put [] [1] = [0, 0, 0, 0, 0, 0, 0, 1] := by decide
  rw [e1] at hp
  have HP := Aside0.mk hp
  clear hp e1
  go_enter Try.func10, Try.ntmps10
  go_wp2_with fail
  refine HP.out.mono ?_
  rintro e w1 ⟨v, rfl, ho, hb⟩
  obtain ⟨A, c, hv, hR⟩ := own_reads ho
  subst hv
  have hs := str_of A 8 c _ w1 hR
  rw [show strOfNums [0, 0, 0, 0, 0, 0, 0, 1] = ⟨#[0, 0, 0, 0, 0, 0, 0, 1]⟩ from rfl] at hs
  have HB := Aside0.mk (below_then (below_alloc (Below.refl w.heap.size w) (.cells #[.int .u64 1] 26)) (by simp) hb)
  clear hR ho hb HP
  go_wp2_with fail
  refine (first_below _ _ _ [97, 98] _ _ _ [97, 99] _ (reads_one w1 .u8 [97, 98] 5 (2, 3) _ (by decide)) (reads_two w1 .u8 [97, 99] 5 (2, 3) _ (by decide))).mono ?_
  rintro e w2 ⟨rfl, hb2⟩
  rw [show first [97, 98] [97, 99] = 1 by decide]
  have HB2 := Aside0.mk (below_then (below_alloc (below_alloc HB.out _) _) (by simp; have := HB.out.size; omega) hb2)
  clear HB hb2
  go_wp2_with fail
  refine (first_below _ _ _ [97] _ _ _ [97, 98] _ (reads_one w2 .u8 [97] 5 (1, 2) _ (by decide)) (reads_two w2 .u8 [97, 98] 5 (2, 3) _ (by decide))).mono ?_
  rintro e w3 ⟨rfl, hb3⟩
  rw [show first [97] [97, 98] = 1 by decide]
  have HB3 := Aside0.mk (below_then (below_alloc (below_alloc HB2.out _) _) (by simp; have := HB2.out.size; omega) hb3)
  clear HB2 hb3
  go_wp2_with fail
  go_ret
  exact ⟨rfl, HB3.out⟩
end Go.Proofs.Ytaglcnnanomekaa.Law01
