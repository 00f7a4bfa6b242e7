/-
  What the functions of package epoch come to: a slot's epoch, an epoch's first slot, whether a slot is the first one, the epochs that end; of slots that are whole numbers of 64 bits.
-/
import Derived.Test.YtnfmpedmhallmaaProg
import Derived.Test.YtnfmpedmhallmaaOwn
import Derived.Maps.AppendAt
namespace Go.Proofs.Ytnfmpedmhallmaa.Epoch
open Go.RowKit Go.Proofs.YtnfmpedmhallmaaW.PrintWords Go.Proofs.Ytnfmpedmhallmaa.Own
attribute [local go_sem] max2_is min2_is max_pair min_pair
theorem info_int : (Try.prog.info? 3).map (fun i => (i.zero, i.size, i.bytes)) = some (some (.int .i64 0), 1, 8) := by kernel_rfl

/-- A slot's epoch. -/
def of (s n : Int) : Int := max 0 s / max 1 n
theorem of_nonneg (s n : Int) : 0 ≤ of s n := Int.ediv_nonneg (by omega) (by omega)
theorem of_le (s n : Int) : of s n ≤ max 0 s := Int.ediv_le_self _ (by omega)

theorem of_calls (s n : Int) (w : World) (hs : s ≤ 9223372036854775807) :
    Calls Try.prog 11 #[.int .i64 s, .int .i64 n] w fun e w' => e = .returned (.int .i64 (of s n)) ∧ w = w' := by
  go_enter Try.func11, Try.ntmps11
  go_wp2
  go_ret
  exact ⟨rfl, rfl⟩

theorem start_calls (e n : Int) (w : World) :
    Calls Try.prog 12 #[.int .i64 e, .int .i64 n] w fun x w' => x = .returned (.int .i64 (wrap64 (max 0 e * max 1 n))) ∧ w = w' := by
  go_enter Try.func12, Try.ntmps12
  go_wp2
  go_ret
  exact ⟨rfl, rfl⟩

/-- Is a slot its epoch's first one? -/
def first (s n : Int) : Bool := decide (0 ≤ s ∧ s % max 1 n = 0)
theorem first_calls (s n : Int) (w : World) (hs : s ≤ 9223372036854775807) :
    Calls Try.prog 13 #[.int .i64 s, .int .i64 n] w fun e w' => e = .returned (.bool (first s n)) ∧ w = w' := by
  by_cases h : 0 ≤ s
  · go_enter Try.func13, Try.ntmps13
    go_wp2
    go_ret
    exact ⟨ret_bool (by rw [Bool.eq_iff_iff]; simp [first, h]), rfl⟩
  · go_enter Try.func13, Try.ntmps13
    go_wp2
    go_ret
    exact ⟨ret_bool (by simp [first]; omega), rfl⟩

/-- So many numbers from a on. -/
def rng (a : Int) (c : Nat) : List Int := (List.range c).map (fun j : Nat => a + (j : Int))
theorem rng_length (a : Int) (c : Nat) : (rng a c).length = c := by simp [rng]
theorem rng_succ (a : Int) (c : Nat) : rng a (c + 1) = rng a c ++ [a + (c : Int)] := by simp [rng, List.range_succ]
theorem rng_getD (a : Int) (c j : Nat) (h : j < c) : (rng a c).getD j 0 = a + (j : Int) := by
  simp [rng, List.getD_eq_getElem?_getD, List.getElem?_map, List.getElem?_range h]
theorem rng_getElem? (a : Int) (c j : Nat) (h : j < c) : (rng a c)[j]? = some (a + (j : Int)) := by
  simp [rng, List.getElem?_map, List.getElem?_range h]
/-- How many epochs are told. -/
def many (a b : Int) : Nat := min (b - a).toNat 4096
theorem many_le (a b : Int) : many a b ≤ 4096 := by unfold many; omega
/-- The epochs that end between two slots. -/
def ends (s t n : Int) : List Int := rng (of s n) (many (of s n) (of t n))
theorem ends_length (s t n : Int) : (ends s t n).length = many (of s n) (of t n) := rng_length _ _

theorem ends_calls (s t n : Int) (w : World) (hs : s ≤ 9223372036854775807) (ht : t ≤ 9223372036854775807) :
    Calls Try.prog 10 #[.int .i64 s, .int .i64 t, .int .i64 n] w fun e w' =>
      ∃ v, e = .returned v ∧ w'.ownsRow w.heap.size 3 1 v (ends s t n).length (nums .i64 (ends s t n)) ∧ Below w.heap.size w w' := by
  have a0 := of_nonneg s n
  have b0 := of_nonneg t n
  have b1 := of_le t n
  unfold ends
  obtain ⟨a, ha⟩ : ∃ a, a = of s n := ⟨_, rfl⟩
  obtain ⟨b, hb⟩ : ∃ b, b = of t n := ⟨_, rfl⟩
  rw [← ha, ← hb]
  rw [← ha] at a0
  rw [← hb] at b0 b1
  have HA : Aside0 (of s n = a) := ⟨ha.symm⟩
  have HBB : Aside0 (of t n = b) := ⟨hb.symm⟩
  clear ha hb
  have hm := many_le a b
  go_enter Try.func10, Try.ntmps10
  go_wp2_with (go_at_call 11; refine (of_calls s n _ hs).mono ?_; rintro e w' ⟨rfl, rfl⟩; rw [HA.out])
  go_loopw [7, 8] (fun v x wr => ∃ (j : Nat) (L : List Int), j ≤ many a b ∧ x = .int .i64 (a + (j : Int)) ∧ Aside0 (L = rng a j) ∧ Aside0 (wr.ownsRow w.heap.size 3 1 v L.length (nums .i64 L)) ∧ Aside0 (Below w.heap.size w wr))
    (fun _ x _ => (b - intOf x).toNat)
  case atStart => exact ⟨0, [], Nat.zero_le _, by go_num, ⟨rfl⟩, ⟨own_nil _ _ _ _⟩, ⟨Below.refl _ _⟩⟩
  case round =>
    obtain ⟨j, L, hj, rfl, HL, HO, HB⟩ := hrel
    have hl : L.length = j := by rw [HL.out]; exact rng_length a j
    obtain ⟨A, c, hv⟩ := own_slice HO.out
    subst hv
    by_cases hlt : j < many a b
    · have h1 : decide (a + (j : Int) < b) = true := decide_eq_true (by unfold many at hlt; omega)
      have h2 : decide ((L.length : Int) < 4096) = true := decide_eq_true (by unfold many at hlt; omega)
      have h3 : a + (j : Int) ≤ 9223372036854775806 := by unfold many at hlt; omega
      have HC : Aside0 (L.length = j ∧ j < many a b) := ⟨hl, hlt⟩
      clear hl hlt hm
      go_wp2_with (first
        | (go_at_call 11; refine (of_calls t n _ ht).mono ?_; rintro e w' ⟨rfl, rfl⟩; rw [HBB.out])
        | (at_builtin; refine print_append_num (w0 := w) w.heap.size rfl (.tmp 24) (.tmp 26) 25 3 .i64 8 rfl Try.underlying25 info_int (by omega) _ L (a + (j : Int)) rfl rfl HO.out HB.out HB.out.size (by have := HC.out; have := many_le a b; omega) ?_; intro v1 w1 hown HB1 hg hat))
      go_roundw
      case rel => exact ⟨j + 1, L ++ [a + (j : Int)], HC.out.2, by go_num, ⟨by rw [HL.out, rng_succ]⟩, ⟨hown⟩, ⟨HB1⟩⟩
      case measure => simp [intOf]; have := HC.out.2; unfold many at this; omega
    · have HC : Aside0 (j = many a b) := ⟨by omega⟩
      by_cases hx : a + (j : Int) < b
      · have h1 : decide (a + (j : Int) < b) = true := decide_eq_true hx
        have h2 : decide ((L.length : Int) < 4096) = false := decide_eq_false (by unfold many at hlt; omega)
        clear hl hlt hm hx
        go_wp2_with (go_at_call 11; refine (of_calls t n _ ht).mono ?_; rintro e w' ⟨rfl, rfl⟩; rw [HBB.out])
        go_ret
        exact ⟨_, rfl, by rw [← HC.out, ← HL.out]; exact HO.out, HB.out⟩
      · have h1 : decide (a + (j : Int) < b) = false := decide_eq_false hx
        clear hl hlt hm hx
        go_wp2_with (go_at_call 11; refine (of_calls t n _ ht).mono ?_; rintro e w' ⟨rfl, rfl⟩; rw [HBB.out])
        go_ret
        exact ⟨_, rfl, by rw [← HC.out, ← HL.out]; exact HO.out, HB.out⟩
end Go.Proofs.Ytnfmpedmhallmaa.Epoch
