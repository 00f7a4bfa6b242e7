/-
  Plain laws on numbers as bytes: a number's bytes are the number, and of two numbers the bytes that are greater where they differ first are the greater one's; no condition but that the numbers are of 64 bits.
-/
import Derived.Test.YtaglcnnanomekaaOctet2
namespace Go.Proofs.Ytaglcnnanomekaa.Octet
open Go.RowKit Go.Proofs.YtaglcnnanomekaaW.PrintWords Go.Proofs.Ytaglcnnanomekaa.Own

theorem foldl_from (l : List Int) (a : Int) : l.foldl (fun n c => n * 256 + c) a = a * 256 ^ l.length + numOf l := by
  induction l generalizing a with
  | nil => simp [numOf]
  | cons x l ih =>
    simp only [List.foldl_cons, List.length_cons, numOf]
    rw [ih, ih (0 * 256 + x), Int.zero_mul, Int.zero_add, Int.pow_succ, Int.add_mul, Int.mul_assoc, Int.mul_comm 256]
    omega
theorem numOf_cons (x : Int) (l : List Int) : numOf (x :: l) = x * 256 ^ l.length + numOf l := by
  show l.foldl _ (0 * 256 + x) = _
  rw [foldl_from]
  congr 2
  omega
theorem numOf_lt (l : List Int) (h : ∀ z ∈ l, 0 ≤ z ∧ z ≤ 255) : 0 ≤ numOf l ∧ numOf l < 256 ^ l.length := by
  have := numOf_take_lt l h l.length (Nat.le_refl _)
  rwa [List.take_length] at this
theorem order (l m : List Int) (hl : ∀ z ∈ l, 0 ≤ z ∧ z ≤ 255) (hm : ∀ z ∈ m, 0 ≤ z ∧ z ≤ 255) (he : l.length = m.length) (k : Nat) :
    (l = m ∧ firstAt l m k = -1) ∨ ∃ i : Nat, i < l.length ∧ firstAt l m k = ((k + i : Nat) : Int) ∧ rd l i ≠ rd m i ∧ numOf l ≠ numOf m ∧ (rd m i < rd l i ↔ numOf m < numOf l) := by
  induction l generalizing m k with
  | nil =>
    cases m with
    | nil => exact .inl ⟨rfl, rfl⟩
    | cons y m => simp at he
  | cons x l ih =>
    cases m with
    | nil => simp at he
    | cons y m =>
      have he' : l.length = m.length := by simpa using he
      rw [firstAt]
      by_cases hxy : x = y
      · rw [if_pos hxy]
        rcases ih m (fun z hz => hl z (List.mem_cons_of_mem _ hz)) (fun z hz => hm z (List.mem_cons_of_mem _ hz)) he' (k + 1) with ⟨h1, h2⟩ | ⟨i, h1, h2, h3, h4, h5⟩
        · exact .inl ⟨by rw [hxy, h1], h2⟩
        · refine .inr ⟨i + 1, by simp; omega, by rw [h2]; congr 1; omega, ?_, ?_, ?_⟩
          · simpa [rd, show ((i : Int) + 1).toNat = i + 1 by omega] using h3
          · rw [numOf_cons, numOf_cons, hxy, he']; omega
          · rw [numOf_cons, numOf_cons, hxy, he']
            have : (rd (y :: m) ((i + 1 : Nat) : Int) < rd (y :: l) ((i + 1 : Nat) : Int)) ↔ rd m i < rd l i := by
              simp [rd, show ((i : Int) + 1).toNat = i + 1 by omega]
            rw [this, h5]
            omega
      · rw [if_neg hxy]
        have b1 := numOf_lt l (fun z hz => hl z (List.mem_cons_of_mem _ hz))
        have b2 := numOf_lt m (fun z hz => hm z (List.mem_cons_of_mem _ hz))
        rw [← he'] at b2
        have key : numOf (y :: m) ≠ numOf (x :: l) ∧ (y < x ↔ numOf (y :: m) < numOf (x :: l)) := by
          rw [numOf_cons, numOf_cons, ← he']
          generalize (256 : Int) ^ l.length = P at b1 b2 ⊢
          rcases Int.lt_or_lt_of_ne hxy with h | h
          · have : (x + 1) * P ≤ y * P := Int.mul_le_mul_of_nonneg_right (by omega) (by omega)
            rw [Int.add_mul, Int.one_mul] at this
            omega
          · have : (y + 1) * P ≤ x * P := Int.mul_le_mul_of_nonneg_right (by omega) (by omega)
            rw [Int.add_mul, Int.one_mul] at this
            omega
        exact .inr ⟨0, by simp, by simp, by simpa [rd] using hxy, Ne.symm key.1, by simpa [rd] using key.2⟩

theorem be8_octs (n : Int) : ∀ z ∈ be8 n, 0 ≤ z ∧ z ≤ 255 := by
  intro z hz
  simp only [be8, List.mem_map] at hz
  obtain ⟨j, _, rfl⟩ := hz
  unfold byteAt
  omega
theorem numOf_be8 (n : Int) (h0 : 0 ≤ n) (h1 : n ≤ 18446744073709551615) : numOf (be8 n) = n := by
  simp only [be8, byteAt, numOf, List.range, List.range.loop, List.map_cons, List.map_nil, List.foldl_cons, List.foldl_nil]
  simp only [Nat.reduceMul, Nat.reduceSub, Int.reducePow]
  omega
end Go.Proofs.Ytaglcnnanomekaa.Octet
