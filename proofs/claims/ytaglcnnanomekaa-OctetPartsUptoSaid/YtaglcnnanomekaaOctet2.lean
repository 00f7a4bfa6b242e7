/-
  What octet.First, psephoslaw01.number, octet.Get and octet.Small come to: the first place at which bytes differ, the number of at most eight bytes, the number at a place; of slices that are read as they came.
-/
import Derived.Test.YtaglcnnanomekaaOctet
import Derived.Laws.BitsLemmas
namespace Go.Proofs.Ytaglcnnanomekaa.Octet
open Go.RowKit Go.Proofs.YtaglcnnanomekaaW.PrintWords Go.Proofs.Ytaglcnnanomekaa.Own
attribute [local go_sem] max2_is min2_is max_pair min_pair

/-- The first place at which lists differ, counted from k; -1, if they are the same. -/
def firstAt : List Int → List Int → Nat → Int
  | [], [], _ => -1
  | x :: xs, y :: ys, k => if x = y then firstAt xs ys (k + 1) else k
  | _, _, k => k
theorem firstAt_step {a b : List Int} {k : Nat} (ha : k < a.length) (hb : k < b.length) :
    firstAt (a.drop k) (b.drop k) k = if rd a k = rd b k then firstAt (a.drop (k + 1)) (b.drop (k + 1)) (k + 1) else (k : Int) := by
  rw [List.drop_eq_getElem_cons ha, List.drop_eq_getElem_cons hb]
  simp only [firstAt, rd, Int.toNat_natCast, List.getD_eq_getElem?_getD, List.getElem?_eq_getElem ha, List.getElem?_eq_getElem hb, Option.getD_some]
theorem firstAt_end {a b : List Int} {k : Nat} (h : a.length ≤ k ∨ b.length ≤ k) (hk : k ≤ a.length) (hk' : k ≤ b.length) :
    firstAt (a.drop k) (b.drop k) k = if a.length = b.length then -1 else (k : Int) := by
  by_cases ha : k < a.length
  · have hb : b.length = k := by omega
    rw [List.drop_eq_getElem_cons ha, List.drop_of_length_le (by omega : b.length ≤ k), if_neg (by omega)]
    rfl
  · rw [List.drop_of_length_le (by omega : a.length ≤ k)]
    by_cases hb : k < b.length
    · rw [List.drop_eq_getElem_cons hb, if_neg (by omega)]
      rfl
    · rw [List.drop_of_length_le (by omega : b.length ≤ k), if_pos (by omega)]
      rfl
def first (a b : List Int) : Int := firstAt a b 0

theorem first_calls (A : Option Addr) (n c : Nat) (xs : List Int) (A' : Option Addr) (n' c' : Nat) (bs : List Int) (w : World) (ha : ReadsInt w .u8 A n xs) (hb : ReadsInt w .u8 A' n' bs) :
    Calls Try.prog 13 #[.slice A n c, .slice A' n' c'] w fun e w' => e = .returned (.int .i64 (first xs bs)) ∧ ∃ q, w' = w.drewN q := by
  have hn := ha.2.1
  have hn' := hb.2.1
  have HA := Aside0.mk ha
  have HB := Aside0.mk hb
  clear ha hb
  go_enter Try.func13, Try.ntmps13
  go_wp2_with fail
  go_loopw [11] (fun x wr => ∃ (k q : Nat), k ≤ n ∧ k ≤ n' ∧ x = .int .i64 (k : Int) ∧ Aside0 (first xs bs = firstAt (xs.drop k) (bs.drop k) k) ∧ Aside0 (wr = w.drewN q)) (fun x _ => n - (intOf x).toNat)
  case atStart => exact ⟨0, 0, Nat.zero_le _, Nat.zero_le _, rfl, ⟨rfl⟩, ⟨rfl⟩⟩
  case round =>
    obtain ⟨k, q, hk, hk', rfl, HF, HW⟩ := hrel
    obtain rfl := HW.out
    by_cases hlt : k < n ∧ k < n'
    · obtain ⟨h1, h2⟩ := hlt
      obtain ⟨ad, hA, hc⟩ := HA.out.at_ (k : Int) (by omega) (by omega)
      obtain ⟨ad', hA', hc'⟩ := HB.out.at_ (k : Int) (by omega) (by omega)
      rw [Int.toNat_natCast] at hc hc'
      subst hA
      subst hA'
      have hs := firstAt_step (a := xs) (b := bs) (k := k) (by rw [HA.out.1]; exact h1) (by rw [HB.out.1]; exact h2)
      rw [← HF.out] at hs
      obtain ⟨x, hx⟩ : ∃ x, x = rd xs k := ⟨_, rfl⟩
      obtain ⟨y, hy⟩ : ∃ y, y = rd bs k := ⟨_, rfl⟩
      rw [← hx] at hc hs
      rw [← hy] at hc' hs
      clear hx hy
      by_cases he : x = y
      · rw [if_pos he] at hs
        have HS := Aside0.mk hs
        subst he
        clear hs
        have hlt : (k : Int) < min (n : Int) n' := by omega
        go_wp2_with fail
        go_quiet (fail)
        go_wp2_with fail
        go_roundw
        case rel => exact ⟨k + 1, q + nq, by omega, by omega, by go_num, HS, ⟨rfl⟩⟩
        case measure => simp [intOf]; omega
      · rw [if_neg he] at hs
        have HS := Aside0.mk hs
        have hne : (x != y) = true := by simpa using he
        clear hs he
        have hlt : (k : Int) < min (n : Int) n' := by omega
        go_wp2_with fail
        go_quiet (fail)
        go_wp2_with fail
        go_ret
        exact ⟨ret_int HS.out.symm, _, World.drewN_drewN ..⟩
    · have he := firstAt_end (a := xs) (b := bs) (k := k) (by rw [HA.out.1, HB.out.1]; omega) (by rw [HA.out.1]; exact hk) (by rw [HB.out.1]; exact hk')
      rw [← HF.out, HA.out.1, HB.out.1] at he
      have hge : ¬ (k : Int) < min (n : Int) n' := by omega
      by_cases hl : n = n'
      · rw [if_pos hl] at he
        have HE := Aside0.mk he
        subst hl
        clear he hlt
        go_wp2_with fail
        go_ret
        exact ⟨ret_int HE.out.symm, _, rfl⟩
      · rw [if_neg hl] at he
        have HE := Aside0.mk (show first xs bs = min (n : Int) n' by omega)
        have hl' : ((n : Int) == n') = false := by simp; omega
        clear he hlt hl
        go_wp2_with fail
        go_ret
        exact ⟨ret_int HE.out.symm, _, rfl⟩

/-- The number that bytes are. -/
def numOf (l : List Int) : Int := l.foldl (fun n c => n * 256 + c) 0
theorem numOf_snoc (l : List Int) (c : Int) : numOf (l ++ [c]) = numOf l * 256 + c := by simp [numOf, List.foldl_append]
theorem numOf_take_lt (l : List Int) (h : ∀ z ∈ l, 0 ≤ z ∧ z ≤ 255) (k : Nat) (hk : k ≤ l.length) : 0 ≤ numOf (l.take k) ∧ numOf (l.take k) < 256 ^ k := by
  induction k with
  | zero => simp [numOf]
  | succ k ih =>
    have h1 := ih (by omega)
    have h2 := h (l.getD k 0) (by rw [List.getD_eq_getElem?_getD, List.getElem?_eq_getElem (by omega)]; exact List.getElem_mem _)
    rw [take_snoc l k (by omega), numOf_snoc, Int.pow_succ]
    omega
theorem pow_le7 (k : Nat) (h : k ≤ 7) : (256 : Int) ^ k ≤ 72057594037927936 := by
  match k, h with
  | 0, _ => decide
  | 1, _ => decide
  | 2, _ => decide
  | 3, _ => decide
  | 4, _ => decide
  | 5, _ => decide
  | 6, _ => decide
  | 7, _ => decide
theorem rd_mem {l : List Int} {k : Nat} (h : k < l.length) : rd l k ∈ l := by
  unfold rd
  rw [Int.toNat_natCast, List.getD_eq_getElem?_getD, List.getElem?_eq_getElem h]
  exact List.getElem_mem _
theorem numOf_step (l : List Int) (h : ∀ z ∈ l, 0 ≤ z ∧ z ≤ 255) (k : Nat) (hk : k < l.length) (h8 : k < 8) :
    ∃ m y, numOf (l.take k) = m ∧ rd l k = y ∧ 0 ≤ m ∧ m ≤ 72057594037927935 ∧ 0 ≤ y ∧ y ≤ 255 ∧ numOf (l.take (k + 1)) = m * 256 + y := by
  have h1 := numOf_take_lt l h k (by omega)
  have h2 := pow_le7 k (by omega)
  have h3 := h _ (rd_mem hk)
  refine ⟨_, _, rfl, rfl, h1.1, by omega, h3.1, h3.2, ?_⟩
  rw [take_snoc l k hk, numOf_snoc]
  rfl

theorem number_calls (A : Option Addr) (n c : Nat) (bs : List Int) (w : World) (hb : ReadsInt w .u8 A n bs) (h8 : n ≤ 8) (hz : ∀ z ∈ bs, 0 ≤ z ∧ z ≤ 255) :
    Calls Try.prog 12 #[.slice A n c] w fun e w' => e = .returned (.int .u64 (numOf bs)) ∧ w = w' := by
  have HR := Aside0.mk hb
  have HZ := Aside0.mk hz
  clear hb hz
  go_enter Try.func12, Try.ntmps12
  go_wp2_with fail
  go_loop [3, 4] (fun v x => ∃ k : Nat, k ≤ n ∧ x = .int .i64 (k : Int) ∧ v = .int .u64 (numOf (bs.take k))) (fun _ x => n - (intOf x).toNat)
  case atStart => exact ⟨0, Nat.zero_le _, rfl, rfl⟩
  case round =>
    obtain ⟨k, hk, rfl, rfl⟩ := hrel
    by_cases hlt : k < n
    · obtain ⟨ad, hA, hc⟩ := HR.out.at_ (k : Int) (by omega) (by omega)
      rw [Int.toNat_natCast] at hc
      obtain ⟨m, y, hm, hy, m0, m1, y0, y1, hs⟩ := numOf_step bs HZ.out k (by rw [HR.out.1]; exact hlt) (by omega)
      subst hA
      rw [hy] at hc
      rw [hm]
      have HS := Aside0.mk hs
      clear hs hm hy
      go_wp2_with fail
      go_round
      case rel => exact ⟨k + 1, by omega, by go_num, by rw [HS.out]⟩
      case measure => simp [intOf]; omega
    · obtain rfl : k = n := by omega
      have HE := Aside0.mk (show numOf (bs.take k) = numOf bs by rw [List.take_of_length_le (by rw [HR.out.1]; omega)])
      go_wp2_with fail
      go_ret
      exact ⟨ret_int HE.out, rfl⟩

theorem get_no (A : Option Addr) (n c : Nat) (at_ : Int) (w : World) (hn : n ≤ 9223372036854775807) (h : at_ < 0 ∨ (n : Int) - 8 < at_) :
    Calls Try.prog 14 #[.slice A n c, .int .i64 at_] w fun e w' => e = .returned (.tuple #[.int .u64 0, .int .i64 at_, .bool false]) ∧ w = w' := by
  rcases h with h | h
  · go_enter Try.func14, Try.ntmps14
    go_wp2_with fail
    go_ret3
    exact ⟨rfl, rfl⟩
  · by_cases h0 : at_ < 0
    · go_enter Try.func14, Try.ntmps14
      go_wp2_with fail
      go_ret3
      exact ⟨rfl, rfl⟩
    · go_enter Try.func14, Try.ntmps14
      go_wp2_with fail
      go_ret3
      exact ⟨rfl, rfl⟩

theorem get_yes (A : Option Addr) (n c : Nat) (bs : List Int) (p : Nat) (w : World) (hb : ReadsInt w .u8 A n bs) (hnc : n ≤ c) (hz : ∀ z ∈ bs, 0 ≤ z ∧ z ≤ 255) (h : p + 8 ≤ n) :
    Calls Try.prog 14 #[.slice A n c, .int .i64 (p : Int)] w fun e w' => e = .returned (.tuple #[.int .u64 (numOf ((bs.drop p).take 8)), .int .i64 ((p : Int) + 8), .bool true]) ∧ w = w' := by
  have hn := hb.2.1
  obtain ⟨ad, hA, hc⟩ := hb.2.2 (by omega)
  have HC : Aside0 (∀ j, j < 8 → w.cell? ((ad.add p).add j) = some (.int .u8 (rd ((bs.drop p).take 8) j))) := ⟨fun j hj => by
    rw [add_add, hc (p + j) (by omega)]; simp [rd, List.getD_eq_getElem?_getD, List.getElem?_drop, hj]⟩
  have HZ : Aside0 (∀ z ∈ (bs.drop p).take 8, 0 ≤ z ∧ z ≤ 255) := ⟨fun z h => hz z (List.mem_of_mem_drop (List.mem_of_mem_take h))⟩
  have HL : Aside0 (((bs.drop p).take 8).length = 8) := ⟨by rw [List.length_take, List.length_drop, hb.1]; omega⟩
  subst hA
  clear hb hc hz
  go_enter Try.func14, Try.ntmps14
  go_wp2_with fail
  go_loop [7, 26] (fun v x => ∃ k : Nat, k ≤ 8 ∧ x = .int .i64 (k : Int) ∧ v = .int .u64 (numOf (((bs.drop p).take 8).take k))) (fun _ x => 8 - (intOf x).toNat)
  case atStart => exact ⟨0, Nat.zero_le _, rfl, rfl⟩
  case round =>
    obtain ⟨k, hk, rfl, rfl⟩ := hrel
    by_cases hlt : k < 8
    · have hc := HC.out k hlt
      obtain ⟨m, y, hm, hy, m0, m1, y0, y1, hs⟩ := numOf_step _ HZ.out k (by rw [HL.out]; exact hlt) hlt
      rw [hy] at hc
      rw [hm]
      have HS := Aside0.mk hs
      clear hs hm hy
      have hor : bits .or .u64 (m * 256) y = m * 256 + y := bits_join .u64 64 (by decide) (fun n h h' => by simp [IntKind.wrap, IntKind.bits, IntKind.signed]; omega) 8 (m * 256) y (by omega) (by omega) (by omega) (by omega) (by omega) (by omega)
      have hsh : IntKind.u64.wrap (m * 256) = m * 256 := by simp [IntKind.wrap, IntKind.bits, IntKind.signed]; omega
      go_wp2_with fail
      go_round
      case rel => exact ⟨k + 1, by omega, by go_num, by rw [HS.out]⟩
      case measure => simp [intOf]; omega
    · have HE := Aside0.mk (show numOf (((bs.drop p).take 8).take k) = numOf ((bs.drop p).take 8) by rw [List.take_of_length_le (i := k) (by rw [HL.out]; omega)])
      go_wp2_with fail
      go_ret3
      exact ⟨by rw [HE.out]; rfl, rfl⟩

theorem small_no (A : Option Addr) (n c : Nat) (p most : Int) (w : World) (hn : n ≤ 9223372036854775807) (h : p < 0 ∨ (n : Int) - 8 < p) :
    Calls Try.prog 15 #[.slice A n c, .int .i64 p, .int .i64 most] w fun e w' => e = .returned (.tuple #[.int .i64 0, .int .i64 p, .bool false]) ∧ w = w' := by
  have H := Aside0.mk (get_no A n c p w hn h)
  clear h hn
  go_enter Try.func15, Try.ntmps15
  go_wp2_with (go_at_call 14; refine H.out.mono ?_; rintro e w' ⟨rfl, rfl⟩)
  go_ret3
  exact ⟨rfl, rfl⟩
theorem small_at (A : Option Addr) (n c : Nat) (bs : List Int) (p : Nat) (most : Int) (w : World) (hb : ReadsInt w .u8 A n bs) (hnc : n ≤ c) (hz : ∀ z ∈ bs, 0 ≤ z ∧ z ≤ 255) (h : p + 8 ≤ n) (hm : -9223372036854775808 ≤ most ∧ most ≤ 9223372036854775807) :
    Calls Try.prog 15 #[.slice A n c, .int .i64 (p : Int), .int .i64 most] w fun e w' =>
      e = .returned (if most < 0 ∨ most < numOf ((bs.drop p).take 8) then .tuple #[.int .i64 0, .int .i64 (p : Int), .bool false] else .tuple #[.int .i64 (numOf ((bs.drop p).take 8)), .int .i64 ((p : Int) + 8), .bool true]) ∧ w = w' := by
  have H := Aside0.mk (get_yes A n c bs p w hb hnc hz h)
  have h0 := numOf_take_lt ((bs.drop p).take 8) (fun z h => hz z (List.mem_of_mem_drop (List.mem_of_mem_take h))) 8 (by rw [List.length_take, List.length_drop, hb.1]; omega)
  rw [List.take_take, Nat.min_self] at h0
  have hpn : (p : Int) ≤ 9223372036854775807 := by have := hb.2.1; omega
  obtain ⟨m, hmm⟩ : ∃ m, m = numOf ((bs.drop p).take 8) := ⟨_, rfl⟩
  rw [← hmm] at H h0
  rw [← hmm]
  have h1 : m ≤ 18446744073709551615 := by omega
  have h2 := h0.1
  clear h0 hmm hb hz h hnc
  by_cases hneg : most < 0
  · rw [if_pos (.inl hneg)]
    go_enter Try.func15, Try.ntmps15
    go_wp2_with (go_at_call 14; refine H.out.mono ?_; rintro e w' ⟨rfl, rfl⟩)
    go_ret3
    exact ⟨rfl, rfl⟩
  · by_cases hgt : most < m
    · rw [if_pos (.inr hgt)]
      go_enter Try.func15, Try.ntmps15
      go_wp2_with (go_at_call 14; refine H.out.mono ?_; rintro e w' ⟨rfl, rfl⟩)
      go_ret3
      exact ⟨rfl, rfl⟩
    · rw [if_neg (by omega)]
      go_enter Try.func15, Try.ntmps15
      go_wp2_with (go_at_call 14; refine H.out.mono ?_; rintro e w' ⟨rfl, rfl⟩)
      go_ret3
      exact ⟨rfl, rfl⟩
end Go.Proofs.Ytaglcnnanomekaa.Octet
