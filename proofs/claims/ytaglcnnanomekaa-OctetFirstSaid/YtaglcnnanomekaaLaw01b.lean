/-
  The walks of the laws OctetGet, OctetSmall and OctetFirst of package psephoslaw01: each law's call answers true, and writes nothing that was there; of slices that are read as they came.
-/
import Derived.Test.YtaglcnnanomekaaLaw01
import Derived.Outline
namespace Go.Proofs.Ytaglcnnanomekaa.Law01
open Go.RowKit Go.Proofs.YtaglcnnanomekaaW.PrintWords Go.Proofs.Ytaglcnnanomekaa.Own Go.Proofs.Ytaglcnnanomekaa.Octet
attribute [local go_sem] max2_is min2_is max_pair min_pair

/-- The cut of eight bytes at a place. -/
theorem cut8 {w : World} {A : Option Addr} {n : Nat} {bs : List Int} {p : Nat} (hb : ReadsInt w .u8 A n bs) (h : p + 8 ≤ n) : ∃ ad, A = some ad ∧ ReadsInt w .u8 (some (ad.add p)) 8 ((bs.drop p).take 8) := by
  obtain ⟨ad, rfl, hc⟩ := hb.2.2 (by omega)
  refine ⟨ad, rfl, by rw [List.length_take, List.length_drop, hb.1]; omega, by omega, fun _ => ⟨_, rfl, fun j hj => ?_⟩⟩
  rw [add_add, hc (p + j) (by omega)]
  simp [List.getD_eq_getElem?_getD, List.getElem?_drop, hj]
theorem octs {k : IntKind} {bs : List Int} (hk : k = .u8) (h : ∀ z ∈ bs, (Lit.int k z).wf = true) : ∀ z ∈ bs, 0 ≤ z ∧ z ≤ 255 := fun z hz => by subst hk; exact bd_u8 (h z hz)
theorem bytes_cut {bs : List Int} (hz : ∀ z ∈ bs, 0 ≤ z ∧ z ≤ 255) (p : Nat) : ∀ z ∈ (bs.drop p).take 8, 0 ≤ z ∧ z ≤ 255 := fun z h => hz z (List.mem_of_mem_drop (List.mem_of_mem_take h))

theorem octetGet_law (A : Option Addr) (n c : Nat) (bs : List Int) (at_ : Int) (w : World) (hb : ReadsInt w .u8 A n bs) (hnc : n ≤ c) (hz : ∀ z ∈ bs, 0 ≤ z ∧ z ≤ 255) (ha : -9223372036854775808 ≤ at_ ∧ at_ ≤ 9223372036854775807) :
    Calls Try.prog 7 #[.slice A n c, .int .i64 at_] w fun e w' => e = .returned (.bool true) ∧ Below w.heap.size w w' := by
  have hn := hb.2.1
  by_cases h : at_ < 0 ∨ (n : Int) - 8 < at_
  · have HG := Aside0.mk (fun w => get_no A n c at_ w hn h)
    clear hb hz
    rcases h with h | h
    · go_enter Try.func7, Try.ntmps7
      go_wp2_with (first
        | (go_at_call 10; refine (awake_calls _).mono ?_; rintro e w1 ⟨rfl, hb⟩; have HB := Aside0.mk hb; clear hb)
        | (go_at_call 14; refine (HG.out _).mono ?_; rintro e w' ⟨rfl, rfl⟩))
      go_ret
      exact ⟨rfl, HB.out⟩
    · by_cases h0 : at_ < 0
      all_goals
        go_enter Try.func7, Try.ntmps7
        go_wp2_with (first
          | (go_at_call 10; refine (awake_calls _).mono ?_; rintro e w1 ⟨rfl, hb⟩; have HB := Aside0.mk hb; clear hb)
          | (go_at_call 14; refine (HG.out _).mono ?_; rintro e w' ⟨rfl, rfl⟩))
        go_ret
        exact ⟨rfl, HB.out⟩
  · obtain ⟨p, hp⟩ := Int.eq_ofNat_of_zero_le (show 0 ≤ at_ by omega)
    subst hp
    have hp8 : p + 8 ≤ n := by omega
    obtain ⟨ad, hA, hcut⟩ := cut8 hb hp8
    have HR := Aside0.mk hb
    have HC := Aside0.mk hcut
    have HZ := Aside0.mk hz
    have HE : Aside0 (8 = p + 8 - p) := ⟨by omega⟩
    subst hA
    clear hb hcut hz h
    go_enter Try.func7, Try.ntmps7
    go_wp2_with (first
      | (go_at_call 10; refine (awake_calls _).mono ?_; rintro e w1 ⟨rfl, hb⟩; have HR1 := Aside0.mk (HR.out.below hb); have HC1 := Aside0.mk (HC.out.below hb); have HB := Aside0.mk hb; clear hb)
      | (go_at_call 14; refine (get_yes _ _ _ bs p _ HR1.out hnc HZ.out hp8).mono ?_; rintro e w' ⟨rfl, rfl⟩)
      | (go_at_call 12; refine (number_calls _ _ _ ((bs.drop p).take 8) _ (by first | exact HC1.out | (rw [← HE.out]; exact HC1.out)) (by omega) (bytes_cut HZ.out p)).mono ?_; rintro e w' ⟨rfl, rfl⟩))
    go_ret
    exact ⟨by simp, HB.out⟩

theorem octetSmall_law (A : Option Addr) (n c : Nat) (bs : List Int) (at_ most : Int) (w : World) (hb : ReadsInt w .u8 A n bs) (hnc : n ≤ c) (hz : ∀ z ∈ bs, 0 ≤ z ∧ z ≤ 255) (ha : -9223372036854775808 ≤ at_ ∧ at_ ≤ 9223372036854775807) (hm : -9223372036854775808 ≤ most ∧ most ≤ 9223372036854775807) :
    Calls Try.prog 9 #[.slice A n c, .int .i64 at_, .int .i64 most] w fun e w' => e = .returned (.bool true) ∧ Below w.heap.size w w' := by
  have hn := hb.2.1
  by_cases h : at_ < 0 ∨ (n : Int) - 8 < at_
  · have HG := Aside0.mk (fun w => small_no A n c at_ most w hn h)
    clear hb hz
    by_cases h0 : at_ < 0
    · clear h
      go_enter Try.func9, Try.ntmps9
      go_wp2_with (first
        | (go_at_call 10; refine (awake_calls _).mono ?_; rintro e w1 ⟨rfl, hb⟩; have HB := Aside0.mk hb; clear hb)
        | (go_at_call 15; refine (HG.out _).mono ?_; rintro e w' ⟨rfl, rfl⟩))
      go_ret
      exact ⟨rfl, HB.out⟩
    · have h1 : (n : Int) - 8 < at_ := by omega
      clear h
      go_enter Try.func9, Try.ntmps9
      go_wp2_with (first
        | (go_at_call 10; refine (awake_calls _).mono ?_; rintro e w1 ⟨rfl, hb⟩; have HB := Aside0.mk hb; clear hb)
        | (go_at_call 15; refine (HG.out _).mono ?_; rintro e w' ⟨rfl, rfl⟩))
      go_ret
      exact ⟨rfl, HB.out⟩
  · obtain ⟨p, hp⟩ := Int.eq_ofNat_of_zero_le (show 0 ≤ at_ by omega)
    subst hp
    have hp8 : p + 8 ≤ n := by omega
    obtain ⟨ad, hA, hcut⟩ := cut8 hb hp8
    have h0 := numOf_take_lt ((bs.drop p).take 8) (bytes_cut hz p) 8 (by rw [hcut.1]; omega)
    rw [List.take_take, Nat.min_self] at h0
    have hpn : (p : Int) ≤ 9223372036854775807 := by omega
    have HR := Aside0.mk hb
    have HC := Aside0.mk hcut
    have HZ := Aside0.mk hz
    have HE : Aside0 (8 = p + 8 - p) := ⟨by omega⟩
    have HM := Aside0.mk hm
    have HNC := Aside0.mk hnc
    subst hA
    have hS : ∀ W, ReadsInt W .u8 (some ad) n bs → Calls Try.prog 15 #[.slice (some ad) n c, .int .i64 (p : Int), .int .i64 most] W fun e w' => e = .returned (if most < 0 ∨ most < numOf ((bs.drop p).take 8) then .tuple #[.int .i64 0, .int .i64 (p : Int), .bool false] else .tuple #[.int .i64 (numOf ((bs.drop p).take 8)), .int .i64 ((p : Int) + 8), .bool true]) ∧ W = w' :=
      fun W hR => small_at _ n c bs p most W hR hnc hz hp8 hm
    have hN : ∀ W k, k = 8 → ReadsInt W .u8 (some (ad.add p)) 8 ((bs.drop p).take 8) → ∀ c', Calls Try.prog 12 #[.slice (some (ad.add p)) k c'] W fun e w' => e = .returned (.int .u64 (numOf ((bs.drop p).take 8))) ∧ W = w' :=
      fun W k hk hR c' => by subst hk; exact number_calls _ _ _ _ _ hR (by omega) (bytes_cut hz p)
    obtain ⟨m, hmm⟩ : ∃ m, m = numOf ((bs.drop p).take 8) := ⟨_, rfl⟩
    rw [← hmm] at h0 hS hN
    have m0 := h0.1
    have m1 : m ≤ 18446744073709551615 := by omega
    clear h0 hmm hb hcut hz h
    have HN8 := Aside0.mk (fun W => hN W 8 rfl)
    have HNp := Aside0.mk (fun W => hN W (p + 8 - p) (by omega))
    clear hN
    by_cases hneg : most < 0
    · have HS := Aside0.mk hS
      rw [if_pos (.inl hneg)] at HS
      clear hS
      go_enter Try.func9, Try.ntmps9
      go_wp2_with (first
        | (go_at_call 10; refine (awake_calls _).mono ?_; rintro e w1 ⟨rfl, hb⟩; have HR1 := Aside0.mk (HR.out.below hb); have HC1 := Aside0.mk (HC.out.below hb); have HB := Aside0.mk hb; clear hb)
        | (go_at_call 15; refine (HS.out _ HR1.out).mono ?_; rintro e w' ⟨rfl, rfl⟩))
      go_ret
      exact ⟨rfl, HB.out⟩
    · by_cases hgt : most < m
      · have HS := Aside0.mk hS
        rw [if_pos (.inr hgt)] at HS
        clear hS
        go_enter Try.func9, Try.ntmps9
        go_wp2_with (first
          | (go_at_call 10; refine (awake_calls _).mono ?_; rintro e w1 ⟨rfl, hb⟩; have HR1 := Aside0.mk (HR.out.below hb); have HC1 := Aside0.mk (HC.out.below hb); have HB := Aside0.mk hb; clear hb)
          | (go_at_call 15; refine (HS.out _ HR1.out).mono ?_; rintro e w' ⟨rfl, rfl⟩)
          | (go_at_call 12; (first | (with_reducible refine (HN8.out _ HC1.out _).mono ?_) | (with_reducible refine (HNp.out _ HC1.out _).mono ?_)); rintro e w' ⟨rfl, rfl⟩))
        go_ret
        exact ⟨rfl, HB.out⟩
      · have HS := Aside0.mk hS
        rw [if_neg (by omega)] at HS
        clear hS
        go_enter Try.func9, Try.ntmps9
        go_wp2_with (first
          | (go_at_call 10; refine (awake_calls _).mono ?_; rintro e w1 ⟨rfl, hb⟩; have HR1 := Aside0.mk (HR.out.below hb); have HC1 := Aside0.mk (HC.out.below hb); have HB := Aside0.mk hb; clear hb)
          | (go_at_call 15; refine (HS.out _ HR1.out).mono ?_; rintro e w' ⟨rfl, rfl⟩)
          | (go_at_call 12; (first | (with_reducible refine (HN8.out _ HC1.out _).mono ?_) | (with_reducible refine (HNp.out _ HC1.out _).mono ?_)); rintro e w' ⟨rfl, rfl⟩))
        go_ret
        exact ⟨by simp, HB.out⟩

theorem first_self (a : List Int) (k : Nat) : firstAt a a k = -1 := by
  induction a generalizing k with
  | nil => rfl
  | cons x a ih => rw [firstAt, if_pos rfl, ih]
theorem first_turn (a b : List Int) (k : Nat) : firstAt a b k = firstAt b a k := by
  induction a generalizing b k with
  | nil => cases b <;> rfl
  | cons x a ih =>
    cases b with
    | nil => rfl
    | cons y b =>
      rw [firstAt, firstAt, ih]
      by_cases h : x = y
      · rw [if_pos h, if_pos h.symm]
      · rw [if_neg h, if_neg (Ne.symm h)]

/-- How far the law's loop goes: the first place at which lists differ, or one ends. -/
theorem octetFirst_law (A : Option Addr) (n c : Nat) (xs : List Int) (A' : Option Addr) (n' c' : Nat) (ys : List Int) (w : World) (hx : ReadsInt w .u8 A n xs) (hy : ReadsInt w .u8 A' n' ys) :
    Calls Try.prog 4 #[.slice A n c, .slice A' n' c'] w fun e w' => e = .returned (.bool true) ∧ Below w.heap.size w w' := by
  have hn := hx.2.1
  have hn' := hy.2.1
  have HX := Aside0.mk hx
  have HY := Aside0.mk hy
  clear hx hy
  go_enter Try.func4, Try.ntmps4
  go_wp2_with (go_at_call 10; refine (awake_calls _).mono ?_; rintro e w1 ⟨rfl, hb⟩; have HX1 := Aside0.mk (HX.out.below hb); have HY1 := Aside0.mk (HY.out.below hb); have HB := Aside0.mk hb; clear hb)
  go_loopw [5] (fun x wr => ∃ (k q : Nat), k ≤ n ∧ k ≤ n' ∧ x = .int .i64 (k : Int) ∧ Aside0 (first xs ys = firstAt (xs.drop k) (ys.drop k) k) ∧ Aside0 (wr = w1.drewN q)) (fun x _ => n - (intOf x).toNat)
  case atStart => exact ⟨0, 0, Nat.zero_le _, Nat.zero_le _, rfl, ⟨rfl⟩, ⟨rfl⟩⟩
  case round =>
    obtain ⟨k, q, hk, hk', rfl, HF, HW⟩ := hrel
    obtain rfl := HW.out
    by_cases hlt : k < n ∧ k < n'
    · obtain ⟨h1, h2⟩ := hlt
      obtain ⟨ad, hA, hc⟩ := HX1.out.at_ (k : Int) (by omega) (by omega)
      obtain ⟨ad', hA', hc'⟩ := HY1.out.at_ (k : Int) (by omega) (by omega)
      rw [Int.toNat_natCast] at hc hc'
      subst hA
      subst hA'
      have hs := firstAt_step (a := xs) (b := ys) (k := k) (by rw [HX.out.1]; exact h1) (by rw [HY.out.1]; exact h2)
      rw [← HF.out] at hs
      obtain ⟨x, hx⟩ : ∃ x, x = rd xs k := ⟨_, rfl⟩
      obtain ⟨y, hy⟩ : ∃ y, y = rd ys k := ⟨_, rfl⟩
      rw [← hx] at hc hs
      rw [← hy] at hc' hs
      clear hx hy
      by_cases he : x = y
      · rw [if_pos he] at hs
        have HS := Aside0.mk hs
        subst he
        clear hs
        go_wp2_with fail
        go_quiet (fail)
        go_wp2_with fail
        go_roundw
        case rel => exact ⟨k + 1, q + nq, by omega, by omega, by go_num, HS, ⟨rfl⟩⟩
        case measure => simp [intOf]; omega
      · rw [if_neg he] at hs
        have HS := Aside0.mk hs
        have hne : (x == y) = false := by simpa using he
        have hkn : ((k : Int) == n) = false := by simp; omega
        clear hs he HF
        have HF := HS
        clear HS
        have HT : Aside0 (first ys xs = first xs ys) := ⟨(first_turn xs ys 0).symm⟩
        have HS : Aside0 (first xs xs = -1) := ⟨first_self xs 0⟩
        go_wp2_with fail
        go_quiet (fail)
        have HXc : Aside0 (ReadsInt ((w1.drewN q).drewN nq) .u8 (some ad) n xs) := ⟨HX1.out⟩
        have HYc : Aside0 (ReadsInt ((w1.drewN q).drewN nq) .u8 (some ad') n' ys) := ⟨HY1.out⟩
        have HBc : Aside0 (Below w.heap.size w ((w1.drewN q).drewN nq)) := ⟨pw_below_drewN (pw_below_drewN HB.out q) nq⟩
        generalize (w1.drewN q).drewN nq = W2 at HXc HYc HBc ⊢
        go_wp2_with (go_at_call 13; (first | (with_reducible refine (first_below _ _ _ xs _ _ _ ys _ HXc.out HYc.out).mono ?_) | (with_reducible refine (first_below _ _ _ ys _ _ _ xs _ HYc.out HXc.out).mono ?_) | (with_reducible refine (first_below _ _ _ xs _ _ _ xs _ HXc.out HXc.out).mono ?_)); rintro e w2 ⟨rfl, hb⟩; have n0_ := Aside0.mk (HXc.out.below hb); have n1_ := Aside0.mk (HYc.out.below hb); have n2_ := Aside0.mk (below_then HBc.out HBc.out.size hb); clear HXc; clear HYc; clear HBc; clear hb; have HXc := n0_; have HYc := n1_; have HBc := n2_; clear n0_ n1_ n2_; (try rw [HT.out]); (try rw [HF.out]); (try rw [HS.out]))
        go_ret
        exact ⟨rfl, HBc.out⟩
    · have he := firstAt_end (a := xs) (b := ys) (k := k) (by rw [HX.out.1, HY.out.1]; omega) (by rw [HX.out.1]; exact hk) (by rw [HY.out.1]; exact hk')
      rw [← HF.out, HX.out.1, HY.out.1] at he
      have HT : Aside0 (first ys xs = first xs ys) := ⟨(first_turn xs ys 0).symm⟩
      have HS : Aside0 (first xs xs = -1) := ⟨first_self xs 0⟩
      by_cases hl : n = n'
      · rw [if_pos hl] at he
        subst hl
        have hkn : k = n := by omega
        subst hkn
        clear HF
        have HF := Aside0.mk he
        have hd : decide ((k : Int) < k) = false := by simp
        clear he hlt
        go_wp2_with fail
        go_quiet (fail)
        have HXc : Aside0 (ReadsInt ((w1.drewN q).drewN nq) .u8 A k xs) := ⟨HX1.out⟩
        have HYc : Aside0 (ReadsInt ((w1.drewN q).drewN nq) .u8 A' k ys) := ⟨HY1.out⟩
        have HBc : Aside0 (Below w.heap.size w ((w1.drewN q).drewN nq)) := ⟨pw_below_drewN (pw_below_drewN HB.out q) nq⟩
        generalize (w1.drewN q).drewN nq = W2 at HXc HYc HBc ⊢
        go_wp2_with (go_at_call 13; (first | (with_reducible refine (first_below _ _ _ xs _ _ _ ys _ HXc.out HYc.out).mono ?_) | (with_reducible refine (first_below _ _ _ ys _ _ _ xs _ HYc.out HXc.out).mono ?_) | (with_reducible refine (first_below _ _ _ xs _ _ _ xs _ HXc.out HXc.out).mono ?_)); rintro e w2 ⟨rfl, hb⟩; have n0_ := Aside0.mk (HXc.out.below hb); have n1_ := Aside0.mk (HYc.out.below hb); have n2_ := Aside0.mk (below_then HBc.out HBc.out.size hb); clear HXc; clear HYc; clear HBc; clear hb; have HXc := n0_; have HYc := n1_; have HBc := n2_; clear n0_ n1_ n2_; (try rw [HT.out]); (try rw [HF.out]); (try rw [HS.out]))
        go_ret
        exact ⟨rfl, HBc.out⟩
      · rw [if_neg hl] at he
        clear HF
        have HF := Aside0.mk he
        clear he
        by_cases hkn : k = n
        · have hd : decide ((k : Int) < n) = false := by simp; omega
          have hkn' : ((k : Int) == n') = false := by simp; omega
          subst hkn
          clear hlt hl
          go_wp2_with fail
          go_quiet (fail)
          have HXc : Aside0 (ReadsInt ((w1.drewN q).drewN nq) .u8 A k xs) := ⟨HX1.out⟩
          have HYc : Aside0 (ReadsInt ((w1.drewN q).drewN nq) .u8 A' n' ys) := ⟨HY1.out⟩
          have HBc : Aside0 (Below w.heap.size w ((w1.drewN q).drewN nq)) := ⟨pw_below_drewN (pw_below_drewN HB.out q) nq⟩
          generalize (w1.drewN q).drewN nq = W2 at HXc HYc HBc ⊢
          go_wp2_with (go_at_call 13; (first | (with_reducible refine (first_below _ _ _ xs _ _ _ ys _ HXc.out HYc.out).mono ?_) | (with_reducible refine (first_below _ _ _ ys _ _ _ xs _ HYc.out HXc.out).mono ?_) | (with_reducible refine (first_below _ _ _ xs _ _ _ xs _ HXc.out HXc.out).mono ?_)); rintro e w2 ⟨rfl, hb⟩; have n0_ := Aside0.mk (HXc.out.below hb); have n1_ := Aside0.mk (HYc.out.below hb); have n2_ := Aside0.mk (below_then HBc.out HBc.out.size hb); clear HXc; clear HYc; clear HBc; clear hb; have HXc := n0_; have HYc := n1_; have HBc := n2_; clear n0_ n1_ n2_; (try rw [HT.out]); (try rw [HF.out]); (try rw [HS.out]))
          go_ret
          exact ⟨rfl, HBc.out⟩
        · have h1 : (k : Int) < n := by omega
          have hd' : decide (k < n') = false := by simp; omega
          have hkn' : ((k : Int) == n) = false := by simp; omega
          clear hlt hl hkn
          go_wp2_with fail
          go_quiet (fail)
          have HXc : Aside0 (ReadsInt ((w1.drewN q).drewN nq) .u8 A n xs) := ⟨HX1.out⟩
          have HYc : Aside0 (ReadsInt ((w1.drewN q).drewN nq) .u8 A' n' ys) := ⟨HY1.out⟩
          have HBc : Aside0 (Below w.heap.size w ((w1.drewN q).drewN nq)) := ⟨pw_below_drewN (pw_below_drewN HB.out q) nq⟩
          generalize (w1.drewN q).drewN nq = W2 at HXc HYc HBc ⊢
          go_wp2_with (go_at_call 13; (first | (with_reducible refine (first_below _ _ _ xs _ _ _ ys _ HXc.out HYc.out).mono ?_) | (with_reducible refine (first_below _ _ _ ys _ _ _ xs _ HYc.out HXc.out).mono ?_) | (with_reducible refine (first_below _ _ _ xs _ _ _ xs _ HXc.out HXc.out).mono ?_)); rintro e w2 ⟨rfl, hb⟩; have n0_ := Aside0.mk (HXc.out.below hb); have n1_ := Aside0.mk (HYc.out.below hb); have n2_ := Aside0.mk (below_then HBc.out HBc.out.size hb); clear HXc; clear HYc; clear HBc; clear hb; have HXc := n0_; have HYc := n1_; have HBc := n2_; clear n0_ n1_ n2_; (try rw [HT.out]); (try rw [HF.out]); (try rw [HS.out]))
          go_ret
          exact ⟨rfl, HBc.out⟩
end Go.Proofs.Ytaglcnnanomekaa.Law01
