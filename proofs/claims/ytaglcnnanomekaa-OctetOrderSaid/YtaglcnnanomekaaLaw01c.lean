/-
  The walks of the laws OctetOrder and OctetBack of package psephoslaw01: each law's call answers true, and writes nothing that was there; of numbers of 64 bits.
-/
import Derived.Test.YtaglcnnanomekaaLaw01
import Derived.Test.YtaglcnnanomekaaOctet3
namespace Go.Proofs.Ytaglcnnanomekaa.Law01
open Go.RowKit Go.Proofs.YtaglcnnanomekaaW.PrintWords Go.Proofs.Ytaglcnnanomekaa.Own Go.Proofs.Ytaglcnnanomekaa.Octet
attribute [local go_sem] max2_is min2_is max_pair min_pair

/-- One number, laid behind nothing. -/
theorem put_one (a : Int) (W : World) (ha : 0 ≤ a ∧ a ≤ 18446744073709551615) :
    Calls Try.prog 11 #[.slice none 0 0, .slice (some ⟨W.heap.size, 0, none⟩) 1 1] (W.alloc (.cells #[.int .u64 a] 26)) fun e w' =>
      ∃ v, e = .returned v ∧ w'.ownsRow W.heap.size 5 1 v 8 (nums .u8 (be8 a)) ∧ Below W.heap.size W w' := by
  refine (put_calls none 0 0 [] (some ⟨W.heap.size, 0, none⟩) 1 1 [a] _ ⟨rfl, by omega, fun h => absurd h (by omega)⟩ (reads_lit W .u64 [a] 26 (0, 0) (by simp)) (by simpa using ha) (by omega)).mono ?_
  rintro e w' ⟨v, rfl, ho, hb⟩
  have hp : put [] [a] = be8 a := by simp [put]
  rw [hp] at ho
  exact ⟨v, rfl, own_less ho (by simp), below_then (below_alloc (Below.refl _ _) _) (by simp) hb⟩

theorem octetOrder_law (a b : Int) (w : World) (ha : 0 ≤ a ∧ a ≤ 18446744073709551615) (hb : 0 ≤ b ∧ b ≤ 18446744073709551615) :
    Calls Try.prog 5 #[.int .u64 a, .int .u64 b] w fun e w' => e = .returned (.bool true) ∧ Below w.heap.size w w' := by
  have hord := order (be8 a) (be8 b) (be8_octs a) (be8_octs b) rfl 0
  rw [numOf_be8 a ha.1 ha.2, numOf_be8 b hb.1 hb.2] at hord
  have HO := Aside0.mk hord
  clear hord
  go_enter Try.func5, Try.ntmps5
  go_wp2_with (go_at_call 10; refine (awake_calls _).mono ?_; rintro e w1 ⟨rfl, hb⟩; have HB := Aside0.mk hb; clear hb)
  refine (put_one a _ ha).mono ?_
  rintro e w2 ⟨v2, rfl, ho2, hb2⟩
  have HB2 := Aside0.mk (below_then HB.out HB.out.size hb2)
  obtain ⟨A2, c2, hv2, hR2⟩ := own_reads ho2
  subst hv2
  have HR2 := Aside0.mk hR2
  clear HB ho2 hb2 hR2
  go_wp2_with fail
  refine (put_one b _ hb).mono ?_
  rintro e w3 ⟨v3, rfl, ho3, hb3⟩
  have HB3 := Aside0.mk (below_then HB2.out HB2.out.size hb3)
  obtain ⟨A3, c3, hv3, hR3⟩ := own_reads ho3
  subst hv3
  have HR3 := Aside0.mk hR3
  have HR2' := Aside0.mk (HR2.out.below hb3)
  clear HB2 ho3 hb3 hR3 HR2
  go_wp2_with fail
  refine (first_below _ _ _ (be8 a) _ _ _ (be8 b) _ HR2'.out HR3.out).mono ?_
  rintro e w4 ⟨rfl, hb4⟩
  have HB4 := Aside0.mk (below_then HB3.out HB3.out.size hb4)
  have HR2 := Aside0.mk (HR2'.out.below hb4)
  have HR3' := Aside0.mk (HR3.out.below hb4)
  clear HB3 HR3 HR2' hb4
  rcases HO.out with ⟨h1, h2⟩ | ⟨i, h1, h2, h3, h4, h5⟩
  · have hab : a = b := by
      have := congrArg numOf h1
      rwa [numOf_be8 a ha.1 ha.2, numOf_be8 b hb.1 hb.2] at this
    subst hab
    have HF : Aside0 (first (be8 a) (be8 a) = -1) := ⟨h2⟩
    clear h1 h2
    rw [HF.out]
    go_wp2_with fail
    go_ret
    exact ⟨rfl, HB4.out⟩
  · have HF : Aside0 (first (be8 a) (be8 b) = (i : Int)) := ⟨by rw [first, h2]; simp⟩
    have i8 : i < 8 := by rw [be8_length] at h1; exact h1
    obtain ⟨ad, hA, hc⟩ := HR2.out.at_ (i : Int) (by omega) (by omega)
    obtain ⟨ad', hA', hc'⟩ := HR3'.out.at_ (i : Int) (by omega) (by omega)
    rw [Int.toNat_natCast] at hc hc'
    subst hA
    subst hA'
    obtain ⟨x, hx⟩ : ∃ x, x = rd (be8 a) i := ⟨_, rfl⟩
    obtain ⟨y, hy⟩ : ∃ y, y = rd (be8 b) i := ⟨_, rfl⟩
    rw [← hx] at hc h3 h5
    rw [← hy] at hc' h3 h5
    have hab : (a == b) = false := by simpa using h4
    have i8' : (i : Int) < 8 := by omega
    clear hx hy h1 h2 HO h4
    rw [HF.out]
    by_cases hlt : b < a
    · have hxy : y < x := h5.2 hlt
      clear h5 h3
      go_wp2_with fail
      go_quiet (fail)
      go_wp2_with fail
      go_ret
      exact ⟨by simp, pw_below_drewN HB4.out _⟩
    · have hxy : ¬ y < x := fun h => hlt (h5.1 h)
      clear h5 h3
      go_wp2_with fail
      go_quiet (fail)
      go_wp2_with fail
      go_ret
      exact ⟨by simp; omega, pw_below_drewN HB4.out _⟩

theorem be8_at (b ns : List Int) (k : Nat) (hk : k < ns.length) : ((put b ns).drop (b.length + 8 * k)).take 8 = be8 (rd ns k) := by
  have hd : ns.drop k = rd ns k :: ns.drop (k + 1) := by
    rw [List.drop_eq_getElem_cons hk]
    simp [rd, List.getD_eq_getElem?_getD, List.getElem?_eq_getElem hk]
  have e : ns = ns.take k ++ (rd ns k :: ns.drop (k + 1)) := by rw [← hd]; exact (List.take_append_drop k ns).symm
  have hl : (b ++ (ns.take k).flatMap be8).length = b.length + 8 * k := by rw [List.length_append, flat_length, List.length_take]; omega
  have hp : put b ns = (b ++ (ns.take k).flatMap be8) ++ (be8 (rd ns k) ++ (ns.drop (k + 1)).flatMap be8) := by
    conv => lhs; rw [e]
    simp [put, List.flatMap_append, List.flatMap_cons]
  rw [hp, ← hl, List.drop_left, List.take_left' (be8_length _)]
theorem first_more (l m : List Int) (hm : m ≠ []) (k : Nat) : firstAt l (l ++ m) k = ((k + l.length : Nat) : Int) := by
  induction l generalizing k with
  | nil =>
    cases m with
    | nil => exact absurd rfl hm
    | cons y m => rfl
  | cons x l ih => rw [List.cons_append, firstAt, if_pos rfl, ih, List.length_cons]; congr 1; omega
theorem put_octs {b ns : List Int} (hb : ∀ z ∈ b, 0 ≤ z ∧ z ≤ 255) : ∀ z ∈ put b ns, 0 ≤ z ∧ z ≤ 255 := by
  intro z hz
  rcases List.mem_append.1 hz with h | h
  · exact hb z h
  · obtain ⟨n, _, h⟩ := List.mem_flatMap.1 h
    exact be8_octs n z h

set_option maxHeartbeats 800000 in
theorem octetBack_law (A : Option Addr) (n c : Nat) (ns : List Int) (m : Int) (w : World) (hr : ReadsInt w .u64 A n ns) (hns : ∀ z ∈ ns, 0 ≤ z ∧ z ≤ 18446744073709551615) (hsz : n * 8 ≤ 140737488351232) (hm : 0 ≤ m ∧ m ≤ 18446744073709551615) :
    Calls Try.prog 8 #[.slice A n c, .int .u64 m] w fun e w' => e = .returned (.bool true) ∧ Below w.heap.size w w' := by
  have HN := Aside0.mk hr
  have HS := Aside0.mk hns
  have hl : (put [] ns).length = 8 * n := by rw [put_length, hr.1]; simp
  obtain ⟨L, hL⟩ : ∃ L, L = put [] ns := ⟨_, rfl⟩
  have HL := Aside0.mk hL
  have HLo := Aside0.mk (show ∀ z ∈ L, 0 ≤ z ∧ z ≤ 255 by rw [hL]; exact put_octs (by simp))
  rw [← hL] at hl
  have HLL := Aside0.mk hl
  clear hr hns hL hl
  go_enter Try.func8, Try.ntmps8
  go_wp2_with (go_at_call 10; refine (awake_calls _).mono ?_; rintro e w1 ⟨rfl, hb⟩; have HN1 := Aside0.mk (HN.out.below hb); have HB := Aside0.mk hb; clear hb)
  refine (put_calls none 0 0 [] A n c ns _ ⟨rfl, by omega, fun h => absurd h (by omega)⟩ HN1.out HS.out (by omega)).mono ?_
  rintro e w2 ⟨v2, rfl, ho2, hb2⟩
  rw [← HL.out] at ho2
  have HB2 := Aside0.mk (below_then HB.out HB.out.size hb2)
  have HN2 := Aside0.mk (HN1.out.below hb2)
  obtain ⟨A2, c2, hv2, hR2⟩ := own_reads ho2
  subst hv2
  have hlc : L.length ≤ c2 := by
    rcases ho2.2 with ⟨h, h0⟩ | ⟨g, cap, cur, h, _, _, h1, _⟩
    · injection h with _ h2 h3; omega
    · injection h with _ h2 h3; omega
  have HR2 := Aside0.mk hR2
  clear HB ho2 hb2 hR2 HN1 HN
  have hLn : L.length ≤ 140737488351232 := by rw [HLL.out]; omega
  go_wp2_with fail
  go_loop [6, 21] (fun p x => ∃ k : Nat, k ≤ n ∧ x = .int .i64 (k : Int) ∧ p = .int .i64 (8 * (k : Int))) (fun _ x => n - (intOf x).toNat)
  case atStart => exact ⟨0, Nat.zero_le _, rfl, rfl⟩
  case round =>
    obtain ⟨k, hk, rfl, rfl⟩ := hrel
    by_cases hlt : k < n
    · obtain ⟨ad, hA, hc⟩ := HN2.out.at_ (k : Int) (by omega) (by omega)
      rw [Int.toNat_natCast] at hc
      have hkl : k < ns.length := by rw [HN2.out.1]; exact hlt
      have hz := HS.out _ (rd_mem hkl)
      have hg := fun w hR => get_yes A2 L.length c2 L (8 * k) w hR hlc HLo.out (by rw [HLL.out]; omega)
      have e8 : numOf ((L.drop (8 * k)).take 8) = rd ns k := by
        have := be8_at [] ns k hkl
        rw [← HL.out] at this
        simp only [List.length_nil, Nat.zero_add] at this
        rw [this, numOf_be8 _ hz.1 hz.2]
      rw [e8, show ((8 * k : Nat) : Int) = 8 * (k : Int) by omega] at hg
      obtain ⟨z, hzz⟩ : ∃ z, z = rd ns k := ⟨_, rfl⟩
      rw [← hzz] at hg hc
      have HG := Aside0.mk hg
      subst hA
      clear hg e8 hzz hz hkl
      go_wp2_with (go_at_call 14; with_reducible refine (HG.out _ HR2.out).mono ?_; rintro e w' ⟨rfl, rfl⟩)
      go_round
      case rel => exact ⟨k + 1, by omega, by go_num, by go_num⟩
      case measure => simp [intOf]; omega
    · obtain rfl : k = n := by omega
      have HG := Aside0.mk (fun w => get_no A2 L.length c2 (8 * (k : Int)) w (by omega) (.inr (by rw [HLL.out]; omega)))
      have h8 : (8 * (k : Int) == (L.length : Int)) = true := by rw [HLL.out]; simp
      clear hlt
      go_wp2_with (go_at_call 14; refine (HG.out _).mono ?_; rintro e w' ⟨rfl, rfl⟩)
      refine (put_calls A2 L.length c2 L _ 1 1 [m] _ (HR2.out.allocS _) (reads_lit w2 .u64 [m] 26 (0, 0) (by simp)) (by simpa using hm) (by rw [HLL.out]; omega)).mono ?_
      rintro e w3 ⟨v3, rfl, ho3, hb3⟩
      have hb3' := below_then (below_alloc (Below.refl w2.heap.size w2) (.cells #[.int .u64 m] 26)) (by simp) hb3
      have HB3 := Aside0.mk (below_then HB2.out HB2.out.size hb3')
      obtain ⟨A3, c3, hv3, hR3⟩ := own_reads ho3
      have hv : v3 = .slice A3 (L.length + 8) c3 := by rw [hv3, put_length]; rfl
      rw [put_length] at hR3
      subst hv
      have HR3 := Aside0.mk hR3
      have HR2' := Aside0.mk (HR2.out.below hb3')
      clear hv3 ho3 hb3 hb3' hR3
      go_wp2_with fail
      refine (first_below A2 L.length c2 L A3 (L.length + 8) c3 (put L [m]) _ HR2'.out HR3.out).mono ?_
      rintro e w4 ⟨rfl, hb4⟩
      have HF : Aside0 (first L (put L [m]) = (L.length : Int)) := ⟨by
        have := first_more L (be8 m) (by simp [be8]) 0
        simp only [Nat.zero_add] at this
        rw [← this]
        simp [first, put]⟩
      have HB4 := Aside0.mk (below_then HB3.out HB3.out.size hb4)
      clear hb4
      rw [HF.out]
      go_wp2_with fail
      go_ret
      exact ⟨rfl, HB4.out⟩
end Go.Proofs.Ytaglcnnanomekaa.Law01
