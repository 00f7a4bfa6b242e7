/-
  The walks of the laws OctetPut and OctetParts of package psephoslaw01: each law's call answers true, and writes nothing that was there; of slices of at most 1048576 elements.
-/
import Derived.Test.YtaglcnnanomekaaLaw01c
namespace Go.Proofs.Ytaglcnnanomekaa.Law01
open Go.RowKit Go.Proofs.YtaglcnnanomekaaW.PrintWords Go.Proofs.Ytaglcnnanomekaa.Own Go.Proofs.Ytaglcnnanomekaa.Octet
attribute [local go_sem] max2_is min2_is max_pair min_pair

theorem octetPut_law (A : Option Addr) (n c : Nat) (bs : List Int) (A' : Option Addr) (n' c' : Nat) (ns : List Int) (w : World) (hb : ReadsInt w .u8 A n bs) (hbs : ∀ z ∈ bs, 0 ≤ z ∧ z ≤ 255) (hr : ReadsInt w .u64 A' n' ns) (hns : ∀ z ∈ ns, 0 ≤ z ∧ z ≤ 18446744073709551615) (h1 : n ≤ 1048576) (h2 : n' ≤ 1048576) :
    Calls Try.prog 3 #[.slice A n c, .slice A' n' c'] w fun e w' => e = .returned (.bool true) ∧ Below w.heap.size w w' := by
  have HB := Aside0.mk hb
  have HBS := Aside0.mk hbs
  have HB0 := Aside0.mk hb.1
  have HN := Aside0.mk hr
  have HS := Aside0.mk hns
  have hl : (put bs ns).length = n + 8 * n' := by rw [put_length, hb.1, hr.1]
  obtain ⟨L, hL⟩ : ∃ L, L = put bs ns := ⟨_, rfl⟩
  have HL := Aside0.mk hL
  have HLo := Aside0.mk (show ∀ z ∈ L, 0 ≤ z ∧ z ≤ 255 by rw [hL]; exact put_octs hbs)
  have HT := Aside0.mk (show L.take n = bs by rw [hL, put, List.take_left' hb.1])
  rw [← hL] at hl
  have HLL := Aside0.mk hl
  clear hr hns hL hl hb hbs
  go_enter Try.func3, Try.ntmps3
  go_wp2_with (go_at_call 10; refine (awake_calls _).mono ?_; rintro e w1 ⟨rfl, hb⟩; have HN1 := Aside0.mk (HN.out.below hb); have HB1 := Aside0.mk (HB.out.below hb); have HW := Aside0.mk hb; clear hb)
  refine (put_calls A n c bs A' n' c' ns _ HB1.out HN1.out HS.out (by omega)).mono ?_
  rintro e w2 ⟨v2, rfl, ho2, hb2⟩
  rw [← HL.out, HLL.out] at ho2
  have HW2 := Aside0.mk (below_then HW.out HW.out.size hb2)
  have HN2 := Aside0.mk (HN1.out.below hb2)
  have HB2 := Aside0.mk (HB1.out.below hb2)
  obtain ⟨A2, c2, hv2, hR2⟩ := own_reads ho2
  subst hv2
  have hlc : n + 8 * n' ≤ c2 := by
    rcases ho2.2 with ⟨h, h0⟩ | ⟨g, cap, cur, h, _, _, h1, _⟩
    · injection h with _ h2 h3; omega
    · injection h with _ h2 h3; omega
  have HR2 := Aside0.mk hR2
  have hT : ReadsInt w2 .u8 A2 n bs := by have := hR2.take_ n (by omega); rwa [HT.out] at this
  have s1 : ∀ q, (convert 22 9 (.slice A2 n c2)).run Try.prog (w2.drewN q) = .ok (.string (strOfNums bs)) (w2.drewN q) := fun q => str_of A2 n c2 bs (w2.drewN q) hT
  have s2 : ∀ q, (convert 22 9 (.slice A n c)).run Try.prog (w2.drewN q) = .ok (.string (strOfNums bs)) (w2.drewN q) := fun q => str_of A n c bs (w2.drewN q) HB2.out
  have t1 : (convert 22 9 (.slice A2 n c2)).run Try.prog w2 = .ok (.string (strOfNums bs)) w2 := str_of A2 n c2 bs w2 hT
  have t2 : (convert 22 9 (.slice A n c)).run Try.prog w2 = .ok (.string (strOfNums bs)) w2 := str_of A n c bs w2 HB2.out
  obtain ⟨S, hS⟩ : ∃ S, S = strOfNums bs := ⟨_, rfl⟩
  rw [← hS] at s1 s2 t1 t2
  clear HW ho2 hb2 HN1 HN HB1 HB hR2 hT hS
  go_wp2_with fail
  go_quiet (fail)
  clear s1 s2 t1 t2
  have HR3 : Aside0 (ReadsInt (w2.drewN nq) .u8 A2 (n + 8 * n') L) := ⟨HR2.out⟩
  have HN3 : Aside0 (ReadsInt (w2.drewN nq) .u64 A' n' ns) := ⟨HN2.out⟩
  have HW3 : Aside0 (Below w.heap.size w (w2.drewN nq)) := ⟨pw_below_drewN HW2.out nq⟩
  generalize w2.drewN nq = w3 at HR3 HN3 HW3 ⊢
  clear HR2 HN2 HW2 HB2
  go_wp2_with fail
  go_loop [35] (fun x => ∃ k : Nat, k ≤ n' ∧ x = .int .i64 (k : Int)) (fun x => n' - (intOf x).toNat)
  case atStart => exact ⟨0, Nat.zero_le _, rfl⟩
  case round =>
    obtain ⟨k, hk, rfl⟩ := hrel
    by_cases hlt : k < n'
    · obtain ⟨ad, hA, hc⟩ := HN3.out.at_ (k : Int) (by omega) (by omega)
      rw [Int.toNat_natCast] at hc
      have hkl : k < ns.length := by rw [HN3.out.1]; exact hlt
      have hz := HS.out _ (rd_mem hkl)
      have hp8 : n + 8 * k + 8 ≤ n + 8 * n' := by omega
      obtain ⟨a2, hA2, hcut⟩ : ∃ ad, A2 = some ad ∧ ReadsInt w3 .u8 (some (ad.add (n + 8 * k))) 8 (be8 (rd ns k)) := by
        obtain ⟨ad, h1, h2⟩ : ∃ ad, A2 = some ad ∧ ReadsInt w3 .u8 (some (ad.add (n + 8 * k))) 8 ((L.drop (n + 8 * k)).take 8) := by
          obtain ⟨ad, h1, hc⟩ := HR3.out.2.2 (by omega)
          refine ⟨ad, h1, by rw [List.length_take, List.length_drop, HR3.out.1]; omega, by omega, fun _ => ⟨_, rfl, fun j hj => ?_⟩⟩
          rw [add_add, hc (n + 8 * k + j) (by omega)]
          simp [List.getD_eq_getElem?_getD, List.getElem?_drop, hj]
        have e := be8_at bs ns k hkl
        rw [← HL.out] at e
        rw [HB0.out] at e
        exact ⟨ad, h1, by rwa [e] at h2⟩
      have hn8 := fun c' => number_calls _ _ c' _ w3 hcut (by omega) (be8_octs _)
      rw [numOf_be8 _ hz.1 hz.2] at hn8
      obtain ⟨z, hzz⟩ : ∃ z, z = rd ns k := ⟨_, rfl⟩
      rw [← hzz] at hn8 hc
      have HN8 := Aside0.mk hn8
      subst hA
      subst hA2
      clear hn8 hcut hzz hz hkl
      go_wp2_with (go_at_call 12; with_reducible refine (HN8.out _).mono ?_; rintro e w' ⟨rfl, rfl⟩)
      go_round
      case rel => exact ⟨k + 1, by omega, by go_num⟩
      case measure => simp [intOf]; omega
    · go_wp2_with fail
      go_ret
      exact ⟨rfl, HW3.out⟩
end Go.Proofs.Ytaglcnnanomekaa.Law01
