/-
  What the functions of package octet come to: numbers laid as eight bytes each, the number at a place, the first place at which bytes differ; of slices that are read as they came, and of sizes that memory bears.
-/
import Derived.Test.YtaglcnnanomekaaProg
import Derived.Test.YtaglcnnanomekaaOwn
import Derived.Maps.AppendAt
import Derived.Deep.QuietTactic
import Derived.BigQuiet
namespace Go.Proofs.Ytaglcnnanomekaa.Octet
open Go.RowKit Go.Proofs.YtaglcnnanomekaaW.PrintWords Go.Proofs.Ytaglcnnanomekaa.Own
attribute [local go_sem] max2_is min2_is max_pair min_pair
theorem info_byte : (Try.prog.info? 5).map (fun i => (i.zero, i.size, i.bytes)) = some (some (.int .u8 0), 1, 1) := by kernel_rfl

/-- A number's byte j, the high one first. -/
def byteAt (n : Int) (j : Nat) : Int := n / 2 ^ (56 - 8 * j) % 256
/-- A number's bytes. -/
def be8 (n : Int) : List Int := (List.range 8).map (byteAt n)
theorem be8_length (n : Int) : (be8 n).length = 8 := rfl
/-- Numbers laid behind bytes. -/
def put (b ns : List Int) : List Int := b ++ ns.flatMap be8
theorem flat_length (ns : List Int) : (ns.flatMap be8).length = 8 * ns.length := by
  induction ns with
  | nil => rfl
  | cons n ns ih => rw [List.flatMap_cons, List.length_append, ih, be8_length, List.length_cons]; omega
theorem put_length (b ns : List Int) : (put b ns).length = b.length + 8 * ns.length := by rw [put, List.length_append, flat_length]
theorem put_snoc (b ns : List Int) (n : Int) : put b (ns ++ [n]) = put b ns ++ be8 n := by simp [put, List.flatMap_append]
theorem take_snoc (ns : List Int) (k : Nat) (h : k < ns.length) : ns.take (k + 1) = ns.take k ++ [ns.getD k 0] := by
  rw [List.take_succ_eq_append_getElem h, List.getD_eq_getElem?_getD, List.getElem?_eq_getElem h]; rfl
theorem be8_snoc (n : Int) (j : Nat) (h : j < 8) : (be8 n).take (j + 1) = (be8 n).take j ++ [byteAt n j] := by
  rw [take_snoc _ _ (by rw [be8_length]; exact h)]
  congr 2
  simp [be8, List.getD_eq_getElem?_getD, List.getElem?_range h]

theorem put_calls (A : Option Addr) (n c : Nat) (bs : List Int) (A' : Option Addr) (n' c' : Nat) (ns : List Int) (w : World) (hb : ReadsInt w .u8 A n bs) (hn : ReadsInt w .u64 A' n' ns)
    (hns : ∀ z ∈ ns, 0 ≤ z ∧ z ≤ 18446744073709551615) (hsz : n + 8 * n' ≤ 140737488355328) :
    Calls Try.prog 11 #[.slice A n c, .slice A' n' c'] w fun e w' =>
      ∃ v, e = .returned v ∧ w'.ownsRow w.heap.size 5 1 v (put bs ns).length (nums .u8 (put bs ns)) ∧ Below w.heap.size w w' := by
  have HR := Aside0.mk hb
  have HN := Aside0.mk hn
  have HS := Aside0.mk hns
  have hn' : n' ≤ 9223372036854775807 := by omega
  clear hb hn hns
  go_enter Try.func11, Try.ntmps11
  go_wp2_with (at_builtin; refine print_append_row (w0 := w) w.heap.size rfl (.const (.slice none 0 0)) (.tmp 9) 22 5 .u8 1 rfl Try.underlying22 info_byte (by omega) _ [] bs _ _ _ rfl rfl (own_nil _ _ _ _) HR.out (Below.refl _ _) (Nat.le_refl _) (by simp; omega) ?_; intro v1 w1 hown HB hg hat; simp only [List.nil_append] at hown)
  have HO := Aside0.mk hown
  have HB1 := Aside0.mk HB
  clear hown HB hg hat
  go_wp2_with fail
  go_loopw [5, 13] (fun v x wr => ∃ (k : Nat) (L : List Int), k ≤ n' ∧ x = .int .i64 (k : Int) ∧ Aside0 (L = put bs (ns.take k)) ∧ Aside0 (wr.ownsRow w.heap.size 5 1 v L.length (nums .u8 L)) ∧ Aside0 (Below w.heap.size w wr))
    (fun _ x _ => n' - (intOf x).toNat)
  case atStart => exact ⟨0, bs, Nat.zero_le _, rfl, ⟨by simp [put]⟩, ⟨HO.out⟩, ⟨HB1.out⟩⟩
  case round =>
    obtain ⟨k, L, hk, rfl, HL, HO, HB⟩ := hrel
    obtain ⟨A1, c1, hv⟩ := own_slice HO.out
    subst hv
    by_cases hlt : k < n'
    · obtain ⟨ad, hA, hc⟩ := (HN.out.below HB.out).at_ (k : Int) (by omega) (by omega)
      rw [Int.toNat_natCast] at hc
      subst hA
      have hkl : k < ns.length := by rw [HN.out.1]; exact hlt
      have hz := HS.out (rd ns k) (by unfold rd; rw [Int.toNat_natCast, List.getD_eq_getElem?_getD, List.getElem?_eq_getElem hkl]; exact List.getElem_mem hkl)
      obtain ⟨z, hzz⟩ : ∃ z, z = rd ns k := ⟨_, rfl⟩
      rw [← hzz] at hc hz
      have HZ := Aside0.mk (show ns.getD k 0 = z by rw [hzz]; rfl)
      have HLT := Aside0.mk hlt
      have HKL := Aside0.mk hkl
      have hlen : L.length ≤ n + 8 * k := by rw [HL.out, put_length, List.length_take, HR.out.1]; omega
      have HLEN := Aside0.mk (show L.length + 8 ≤ 140737488355328 by omega)
      clear hzz hkl hlen hsz
      go_wp2_with fail
      obtain ⟨wo, rfl⟩ : ∃ wo : World, wo = wr := ⟨_, rfl⟩
      go_loopw [5, 8] (fun v x wr => ∃ (j : Nat) (M : List Int), j ≤ 8 ∧ x = .int .i64 (56 - 8 * (j : Int)) ∧ Aside0 (M = L ++ (be8 z).take j) ∧ Aside0 (wr.ownsRow w.heap.size 5 1 v M.length (nums .u8 M)) ∧ Aside0 (Below w.heap.size w wr))
        (fun _ x _ => (intOf x + 8).toNat)
      case atStart => exact ⟨0, L, Nat.zero_le _, by go_num, ⟨by simp⟩, ⟨HO.out⟩, ⟨HB.out⟩⟩
      case round =>
        obtain ⟨j, M, hj, rfl, HM, HO, HB⟩ := hrel
        obtain ⟨A2, c2, hv⟩ := own_slice HO.out
        subst hv
        by_cases hjt : j < 8
        · have HJ := Aside0.mk hjt
          have HML := Aside0.mk (show M.length + 1 ≤ 140737488355328 by rw [HM.out, List.length_append, List.length_take, be8_length]; have := HLEN.out; omega)
          have h56 : (56 - 8 * (j : Int)).toNat = 56 - 8 * j := by omega
          go_wp2_with (at_builtin; refine print_append_num (w0 := w) w.heap.size rfl (.tmp 21) (.tmp 26) 22 5 .u8 1 rfl Try.underlying22 info_byte (by omega) _ M (z / 2 ^ (56 - 8 * j) % 256) rfl rfl HO.out HB.out HB.out.size (by have := HML.out; omega) ?_; intro v2 w2 hown HB2 hg hat; have HO2 := Aside0.mk hown; have HB2' := Aside0.mk HB2; clear hown HB2 hg hat HO HB)
          go_roundw
          case rel => exact ⟨j + 1, M ++ [byteAt z j], HJ.out, by go_num, ⟨by rw [HM.out, be8_snoc z j HJ.out, List.append_assoc]⟩, HO2, HB2'⟩
          case measure => simp [intOf]; omega
        · obtain rfl : j = 8 := by omega
          have HM8 : Aside0 (M = put bs (ns.take (k + 1))) := ⟨by rw [HM.out, HL.out, take_snoc ns k HKL.out, put_snoc, HZ.out]; rfl⟩
          clear HM hjt
          go_wp2_with fail
          go_roundw
          case rel => exact ⟨k + 1, M, HLT.out, by go_num, HM8, HO, HB⟩
          case measure => simp [intOf]; omega
    · have HE : Aside0 (L = put bs ns) := ⟨by rw [HL.out, List.take_of_length_le (by rw [HN.out.1]; omega)]⟩
      go_wp2_with fail
      go_ret
      exact ⟨_, rfl, by rw [← HE.out]; exact HO.out, HB.out⟩
end Go.Proofs.Ytaglcnnanomekaa.Octet
