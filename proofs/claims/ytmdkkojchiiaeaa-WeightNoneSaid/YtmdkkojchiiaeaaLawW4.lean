/-
  The walk of the law WeightNone of package psephoslaw12: its call answers true, and writes nothing that was there; of arguments of their kinds.
-/
import Derived.Test.YtmdkkojchiiaeaaLawW
import Derived.Test.YtmdkkojchiiaeaaOpenStruct
import Derived.Deep.RegionHeld3
import Derived.Test.YtmdkkojchiiaeaaQWx2
import Derived.Test.YtmdkkojchiiaeaaQWx7
import Derived.Test.YtmdkkojchiiaeaaQWx9
namespace Go.Proofs.Ytmdkkojchiiaeaa.QW
open Go.RowKit Go.Maps Go.ChangeMaps Go.Proofs.YtmdkkojchiiaeaaW.PrintWords Go.Proofs.Ytmdkkojchiiaeaa.Tree Go.Proofs.Ytmdkkojchiiaeaa.Own
set_option linter.unusedVariables false

theorem Laid.cells {w : World} {g : Nat} {AX : Option Addr} {cX : Nat} {lx : List Int} {sl bo : Int} {p B : Nat} {t : T} {AM : Option Addr} {cM : Nat} {m : List S53} (h : Laid w g AX cX lx sl bo p B t AM cM m) :
    w.cell? ⟨g, 0, none⟩ = some (.slice AX lx.length cX) ∧ w.cell? ⟨g, 1, none⟩ = some (.int .i64 sl) ∧ w.cell? ⟨g, 2, none⟩ = some (.int .i64 bo) :=
  ⟨blk_cell h.box 0, blk_cell h.box 1, blk_cell h.box 2⟩

theorem none_one {t : T} {m : List S53} (R : Rel t m) (lx : List Int) (sl bo : Int) : weightOf lx sl bo t [] 1 1 = boostOf lx sl bo := by
  have h1 : below t 1 1 = true := by
    rw [below_first R, has_is R.chain]
    have := R.chain.pos
    simp
    omega
  unfold weightOf
  rw [if_pos h1]
  show IntKind.u64.wrap (0 + boostOf lx sl bo) = _
  rw [Int.zero_add]
  exact u64_in _ (u64_range _).1 (u64_range _).2
/-- weight.Of where nobody votes. -/
theorem weight_nil {w : World} {g : Nat} {AX : Option Addr} {cX : Nat} {lx : List Int} {sl bo : Int} {p B : Nat} {t : T} {AM : Option Addr} {cM : Nat} {m : List S53} (L : Laid w g AX cX lx sl bo p B t AM cM m) (boosted root : Int) (hb : 0 ≤ boosted ∧ boosted ≤ 18446744073709551615) (hr : 0 ≤ root ∧ root ≤ 18446744073709551615) :
    Calls Try.prog 14 #[.agg #[.slice AX lx.length cX, .int .i64 sl, .int .i64 bo], .pointer (some ⟨p, 0, none⟩), .slice none 0 0, .int .u64 boosted, .int .u64 root] w fun e w' => e = .returned (.int .u64 (weightOf lx sl bo t [] boosted root)) ∧ Below w.heap.size w w' :=
  weight_calls AX cX lx sl bo p B t none 0 [] boosted root w (L.args (lv := []) (Kd.C_nil _ w) (Nat.le_refl _) (by simp) (fun k r hk => by simp at hk)) hb hr

set_option maxHeartbeats 8000000 in
set_option maxRecDepth 100000 in
theorem weightNone_law (A0 : Option Addr) (n0 c0 : Nat) (z0 : List Int) (sl bo : Int) (A1 : Option Addr) (n1 c1 : Nat) (z1 : List Int) (w : World)
    (h0 : Kd.C (Kd.int .u64) w A0 n0 z0) (hc0 : n0 ≤ c0) (hn0 : n0 ≤ 17592186043904) (hs : -9223372036854775808 ≤ sl ∧ sl ≤ 9223372036854775807) (hb : -9223372036854775808 ≤ bo ∧ bo ≤ 9223372036854775807) (hp : ∀ z ∈ z0, 0 ≤ z)
    (h1 : ReadsInt w .u8 A1 n1 z1) (hz1 : ∀ z ∈ z1, 0 ≤ z ∧ z ≤ 255) (rt : Int) (hrt : 0 ≤ rt ∧ rt ≤ 255) :
    Calls Try.prog 4 #[.agg #[.slice A0 n0 c0, .int .i64 sl, .int .i64 bo], .slice A1 n1 c1, .int .u8 rt] w fun x w' => x = .returned (.bool true) ∧ Below w.heap.size w w' := by
  have hl0 : z0.length = n0 := h0.1
  subst hl0
  obtain ⟨kr, hkr⟩ := (make3_f z0 sl bo hn0 hb.1 hb.2).rounds
  have HKR := Aside0.mk hkr
  have H0 := Aside0.mk h0
  have H1 := Aside0.mk h1
  have HZ1 := Aside0.mk hz1
  have HP := Aside0.mk (mkBal_mem z0 hp)
  have HLN := Aside0.mk (mkBal_len z0)
  have HSL := Aside0.mk (mkSlots_in sl)
  clear hkr h0 h1 hz1 hp hs hb
  have hrr : 0 ≤ rt % 33 ∧ rt % 33 < 33 := by omega
  go_enter Try.func4, Try.ntmps4
  go_wp2_with (first
    | (go_at_call 9; refine (Law12.awake_calls _).mono ?_; rintro x w1 ⟨rfl, hb⟩; have HB1 := Aside0.mk (below_then (below_alloc (Below.refl w.heap.size w) _) (by simp) hb); have HBK := Aside0.mk (blk_below (heap_alloc_new w _) hb); have hcg := blk_cell HBK.out; clear hb)
    | (go_at_call 12; refine (psephoslaw03_Make.calls kr A0 c0 z0 sl bo _ _ _ _ (Kd.C_below H0.out HB1.out) hc0 HKR.out).mono ?_; rintro x w2 ⟨v0, rfl, hR, hb⟩; have HB2 := Aside0.mk (below_then HB1.out HB1.out.size hb); obtain ⟨AX, cX, rfl, hcx, hC⟩ := Kd.R_reads hR; have HX := Aside0.mk hC; have HCX := Aside0.mk hcx; clear hb hR hC hcx)
    | (go_at_call 13; refine (made_calls A1 n1 c1 z1 _ (H1.out.below (below_alloc HB2.out _)) HZ1.out).mono ?_; rintro x w3 ⟨p, B, v, t, m, rfl, hM, R, hR, hb, _, _⟩; obtain ⟨AM, cM, rfl, hcM, hC⟩ := Kd.R_reads hR; have HB3 := Aside0.mk (below_then (below_alloc HB2.out _) (by simp; have := HB2.out.size; omega) hb); have LD := Aside0.mk (show Laid w3 w2.heap.size AX cX (mkBal z0) (mkSlots sl) (mkBoost bo) p B t AM cM m from ⟨blk_below (heap_alloc_new w2 _) hb, Kd.C_below HX.out (below_then (below_alloc (Below.refl _ _) _) (by simp) hb), HCX.out, HLN.out, by have := HSL.out; omega, HP.out, hM, R, hC, hcM⟩); have hcg3 := blk_cell LD.out.box; clear hb hM R hR hC hcM hcg))
  have LRd := Aside0.mk (LD.out.below (below_drew (Below.refl _ _)))
  have HBd := Aside0.mk (below_drew HB3.out)
  have K0 : Aside0 ((0 : Int) ≤ 0 ∧ (0 : Int) ≤ 18446744073709551615) := ⟨by omega⟩
  have K1 : Aside0 ((0 : Int) ≤ 1 ∧ (1 : Int) ≤ 18446744073709551615) := ⟨by omega⟩
  have KR : Aside0 (0 ≤ rt % 33 ∧ rt % 33 ≤ 18446744073709551615) := ⟨by omega⟩
  have HW := Aside0.mk (votesAt_wide (fun _ => 0) 0 (mkBal z0).length (fun j => by omega))
  have HLV : Aside0 ((votesAt (fun _ => 0) 0 (mkBal z0).length).length ≤ 4096) := ⟨by rw [votesAt_len]; exact HLN.out.2⟩
  have HF0 : Aside0 (weightOf (mkBal z0) (mkSlots sl) (mkBoost bo) t (votesAt (fun _ => 0) 0 (mkBal z0).length) 0 (rt % 33) = 0) := ⟨by rw [weightOf, if_neg (by rw [below_out LD.out.R 0 _ (by omega)]; simp), votesAt_len, have_empty _ _ _ _ _ (Nat.le_refl _)]⟩
  have HF1 : Aside0 (weightOf (mkBal z0) (mkSlots sl) (mkBoost bo) t [] 1 1 = boostOf (mkBal z0) (mkSlots sl) (mkBoost bo)) := ⟨none_one LD.out.R _ _ _⟩
  obtain ⟨kb, hkb⟩ := (boost_f (mkBal z0) (mkSlots sl) (mkBoost bo) (by have := HLN.out.2; omega) LD.out.hsl).rounds
  have HKB := Aside0.mk hkb
  clear hkb
  have e8 : Int.tmod rt 33 = rt % 33 := Int.tmod_eq_emod_of_nonneg hrt.1
  have e9 : IntKind.u64.wrap (rt % 33) = rt % 33 := u64_in _ hrr.1 (by omega)
  go_region_held3 (fun w' => w'.cell? ⟨w2.heap.size, 0, none⟩ = some (.slice AX (mkBal z0).length cX) ∧ w'.cell? ⟨w2.heap.size, 1, none⟩ = some (.int .i64 (mkSlots sl)) ∧ w'.cell? ⟨w2.heap.size, 2, none⟩ = some (.int .i64 (mkBoost bo)))
    (first | exact L7.out.cells | exact L6.out.cells | exact L5.out.cells | exact L4.out.cells | exact LRd.out.cells | exact LD.out.cells)
    (first
      | (go_at_call 15; refine (latest_Of.calls _ _ _ (of_f (mkBal z0).length HLN.out.2)).mono ?_; rintro x w4 ⟨v4, rfl, hR, hb⟩; obtain ⟨AV, cV, hv⟩ := Kd.R_slice hR; rw [votesAt_len] at hv; subst hv; have HV4 := Aside0.mk hR; have HB4 := Aside0.mk (below_then HBd.out HBd.out.size hb); have L4 := Aside0.mk (LRd.out.below hb); clear hb hR)
      | (go_at_call 14; with_reducible refine (weight_at L4.out HV4.out HLV.out HW.out 0 (rt % 33) K0.out KR.out).mono ?_; rw [HF0.out]; rintro x w5 ⟨rfl, hb⟩; have HB5 := Aside0.mk (below_then HB4.out HB4.out.size hb); have L5 := Aside0.mk (L4.out.below hb); clear hb)
      | (go_at_call 14; with_reducible refine (weight_nil L6.out 1 1 K1.out K1.out).mono ?_; rw [HF1.out]; rintro x w7 ⟨rfl, hb⟩; have HB7 := Aside0.mk (below_then HB6.out HB6.out.size hb); have L7 := Aside0.mk (L6.out.below hb); clear hb)
      | (go_at_call 14; with_reducible refine (weight_nil L5.out 1 1 K1.out K1.out).mono ?_; rw [HF1.out]; rintro x w6 ⟨rfl, hb⟩; have HB6 := Aside0.mk (below_then HB5.out HB5.out.size hb); have L6 := Aside0.mk (L5.out.below hb); clear hb)
      | (go_at_call 16; with_reducible refine (config_Boost.calls kb AX cX _ _ _ _ _ L6.out.hx L6.out.hcx HKB.out).mono ?_; rintro x w7 ⟨rfl, hb⟩; have HB7 := Aside0.mk (below_then HB6.out HB6.out.size hb); have L7 := Aside0.mk (L6.out.below hb); clear hb)
      | (go_at_call 16; with_reducible refine (config_Boost.calls kb AX cX _ _ _ _ _ L5.out.hx L5.out.hcx HKB.out).mono ?_; rintro x w6 ⟨rfl, hb⟩; have HB6 := Aside0.mk (below_then HB5.out HB5.out.size hb); have L6 := Aside0.mk (L5.out.below hb); clear hb))
  all_goals
    go_wp2_with fail
    go_ret
    exact ⟨by first | rfl | simp, HB7.out⟩

/-- The same, of arguments as they are opened. -/
theorem weightNone_args {A0 A1 : Option Addr} {n0 c0 n1 c1 : Nat} {z0 z1 : List Int} {sl bo rt : Int} {w : World} (g0 : Open.ConfigArg w A0 n0 c0 z0 sl bo) (g1 : Open.IntsArg w .u8 1 A1 n1 c1 z1) (w2 : (Lit.int .u8 rt).wf = true) :
    Calls Try.prog 4 #[.agg #[.slice A0 n0 c0, .int .i64 sl, .int .i64 bo], .slice A1 n1 c1, .int .u8 rt] w fun x w' => x = .returned (.bool true) ∧ Below w.heap.size w w' :=
  weightNone_law A0 n0 c0 z0 sl bo A1 n1 c1 z1 w (Kd.C_of_reads (d := (0 : Int)) (h1 := fun _ => rfl) g0.row.reads) g0.row.le (by have := g0.row.size; omega) (bd_i64 g0.ws) (bd_i64 g0.wb) (fun z hz => (bd_u64 (g0.row.wf z hz)).1) g1.reads (fun z hz => bd_u8 (g1.wf z hz)) rt (bd_u8 w2)
end Go.Proofs.Ytmdkkojchiiaeaa.QW
