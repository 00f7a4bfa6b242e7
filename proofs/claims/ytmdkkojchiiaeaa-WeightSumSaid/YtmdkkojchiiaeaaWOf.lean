/-
  What a block has: weight.Of, by its contract. Conditions: the slices read as lists, the tree lies in memory, and all numbers are of their kinds.
-/
import Derived.Test.YtmdkkojchiiaeaaMade
import Derived.Test.YtmdkkojchiiaeaaQWx4
import Derived.Test.YtmdkkojchiiaeaaQWx7
import Derived.Test.YtmdkkojchiiaeaaQWx8
namespace Go.Proofs.Ytmdkkojchiiaeaa.QW
open Go.RowKit Go.Maps Go.ChangeMaps Go.Proofs.YtmdkkojchiiaeaaW.PrintWords Go.Proofs.Ytmdkkojchiiaeaa.Tree Go.Proofs.Ytmdkkojchiiaeaa.Own
set_option linter.unusedVariables false

theorem drawn_below {w w' : World} (h : Drawn0 w w') : Below w.heap.size w w' := by
  obtain ⟨n, rfl⟩ := h.out
  exact pw_below_drewN (Below.refl _ _) n
theorem lit_reads {α : Type} (d : Kd α) (e : Nat) (w : World) (x : α) (cs : List Value) (hM : d.M w w.heap.size (fun _ => False) x cs) : d.C (w.alloc (.cells cs.toArray e)) (some ⟨w.heap.size, 0, none⟩) [x].length [x] :=
  (Kd.R_reads' (lit_one d e w w.heap.size (Nat.le_refl _) x cs (fun _ => True) hM trivial)).2.2
/-- What the walk of weight.Of asks of its arguments. -/
structure OfArgs (w : World) (AX : Option Addr) (cX : Nat) (lx : List Int) (sl : Int) (p B : Nat) (t : T) (AV : Option Addr) (cV : Nat) (lv : List S63) : Prop where
  hx : Kd.C (Kd.int .u64) w AX lx.length lx
  hcx : lx.length ≤ cX
  hM : Mem w p B t
  W : Well t
  hv : Kd.C k63 w AV lv.length lv
  hcv : lv.length ≤ cV
  small : lv.length ≤ 4096
  hlx : lx.length ≤ 35184372088832
  hsl : sl ≤ 9223372036854775807
  wide : ∀ k r, k < lv.length → voteOf lv k = some r → 0 ≤ r ∧ r ≤ 18446744073709551615
theorem OfArgs.below {w w' : World} {AX : Option Addr} {cX : Nat} {lx : List Int} {sl : Int} {p B : Nat} {t : T} {AV : Option Addr} {cV : Nat} {lv : List S63} (h : OfArgs w AX cX lx sl p B t AV cV lv) (hb : Below w.heap.size w w') : OfArgs w' AX cX lx sl p B t AV cV lv :=
  ⟨Kd.C_below h.hx hb, h.hcx, h.hM.below hb, h.W, Kd.C_below h.hv hb, h.hcv, h.small, h.hlx, h.hsl, h.wide⟩

set_option maxHeartbeats 8000000 in
set_option maxRecDepth 100000 in
theorem weight_calls (AX : Option Addr) (cX : Nat) (lx : List Int) (sl bo : Int) (p B : Nat) (t : T) (AV : Option Addr) (cV : Nat) (lv : List S63) (boosted root : Int) (w : World) (h : OfArgs w AX cX lx sl p B t AV cV lv)
    (hb : 0 ≤ boosted ∧ boosted ≤ 18446744073709551615) (hr : 0 ≤ root ∧ root ≤ 18446744073709551615) :
    Calls Try.prog 14 #[.agg #[.slice AX lx.length cX, .int .i64 sl, .int .i64 bo], .pointer (some ⟨p, 0, none⟩), .slice AV lv.length cV, .int .u64 boosted, .int .u64 root] w fun e w' => e = .returned (.int .u64 (weightOf lx sl bo t lv boosted root)) ∧ Below w.heap.size w w' := by
  have hsm := h.small
  have H := Aside0.mk h
  have HBo := Aside0.mk hb
  have HRo := Aside0.mk hr
  clear h hb hr
  go_enter Try.func14, Try.ntmps14
  go_wp2_with fail
  obtain ⟨w0, hw0⟩ : ∃ w0, w0 = w.alloc (.cells #[.slice AX lx.length cX, .int .i64 sl, .int .i64 bo] 31) := ⟨_, rfl⟩
  have HBK : Aside0 (w0.heap[w.heap.size]? = some (.cells #[.slice AX lx.length cX, .int .i64 sl, .int .i64 bo] 31 (0, 0))) := ⟨by rw [hw0]; exact heap_alloc_new _ _⟩
  have HB0 : Aside0 (Below w.heap.size w w0) := ⟨by rw [hw0]; exact below_alloc (Below.refl _ _) _⟩
  rw [← hw0]
  clear hw0
  go_loopw [11, 17] (fun x c wr => ∃ k : Nat, k ≤ lv.length ∧ x = .int .u64 (haveOf lx t lv root k) ∧ c = .int .i64 k ∧ Aside0 (wr.heap[w.heap.size]? = some (.cells #[.slice AX lx.length cX, .int .i64 sl, .int .i64 bo] 31 (0, 0))) ∧ Aside0 (Below w.heap.size w wr)) (fun _ c _ => lv.length - (intOf c).toNat)
  case atStart => exact ⟨0, by omega, rfl, rfl, HBK, HB0⟩
  case round =>
    obtain ⟨k, hk, rfl, rfl, HBK, HB⟩ := hrel
    have hcg := blk_cell HBK.out
    have hg := blk_lt HBK.out
    have HA := Aside0.mk (H.out.below HB.out)
    by_cases hlt : k < lv.length
    · have t0 : decide ((k : Int) < (lv.length : Int)) = true := decide_eq_true (by omega)
      have HG := Aside0.mk (get_f lv k hlt)
      cases hv : voteOf lv k with
      | none =>
        rw [hv] at HG
        simp only at HG
        have HN : Aside0 (haveOf lx t lv root (k + 1) = haveOf lx t lv root k) := ⟨by rw [haveOf, hv]⟩
        clear hv
        go_wp2_with (go_at_call 22; refine (latest_Votes_Get.calls AV cV lv (k : Int) _ _ _ HA.out.hv HA.out.hcv HG.out).mono ?_; rintro e w2 ⟨rfl, hd⟩; have HB2 := Aside0.mk (drawn_below hd); have HBK2 := Aside0.mk (blk_below HBK.out HB2.out); clear hd)
        go_roundw
        case rel => exact ⟨k + 1, by omega, by rw [HN.out], by go_num, HBK2, ⟨below_then HB.out HB.out.size HB2.out⟩⟩
        case measure => simp [intOf]; omega
      | some r =>
        rw [hv] at HG
        simp only at HG
        have HW := Aside0.mk (H.out.wide k r hlt hv)
        by_cases hbel : below t r root = true
        · have HN : Aside0 (haveOf lx t lv root (k + 1) = IntKind.u64.wrap (haveOf lx t lv root k + balOf lx k)) := ⟨by rw [haveOf, hv]; simp [hbel]⟩
          have HBE := Aside0.mk hbel
          clear hv hbel
          obtain ⟨kr, hkr⟩ := (sum_one lx sl bo (k : Int)).rounds
          have HKR := Aside0.mk hkr
          clear hkr
          go_wp2_with (first
            | (go_at_call 22; refine (latest_Votes_Get.calls AV cV lv (k : Int) _ _ _ HA.out.hv HA.out.hcv HG.out).mono ?_; rintro e w2 ⟨rfl, hd⟩; have HB2 := Aside0.mk (drawn_below hd); clear hd)
            | (go_at_call 28; refine (below_calls p B t r root _ (HA.out.hM.below HB2.out) HA.out.W HW.out HRo.out).mono ?_; rw [HBE.out]; rintro e w3 ⟨rfl, hb3⟩; have HB3 := Aside0.mk (below_then HB2.out HB2.out.size hb3); have HBK3 := Aside0.mk (blk_below HBK.out HB3.out); have hcg3 := blk_cell HBK3.out; have HA3 := Aside0.mk (HA.out.below HB3.out); clear hb3)
            | (go_at_call 29; refine (config_Sum.calls kr AX cX lx sl bo _ 1 [(k : Int)] _ _ (Kd.C_below HA3.out.hx (below_alloc (Below.refl _ _) _)) HA3.out.hcx (lit_reads (Kd.int .i64) 3 w3 (k : Int) [.int .i64 k] rfl) (Nat.le_refl _) HKR.out).mono ?_; rintro e w4 ⟨rfl, hb4⟩; have HB4 := Aside0.mk (below_then (below_alloc HB3.out _) (by simp; have := HB3.out.size; omega) hb4); have HBK4 := Aside0.mk (blk_below HBK.out HB4.out); clear hb4))
          go_roundw
          case rel => exact ⟨k + 1, by omega, by rw [HN.out], by go_num, HBK4, ⟨below_then HB.out HB.out.size HB4.out⟩⟩
          case measure => simp [intOf]; omega
        · have HBE : Aside0 (below t r root = false) := ⟨by simpa using hbel⟩
          have HN : Aside0 (haveOf lx t lv root (k + 1) = haveOf lx t lv root k) := ⟨by rw [haveOf, hv]; simp [HBE.out]⟩
          clear hv hbel
          go_wp2_with (first
            | (go_at_call 22; refine (latest_Votes_Get.calls AV cV lv (k : Int) _ _ _ HA.out.hv HA.out.hcv HG.out).mono ?_; rintro e w2 ⟨rfl, hd⟩; have HB2 := Aside0.mk (drawn_below hd); clear hd)
            | (go_at_call 28; refine (below_calls p B t r root _ (HA.out.hM.below HB2.out) HA.out.W HW.out HRo.out).mono ?_; rw [HBE.out]; rintro e w3 ⟨rfl, hb3⟩; have HB3 := Aside0.mk (below_then HB2.out HB2.out.size hb3); have HBK3 := Aside0.mk (blk_below HBK.out HB3.out); clear hb3))
          go_roundw
          case rel => exact ⟨k + 1, by omega, by rw [HN.out], by go_num, HBK3, ⟨below_then HB.out HB.out.size HB3.out⟩⟩
          case measure => simp [intOf]; omega
    · have t0 : decide ((k : Int) < (lv.length : Int)) = false := decide_eq_false (by omega)
      obtain rfl : k = lv.length := by omega
      by_cases hbel : below t boosted root = true
      · have HN : Aside0 (weightOf lx sl bo t lv boosted root = IntKind.u64.wrap (haveOf lx t lv root lv.length + boostOf lx sl bo)) := ⟨by rw [weightOf, if_pos hbel]⟩
        have HBE := Aside0.mk hbel
        obtain ⟨kr, hkr⟩ := (boost_f lx sl bo H.out.hlx H.out.hsl).rounds
        have HKR := Aside0.mk hkr
        clear hkr hbel
        go_wp2_with (first
          | (go_at_call 28; refine (below_calls p B t boosted root _ HA.out.hM HA.out.W HBo.out HRo.out).mono ?_; rw [HBE.out]; rintro e w3 ⟨rfl, hb3⟩; have HB3 := Aside0.mk hb3; have HBK3 := Aside0.mk (blk_below HBK.out HB3.out); have hcg3 := blk_cell HBK3.out; have HA3 := Aside0.mk (HA.out.below HB3.out); clear hb3)
          | (go_at_call 16; refine (config_Boost.calls kr AX cX lx sl bo _ _ HA3.out.hx HA3.out.hcx HKR.out).mono ?_; rintro e w4 ⟨rfl, hb4⟩; have HB4 := Aside0.mk (below_then HB3.out HB3.out.size hb4); clear hb4))
        go_ret
        exact ⟨by rw [HN.out]; rfl, below_then HB.out HB.out.size HB4.out⟩
      · have HBE : Aside0 (below t boosted root = false) := ⟨by simpa using hbel⟩
        have HN : Aside0 (weightOf lx sl bo t lv boosted root = haveOf lx t lv root lv.length) := ⟨by rw [weightOf, if_neg hbel]⟩
        clear hbel
        go_wp2_with (go_at_call 28; refine (below_calls p B t boosted root _ HA.out.hM HA.out.W HBo.out HRo.out).mono ?_; rw [HBE.out]; rintro e w3 ⟨rfl, hb3⟩; have HB3 := Aside0.mk hb3; clear hb3)
        go_ret
        exact ⟨by rw [HN.out]; rfl, below_then HB.out HB.out.size HB3.out⟩
end Go.Proofs.Ytmdkkojchiiaeaa.QW
