/-
  Law TreeCut of package psephoslaw09: what is cut off can be laid anew; what is left is as it was.
-/
import Derived.Test.YtgbhblbfodphfaaCutP
namespace Go.Proofs.Ytgbhblbfodphfaa.Tree
open Go.RowKit Go.Maps Go.Proofs.YtgbhblbfodphfaaW.PrintWords Go.Proofs.Ytgbhblbfodphfaa.Open
set_option linter.unusedVariables false

theorem Mem.kept {w w' : World} {p B : Nat} {t : T} {P : Nat → Prop} (h : Mem w p B t) (hk : Kept w w' P) (hp : ¬ P p) (hB : ¬ P B) : Mem w' p B t := h.move (hk.2 p h.lt.1 hp) (hk.2 B h.lt.2 hB)
theorem cells4 {w : World} {g t : Nat} {v0 v1 v2 v3 : Value} (h : w.heap[g]? = some (.cells #[v0, v1, v2, v3] t (0, 0))) :
    w.cell? ⟨g, 0, none⟩ = some v0 ∧ w.cell? ⟨g, 1, none⟩ = some v1 ∧ w.cell? ⟨g, 2, none⟩ = some v2 ∧ w.cell? ⟨g, 3, none⟩ = some v3 :=
  ⟨by simp [World.cell?, h], by simp [World.cell?, h], by simp [World.cell?, h], by simp [World.cell?, h]⟩
structure Two (w : World) (p B pu Bu : Nat) (t u : T) (wr : World) : Prop where
  one : Mem wr p B t
  two : Mem wr pu Bu u
  bel : Below w.heap.size w wr
theorem Two.below {w : World} {p B pu Bu : Nat} {t u : T} {wr w' : World} (h : Two w p B pu Bu t u wr) (hb : Below wr.heap.size wr w') : Two w p B pu Bu t u w' :=
  ⟨h.one.below hb, h.two.below hb, h.bel.trans (hb.mono h.bel.size)⟩
/-- Behind the cut: the row of what is gone, beside the two trees. -/
structure Gone (w : World) (b p B pu Bu : Nat) (t u : T) (v : Value) (g : List Int) (wr : World) : Prop where
  tw : Two w p B pu Bu t u wr
  row : Kd.R (Kd.int .u64) 26 wr b (fun k => k ≠ B) v g
  le : b ≤ wr.heap.size
theorem Gone.below {w : World} {b p B pu Bu : Nat} {t u : T} {v : Value} {g : List Int} {wr w' : World} (h : Gone w b p B pu Bu t u v g wr) (hb : Below wr.heap.size wr w') : Gone w b p B pu Bu t u v g w' :=
  ⟨h.tw.below hb, Kd.R_below h.row hb, Nat.le_trans h.le hb.size⟩

set_option maxHeartbeats 32000000 in
set_option maxRecDepth 100000 in
theorem treeCut_law (A : Option Addr) (n c : Nat) (f : Nat → Int × Int × Int × Int) (a1 : Int) (w : World) (ga : ActsArg w A n c f) (h1 : 0 ≤ a1 ∧ a1 ≤ 255) :
    Calls Try.prog 5 #[.slice A n c, .int .u8 a1] w fun e w' => e = .returned (.bool true) ∧ Below w.heap.size w w' := by
  have GA := Aside0.mk ga
  obtain ⟨x, hx⟩ : ∃ x, a1 % 24 = x := ⟨_, rfl⟩
  have RX := rest8 (m := 24) h1 (by omega) (by omega)
  rw [hx] at RX
  have hwx := RX.1
  have BX : Aside0 (0 ≤ x ∧ x ≤ 18446744073709551615) := ⟨by omega⟩
  have hnb : n ≤ 9223372036854775807 := by have := ga.le; have := ga.cap; omega
  have HNB := Aside0.mk hnb
  clear ga h1 RX hx hnb
  go_enter Try.func5, Try.ntmps5
  go_wp2_with fail
  go_at_call 6
  refine (awake_calls w).mono ?_
  rintro e w0 ⟨rfl, hb⟩
  have HB0 := Aside0.mk hb
  clear hb
  go_wp2_with fail
  go_at_call 7
  refine (of_calls 1 2 w0 (by omega)).mono ?_
  rintro e w1 ⟨p, B, rfl, hm, hb, hp, hB⟩
  have HM1 := Aside0.mk hm
  have HB1 := Aside0.mk (HB0.out.trans (hb.mono HB0.out.size))
  have HP1 : Aside0 (w.heap.size ≤ p ∧ w.heap.size ≤ B) := ⟨by have := HB0.out.size; omega⟩
  clear hm hb hp hB HB0
  go_wp2_with fail
  go_at_call 7
  refine (of_calls 1 2 w1 (by omega)).mono ?_
  rintro e w2 ⟨pu, Bu, rfl, hm, hb, hp, hB⟩
  have HL : Aside0 (Two w p B pu Bu (laid f 0) (laid f 0) w2) := ⟨HM1.out.below hb, hm, HB1.out.trans (hb.mono HB1.out.size)⟩
  have HP : Aside0 (w.heap.size ≤ p ∧ w.heap.size ≤ B ∧ p < pu ∧ p < Bu ∧ B < pu ∧ B < Bu) := ⟨by have := HP1.out; have := HM1.out.lt; omega⟩
  clear hm hb hp hB HM1 HB1 HP1
  go_wp2_with fail
  go_loopw [33] (fun v33 wr => ∃ k : Nat, k ≤ n ∧ v33 = .int .i64 k ∧ Aside0 (Two w p B pu Bu (laid f k) (laid f k) wr)) (fun v33 _ => n - (RowKit.intOf v33).toNat)
  case atStart => exact ⟨0, by omega, rfl, HL⟩
  case round =>
    obtain ⟨k, hk, rfl, HL⟩ := hrel
    by_cases hlt : k < n
    · have t0 : decide ((k : Int) < (n : Int)) = true := decide_eq_true (by omega)
      have hwk : wrap64 ((k : Int) + 1) = ((k + 1 : Nat) : Int) := by have := HNB.out; unfold wrap64; omega
      have HWK := Aside0.mk hwk
      obtain ⟨ad, hA, hd⟩ := (GA.out.below HL.out.bel).at_ k hlt
      subst hA
      have c0 := hd.c0
      have c1 := hd.c1
      have c2 := hd.c2
      have c3 := hd.c3
      have HD := Aside0.mk hd
      have hq1 := (rest8 (m := 24) hd.b1 (by omega) (by omega)).1
      have hq2 := (rest8 (m := 24) hd.b2 (by omega) (by omega)).1
      have hq3 := (rest8 (m := 40) hd.b3 (by omega) (by omega)).2.1
      have HQ1 : Aside0 (0 ≤ (f k).2.1 % 24 ∧ (f k).2.1 % 24 ≤ 18446744073709551615) := ⟨by omega⟩
      have HQ2 : Aside0 (0 ≤ (f k).2.2.1 % 24 ∧ (f k).2.2.1 % 24 ≤ 18446744073709551615) := ⟨by omega⟩
      have HH := Aside0.mk (laid_deeds f k).high
      obtain ⟨gb, hgb⟩ : ∃ gb, wr.heap.size = gb := ⟨_, rfl⟩
      have HGB : Aside0 (p < gb ∧ B < gb ∧ pu < gb ∧ Bu < gb ∧ w.heap.size ≤ gb) := ⟨by have := HL.out.one.lt; have := HL.out.two.lt; have := HL.out.bel.size; omega⟩
      have HX := Aside0.mk (new_block wr (.cells #[.int .u8 (f k).1, .int .u8 (f k).2.1, .int .u8 (f k).2.2.1, .int .u8 (f k).2.2.2] 28))
      rw [hgb] at HX
      clear hwk hd
      go_wp2_with fail
      go_at_call 8
      refine (add_calls p B (laid f k) ((f k).2.1 % 24) ((f k).2.2.1 % 24) ((f k).2.2.2 % 40) _ (HL.out.one.below (below_alloc (Below.refl _ _) _)) HQ1.out HQ2.out HH.out).mono ?_
      rintro e w3 ⟨rfl, hm, hb, hkp⟩
      have HL2 : Aside0 (Two w p B pu Bu (laid f (k + 1)) (laid f k) w3) := ⟨by rw [laid_succ]; exact hm, (HL.out.two.below (below_alloc (Below.refl _ _) _)).kept hkp (by have := HP.out; omega) (by have := HP.out; omega), (below_alloc HL.out.bel _).trans (hb w.heap.size HP.out.2.1 (below_alloc HL.out.bel _).size)⟩
      obtain ⟨d0, d1, d2, d3⟩ := cells4 ((hkp.2 gb (by simp; omega) (by have := HGB.out; omega)).trans HX.out)
      clear hm hb hkp c0 c1 c2 c3 HL
      go_wp2_with fail
      go_at_call 8
      refine (add_calls pu Bu (laid f k) ((f k).2.1 % 24) ((f k).2.2.1 % 24) ((f k).2.2.2 % 40) w3 HL2.out.two HQ1.out HQ2.out HH.out).mono ?_
      rintro e w4 ⟨rfl, hm, hb, hkp⟩
      have HL3 : Aside0 (Two w p B pu Bu (laid f (k + 1)) (laid f (k + 1)) w4) := ⟨HL2.out.one.kept hkp (by have := HP.out; omega) (by have := HP.out; omega), by rw [laid_succ]; exact hm, HL2.out.bel.trans (hb w.heap.size (by have := HP.out; omega) HL2.out.bel.size)⟩
      clear hm hb hkp
      go_wp2_with fail
      go_roundw
      case rel => exact ⟨k + 1, by omega, by rw [HWK.out], HL3⟩
      case measure => rw [HWK.out]; simp [RowKit.intOf]; omega
    · have t0 : decide ((k : Int) < (n : Int)) = false := decide_eq_false (by omega)
      obtain rfl : k = n := by omega
      have D := Aside0.mk (laid_deeds f k)
      obtain ⟨t, ht⟩ : ∃ t, laid f k = t := ⟨_, rfl⟩
      rw [ht] at HL D
      clear ht
      by_cases hh : has t.ns x = true
      · have HX := Aside0.mk hh
        obtain ⟨bp, hbp⟩ : ∃ b, (getD t.ns x).p = b := ⟨_, rfl⟩
        obtain ⟨bs, hbs⟩ : ∃ b, (getD t.ns x).s = b := ⟨_, rfl⟩
        obtain ⟨base, hbase⟩ : ∃ b, (getD t.ns x).h = b := ⟨_, rfl⟩
        have HG := Aside0.mk (And.intro hbp (And.intro hbs hbase))
        clear hbp hbs hbase hh
        go_wp2_with fail
        go_at_call 10
        refine (has_calls p B t x wr HL.out.one BX.out).mono ?_
        rw [HX.out]
        rintro e w2 ⟨rfl, hb⟩
        replace HL := Aside0.mk (HL.out.below hb)
        clear hb
        go_wp2_with fail
        go_at_call 14
        refine (get_calls pu Bu t x w2 HL.out.two BX.out).mono ?_
        rw [HG.out.1, HG.out.2.1, HG.out.2.2, HX.out]
        rintro e w3 ⟨rfl, hb⟩
        replace HL := Aside0.mk (HL.out.below hb)
        clear hb
        go_wp2_with fail
        go_at_call 13
        refine (cut_calls p B t x w3 HL.out.one D.out.fit.well D.out.fit.uniq D.out.fit.ne (by have := D.out.len; omega) D.out.high BX.out HX.out).mono ?_
        obtain ⟨g, hg⟩ : ∃ g, goneOf t x = g := ⟨_, rfl⟩
        obtain ⟨t', ht'⟩ : ∃ t', cutOf t x = t' := ⟨_, rfl⟩
        rw [hg, ht']
        rintro e w4 ⟨v, B', rfl, hR, hm, hB', hb, hkp⟩
        obtain ⟨Ag, cg, rfl⟩ := Kd.R_slice hR
        have HP2 : Aside0 (w.heap.size ≤ B' ∧ pu < B' ∧ Bu < B') := ⟨by have := HL.out.two.lt; have := HL.out.bel.size; omega⟩
        have HL4 : Aside0 (Gone w w3.heap.size p B' pu Bu t' t (.slice Ag g.length cg) g w4) := ⟨⟨hm, HL.out.two.kept hkp (by have := HP.out; omega) (by have := HP.out; omega), HL.out.bel.trans (hb w.heap.size HP.out.1 HL.out.bel.size)⟩, hR, hkp.1⟩
        have DC : Aside0 (Deeds t') := ⟨by rw [← ht']; exact D.out.cut HX.out⟩
        have hfi : t'.first = x := by rw [← ht']; rfl
        have HF := Aside0.mk hfi
        have hsum : g.length + t'.ns.length = t.ns.length := by rw [← hg, ← ht']; exact cut_sum t x
        have HS := Aside0.mk hsum
        have hlen : wrap64 ((g.length : Int) + (t'.ns.length : Int)) = (t.ns.length : Int) := by have := D.out.len; unfold wrap64; omega
        have hlz : ((t.ns.length : Int) != (t.ns.length : Int)) = false := by simp
        have hxz : (x != x) = false := by simp
        have HSM : Aside0 (∀ q, has t'.ns q = true → has t.ns q = true ∧ (getD t'.ns q).s = (getD t.ns q).s ∧ wrap64 ((getD t.ns q).h - base) = (getD t'.ns q).h ∧ (q ≠ x → (getD t'.ns q).p = (getD t.ns q).p)) := ⟨fun q hq => by rw [← HG.out.2.2, ← ht']; rw [← ht'] at hq; exact cut_same D.out HX.out q hq⟩
        have HGM : Aside0 (∀ q ∈ g, has t'.ns q = false ∧ (0 ≤ q ∧ q ≤ 18446744073709551615)) := ⟨fun q hq => by
          rw [← hg, gone_mem] at hq
          rw [← ht', cut_has]
          exact ⟨hq.2, D.out.fit.well.wide q hq.1⟩⟩
        have HGN : Aside0 (g.Nodup) := ⟨by rw [← hg]; exact gone_nodup D.out.fit.uniq x⟩
        have HRT : Aside0 (has t'.ns x = true ∧ (getD t'.ns x).s < 1000) := ⟨by
          have h1 := DC.out.fit.well.first
          rw [hfi] at h1
          have := DC.out.slot x h1
          exact ⟨h1, by omega⟩⟩
        clear hR hm hB' hb hkp hg ht' hfi hsum HL
        go_wp2_with (first
          | (go_at_call 12; with_reducible refine (len_calls p B' t' _ HL4.out.tw.one).mono ?_; rintro e w5 ⟨rfl, hb⟩; replace HL4 := Aside0.mk (HL4.out.below hb); clear hb)
          | (go_at_call 12; with_reducible refine (len_calls pu Bu t _ HL4.out.tw.two).mono ?_; rintro e w5 ⟨rfl, hb⟩; replace HL4 := Aside0.mk (HL4.out.below hb); clear hb)
          | (go_at_call 15; with_reducible refine (first_calls p B' t' _ HL4.out.tw.one).mono ?_; rw [HF.out]; rintro e w5 ⟨rfl, hb⟩; replace HL4 := Aside0.mk (HL4.out.below hb); clear hb)
          | (go_at_call 16; fail))
        refine (roots_calls p B' t' _ HL4.out.tw.one DC.out.fit.uniq DC.out.fit.ne (by have := DC.out.len; omega)).mono ?_
        obtain ⟨rs, hrs⟩ : ∃ rs, rootsOf t'.ns = rs := ⟨_, rfl⟩
        rw [hrs]
        rintro e w6 ⟨v, rfl, hR, hb⟩
        obtain ⟨Ar, cr, rfl⟩ := Kd.R_slice hR
        have HRR : Aside0 (Kd.R (Kd.int .u64) 26 w6 w5.heap.size (fun _ => True) (.slice Ar rs.length cr) rs) := ⟨hR⟩
        replace HL4 := Aside0.mk (HL4.out.below hb)
        have HRM : Aside0 (∀ j, j < rs.length → has t'.ns (rd rs (j : Int)) = true) := ⟨fun j hj => by
          rw [rd_at rs j hj, ← roots_mem, hrs]
          exact List.getElem_mem hj⟩
        have hrl : rs.length ≤ 1024 := by have := DC.out.len; rw [← hrs, roots_length]; exact this
        have HRL := Aside0.mk hrl
        have hgl : g.length ≤ 1024 := by have := HS.out; have := D.out.len; omega
        have HGL := Aside0.mk hgl
        clear hR hb hrs hrl hgl
        go_wp2_with fail
        go_loopw [113] (fun v113 wr => ∃ j : Nat, j ≤ rs.length ∧ v113 = .int .i64 j ∧ Aside0 (Gone w w3.heap.size p B' pu Bu t' t (.slice Ag g.length cg) g wr) ∧ Aside0 (Kd.R (Kd.int .u64) 26 wr w5.heap.size (fun _ => True) (.slice Ar rs.length cr) rs)) (fun v113 _ => rs.length - (RowKit.intOf v113).toNat)
        case atStart => exact ⟨0, by omega, rfl, HL4, HRR⟩
        case round =>
          obtain ⟨j, hj, rfl, HL4, HRR⟩ := hrel
          by_cases hjl : j < rs.length
          · have t1 : decide ((j : Int) < (rs.length : Int)) = true := decide_eq_true (by omega)
            have hwk : wrap64 ((j : Int) + 1) = ((j + 1 : Nat) : Int) := by have := HRL.out; unfold wrap64; omega
            have HWK := Aside0.mk hwk
            obtain ⟨ad, rfl, hc⟩ := Kd.at_int (Kd.R_reads' HRR.out).2.2 (j : Int) (by omega) (by omega)
            rw [Int.toNat_natCast] at hc
            obtain ⟨q, hq⟩ : ∃ q, rd rs (j : Int) = q := ⟨_, rfl⟩
            have hqh := HRM.out j hjl
            rw [hq] at hc hqh
            obtain ⟨m1, m2, m3, m4⟩ := HSM.out q hqh
            have HQ := Aside0.mk (D.out.fit.well.wide q m1)
            obtain ⟨p1, hp1⟩ : ∃ y, (getD t'.ns q).p = y := ⟨_, rfl⟩
            obtain ⟨s1, hs1⟩ : ∃ y, (getD t'.ns q).s = y := ⟨_, rfl⟩
            obtain ⟨h1, hh1⟩ : ∃ y, (getD t'.ns q).h = y := ⟨_, rfl⟩
            obtain ⟨p2, hp2⟩ : ∃ y, (getD t.ns q).p = y := ⟨_, rfl⟩
            obtain ⟨h2, hh2⟩ : ∃ y, (getD t.ns q).h = y := ⟨_, rfl⟩
            rw [hs1] at m2
            rw [hh1, hh2] at m3
            rw [hp1, hp2] at m4
            have HT := Aside0.mk (And.intro hp1 (And.intro hs1 (And.intro hh1 hqh)))
            have HU := Aside0.mk (And.intro hp2 (And.intro m2.symm (And.intro hh2 m1)))
            have hs0 : (s1 != s1) = false := by simp
            have hh0 : (h1 != h1) = false := by simp
            clear hwk hq hqh m1 m2 hp1 hs1 hh1 hp2 hh2
            by_cases hqx : q = x
            · subst hqx
              have hq0 : (q != q) = false := by simp
              clear m4
              go_wp2_with (first
                | (go_at_call 14; with_reducible refine (get_calls p B' t' q _ HL4.out.tw.one HQ.out).mono ?_; rw [HT.out.1, HT.out.2.1, HT.out.2.2.1, HT.out.2.2.2]; rintro e w7 ⟨rfl, hb⟩; replace HL4 := Aside0.mk (HL4.out.below hb); replace HRR := Aside0.mk (Kd.R_below HRR.out hb); clear hb)
                | (go_at_call 14; with_reducible refine (get_calls pu Bu t q _ HL4.out.tw.two HQ.out).mono ?_; rw [HU.out.1, HU.out.2.1, HU.out.2.2.1, HU.out.2.2.2]; rintro e w7 ⟨rfl, hb⟩; replace HL4 := Aside0.mk (HL4.out.below hb); replace HRR := Aside0.mk (Kd.R_below HRR.out hb); clear hb))
              go_roundw
              case rel => exact ⟨j + 1, by omega, by rw [HWK.out], HL4, HRR⟩
              case measure => rw [HWK.out]; simp [RowKit.intOf]; omega
            · have hq0 : (q != x) = true := by simp [hqx]
              obtain rfl := m4 hqx
              have hp0 : (p1 != p1) = false := by simp
              clear m4
              go_wp2_with (first
                | (go_at_call 14; with_reducible refine (get_calls p B' t' q _ HL4.out.tw.one HQ.out).mono ?_; rw [HT.out.1, HT.out.2.1, HT.out.2.2.1, HT.out.2.2.2]; rintro e w7 ⟨rfl, hb⟩; replace HL4 := Aside0.mk (HL4.out.below hb); replace HRR := Aside0.mk (Kd.R_below HRR.out hb); clear hb)
                | (go_at_call 14; with_reducible refine (get_calls pu Bu t q _ HL4.out.tw.two HQ.out).mono ?_; rw [HU.out.1, HU.out.2.1, HU.out.2.2.1, HU.out.2.2.2]; rintro e w7 ⟨rfl, hb⟩; replace HL4 := Aside0.mk (HL4.out.below hb); replace HRR := Aside0.mk (Kd.R_below HRR.out hb); clear hb))
              go_roundw
              case rel => exact ⟨j + 1, by omega, by rw [HWK.out], HL4, HRR⟩
              case measure => rw [HWK.out]; simp [RowKit.intOf]; omega
          · have t1 : decide ((j : Int) < (rs.length : Int)) = false := decide_eq_false (by omega)
            have HAO : Aside0 (∀ i, i ≤ g.length → Anew t' x g i (anew t' x g i)) := ⟨anew_ok DC.out.fit (fun r hr => by have := DC.out.slot r hr; omega) HRT.out.1 HRT.out.2 HGN.out (fun q hq => (HGM.out q hq).1) (fun q hq => (HGM.out q hq).2) (by have := HS.out; have := D.out.len; omega)⟩
            have HAE : Aside0 (∀ i, i < g.length → addErr (anew t' x g i) (rd g (i : Int)) x 1000 = none) := ⟨fun i hi => anew_err (HAO.out i (by omega)) HRT.out.1 HRT.out.2 HGN.out (fun q hq => (HGM.out q hq).1) (by have := HS.out; have := D.out.len; omega) hi⟩
            have HA0 : Aside0 (Gone w w3.heap.size p B' pu Bu (anew t' x g 0) t (.slice Ag g.length cg) g wr) := HL4
            go_wp2_with fail
            go_loopw [164] (fun v164 wr => ∃ i : Nat, i ≤ g.length ∧ v164 = .int .i64 i ∧ Aside0 (Gone w w3.heap.size p B' pu Bu (anew t' x g i) t (.slice Ag g.length cg) g wr)) (fun v164 _ => g.length - (RowKit.intOf v164).toNat)
            case atStart => exact ⟨0, by omega, rfl, HA0⟩
            case round =>
              obtain ⟨i, hi, rfl, HL5⟩ := hrel
              by_cases hil : i < g.length
              · have t2 : decide ((i : Int) < (g.length : Int)) = true := decide_eq_true (by omega)
                have hwk : wrap64 ((i : Int) + 1) = ((i + 1 : Nat) : Int) := by have := HGL.out; unfold wrap64; omega
                have HWK := Aside0.mk hwk
                obtain ⟨ad, rfl, hc⟩ := Kd.at_int (Kd.R_reads' HL5.out.row).2.2 (i : Int) (by omega) (by omega)
                rw [Int.toNat_natCast] at hc
                have he := HAE.out i hil
                have hqm : rd g (i : Int) ∈ g := by rw [rd_at g i hil]; exact List.getElem_mem hil
                have HQ := Aside0.mk (HGM.out _ hqm).2
                obtain ⟨q, hq⟩ : ∃ q, rd g (i : Int) = q := ⟨_, rfl⟩
                have hn : anew t' x g (i + 1) = addOf (anew t' x g i) q x 1000 := by rw [← hq]; rfl
                rw [hq] at hc he HQ
                have HE := Aside0.mk he
                have HN := Aside0.mk hn
                have HNO := Aside0.mk (addErr_none he).1
                have HH := Aside0.mk ((HAO.out i (by omega)).fit.limit (HAO.out i (by omega)).slot)
                clear hwk he hqm hq hn
                go_wp2_with (first
                  | (go_at_call 10; with_reducible refine (has_calls p B' _ q _ HL5.out.tw.one HQ.out).mono ?_; rw [HNO.out]; rintro e w7 ⟨rfl, hb⟩; replace HL5 := Aside0.mk (HL5.out.below hb); clear hb)
                  | (go_at_call 8; go_loud (with_reducible refine (add_calls p B' _ q x 1000 _ HL5.out.tw.one HQ.out BX.out HH.out).mono ?_; rw [HE.out]); go_loud (rintro e w7 ⟨rfl, hm, hb, hkp⟩); go_loud (have HL6 : Aside0 (Gone w w3.heap.size p B' pu Bu (anew t' x g (i + 1)) t (.slice (some ad) g.length cg) g w7) := ⟨⟨by rw [HN.out]; exact hm, HL5.out.tw.two.kept hkp (by have := HP2.out; omega) (by have := HP2.out; omega), HL5.out.tw.bel.trans (hb w.heap.size HP2.out.1 HL5.out.tw.bel.size)⟩, Kd.R_kept HL5.out.row hkp (fun b ho he => ho he), Nat.le_trans HL5.out.le hkp.1⟩); clear hm hb hkp; unfold errV))
                go_roundw
                case rel => exact ⟨i + 1, by omega, by rw [HWK.out], HL6⟩
                case measure => rw [HWK.out]; simp [RowKit.intOf]; omega
              · have t2 : decide ((i : Int) < (g.length : Int)) = false := decide_eq_false (by omega)
                go_wp2_with fail
                go_ret
                exact ⟨rfl, HL5.out.tw.bel⟩
      · have HX : Aside0 (has t.ns x = false) := ⟨by simpa using hh⟩
        have hlz : ((t.ns.length : Int) == (t.ns.length : Int)) = true := by simp
        clear hh
        go_wp2_with (first
          | (go_at_call 10; with_reducible refine (has_calls p B t x _ HL.out.one BX.out).mono ?_; rw [HX.out]; rintro e w2 ⟨rfl, hb⟩; replace HL := Aside0.mk (HL.out.below hb); clear hb)
          | (go_at_call 13; with_reducible refine (cut_none p B t x _ HL.out.one BX.out HX.out).mono ?_; rintro e w2 ⟨rfl, hb⟩; replace HL := Aside0.mk (HL.out.below hb); clear hb)
          | (go_at_call 12; with_reducible refine (len_calls p B t _ HL.out.one).mono ?_; rintro e w2 ⟨rfl, hb⟩; replace HL := Aside0.mk (HL.out.below hb); clear hb)
          | (go_at_call 12; with_reducible refine (len_calls pu Bu t _ HL.out.two).mono ?_; rintro e w2 ⟨rfl, hb⟩; replace HL := Aside0.mk (HL.out.below hb); clear hb))
        go_ret
        exact ⟨rfl, HL.out.bel⟩
end Go.Proofs.Ytgbhblbfodphfaa.Tree
