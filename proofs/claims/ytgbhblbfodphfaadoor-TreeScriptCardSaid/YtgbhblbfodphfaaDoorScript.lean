/-
  Law TreeScript of package psephoslaw09: a tree and its model, deed by deed; where the library's variable is laid.
-/
import Derived.Test.YtgbhblbfodphfaaDoorQZx14
import Derived.Test.YtgbhblbfodphfaaDoorQZx15
import Derived.Test.YtgbhblbfodphfaaDoorQZx16
import Derived.Test.YtgbhblbfodphfaaDoorQZx18
import Derived.Test.YtgbhblbfodphfaaDoorAgree
import Derived.Test.YtgbhblbfodphfaaDoorNumber
namespace Go.Proofs.YtgbhblbfodphfaaDoor.QZ
open Go.RowKit Go.Maps Go.Proofs.YtgbhblbfodphfaaDoorW.PrintWords Go.Proofs.YtgbhblbfodphfaaDoor.Tree Go.Proofs.YtgbhblbfodphfaaDoor.Open
set_option linter.unusedVariables false

/-- A literal of one element is a row of the call's own. -/
theorem lit_one {α : Type} (d : Kd α) (e : Nat) (w : World) (base : Nat) (hb : base ≤ w.heap.size) (x : α) (cs : List Value) (ok : Nat → Prop) (hM : d.M w base (fun _ => False) x cs) (hok : ok w.heap.size) :
    d.R e (w.alloc (.cells cs.toArray e)) base ok (.slice (some ⟨w.heap.size, 0, none⟩) 1 1) [x] := by
  have hl := d.K_len (d.K_of_M hM)
  refine ⟨fun k hk => ?_, cs, ?_, ?_⟩
  · have : w.heap.size = k := by simpa [Value.ownBlock] using hk
    subst this
    exact hok
  · have h2 := World.ownsRow_lit (base := base) (e := e) (size := d.sz) w cs.toArray 1 hb (by simp [maxLen]) (by simp [hl])
    simpa using h2
  · have h3 : Reps (d.M (w.alloc (.cells cs.toArray e)) base (fun k => ok k ∧ some k ≠ (Value.slice (some ⟨w.heap.size, 0, none⟩) 1 1).ownBlock)) d.sz ([] ++ [x]) ([] ++ cs) :=
      Reps.snoc (Reps.none _ _) (d.M_mono (fun k hk => hk.elim) (Kd.M_below hM (below_alloc (Below.refl _ _) _))) hl
    simpa using h3
theorem cells4 {w : World} {g t : Nat} {v0 v1 v2 v3 : Value} (h : w.heap[g]? = some (.cells #[v0, v1, v2, v3] t (0, 0))) :
    w.cell? ⟨g, 0, none⟩ = some v0 ∧ w.cell? ⟨g, 1, none⟩ = some v1 ∧ w.cell? ⟨g, 2, none⟩ = some v2 ∧ w.cell? ⟨g, 3, none⟩ = some v3 :=
  ⟨by simp [World.cell?, h], by simp [World.cell?, h], by simp [World.cell?, h], by simp [World.cell?, h]⟩
/-- What stands in memory between two deeds. -/
structure SC (w : World) (p B : Nat) (t : T) (v : Value) (m : Md) (wr : World) : Prop where
  tree : Mem wr p B t
  rel : MRel t m
  row : Kd.R k37 37 wr w.heap.size (fun b => b ≠ p ∧ b ≠ B) v m
  bel : Below w.heap.size w wr
  hp : w.heap.size ≤ p
  hB : w.heap.size ≤ B
theorem SC.below {w : World} {p B : Nat} {t : T} {v : Value} {m : Md} {wr w' : World} (h : SC w p B t v m wr) (hb : Below wr.heap.size wr w') : SC w p B t v m w' :=
  ⟨h.tree.below hb, h.rel, Kd.R_below h.row hb, h.bel.trans (hb.mono h.bel.size), h.hp, h.hB⟩

set_option maxHeartbeats 32000000 in
set_option maxRecDepth 100000 in
theorem treeScript_law (A : Option Addr) (n c : Nat) (f : Nat → Int × Int × Int × Int) (w : World) (hL : Number.Laid w) (ga : ActsArg w A n c f) :
    Calls Tryd.prog 4 #[.slice A n c] w fun e w' => e = .returned (.bool true) ∧ Below w.heap.size w w' := by
  have HLD := Aside0.mk hL
  have GA := Aside0.mk ga
  have hnb : n ≤ 9223372036854775807 := by have := ga.le; have := ga.cap; omega
  have HNB := Aside0.mk hnb
  clear ga hnb hL
  go_enter Tryd.func4, Tryd.ntmps4
  go_wp2_with fail
  go_at_call 5
  refine (awake_calls w).mono ?_
  rintro e w0 ⟨rfl, hb⟩
  have HB0 := Aside0.mk hb
  clear hb
  go_wp2_with fail
  go_at_call 6
  refine (of_calls 1 2 w0 (by omega)).mono ?_
  rintro e w1 ⟨p, B, rfl, hm, hb, hp, hB⟩
  have HM := Aside0.mk hm
  have HB1 := Aside0.mk (HB0.out.trans (hb.mono HB0.out.size))
  have HP1 : Aside0 (w.heap.size ≤ p ∧ w.heap.size ≤ B) := ⟨by have := HB0.out.size; omega⟩
  clear hm hb hp hB HB0
  have hlit := Aside0.mk (lit_one k37 37 w1 w.heap.size HB1.out.size ⟨1, 1, 2⟩ [.int .u64 1, .int .u64 1, .int .i64 2] (fun b => b ≠ p ∧ b ≠ B) (k37_mkM _ _ _ ⟨1, 1, 2⟩) (by have := HM.out.lt; constructor <;> omega))
  go_wp2_with fail
  obtain ⟨w2, hw2⟩ : ∃ w2, w2 = w1.alloc (.cells #[.int .u64 1, .int .u64 1, .int .i64 2] 37) := ⟨_, rfl⟩
  have HS : Aside0 (SC w p B ⟨1, [⟨1, 1, 2, 0⟩]⟩ (.slice (some ⟨w1.heap.size, 0, none⟩) 1 1) [⟨1, 1, 2⟩] w2) := ⟨⟨HM.out.below (by rw [hw2]; exact below_alloc (Below.refl _ _) _), MRel.one, by rw [hw2]; exact hlit.out, by rw [hw2]; exact below_alloc HB1.out _, HP1.out.1, HP1.out.2⟩⟩
  rw [← hw2]
  clear hw2 hlit HM HB1 HP1
  go_loopw [4, 29] (fun v4 v29 wr => ∃ (k B : Nat) (t : T) (m : Md), k ≤ n ∧ v29 = .int .i64 k ∧ Aside0 (SC w p B t v4 m wr)) (fun _ v29 _ => n - (RowKit.intOf v29).toNat)
  case atStart => exact ⟨0, B, _, _, by omega, rfl, HS⟩
  case round =>
    clear HS
    obtain ⟨k, B, t, m, hk, rfl, HS⟩ := hrel
    obtain ⟨Am, cm, hv, hcm, -⟩ := Kd.R_reads HS.out.row
    subst hv
    have HCM := Aside0.mk hcm
    clear hcm
    by_cases hlt : k < n
    · have t0 : decide ((k : Int) < (n : Int)) = true := decide_eq_true (by omega)
      have hwk : wrap64 ((k : Int) + 1) = ((k + 1 : Nat) : Int) := by have := HNB.out; unfold wrap64; omega
      have HWK := Aside0.mk hwk
      obtain ⟨ad, hA, hd⟩ := (GA.out.below HS.out.bel).at_ k hlt
      subst hA
      have c0 := hd.c0
      have c1 := hd.c1
      have c2 := hd.c2
      have c3 := hd.c3
      have hq1 := (rest8 (m := 24) hd.b1 (by omega) (by omega)).1
      have hq2 := (rest8 (m := 24) hd.b2 (by omega) (by omega)).1
      have hq3 := (rest8 (m := 40) hd.b3 (by omega) (by omega)).2.1
      obtain ⟨root, hroot⟩ : ∃ x, (f k).2.1 % 24 = x := ⟨_, rfl⟩
      obtain ⟨par, hpar⟩ : ∃ x, (f k).2.2.1 % 24 = x := ⟨_, rfl⟩
      obtain ⟨slot, hslot⟩ : ∃ x, (f k).2.2.2 % 40 = x := ⟨_, rfl⟩
      rw [hroot] at hq1
      rw [hpar] at hq2
      rw [hslot] at hq3
      have HRB : Aside0 (0 ≤ root ∧ root ≤ 18446744073709551615) := ⟨by omega⟩
      have HRB2 : Aside0 (0 ≤ root ∧ root < 24) := ⟨by omega⟩
      have HPB : Aside0 (0 ≤ par ∧ par ≤ 18446744073709551615) := ⟨by omega⟩
      have HSB : Aside0 (slot ≤ 39) := ⟨by omega⟩
      obtain ⟨op, hop⟩ : ∃ b, ((f k).1.tmod 16 == 15) = b := ⟨_, rfl⟩
      obtain ⟨a0, ha0⟩ : ∃ x, (f k).1 = x := ⟨_, rfl⟩
      obtain ⟨a1, ha1⟩ : ∃ x, (f k).2.1 = x := ⟨_, rfl⟩
      obtain ⟨a2, ha2⟩ : ∃ x, (f k).2.2.1 = x := ⟨_, rfl⟩
      obtain ⟨a3, ha3⟩ : ∃ x, (f k).2.2.2 = x := ⟨_, rfl⟩
      rw [ha0] at c0 hop
      rw [ha1] at c1 hq1
      rw [ha2] at c2 hq2
      rw [ha3] at c3 hq3
      clear hwk hd hroot hpar hslot ha0 ha1 ha2 ha3
      go_wp2_with fail
      have HX := Aside0.mk (cells4 (new_block wr (.cells #[.int .u8 a0, .int .u8 a1, .int .u8 a2, .int .u8 a3] 41)))
      replace HS := Aside0.mk (HS.out.below (below_alloc (Below.refl _ _) (.cells #[.int .u8 a0, .int .u8 a1, .int .u8 a2, .int .u8 a3] 41)))
      clear c0 c1 c2 c3
      obtain ⟨gb, hgb⟩ : ∃ gb, wr.heap.size = gb := ⟨_, rfl⟩
      obtain ⟨wa, hwa⟩ : ∃ wa, wr.alloc (.cells #[.int .u8 a0, .int .u8 a1, .int .u8 a2, .int .u8 a3] 41) = wa := ⟨_, rfl⟩
      rw [hgb, hwa] at HX
      rw [hwa] at HS
      rw [hgb, hwa]
      clear hgb hwa
      obtain ⟨d0, d1, d2, d3⟩ := HX.out
      go_quiet (fail)
      replace HS := Aside0.mk (HS.out.below (pw_below_drewN (Below.refl _ _) nq))
      clear d1 d2 d3 HX
      cases op
      · rw [hq3]
        clear hq1 hq2 hq3
        obtain ⟨KA, hKA⟩ := (HS.out.rel.add_f root par slot).rounds
        rcases he : addErr t root par slot with _ | e0
        · rw [he] at hKA
          have HKA : Aside0 (psephoslaw09_Model_add.f KA m root par slot = some 0) := ⟨hKA⟩
          have HE := Aside0.mk he
          have HFW := Aside0.mk HS.out.rel.few
          clear hKA he
          go_wp2_with (first
            | (go_at_call 14; go_loud (with_reducible refine (psephoslaw09_Model_add.calls KA Am cm m root par slot 0 _ (Kd.R_reads' HS.out.row).2.2 HCM.out HKA.out).mono ?_; rintro e w5 ⟨rfl, hb⟩; replace HS := Aside0.mk (HS.out.below hb); clear hb))
            | (go_at_call 7; go_loud (with_reducible refine (add_calls p B t root par slot _ HS.out.tree HRB.out HPB.out HS.out.rel.deeds.high).mono ?_; rw [HE.out]); go_loud (rintro e w6 ⟨rfl, hm, hb, hkp⟩); go_loud (have HM6 := Aside0.mk hm; have HB6 : Aside0 (Below w.heap.size w w6) := ⟨HS.out.bel.trans (hb w.heap.size HS.out.hB HS.out.bel.size)⟩; have HR6 := Aside0.mk (Kd.R_kept HS.out.row hkp (fun b ho he => ho.2 he))); clear hm hb hkp; unfold errV)
            | (go_at_call 8; go_loud (with_reducible refine (Number.number_nil _).mono ?_; rintro e w7 ⟨rfl, hb⟩; replace HM6 := Aside0.mk (HM6.out.below hb); replace HR6 := Aside0.mk (Kd.R_below HR6.out hb); replace HB6 := Aside0.mk (HB6.out.trans (hb.mono HB6.out.size)); clear hb))
            | (at_builtin; go_loud (refine Kd.R_append_rows k37 (w0 := w) w.heap.size rfl (.const (.slice none 0 0)) (.tmp 136) 39 37 (.agg #[.int .u64 0, .int .u64 0, .int .i64 0]) 24 rfl Tryd.underlying39 (by kernel_rfl) rfl (by decide) (by omega) (.slice none 0 0) ([] : Md) m Am m.length cm (fun b => b ≠ p ∧ b ≠ B) (fun _ => False) rfl rfl (Kd.R_nil _ _ _ _ _) (Kd.R_reads' HR6.out).2.2 ?aM (fun _ hk => hk.elim) ?aF HB6.out HB6.out.size ?aL ?_); go_loud (case aM => intro x cs h; rw [k37_open h]; exact k37_mkM _ _ _ x); go_loud (case aF => intro q hq; have := HM6.out.lt; constructor <;> omega); go_loud (case aL => have := HFW.out; simp; omega); go_loud (intro v8 w8 ho hb hg hat; rw [List.nil_append] at ho; have HR8 := Aside0.mk ho; have HB8 := Aside0.mk hb; have HM8 := Aside0.mk (HM6.out.move (hg.block p HM6.out.lt.1 (fun e => by cases e)) (hg.block B HM6.out.lt.2 (fun e => by cases e)))); clear ho hb hg hat)
            | (at_builtin; go_loud (refine Kd.R_append k37 (w0 := w) w.heap.size rfl (.tmp 137) (.tmp 142) 39 37 (.agg #[.int .u64 0, .int .u64 0, .int .i64 0]) 24 rfl Tryd.underlying39 (by kernel_rfl) rfl (by decide) (by omega) _ m ⟨root, par, slot⟩ [.int .u64 root, .int .u64 par, .int .i64 slot] (fun b => b ≠ p ∧ b ≠ B) (fun _ => False) rfl rfl ?aP (fun _ hk => hk.elim) ?aF HR8.out HB8.out HB8.out.size ?aL ?_); go_loud (case aP => exact k37_mkM _ _ _ ⟨root, par, slot⟩); go_loud (case aF => intro q hq; have := HM8.out.lt; constructor <;> omega); go_loud (case aL => have := HFW.out; omega); go_loud (intro v9 w9 ho hb hg hat; obtain ⟨m9, hm9⟩ : ∃ m9 : Md, m9 = m ++ [(⟨root, par, slot⟩ : S37)] := ⟨_, rfl⟩; rw [← hm9] at ho; obtain ⟨A9, c9, rfl⟩ := Kd.R_slice ho; have HS9 : Aside0 (SC w p B (addOf t root par slot) (.slice A9 m9.length c9) m9 w9) := ⟨⟨by (have h := HM8.out.move (hg.block p HM8.out.lt.1 (fun e => (HR8.out.1 p e.symm).1 rfl)) (hg.block B HM8.out.lt.2 (fun e => (HR8.out.1 B e.symm).2 rfl))); exact h, by rw [hm9]; exact HS.out.rel.add root par slot HRB2.out HSB.out HE.out, ho, hb, HS.out.hp, HS.out.hB⟩⟩; have HC9 := Aside0.mk (Kd.R_reads' ho).2.1); clear ho hb hg hat hm9)
            | (go_at_call 15; go_loud (with_reducible refine (agrees_calls p B (addOf t root par slot) A9 c9 m9 _ HS9.out.tree (Kd.R_reads' HS9.out.row).2.2 HC9.out HS9.out.rel).mono ?_; rintro e w8 ⟨rfl, hb⟩; replace HS9 := Aside0.mk (HS9.out.below hb); clear hb)))
          go_roundw
          case rel => exact ⟨k + 1, B, _, _, by omega, by first | rw [HWK.out] | rfl, HS9⟩
          case measure => (try rw [HWK.out]); simp [RowKit.intOf]; omega
        · rw [he] at hKA
          have HKA : Aside0 (psephoslaw09_Model_add.f KA m root par slot = some e0) := ⟨hKA⟩
          have HE := Aside0.mk he
          have tc0 : e0 ≠ 0 := by
            intro h
            subst h
            unfold addErr at he
            repeat' split at he
            all_goals simp at he
          have tc : (e0 == 0) = false := by simp [tc0]
          have tcc : (e0 != e0) = false := by simp
          clear hKA he tc0
          go_wp2_with (first
            | (go_at_call 14; go_loud (with_reducible refine (psephoslaw09_Model_add.calls KA Am cm m root par slot e0 _ (Kd.R_reads' HS.out.row).2.2 HCM.out HKA.out).mono ?_; rintro e w5 ⟨rfl, hb⟩; replace HS := Aside0.mk (HS.out.below hb); clear hb))
            | (go_at_call 7; go_loud (with_reducible refine (add_calls p B t root par slot _ HS.out.tree HRB.out HPB.out HS.out.rel.deeds.high).mono ?_; rw [HE.out]); go_loud (rintro e w6 ⟨rfl, hm, hb, hkp⟩); go_loud (have HS6 : Aside0 (SC w p B (addOf t root par slot) (.slice Am m.length cm) m w6) := ⟨⟨hm, HS.out.rel.same root par slot (by rw [HE.out]; simp), Kd.R_kept HS.out.row hkp (fun b ho he => ho.2 he), HS.out.bel.trans (hb w.heap.size HS.out.hB HS.out.bel.size), HS.out.hp, HS.out.hB⟩⟩); clear hm hb hkp; unfold errV)
            | (go_at_call 8; go_loud (with_reducible refine (Number.number_some e0 _ (Number.laid_below HLD.out HS6.out.bel)).mono ?_; rintro e w7 ⟨rfl, hb⟩; replace HS6 := Aside0.mk (HS6.out.below hb); clear hb))
            | (go_at_call 15; go_loud (with_reducible refine (agrees_calls p B (addOf t root par slot) Am cm m _ HS6.out.tree (Kd.R_reads' HS6.out.row).2.2 HCM.out HS6.out.rel).mono ?_; rintro e w8 ⟨rfl, hb⟩; replace HS6 := Aside0.mk (HS6.out.below hb); clear hb)))
          go_roundw
          case rel => exact ⟨k + 1, B, _, m, by omega, by first | rw [HWK.out] | rfl, HS6⟩
          case measure => (try rw [HWK.out]); simp [RowKit.intOf]; omega
      · rw [hq3]
        clear hq1 hq2 hq3
        cases hh : Tree.has t.ns root with
        | false =>
          obtain ⟨KF, hKF⟩ := (HS.out.rel.find root).rounds
          rw [HS.out.rel.no hh] at hKF
          have HKF := Aside0.mk hKF
          have HH := Aside0.mk hh
          clear hKF hh
          go_wp2_with (first
            | (go_at_call 11; go_loud (with_reducible refine (cut_none p B t root _ HS.out.tree HRB.out HH.out).mono ?_; rintro e w5 ⟨rfl, hb⟩; replace HS := Aside0.mk (HS.out.below hb); clear hb))
            | (go_at_call 12; go_loud (with_reducible refine (psephoslaw09_Model_Find.calls KF Am cm m root (-1) _ (Kd.R_reads' HS.out.row).2.2 HCM.out HKF.out).mono ?_; rintro e w5 ⟨rfl, hb⟩; replace HS := Aside0.mk (HS.out.below hb); clear hb)))
          go_roundw
          case rel => exact ⟨k + 1, B, t, m, by omega, by first | rw [HWK.out] | rfl, HS⟩
          case measure => (try rw [HWK.out]); simp [RowKit.intOf]; omega
        | true =>
          obtain ⟨i, hi, hpl, -, -, -, -⟩ := HS.out.rel.place hh
          obtain ⟨KF, hKF⟩ := (HS.out.rel.find root).rounds
          rw [hpl] at hKF
          have HKF := Aside0.mk hKF
          have HH := Aside0.mk hh
          have R := Aside0.mk HS.out.rel
          have HFW := Aside0.mk HS.out.rel.few
          have HLT := Aside0.mk HS.out.tree.lt
          have ti : decide ((i : Int) < 0) = false := decide_eq_false (by omega)
          clear hKF hh hpl hi
          go_wp2_with fail
          go_at_call 11
          refine (cut_calls p B t root _ HS.out.tree R.out.deeds.fit.well R.out.deeds.fit.uniq R.out.deeds.fit.ne (by have := R.out.deeds.len; omega) R.out.deeds.high HRB.out HH.out).mono ?_
          obtain ⟨g, hg⟩ : ∃ g, goneOf t root = g := ⟨_, rfl⟩
          obtain ⟨t', ht'⟩ : ∃ t', cutOf t root = t' := ⟨_, rfl⟩
          rw [hg, ht']
          rintro e w4 ⟨v, B', rfl, hR, hm, hB', hb, hkp⟩
          obtain ⟨Ag, cg, rfl⟩ := Kd.R_slice hR
          have HG := Aside0.mk (Kd.R_reads' hR).2.2
          have HC := Aside0.mk (Kd.R_reads' (Kd.R_kept HS.out.row hkp (fun b ho he => ho.1 he))).2.2
          have HT := Aside0.mk hm
          have HB4 : Aside0 (Below w.heap.size w w4) := ⟨HS.out.bel.trans (hb w.heap.size HS.out.hp HS.out.bel.size)⟩
          have HP4 : Aside0 (w.heap.size ≤ p ∧ w.heap.size ≤ B') := ⟨HS.out.hp, by have := HS.out.bel.size; omega⟩
          obtain ⟨bf, hbf⟩ : ∃ bf : S37 → Bool, bf = fun n => Tree.below t n.f0 root := ⟨_, rfl⟩
          have HBF := Aside0.mk hbf
          have hRC := R.out.cut HH.out
          have hcnt := R.out.cut_count HH.out
          rw [ht', ← hbf] at hRC
          rw [hg, ← hbf] at hcnt
          have HRC := Aside0.mk hRC
          have HCNT := Aside0.mk hcnt
          have HGM : Aside0 (∀ q ∈ g, Tree.has t.ns q = true ∧ Tree.has t'.ns q = false) := ⟨fun q hq => by
            rw [← hg, gone_mem] at hq
            rw [← ht', cut_has]
            exact hq⟩
          have HGR : Aside0 (∀ j, j + 1 < g.length → rd g (j : Int) < rd g ((j + 1 : Nat) : Int)) := ⟨fun j hj => by
            rw [rd_at g j (by omega), rd_at g (j + 1) hj]
            have h : g.Pairwise (fun x y => x < y) := by rw [← hg]; exact (roots_rising R.out.deeds.fit.uniq).filter _
            exact List.pairwise_iff_getElem.1 h j (j + 1) (by omega) hj (by omega)⟩
          clear hR hm hB' hb hkp hg ht' hbf hRC hcnt HS
          go_wp2_with fail
          go_at_call 12
          refine (psephoslaw09_Model_Find.calls KF Am cm m root i _ HC.out HCM.out HKF.out).mono ?_
          rintro e w5 ⟨rfl, hb⟩
          have HG5 := Aside0.mk (Kd.C_below HG.out hb)
          have HC5 := Aside0.mk (Kd.C_below HC.out hb)
          have HT5 := Aside0.mk (HT.out.below hb)
          have HB5 := Aside0.mk (HB4.out.trans (hb.mono HB4.out.size))
          have HB0 := Aside0.mk (Below.refl w5.heap.size w5)
          clear hb HG HC HT HB4
          go_wp2_with fail
          go_loopw [11, 12, 61] (fun v11 v12 v61 wr => ∃ l cnt : Nat, l ≤ m.length ∧ v61 = .int .i64 l ∧ v12 = .int .i64 cnt ∧ Aside0 (cnt + ((m.take l).filter bf).length = l) ∧ Aside0 (Kd.R k37 37 wr w5.heap.size (fun b => b ≠ p ∧ b ≠ B') v11 ((m.take l).filter bf)) ∧ Aside0 (Below w5.heap.size w5 wr)) (fun _ _ v61 _ => m.length - (RowKit.intOf v61).toNat)
          case atStart => exact ⟨0, 0, by omega, rfl, rfl, ⟨by simp⟩, ⟨by rw [List.take_zero]; exact Kd.R_nil _ _ _ _ _⟩, HB0⟩
          case round =>
            clear HB0
            obtain ⟨l, cnt, hl, rfl, rfl, HN, HR, HB⟩ := hrel
            by_cases hll : l < m.length
            · have t1 : decide ((l : Int) < (m.length : Int)) = true := decide_eq_true (by omega)
              have hwl : wrap64 ((l : Int) + 1) = ((l + 1 : Nat) : Int) := by have := HFW.out; unfold wrap64; omega
              have HWL := Aside0.mk hwl
              have hwc : wrap64 ((cnt : Int) + 1) = ((cnt + 1 : Nat) : Int) := by have := HFW.out; have := HN.out; unfold wrap64; omega
              have HWC := Aside0.mk hwc
              obtain ⟨am, e, z0, z1, z2⟩ := at_T37 (Kd.C_below HC5.out HB.out) (l : Int) (Int.natCast_nonneg l) (Int.ofNat_lt.2 hll)
              cases e
              rw [Int.toNat_natCast] at z0 z1 z2
              rw [rd_md m l hll] at z0 z1 z2
              have hfs : (m.take (l + 1)).filter bf = (m.take l).filter bf ++ if bf m[l] = true then [m[l]] else [] := by
                rw [List.take_succ_eq_append_getElem hll, List.filter_append]
                congr 1
                by_cases h : bf m[l] = true
                · rw [if_pos h, List.filter_cons_of_pos h, List.filter_nil]
                · rw [if_neg h, List.filter_cons_of_neg h, List.filter_nil]
              obtain ⟨x, hx⟩ : ∃ x, m[l] = x := ⟨_, rfl⟩
              rw [hx] at z0 z1 z2 hfs
              have hbx : bf x = Tree.below t x.f0 root := by rw [HBF.out]
              obtain ⟨KB, hKB⟩ := (R.out.below x.f0 root).rounds
              rw [← hbx] at hKB
              obtain ⟨x0, x1, x2⟩ := x
              simp only at z0 z1 z2 hKB
              have HX := Aside0.mk (cells3 (new_block wr (.cells #[.int .u64 x0, .int .u64 x1, .int .i64 x2] 37)))
              have HBA : Aside0 (Below w5.heap.size w5 (wr.alloc (.cells #[.int .u64 x0, .int .u64 x1, .int .i64 x2] 37))) := ⟨below_alloc HB.out _⟩
              have HRA : Aside0 (Kd.R k37 37 (wr.alloc (.cells #[.int .u64 x0, .int .u64 x1, .int .i64 x2] 37)) w5.heap.size (fun b => b ≠ p ∧ b ≠ B') u11 ((m.take l).filter bf)) := ⟨Kd.R_below HR.out (below_alloc (Below.refl _ _) _)⟩
              have HFS := Aside0.mk hfs
              have HMN : Aside0 (m.length ≤ 24) := HFW
              have HLF : Aside0 (((m.take l).filter bf).length ≤ 24) := ⟨by have h := List.length_filter_le bf (m.take l); rw [List.length_take] at h; have := HFW.out; omega⟩
              obtain ⟨y0, y1, y2, -⟩ := HX.out
              clear hwl hwc hx hbx hfs HX
              cases hbv : bf ⟨x0, x1, x2⟩ with
              | false =>
                rw [hbv] at hKB
                have HKB := Aside0.mk hKB
                have HNN : Aside0 (cnt + 1 + ((m.take (l + 1)).filter bf).length = l + 1) := ⟨by rw [HFS.out, hbv, if_neg (by simp), List.append_nil]; have := HN.out; omega⟩
                have HSM : Aside0 ((m.take (l + 1)).filter bf = (m.take l).filter bf) := ⟨by rw [HFS.out, hbv, if_neg (by simp), List.append_nil]⟩
                clear hKB hbv HR
                go_wp2_with (first
                  | (go_at_call 13; go_loud (with_reducible refine (psephoslaw09_Model_Below.calls KB (some am) cm m x0 root false _ (Kd.C_below HC5.out HBA.out) HCM.out HKB.out).mono ?_; rintro e w6 ⟨rfl, hb⟩; have HB6 := Aside0.mk (HBA.out.trans (hb.mono HBA.out.size)); have HR6 := Aside0.mk (Kd.R_below HRA.out hb); clear hb)))
                go_roundw
                case rel => exact ⟨l + 1, cnt + 1, by omega, by first | rw [HWL.out] | rfl, by first | rw [HWC.out] | rfl, HNN, ⟨by rw [HSM.out]; exact HR6.out⟩, HB6⟩
                case measure => (try rw [HWL.out]); simp [RowKit.intOf]; omega
              | true =>
                rw [hbv] at hKB
                have HKB := Aside0.mk hKB
                have HNN : Aside0 (cnt + ((m.take (l + 1)).filter bf).length = l + 1) := ⟨by rw [HFS.out, hbv, if_pos rfl, List.length_append]; have := HN.out; simp; omega⟩
                have HSM : Aside0 ((m.take (l + 1)).filter bf = (m.take l).filter bf ++ [⟨x0, x1, x2⟩]) := ⟨by rw [HFS.out, hbv, if_pos rfl]⟩
                obtain ⟨fl, hfl⟩ : ∃ fl, (m.take l).filter bf = fl := ⟨_, rfl⟩
                rw [hfl] at HSM HLF HRA
                clear hKB hbv HR hfl
                go_wp2_with (first
                  | (go_at_call 13; go_loud (with_reducible refine (psephoslaw09_Model_Below.calls KB (some am) cm m x0 root true _ (Kd.C_below HC5.out HBA.out) HCM.out HKB.out).mono ?_; rintro e w6 ⟨rfl, hb⟩; have HB6 := Aside0.mk (HBA.out.trans (hb.mono HBA.out.size)); have HR6 := Aside0.mk (Kd.R_below HRA.out hb); replace y0 := (hb.cell (World.block_lt_of_cell? _ _ y0)).trans y0; replace y1 := (hb.cell (World.block_lt_of_cell? _ _ y1)).trans y1; replace y2 := (hb.cell (World.block_lt_of_cell? _ _ y2)).trans y2; clear hb))
                  | (at_builtin; go_loud (refine Kd.R_append k37 (w0 := w5) w5.heap.size rfl (.tmp 70) (.tmp 72) 39 37 (.agg #[.int .u64 0, .int .u64 0, .int .i64 0]) 24 rfl Tryd.underlying39 (by kernel_rfl) rfl (by decide) (by omega) _ fl ⟨x0, x1, x2⟩ [.int .u64 x0, .int .u64 x1, .int .i64 x2] (fun b => b ≠ p ∧ b ≠ B') (fun _ => False) rfl rfl ?aP (fun _ hk => hk.elim) ?aF HR6.out HB6.out HB6.out.size ?aL ?_); go_loud (case aP => exact k37_mkM _ _ _ ⟨x0, x1, x2⟩); go_loud (case aF => intro q hq; have := HT5.out.lt; have := HB6.out.size; constructor <;> omega); go_loud (case aL => have := HLF.out; omega); go_loud (intro v8 w8 ho hb hg hat; have HR8 := Aside0.mk ho; have HB8 := Aside0.mk hb); clear ho hb hg hat))
                go_roundw
                case rel => exact ⟨l + 1, cnt, by omega, by first | rw [HWL.out] | rfl, rfl, HNN, ⟨by rw [HSM.out]; exact HR8.out⟩, HB8⟩
                case measure => (try rw [HWL.out]); simp [RowKit.intOf]; omega
            · have t1 : decide ((l : Int) < (m.length : Int)) = false := decide_eq_false (by omega)
              have htk : m.take l = m := List.take_of_length_le (by omega)
              rw [htk] at HN HR
              obtain ⟨st, hst⟩ : ∃ st, m.filter bf = st := ⟨_, rfl⟩
              rw [hst] at HN HR HRC HCNT
              obtain ⟨As, cs, hv⟩ := Kd.R_slice HR.out
              subst hv
              have HCS := Aside0.mk (Kd.R_reads' HR.out).2.1
              have hcg : cnt = g.length := by have := HN.out; have := HCNT.out; omega
              have tcg : ((g.length : Int) != (cnt : Int)) = false := by rw [hcg]; simp
              have HGL : Aside0 (g.length ≤ 24) := ⟨by have := HCNT.out; have := HFW.out; omega⟩
              clear htk hst hcg
              go_wp2_with fail
              go_loopw [79] (fun v79 wr => ∃ j : Nat, j ≤ g.length ∧ v79 = .int .i64 j ∧ Aside0 (Kd.R k37 37 wr w5.heap.size (fun b => b ≠ p ∧ b ≠ B') (.slice As st.length cs) st) ∧ Aside0 (Below w5.heap.size w5 wr)) (fun v79 _ => g.length - (RowKit.intOf v79).toNat)
              case atStart => exact ⟨0, by omega, rfl, HR, HB⟩
              case round =>
                clear HR HB
                obtain ⟨j, hj, rfl, HR, HB⟩ := hrel
                by_cases hjl : j < g.length
                · have t2 : decide ((j : Int) < (g.length : Int)) = true := decide_eq_true (by omega)
                  have hwj : wrap64 ((j : Int) + 1) = ((j + 1 : Nat) : Int) := by have := HGL.out; unfold wrap64; omega
                  have HWJ := Aside0.mk hwj
                  obtain ⟨ag, e, hc⟩ := Kd.at_int (Kd.C_below HG5.out HB.out) (j : Int) (by omega) (by omega)
                  cases e
                  rw [Int.toNat_natCast] at hc
                  have hqm : rd g (j : Int) ∈ g := by rw [rd_at g j hjl]; exact List.getElem_mem hjl
                  obtain ⟨q, hq⟩ : ∃ q, rd g (j : Int) = q := ⟨_, rfl⟩
                  rw [hq] at hc hqm
                  have hgm := HGM.out q hqm
                  obtain ⟨i2, -, hp2, -, -, -, -⟩ := R.out.place hgm.1
                  obtain ⟨KQ, hKQ⟩ := (R.out.find q).rounds
                  rw [hp2] at hKQ
                  obtain ⟨KS, hKS⟩ := (HRC.out.find q).rounds
                  rw [HRC.out.no hgm.2] at hKS
                  have HKQ := Aside0.mk hKQ
                  have HKS := Aside0.mk hKS
                  have ti2 : decide ((i2 : Int) < 0) = false := decide_eq_false (by omega)
                  have hprev : 0 < j → ∃ y, wr.cell? (ag.add (j - 1)) = some (.int .u64 y) ∧ y < q := fun h0 => by
                    obtain ⟨ag', e, hc'⟩ := Kd.at_int (Kd.C_below HG5.out HB.out) ((j - 1 : Nat) : Int) (by omega) (by omega)
                    cases e
                    rw [Int.toNat_natCast] at hc'
                    refine ⟨_, hc', ?_⟩
                    have h := HGR.out (j - 1) (by omega)
                    rw [show j - 1 + 1 = j by omega, hq] at h
                    exact h
                  clear hwj hqm hq hgm hp2 hKQ hKS
                  rcases (show j = 0 ∨ 0 < j by omega) with h0 | h0
                  · have tj : decide (0 < j) = false := decide_eq_false (by omega)
                    have tj2 : ¬ 0 < j := by omega
                    clear h0 hprev
                    go_wp2_with (first
                      | (go_at_call 12; with_reducible refine (psephoslaw09_Model_Find.calls KQ Am cm m q i2 _ (Kd.C_below HC5.out HB.out) HCM.out HKQ.out).mono ?_; rintro e w6 ⟨rfl, hb⟩; replace HR := Aside0.mk (Kd.R_below HR.out hb); replace HB := Aside0.mk (HB.out.trans (hb.mono HB.out.size)); clear hb)
                      | (go_at_call 12; with_reducible refine (psephoslaw09_Model_Find.calls KS As cs st q (-1) _ (Kd.R_reads' HR.out).2.2 HCS.out HKS.out).mono ?_; rintro e w6 ⟨rfl, hb⟩; replace HR := Aside0.mk (Kd.R_below HR.out hb); replace HB := Aside0.mk (HB.out.trans (hb.mono HB.out.size)); clear hb))
                    go_roundw
                    case rel => exact ⟨j + 1, by omega, by first | rw [HWJ.out] | rfl, HR, HB⟩
                    case measure => (try rw [HWJ.out]); simp [RowKit.intOf]; omega
                  · have tj : decide (0 < j) = true := decide_eq_true h0
                    have tj2 : 0 < j := h0
                    obtain ⟨y, hc8, hy⟩ := hprev h0
                    have tw : wrap64 ((j : Int) - 1) = ((j - 1 : Nat) : Int) := by have := HGL.out; unfold wrap64; omega
                    have tl : j - 1 < g.length := by omega
                    obtain ⟨j1, hj1⟩ : ∃ j1 : Nat, j - 1 = j1 := ⟨_, rfl⟩
                    rw [hj1] at hc8 tw tl
                    have ty : decide (q ≤ y) = false := decide_eq_false (by omega)
                    clear hj1 hy hprev
                    go_wp2_with (first
                      | (go_at_call 12; with_reducible refine (psephoslaw09_Model_Find.calls KQ Am cm m q i2 _ (Kd.C_below HC5.out HB.out) HCM.out HKQ.out).mono ?_; rintro e w6 ⟨rfl, hb⟩; replace HR := Aside0.mk (Kd.R_below HR.out hb); replace HB := Aside0.mk (HB.out.trans (hb.mono HB.out.size)); replace hc8 := (hb.cell (World.block_lt_of_cell? _ _ hc8)).trans hc8; clear hb)
                      | (go_at_call 12; with_reducible refine (psephoslaw09_Model_Find.calls KS As cs st q (-1) _ (Kd.R_reads' HR.out).2.2 HCS.out HKS.out).mono ?_; rintro e w6 ⟨rfl, hb⟩; replace HR := Aside0.mk (Kd.R_below HR.out hb); replace HB := Aside0.mk (HB.out.trans (hb.mono HB.out.size)); replace hc8 := (hb.cell (World.block_lt_of_cell? _ _ hc8)).trans hc8; clear hb))
                    go_roundw
                    case rel => exact ⟨j + 1, by omega, by first | rw [HWJ.out] | rfl, HR, HB⟩
                    case measure => (try rw [HWJ.out]); simp [RowKit.intOf]; omega
                · have t2 : decide ((j : Int) < (g.length : Int)) = false := decide_eq_false (by omega)
                  have HS9 : Aside0 (SC w p B' t' (.slice As st.length cs) st wr) := ⟨⟨HT5.out.below HB.out, HRC.out, Kd.R_lower HR.out HB5.out.size, HB5.out.trans (HB.out.mono HB5.out.size), HP4.out.1, HP4.out.2⟩⟩
                  go_wp2_with (first
                    | (go_at_call 15; go_loud (with_reducible refine (agrees_calls p B' t' As cs st _ HS9.out.tree (Kd.R_reads' HS9.out.row).2.2 HCS.out HS9.out.rel).mono ?_; rintro e w8 ⟨rfl, hb⟩; replace HS9 := Aside0.mk (HS9.out.below hb); clear hb)))
                  go_roundw
                  case rel => exact ⟨k + 1, B', t', st, by omega, by first | rw [HWK.out] | rfl, HS9⟩
                  case measure => (try rw [HWK.out]); simp [RowKit.intOf]; omega
    · have t0 : decide ((k : Int) < (n : Int)) = false := decide_eq_false (by omega)
      go_wp2_with fail
      go_loopw [19] (fun v19 wr => ∃ x : Nat, x ≤ 24 ∧ v19 = .int .u64 x ∧ Aside0 (SC w p B t (.slice Am m.length cm) m wr)) (fun v19 _ => 24 - (RowKit.intOf v19).toNat)
      case atStart => exact ⟨0, by omega, rfl, HS⟩
      case round =>
        clear HS
        obtain ⟨x, hx, rfl, HS⟩ := hrel
        by_cases hxl : x < 24
        · have t1 : decide ((x : Int) < 24) = true := decide_eq_true (by omega)
          have HXB : Aside0 ((0 : Int) ≤ (x : Int) ∧ (x : Int) ≤ 18446744073709551615) := ⟨by omega⟩
          have hwx : IntKind.u64.wrap ((x : Int) + 1) = ((x + 1 : Nat) : Int) := by rw [u64_in _ (by omega) (by omega)]; omega
          have HWX := Aside0.mk hwx
          clear hwx
          go_wp2_with fail
          go_loopw [20] (fun v20 wr => ∃ y : Nat, y ≤ 24 ∧ v20 = .int .u64 y ∧ Aside0 (SC w p B t (.slice Am m.length cm) m wr)) (fun v20 _ => 24 - (RowKit.intOf v20).toNat)
          case atStart => exact ⟨0, by omega, rfl, HS⟩
          case round =>
            clear HS
            obtain ⟨y, hy, rfl, HS⟩ := hrel
            by_cases hyl : y < 24
            · have t2 : decide ((y : Int) < 24) = true := decide_eq_true (by omega)
              have HYB : Aside0 ((0 : Int) ≤ (y : Int) ∧ (y : Int) ≤ 18446744073709551615) := ⟨by omega⟩
              have hwy : IntKind.u64.wrap ((y : Int) + 1) = ((y + 1 : Nat) : Int) := by rw [u64_in _ (by omega) (by omega)]; omega
              have HWY := Aside0.mk hwy
              obtain ⟨KB, hKB⟩ := (HS.out.rel.below (x : Int) (y : Int)).rounds
              obtain ⟨b, hb0⟩ : ∃ b, Tree.below t (x : Int) (y : Int) = b := ⟨_, rfl⟩
              rw [hb0] at hKB
              have HKB := Aside0.mk hKB
              have HBE := Aside0.mk hb0
              have tb : (b != b) = false := by simp
              clear hwy hKB hb0
              go_wp2_with (first
                | (go_at_call 16; go_loud (with_reducible refine (below_calls p B t (x : Int) (y : Int) _ HS.out.tree HS.out.rel.deeds.fit.well HXB.out HYB.out).mono ?_; rw [HBE.out]; rintro e w5 ⟨rfl, hb⟩; replace HS := Aside0.mk (HS.out.below hb); clear hb))
                | (go_at_call 13; go_loud (with_reducible refine (psephoslaw09_Model_Below.calls KB Am cm m (x : Int) (y : Int) b _ (Kd.R_reads' HS.out.row).2.2 HCM.out HKB.out).mono ?_; rintro e w5 ⟨rfl, hb⟩; replace HS := Aside0.mk (HS.out.below hb); clear hb)))
              go_roundw
              case rel => exact ⟨y + 1, by omega, by first | rw [HWY.out] | rfl, HS⟩
              case measure => (try rw [HWY.out]); simp [RowKit.intOf]; omega
            · have t2 : decide ((y : Int) < 24) = false := decide_eq_false (by omega)
              go_wp2_with fail
              go_loopw [21] (fun v21 wr => ∃ s : Nat, s ≤ 42 ∧ v21 = .int .i64 ((s : Int) - 1) ∧ Aside0 (SC w p B t (.slice Am m.length cm) m wr)) (fun v21 _ => (41 - RowKit.intOf v21).toNat)
              case atStart => exact ⟨0, by omega, rfl, HS⟩
              case round =>
                clear HS
                obtain ⟨s, hs, rfl, HS⟩ := hrel
                obtain ⟨z, hz⟩ : ∃ z, (s : Int) - 1 = z := ⟨_, rfl⟩
                have HZ := Aside0.mk hz
                rw [hz]
                by_cases hsl : s < 42
                · have t3 : decide (z < 41) = true := decide_eq_true (by omega)
                  have hws : wrap64 (z + 1) = ((s + 1 : Nat) : Int) - 1 := by unfold wrap64; omega
                  have HWS := Aside0.mk hws
                  obtain ⟨KB, hKB⟩ := (HS.out.rel.at_ (x : Int) z).rounds
                  obtain ⟨b, hb0⟩ : ∃ b, atOf t (x : Int) z = b := ⟨_, rfl⟩
                  rw [hb0] at hKB
                  have HKB := Aside0.mk hKB
                  have HBE := Aside0.mk hb0
                  have tb : (b != b) = false := by simp
                  clear hws hKB hb0 hz
                  go_wp2_with (first
                    | (go_at_call 17; go_loud (with_reducible refine (at_calls p B t (x : Int) z _ HS.out.tree HS.out.rel.deeds.fit.well HXB.out).mono ?_; rw [HBE.out]; rintro e w5 ⟨rfl, hb⟩; replace HS := Aside0.mk (HS.out.below hb); clear hb))
                    | (go_at_call 18; go_loud (with_reducible refine (psephoslaw09_Model_At.calls KB Am cm m (x : Int) z b _ (Kd.R_reads' HS.out.row).2.2 HCM.out HKB.out).mono ?_; rintro e w5 ⟨rfl, hb⟩; replace HS := Aside0.mk (HS.out.below hb); clear hb)))
                  go_roundw
                  case rel => exact ⟨s + 1, by omega, by first | rw [HWS.out] | rfl, HS⟩
                  case measure => (try rw [HWS.out]); simp [RowKit.intOf]; have := HZ.out; omega
                · have t3 : decide (z < 41) = false := decide_eq_false (by omega)
                  clear hz
                  go_wp2_with fail
                  go_roundw
                  case rel => exact ⟨x + 1, by omega, by first | rw [HWX.out] | rfl, HS⟩
                  case measure => (try rw [HWX.out]); simp [RowKit.intOf]; omega
        · have t1 : decide ((x : Int) < 24) = false := decide_eq_false (by omega)
          go_wp2_with fail
          go_ret
          exact ⟨rfl, HS.out.bel⟩
end Go.Proofs.YtgbhblbfodphfaaDoor.QZ
