/-
  The law VoteFewer: its printed function answers true, so its call does; of any configuration and any vote.
-/
import Derived.Test.YtegegnpjdpjgmaaQVx3
import Derived.Test.YtegegnpjdpjgmaaQVx9
import Derived.Test.YtegegnpjdpjgmaaQVx20
import Derived.Test.YtegegnpjdpjgmaaVoteAwake
import Derived.Test.YtegegnpjdpjgmaaVotePureB
import Derived.Test.YtegegnpjdpjgmaaVoteSamePure
import Derived.Test.YtegegnpjdpjgmaaOwn
namespace Go.Proofs.Ytegegnpjdpjgmaa.QV
open Go.RowKit Go.Proofs.YtegegnpjdpjgmaaW.PrintWords Go.Proofs.YtegegnpjdpjgmaaW.PrintLast Go.Proofs.YtegegnpjdpjgmaaW.PrintMore Go.Proofs.Ytegegnpjdpjgmaa.Own
set_option linter.unusedVariables false

theorem cut_len (W : List Int) (i : Nat) (h : i < W.length) : (W.take i ++ W.drop (i + 1)).length = W.length - 1 := by
  rw [List.length_append, List.length_take, List.length_drop]
  omega
theorem cut_lim (W : List Int) (i : Nat) (h : W.length ≤ 4096) : ([] : List Int).length + (W.take i).length < 17592186044416 := by
  rw [List.length_take, List.length_nil]
  omega
theorem cut_lim2 (W : List Int) (i : Nat) (h : W.length ≤ 4096) : (([] : List Int) ++ W.take i).length + (W.drop (i + 1)).length < 17592186044416 := by
  rw [List.nil_append, List.length_take, List.length_drop]
  omega
theorem cut_facts (W : List Int) (i : Nat) (hlt : i < W.length) (h : W.length ≤ 4096) : (¬ (W.length : Int) = 0) ∧ (0 : Int) ≤ (i : Int) ∧ (i : Int) ≤ (W.length : Int) ∧ ([] : List Int).length + (W.take i).length < 17592186044416 ∧ (0 : Int) ≤ ((i + 1 : Nat) : Int) ∧ ((i + 1 : Nat) : Int) ≤ (W.length : Int) ∧ (([] : List Int) ++ W.take i).length + (W.drop (i + 1)).length < 17592186044416 :=
  ⟨by omega, by omega, by omega, cut_lim W i h, by omega, by omega, cut_lim2 W i h⟩
theorem fewer_f (bal who : List Int) (sl bo s h se sr te tr a2 : Int) (hb : bal.length ≤ 17592186043904) (hn : who.length ≤ 17592186043904) (hbo1 : -9223372036854775808 ≤ bo) (hbo2 : bo ≤ 9223372036854775807)
    (hs1 : -9223372036854775808 ≤ s) (hs2 : s ≤ 9223372036854775807) (he1 : -9223372036854775808 ≤ se) (he2 : se ≤ 9223372036854775807) (h0 : 0 ≤ a2) (h1 : a2 ≤ 255) :
    Ev (fun k => psephoslaw05_VoteFewer.f k bal sl bo s h se sr te tr who a2) true := by
  refine Ev.bind awake_f ?_
  simp only [if_true]
  refine Ev.bind (make3_f bal sl bo hb hbo1 hbo2) ?_
  have hm := mkBal_len bal
  have hw := mkWho_len (mkBal bal).length hm.1 who
  have hri := mkWho_rises (mkBal bal).length who
  have hin := mkWho_in (mkBal bal).length hm.1 who
  have ha := mkAt_in s
  have hg := made_good (mkBal bal).length hm.1 (mkSlots sl) s se who
  refine Ev.bind (make5_f (mkBal bal) who (mkSlots sl) (mkBoost bo) s h se sr te tr hm.2 (by omega) hs1 hs2 he1 he2) ?_
  simp only
  generalize mkWho (mkBal bal).length who = W at *
  have hwr : wrap64 a2 = a2 := by unfold wrap64; omega
  obtain ⟨i, hi⟩ : ∃ i : Nat, Int.tmod a2 (W.length : Int) = i := ⟨(Int.tmod a2 (W.length : Int)).toNat, by rw [Int.toNat_of_nonneg]; exact Int.tmod_nonneg _ h0⟩
  have hlt : i < W.length := by
    have := Int.tmod_lt_of_pos a2 (show (0 : Int) < (W.length : Int) by omega)
    omega
  have hw1 : wrap64 ((i : Int) + 1) = ((i + 1 : Nat) : Int) := wrap_next (n := W.length) hlt (Nat.le_trans hw.2 (Nat.le_trans hm.2 (by decide)))
  have hsub : ∀ x, x ∈ W.take i ++ W.drop (i + 1) → x ∈ W := by
    intro x hx
    rcases List.mem_append.1 hx with hx | hx
    · exact List.mem_of_mem_take hx
    · exact List.mem_of_mem_drop hx
  have hr2 : (W.take i ++ W.drop (i + 1)).Pairwise (· < ·) := by
    have : (W.take i ++ W.drop (i + 1)).Sublist W := by
      have h2 : (W.take i ++ W.drop (i + 1)).Sublist (W.take i ++ W.drop i) := List.Sublist.append (List.Sublist.refl _) (List.drop_sublist_drop_left W (by omega))
      rwa [List.take_append_drop] at h2
    exact hri.sublist this
  have hlen := cut_len W i hlt
  refine Ev.congr (f := fun k => (vote_Right.f k (mkBal bal) (mkSlots sl) (mkBoost bo) (mkAt s) (Int.tmod h 8) (mkSe (mkSlots sl) s se) (Int.tmod sr 8) (mkTe (mkSlots sl) s) (Int.tmod tr 8) W).bind fun t265 => (if t265 = true then ((vote_Right.f k (mkBal bal) (mkSlots sl) (mkBoost bo) (mkAt s) (Int.tmod h 8) (mkSe (mkSlots sl) s se) (Int.tmod sr 8) (mkTe (mkSlots sl) s) (Int.tmod tr 8) (W.take i ++ W.drop (i + 1))).bind fun t266 => (if (t266 == (decide (((W.take i ++ W.drop (i + 1)).length : Int) > 0))) = true then ((vote_Both.f k (mkAt s) (Int.tmod h 8) (mkSe (mkSlots sl) s se) (Int.tmod sr 8) (mkTe (mkSlots sl) s) (Int.tmod tr 8) W (mkAt s) (Int.tmod h 8) (mkSe (mkSlots sl) s se) (Int.tmod sr 8) (mkTe (mkSlots sl) s) (Int.tmod tr 8) (W.take i ++ W.drop (i + 1))).bind fun t268 => (some ((t268.length : Int) == ((W.take i ++ W.drop (i + 1)).length : Int)))) else (some false))) else (some false))) (fun k => ?_) ?_
  · obtain ⟨e0, e1, e2, e3, e4, e5, e6⟩ := cut_facts W i hlt (Nat.le_trans hw.2 hm.2)
    rw [if_neg e0, hwr, hi, if_pos e1, if_pos e2, Option.bind_some, Int.toNat_natCast, if_pos e3, Option.bind_some, hw1, if_pos e4, if_pos e5, Option.bind_some, Int.toNat_natCast, if_pos e6, Option.bind_some, List.nil_append]
    simp only [same_is, same_self, Option.bind_some, if_true]
  · clear hi hw1 hwr h0 h1
    refine Ev.bind (right_true W (mkBal bal) (mkSlots sl) (mkBoost bo) (mkAt s) _ _ _ _ _ (by omega) (by omega) hg) ?_
    simp only [if_true]
    have hR : Ev (fun k => vote_Right.f k (mkBal bal) (mkSlots sl) (mkBoost bo) (mkAt s) (Int.tmod h 8) (mkSe (mkSlots sl) s se) (Int.tmod sr 8) (mkTe (mkSlots sl) s) (Int.tmod tr 8) (W.take i ++ W.drop (i + 1))) (decide (((W.take i ++ W.drop (i + 1)).length : Int) > 0)) := by
      by_cases c : (W.take i ++ W.drop (i + 1)).length = 0
      · rw [decide_eq_false (by omega)]
        exact right_false _ _ _ _ _ _ _ _ _ _ (by omega) (by omega) (fun hg => hg.1 c)
      · rw [decide_eq_true (by omega)]
        exact right_true _ _ _ _ _ _ _ _ _ _ (by omega) (by omega) ⟨c, hg.2.1, hg.2.2.1, hg.2.2.2.1, hg.2.2.2.2.1, ok_of_rises hr2 (fun x hx => hin x (hsub x hx))⟩
    refine Ev.bind hR ?_
    simp only [beq_self_eq_true, if_true]
    have hB := both_f W (W.take i ++ W.drop (i + 1)) (mkAt s) (Int.tmod h 8) (mkSe (mkSlots sl) s se) (Int.tmod sr 8) (mkTe (mkSlots sl) s) (Int.tmod tr 8) (mkAt s) (Int.tmod h 8) (mkSe (mkSlots sl) s se) (Int.tmod sr 8) (mkTe (mkSlots sl) s) (Int.tmod tr 8) (by omega) (by omega)
    have hE : both W (W.take i ++ W.drop (i + 1)) = W.take i ++ W.drop (i + 1) := rises_eq (both_rises _ _) hr2 (fun x => by rw [both_mem]; exact ⟨fun h => h.2, fun h => ⟨hsub x h, h⟩⟩)
    rw [hE] at hB
    refine Ev.bind hB ?_
    simp only [beq_self_eq_true]
    exact Ev.now _

theorem voteFewer_law (A : Option Addr) (n c : Nat) (bal : List Int) (sl bo : Int) (s h se sr te tr : Int) (A1 : Option Addr) (n1 c1 : Nat) (who : List Int) (a2 : Int) (w : World) (g : ReadsInt w .u64 A n bal) (hc : n ≤ c) (hs : n * 8 ≤ 140737488351232)
    (g1 : ReadsInt w .i64 A1 n1 who) (hc1 : n1 ≤ c1) (hs1 : n1 * 8 ≤ 140737488351232) (wb : (Lit.int .i64 bo).wf = true) (ws : (Lit.int .i64 s).wf = true) (we : (Lit.int .i64 se).wf = true) (w2 : (Lit.int .u8 a2).wf = true) :
    Calls Try.prog 8 #[.agg #[.slice A n c, .int .i64 sl, .int .i64 bo], .agg #[.int .i64 s, .int .u64 h, .int .i64 se, .int .u64 sr, .int .i64 te, .int .u64 tr, .slice A1 n1 c1], .int .u8 a2] w fun e w' => e = .returned (.bool true) ∧ Below w.heap.size w w' := by
  obtain ⟨rfl, hm, hr⟩ := g
  obtain ⟨rfl, hm1, hr1⟩ := g1
  have b1 := bd_i64 wb
  have b2 := bd_i64 ws
  have b3 := bd_i64 we
  have b4 := bd_u8 w2
  obtain ⟨k, hk⟩ := Ev.rounds (fewer_f bal who sl bo s h se sr te tr a2 (by omega) (by omega) b1.1 b1.2 b2.1 b2.2 b3.1 b3.2 b4.1 b4.2)
  exact psephoslaw05_VoteFewer.calls k _ _ bal sl bo s h se sr te tr _ _ who a2 true w (Kd.C_of_reads (d := (0 : Int)) (h1 := fun _ => rfl) ⟨rfl, hm, hr⟩) hc (Kd.C_of_reads (d := (0 : Int)) (h1 := fun _ => rfl) ⟨rfl, hm1, hr1⟩) hc1 hk rfl
end Go.Proofs.Ytegegnpjdpjgmaa.QV
