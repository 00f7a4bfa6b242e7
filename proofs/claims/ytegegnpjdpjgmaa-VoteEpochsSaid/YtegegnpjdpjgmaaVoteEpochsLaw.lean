/-
  The law VoteEpochs: its printed function answers true, so its call does; of any configuration and any vote.
-/
import Derived.Test.YtegegnpjdpjgmaaQVx21
import Derived.Test.YtegegnpjdpjgmaaVoteAwake
import Derived.Test.YtegegnpjdpjgmaaVotePureB
import Derived.Test.YtegegnpjdpjgmaaVoteSamePure
import Derived.Test.YtegegnpjdpjgmaaOwn
namespace Go.Proofs.Ytegegnpjdpjgmaa.QV
open Go.RowKit Go.Proofs.YtegegnpjdpjgmaaW.PrintWords Go.Proofs.YtegegnpjdpjgmaaW.PrintLast Go.Proofs.YtegegnpjdpjgmaaW.PrintMore Go.Proofs.Ytegegnpjdpjgmaa.Own
set_option linter.unusedVariables false

theorem epochs_f (bal who : List Int) (sl bo s h se sr te tr a2 : Int) (hb : bal.length ≤ 17592186043904) (hn : who.length ≤ 17592186043904) (hbo1 : -9223372036854775808 ≤ bo) (hbo2 : bo ≤ 9223372036854775807)
    (hs1 : -9223372036854775808 ≤ s) (hs2 : s ≤ 9223372036854775807) (he1 : -9223372036854775808 ≤ se) (he2 : se ≤ 9223372036854775807) (h0 : 0 ≤ a2) (h1 : a2 ≤ 255) :
    Ev (fun k => psephoslaw05_VoteEpochs.f k bal sl bo s h se sr te tr who a2) true := by
  refine Ev.bind awake_f ?_
  simp only [if_true]
  refine Ev.bind (make3_f bal sl bo hb hbo1 hbo2) ?_
  have hm := mkBal_len bal
  have hw := mkWho_len (mkBal bal).length hm.1 who
  have ha := mkAt_in s
  have ht := mkTe_in (mkSlots sl) s
  refine Ev.bind (make5_f (mkBal bal) who (mkSlots sl) (mkBoost bo) s h se sr te tr hm.2 (by omega) hs1 hs2 he1 he2) ?_
  simp only
  generalize mkWho (mkBal bal).length who = W at *
  have w0 : wrap64 a2 = a2 := by unfold wrap64; omega
  have w1 : wrap64 (1 + a2) = 1 + a2 := by unfold wrap64; omega
  have w2 : wrap64 (mkTe (mkSlots sl) s + (1 + a2)) = mkTe (mkSlots sl) s + (1 + a2) := by unfold wrap64; omega
  have w3 : wrap64 (mkTe (mkSlots sl) s + 1) = mkTe (mkSlots sl) s + 1 := by unfold wrap64; omega
  have w4 : wrap64 (mkTe (mkSlots sl) s + 1 + a2) = mkTe (mkSlots sl) s + 1 + a2 := by unfold wrap64; omega
  have n1 : ∀ x, ¬ Good (mkBal bal).length (mkSlots sl) (mkAt s) x (mkTe (mkSlots sl) s + (1 + a2)) W := fun x hg => by
    have h2 : mkTe (mkSlots sl) s + (1 + a2) = mkTe (mkSlots sl) s := hg.2.2.2.2.1
    omega
  have n2 : ¬ Good (mkBal bal).length (mkSlots sl) (mkAt s) (mkTe (mkSlots sl) s + 1 + a2) (mkTe (mkSlots sl) s) W := fun hg => by
    have h2 := hg.2.2.2.1
    omega
  rw [w0, w1, w2, w3, w4]
  refine Ev.bind (right_false W (mkBal bal) (mkSlots sl) (mkBoost bo) (mkAt s) _ _ _ _ _ (by omega) (by omega) (n1 _)) ?_
  simp only [Bool.false_eq_true, if_false]
  refine Ev.bind (right_false W (mkBal bal) (mkSlots sl) (mkBoost bo) (mkAt s) _ _ _ _ _ (by omega) (by omega) n2) ?_
  exact Ev.now _

theorem voteEpochs_law (A : Option Addr) (n c : Nat) (bal : List Int) (sl bo : Int) (s h se sr te tr : Int) (A1 : Option Addr) (n1 c1 : Nat) (who : List Int) (a2 : Int) (w : World) (g : ReadsInt w .u64 A n bal) (hc : n ≤ c) (hs : n * 8 ≤ 140737488351232)
    (g1 : ReadsInt w .i64 A1 n1 who) (hc1 : n1 ≤ c1) (hs1 : n1 * 8 ≤ 140737488351232) (wb : (Lit.int .i64 bo).wf = true) (ws : (Lit.int .i64 s).wf = true) (we : (Lit.int .i64 se).wf = true) (w2 : (Lit.int .u8 a2).wf = true) :
    Calls Try.prog 6 #[.agg #[.slice A n c, .int .i64 sl, .int .i64 bo], .agg #[.int .i64 s, .int .u64 h, .int .i64 se, .int .u64 sr, .int .i64 te, .int .u64 tr, .slice A1 n1 c1], .int .u8 a2] w fun e w' => e = .returned (.bool true) ∧ Below w.heap.size w w' := by
  obtain ⟨rfl, hm, hr⟩ := g
  obtain ⟨rfl, hm1, hr1⟩ := g1
  have b1 := bd_i64 wb
  have b2 := bd_i64 ws
  have b3 := bd_i64 we
  have b4 := bd_u8 w2
  obtain ⟨k, hk⟩ := Ev.rounds (epochs_f bal who sl bo s h se sr te tr a2 (by omega) (by omega) b1.1 b1.2 b2.1 b2.2 b3.1 b3.2 b4.1 b4.2)
  exact psephoslaw05_VoteEpochs.calls k _ _ bal sl bo s h se sr te tr _ _ who a2 true w (Kd.C_of_reads (d := (0 : Int)) (h1 := fun _ => rfl) ⟨rfl, hm, hr⟩) hc (Kd.C_of_reads (d := (0 : Int)) (h1 := fun _ => rfl) ⟨rfl, hm1, hr1⟩) hc1 hk rfl
end Go.Proofs.Ytegegnpjdpjgmaa.QV
