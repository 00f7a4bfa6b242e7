/-
  The law SlashSame: its printed function answers true, so its call does; of any configuration, any vote and any validators; where the library's variable is laid.
-/
import Derived.Test.YtolkagkfedpjmaaDoorQDx9
import Derived.Test.YtolkagkfedpjmaaDoorVotePureB
import Derived.Test.YtolkagkfedpjmaaDoorSlashPure
import Derived.Test.YtolkagkfedpjmaaDoorOwn
namespace Go.Proofs.YtolkagkfedpjmaaDoor.QD
open Go.RowKit Go.Proofs.YtolkagkfedpjmaaDoorW.PrintWords Go.Proofs.YtolkagkfedpjmaaDoorW.PrintLast Go.Proofs.YtolkagkfedpjmaaDoorW.PrintMore Go.Proofs.YtolkagkfedpjmaaDoor.Own
set_option linter.unusedVariables false

theorem who_bad_not (bal who1 who2 : List Int) (sl bo s h se sr te tr : Int) (hn1 : who1.length ≤ 140737488351232) (hn2 : who2.length ≤ 140737488351232) (hs : s ≤ 9223372036854775807) (g1 : Good bal.length sl s se te who1) (g2 : Good bal.length sl s se te who2) :
    Ev (fun k => slash_Who.f k bal sl bo s h se sr te tr who1 s h se sr te tr who2) ([], some 11) := by
  refine Ev.bind (right_true who1 bal sl bo s h se sr te tr hn1 hs g1) ?_
  simp only [if_true]
  refine Ev.bind (right_true who2 bal sl bo s h se sr te tr hn2 hs g2) ?_
  simp only [if_true]
  have hb : slash_Bad.f s h se sr te tr who1 s h se sr te tr who2 = some false := by
    rw [bad_is]
    simp [dblB, sameB, arnB]
  rw [hb]
  refine Ev.congr (f := fun k => slash_Who.j0 k true s h se sr te tr who1 s h se sr te tr who2) (fun k => rfl) ?_
  refine Ev.step (f := fun _ => some (([] : List Int), some 11)) (fun k => ?_) (Ev.now _)
  simp [slash_Who.j0]

theorem slashSame_f (bal who l2 : List Int) (sl bo s h se sr te tr : Int) (hb : bal.length ≤ 17592186043904) (hn : who.length ≤ 17592186043904) (hn2 : l2.length ≤ 17592186043904) (hbo1 : -9223372036854775808 ≤ bo) (hbo2 : bo ≤ 9223372036854775807)
    (hs1 : -9223372036854775808 ≤ s) (hs2 : s ≤ 9223372036854775807) (he1 : -9223372036854775808 ≤ se) (he2 : se ≤ 9223372036854775807) :
    Ev (fun k => psephoslaw06_SlashSame.f k bal sl bo s h se sr te tr who l2) true := by
  refine Ev.congr (f := fun k => (psephoslaw03_Make.f k bal sl bo).bind fun bt189 => ((psephoslaw05_Make.f k bt189.1 bt189.2.1 bt189.2.2 s h se sr te tr who).bind fun bt195 => ((psephoslaw05_Make.f k bt189.1 bt189.2.1 bt189.2.2 0 0 0 0 0 0 l2).bind fun bt206 => ((slash_Who.f k bt189.1 bt189.2.1 bt189.2.2 bt195.1 bt195.2.1 bt195.2.2.1 bt195.2.2.2.1 bt195.2.2.2.2.1 bt195.2.2.2.2.2.1 bt195.2.2.2.2.2.2 bt195.1 bt195.2.1 bt195.2.2.1 bt195.2.2.2.1 bt195.2.2.2.2.1 bt195.2.2.2.2.2.1 bt206.2.2.2.2.2.2).bind fun bt215 => ((slash_Bad.f bt195.1 bt195.2.1 bt195.2.2.1 bt195.2.2.2.1 bt195.2.2.2.2.1 bt195.2.2.2.2.2.1 bt195.2.2.2.2.2.2 bt195.1 bt195.2.1 bt195.2.2.1 bt195.2.2.2.1 bt195.2.2.2.2.1 bt195.2.2.2.2.2.1 bt206.2.2.2.2.2.2).bind fun t219 => (if t219 = true then (some false) else ((api_Number.f bt215.2).bind fun t220 => (some (t220 == 11))))))))) (fun k => by unfold psephoslaw06_SlashSame.f; rw [awake_is]; rfl) ?_
  refine Ev.bind (make3_f bal sl bo hb hbo1 hbo2) ?_
  have hm := mkBal_len bal
  have ha := mkAt_in s
  have hw := mkWho_len (mkBal bal).length hm.1 who
  have hw2 := mkWho_len (mkBal bal).length hm.1 l2
  have hg := made_good (mkBal bal).length hm.1 (mkSlots sl) s se who
  have hg2 : Good (mkBal bal).length (mkSlots sl) (mkAt s) (mkSe (mkSlots sl) s se) (mkTe (mkSlots sl) s) (mkWho (mkBal bal).length l2) := (made_good (mkBal bal).length hm.1 (mkSlots sl) s se l2)
  refine Ev.bind (make5_f (mkBal bal) who (mkSlots sl) (mkBoost bo) s h se sr te tr hm.2 (by omega) hs1 hs2 he1 he2) ?_
  refine Ev.bind (make5_f (mkBal bal) l2 (mkSlots sl) (mkBoost bo) 0 0 0 0 0 0 hm.2 (by omega) (by decide) (by decide) (by decide) (by decide)) ?_
  refine Ev.bind (who_bad_not (mkBal bal) (mkWho (mkBal bal).length who) (mkWho (mkBal bal).length l2) (mkSlots sl) (mkBoost bo) (mkAt s) (Int.tmod h 8) (mkSe (mkSlots sl) s se) (Int.tmod sr 8) (mkTe (mkSlots sl) s) (Int.tmod tr 8) (by omega) (by omega) (by omega) hg hg2) ?_
  simp only
  rw [bad_is]
  refine Ev.congr (f := fun _ => some true) (fun k => ?_) (Ev.now _)
  simp [dblB, sameB, arnB, api_Number.f]

theorem slashSame_law (A : Option Addr) (n c : Nat) (bal : List Int) (sl bo : Int) (s h se sr te tr : Int) (A1 : Option Addr) (n1 c1 : Nat) (who : List Int) (A2 : Option Addr) (n2 c2 : Nat) (l2 : List Int) (w : World) (hL : Number.Laid w) (g : ReadsInt w .u64 A n bal) (hc : n ≤ c) (hs : n * 8 ≤ 140737488351232)
    (g1 : ReadsInt w .i64 A1 n1 who) (hc1 : n1 ≤ c1) (hs1 : n1 * 8 ≤ 140737488351232) (g2 : ReadsInt w .i64 A2 n2 l2) (hc2 : n2 ≤ c2) (hs2 : n2 * 8 ≤ 140737488351232) (wb : (Lit.int .i64 bo).wf = true) (ws : (Lit.int .i64 s).wf = true) (we : (Lit.int .i64 se).wf = true) :
    Calls Tryd.prog 5 #[.agg #[.slice A n c, .int .i64 sl, .int .i64 bo], .agg #[.int .i64 s, .int .u64 h, .int .i64 se, .int .u64 sr, .int .i64 te, .int .u64 tr, .slice A1 n1 c1], .slice A2 n2 c2] w fun e w' => e = .returned (.bool true) ∧ Below w.heap.size w w' := by
  obtain ⟨rfl, hm, hr⟩ := g
  obtain ⟨rfl, hm1, hr1⟩ := g1
  obtain ⟨rfl, hm2, hr2⟩ := g2
  have b1 := bd_i64 wb
  have b2 := bd_i64 ws
  have b3 := bd_i64 we
  obtain ⟨k, hk⟩ := Ev.rounds (slashSame_f bal who l2 sl bo s h se sr te tr (by omega) (by omega) (by omega) b1.1 b1.2 b2.1 b2.2 b3.1 b3.2)
  exact psephoslaw06_SlashSame.calls k _ _ bal sl bo s h se sr te tr _ _ who _ _ l2 true w (Kd.C_of_reads (d := (0 : Int)) (h1 := fun _ => rfl) ⟨rfl, hm, hr⟩) hc (Kd.C_of_reads (d := (0 : Int)) (h1 := fun _ => rfl) ⟨rfl, hm1, hr1⟩) hc1 (Kd.C_of_reads (d := (0 : Int)) (h1 := fun _ => rfl) ⟨rfl, hm2, hr2⟩) hc2 hk rfl hL
end Go.Proofs.YtolkagkfedpjmaaDoor.QD
