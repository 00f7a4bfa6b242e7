/-
  The plain side of the law LedgerScript of package psephoslaw10: slots that go by, and votes that count, leave a state as it should be; and what lies in memory between two deeds.
-/
import Derived.Test.YtiklbldanidfiaaCnt10
import Derived.Test.YtiklbldanidfiaaPull10
import Derived.Test.YtiklbldanidfiaaVoteM5
namespace Go.Proofs.Ytiklbldanidfiaa.QL
open Go.RowKit Go.Proofs.YtiklbldanidfiaaW.PrintWords Go.Proofs.YtiklbldanidfiaaW.PrintLast Go.Proofs.YtiklbldanidfiaaW.PrintMore Go.Proofs.Ytiklbldanidfiaa.Own Go.Proofs.Ytiklbldanidfiaa.Justify Go.Proofs.Ytiklbldanidfiaa.QLV
set_option linter.unusedVariables false

/-- A state that is counted up to a slot, of so many validators. -/
structure ScOk (n : Nat) (sl : Int) (s : LS) (slot : Int) : Prop where
  e0 : 0 ≤ s.ep
  em : s.ep * sl ≤ 9223372036854775807
  at_ : epOf slot sl ≤ s.ep
  s0 : -9223372036854775808 ≤ slot ∧ slot ≤ 9223372036854775807
  bl : s.bf.length = n
  nl : s.nw.length = n
/-- How many epochs end. -/
def manyOf (s : LS) (slot sl : Int) : Nat := (epOf slot sl - s.ep).toNat
theorem ScOk.er {n : Nat} {sl : Int} {s : LS} {slot : Int} (h : ScOk n sl s slot) (hs : 1 ≤ sl) : 0 ≤ s.ep ∧ s.ep ≤ 9223372036854775807 := by
  have h0 := h.e0
  have h1 : s.ep * 1 ≤ s.ep * sl := Int.mul_le_mul_of_nonneg_left hs h0
  have := h.em
  exact ⟨h0, by omega⟩
theorem ScOk.start {n : Nat} {sl : Int} {s : LS} {slot : Int} (h : ScOk n sl s slot) (hs : 1 ≤ sl) : epOf (wrap64 (s.ep * mx 1 sl)) sl = s.ep := by
  have h1 : 0 ≤ s.ep * sl := Int.mul_nonneg h.e0 (by omega)
  have h2 := h.em
  have h3 : wrap64 (s.ep * sl) = s.ep * sl := by generalize s.ep * sl = q at h1 h2 ⊢; unfold wrap64; omega
  have h4 : mx 0 (s.ep * sl) = s.ep * sl := by generalize s.ep * sl = q at h1 h2 ⊢; unfold mx; omega
  unfold epOf
  rw [mx1 hs, h3, h4, Int.mul_ediv_cancel s.ep (by omega)]
theorem div_near {x sl : Int} (hs : 1 ≤ sl) (a : Int) (ha : 0 ≤ a) : (x + a) / sl ≤ x / sl + a := by
  have h1 : x + a ≤ x + a * sl := by
    have : a * 1 ≤ a * sl := Int.mul_le_mul_of_nonneg_left hs ha
    omega
  have h2 := Int.ediv_le_ediv (show (0 : Int) < sl by omega) h1
  rw [Int.add_mul_ediv_right _ _ (by omega)] at h2
  exact h2
/-- Slots that go by: few epochs end. -/
theorem ScOk.near {n : Nat} {sl : Int} {s : LS} {slot : Int} (h : ScOk n sl s slot) (hs : 1 ≤ sl) (a : Int) (ha : 0 ≤ a ∧ a ≤ 255) : epOf (wrap64 (slot + a)) sl ≤ s.ep + 255 := by
  have h0 := h.s0
  have h1 := h.at_
  have h2 := h.e0
  unfold epOf at h1 ⊢
  rw [mx1 hs] at h1 ⊢
  by_cases e : slot + a ≤ 9223372036854775807
  · have e1 : wrap64 (slot + a) = slot + a := by unfold wrap64; omega
    rw [e1]
    have h3 := div_near (x := mx 0 slot) hs 255 (by omega)
    have h4 : mx 0 (slot + a) ≤ mx 0 slot + 255 := by unfold mx; split <;> split <;> omega
    have h5 := Int.ediv_le_ediv (show (0 : Int) < sl by omega) h4
    omega
  · have e1 : mx 0 (wrap64 (slot + a)) = 0 := by unfold wrap64 mx; split <;> omega
    rw [e1, Int.zero_ediv]
    omega
theorem ScOk.adv {n : Nat} {sl : Int} {s : LS} {slot : Int} (lx : List Int) (f : Int → Int) (h : ScOk n sl s slot) (hs : 1 ≤ sl) (a : Int) (ha : 0 ≤ a ∧ a ≤ 255) :
    advTo lx sl f s (wrap64 (slot + a)) = (epochs s.ep (manyOf s (wrap64 (slot + a)) sl)).foldl (advStep lx sl f) s := by
  have h1 := h.near hs a ha
  have h2 := h.e0
  unfold advTo endsOf howMany manyOf
  rw [h.start hs]
  congr 2
  omega
theorem fold_rows (lx : List Int) (sl : Int) (f : Int → Int) (m : Nat) : ∀ (e : Int) (s : LS), s.bf.length = lx.length → s.nw.length = lx.length → ((epochs e m).foldl (advStep lx sl f) s).bf.length = lx.length ∧ ((epochs e m).foldl (advStep lx sl f) s).nw.length = lx.length := by
  induction m with
  | zero => intro e s h1 h2; exact ⟨h1, h2⟩
  | succ m ih =>
    intro e s h1 h2
    exact ih (e + 1) (advStep lx sl f s e) h2 (by simp [advStep])
theorem mx_le {x : Int} (h : x ≤ 9223372036854775807) : mx 0 x ≤ 9223372036854775807 := by unfold mx; split <;> omega
/-- Behind slots that went by. -/
theorem ScOk.advanced {sl : Int} {s : LS} {slot : Int} (lx : List Int) (f : Int → Int) (h : ScOk lx.length sl s slot) (hs : 1 ≤ sl) (a : Int) (ha : 0 ≤ a ∧ a ≤ 255) :
    ScOk lx.length sl (advTo lx sl f s (wrap64 (slot + a))) (wrap64 (slot + a)) := by
  have hr := fold_rows lx sl f (manyOf s (wrap64 (slot + a)) sl) s.ep s h.bl h.nl
  have he : ((epochs s.ep (manyOf s (wrap64 (slot + a)) sl)).foldl (advStep lx sl f) s).ep = s.ep + manyOf s (wrap64 (slot + a)) sl := ep_fold _ _ _ rfl
  have hw := wrap_range (slot + a)
  have h0 := h.e0
  rw [h.adv lx f hs a ha]
  generalize hq : wrap64 (slot + a) = q at hw hr he ⊢
  have h2 := epOf_range q sl hw.2
  have hm : ((manyOf s q sl : Nat) : Int) = max 0 (epOf q sl - s.ep) := by unfold manyOf; omega
  refine ⟨by omega, ?_, by omega, hw, hr.1, hr.2⟩
  rw [he]
  by_cases e : epOf q sl ≤ s.ep
  · have : s.ep + ((manyOf s q sl : Nat) : Int) = s.ep := by omega
    rw [this]
    exact h.em
  · have : s.ep + ((manyOf s q sl : Nat) : Int) = epOf q sl := by omega
    rw [this]
    unfold epOf
    rw [mx1 hs]
    exact Int.le_trans (Int.ediv_mul_le (mx 0 q) (by omega)) (mx_le hw.2)
/-- The reference's loop: does it go on. -/
theorem sc_test {s : LS} {q sl : Int} (h0 : 0 ≤ s.ep) (hs : 1 ≤ sl) (hq : -9223372036854775808 ≤ q ∧ q ≤ 9223372036854775807) (j : Nat) : decide (s.ep + (j : Int) < wrap64 (Int.tdiv q sl)) = decide (j < manyOf s q sl) := by
  have hr := epOf_range q sl hq.2
  by_cases e : 0 ≤ q
  · have e1 : Int.tdiv q sl = q / sl := Int.tdiv_eq_ediv_of_nonneg e
    have e2 : epOf q sl = q / sl := (ep_small e hs).1
    have e3 : wrap64 (q / sl) = q / sl := by rw [← e2]; unfold wrap64; omega
    rw [e1, e3]
    unfold manyOf
    rw [e2]
    exact decide_eq_decide.2 (by omega)
  · have e2 : epOf q sl = 0 := by
      unfold epOf
      have : mx 0 q = 0 := by unfold mx; split <;> omega
      rw [this, Int.zero_ediv]
    have e1 : Int.tdiv q sl = - ((-q) / sl) := by
      have h1 : Int.tdiv (-(-q)) sl = - Int.tdiv (-q) sl := Int.neg_tdiv (-q) sl
      rw [Int.neg_neg] at h1
      rw [h1, Int.tdiv_eq_ediv_of_nonneg (by omega)]
    have h3 : 0 ≤ (-q) / sl := Int.ediv_nonneg (by omega) (by omega)
    have h4 : (-q) / sl ≤ -q := Int.ediv_le_self sl (by omega)
    rw [e1]
    unfold manyOf
    rw [e2]
    generalize (-q) / sl = z at h3 h4 ⊢
    refine decide_eq_decide.2 ⟨fun h => ?_, fun h => ?_⟩
    · exfalso
      unfold wrap64 at h
      omega
    · omega
theorem fold_next (lx : List Int) (sl : Int) (f : Int → Int) (s : LS) (j : Nat) : (epochs s.ep (j + 1)).foldl (advStep lx sl f) s = advStep lx sl f ((epochs s.ep j).foldl (advStep lx sl f) s) (s.ep + j) := by
  rw [epochs_split j s.ep 1, List.foldl_append]
  rfl
theorem ScOk.counted {n : Nat} {sl : Int} {s : LS} {slot : Int} (h : ScOk n sl s slot) (f : Int → Int) (rt : Bool) (a b c d : Int) (W : List Int) : ScOk n sl (countOf sl f s rt a b c d W).1 slot := by
  unfold countOf
  split
  · exact h
  · dsimp only
    split
    · exact ⟨h.e0, h.em, h.at_, h.s0, h.bl, by rw [marks_len]; exact h.nl⟩
    · exact ⟨h.e0, h.em, h.at_, h.s0, by rw [marks_len]; exact h.bl, h.nl⟩
/-- Whether a vote is right; and what it is, then. -/
theorem sc_right (lx : List Int) (W : List Int) (sl a2 s h se sr te tr : Int) (hn : W.length ≤ 140737488351232) (hs : s ≤ 9223372036854775807) :
    ∃ (rt : Bool) (k : Nat), vote_Right.f k lx sl a2 s h se sr te tr W = some rt ∧ (rt = true → 0 ≤ te ∧ ∀ j, j < W.length → 0 ≤ rd W (j : Int) ∧ rd W (j : Int) < (lx.length : Int)) := by
  by_cases hg : Go.Proofs.Ytiklbldanidfiaa.QLV.Good lx.length sl s se te W
  · obtain ⟨k, hk⟩ := (right_true W lx sl a2 s h se sr te tr hn hs hg).rounds
    obtain ⟨g1, g2, g3, g4, g5, g6⟩ := hg
    exact ⟨true, k, hk, fun _ => ⟨by omega, fun j hj => ⟨(g6 j hj).1, (g6 j hj).2.1⟩⟩⟩
  · obtain ⟨k, hk⟩ := (right_false W lx sl a2 s h se sr te tr hn hs hg).rounds
    exact ⟨false, k, hk, fun h => by cases h⟩
theorem pull10_calls (AX : Option Addr) (cX : Nat) (lx : List Int) (sl bo : Int) (s : LS) (AB : Option Addr) (cB : Nat) (AN : Option Addr) (cN : Nat) (v : Value) (g : Int → Int) (w : World) (h : SIn AX cX lx s AB cB AN cN v g w) :
    Calls Try.prog 14 #[.agg #[.slice AX lx.length cX, .int .i64 sl, .int .i64 bo], .agg (stC s AB cB AN cN), v] w fun x w' => x = .returned (.agg (pullOf lx sl g s).cells) ∧ Below w.heap.size w w' :=
  pull10_at AX cX lx sl bo s.j.b0 s.j.b1 s.j.b2 s.j.b3 s.j.pe s.j.pr s.j.ce s.j.cr s.j.fe s.j.fr s.ep AB cB s.bf AN cN s.nw v g w h.X h.lX h.nX h.hB h.cB_ h.lB h.hN h.cN_ h.lN h.ch h.ep_
theorem cnt10_calls (AX : Option Addr) (cX : Nat) (lx : List Int) (sl bo : Int) (s : LS) (AB : Option Addr) (cB : Nat) (AN : Option Addr) (cN : Nat) (vs vh vse vsr vte vtr : Int) (AW : Option Addr) (cW : Nat) (W : List Int) (rt : Bool) (kr : Nat) (v : Value) (g : Int → Int) (w : World) (h : SIn AX cX lx s AB cB AN cN v g w) (hW : Kd.C (Kd.int .i64) w AW W.length W) (hcW : W.length ≤ cW)
    (hk : vote_Right.f kr lx sl bo vs vh vse vsr vte vtr W = some rt) (hin : rt = true → ∀ j, j < W.length → 0 ≤ rd W (j : Int) ∧ rd W (j : Int) < (s.bf.length : Int) ∧ rd W (j : Int) < (s.nw.length : Int)) (hWl : W.length ≤ 17592186043904) (hte : -9223372036854775808 ≤ vte ∧ vte ≤ 9223372036854775807) (hr : rt = true → 0 ≤ vte) :
    Calls Try.prog 19 #[.agg #[.slice AX lx.length cX, .int .i64 sl, .int .i64 bo], .agg (stC s AB cB AN cN), .agg #[.int .i64 vs, .int .u64 vh, .int .i64 vse, .int .u64 vsr, .int .i64 vte, .int .u64 vtr, .slice AW W.length cW], v] w fun x w' => ∃ AB' cB' AN' cN',
      x = .returned (.tuple #[.agg (stC (countOf sl g s rt vse vsr vte vtr W).1 AB' cB' AN' cN'), .bool (countOf sl g s rt vse vsr vte vtr W).2]) ∧ SIn AX cX lx (countOf sl g s rt vse vsr vte vtr W).1 AB' cB' AN' cN' v g w' ∧ Below w.heap.size w w' := by
  rw [← cnt10_is sl g s rt vse vsr vte vtr W h.ep_ hte hr]
  exact cnt10_at AX cX lx sl bo s.j.b0 s.j.b1 s.j.b2 s.j.b3 s.j.pe s.j.pr s.j.ce s.j.cr s.j.fe s.j.fr s.ep AB cB s.bf AN cN s.nw vs vh vse vsr vte vtr AW cW W rt kr v g w h hW hcW hk hin hWl hte
theorem sin_of_rows {AX : Option Addr} {cX : Nat} {lx : List Int} {s : LS} {A : Option Addr} {a : Nat} {B : Option Addr} {b : Nat} {v : Value} {g : Int → Int} {w : World} {base base' : Nat} (hc : CIn AX cX lx v g w) (r1 : Kd.R Kd.bool 4 w base (fun _ => True) (.slice A s.bf.length a) s.bf) (r2 : Kd.R Kd.bool 4 w base' (fun _ => True) (.slice B s.nw.length b) s.nw) (h1 : s.bf.length ≤ 17592186043904) (h2 : s.nw.length ≤ 17592186043904) (he : -9223372036854775808 ≤ s.ep ∧ s.ep ≤ 9223372036854775807) : SIn AX cX lx s A a B b v g w :=
  ⟨hc.X, hc.lX, hc.nX, (Kd.R_reads' r1).2.2, (Kd.R_reads' r1).2.1, h1, (Kd.R_reads' r2).2.2, (Kd.R_reads' r2).2.1, h2, hc.ch, he, TyB.of_R r1, TyB.of_R r2⟩
/-- An epoch ended: the rows behind it. -/
theorem sin_step {AX : Option Addr} {cX : Nat} {lx : List Int} {sl : Int} {t : LS} {C : Option Addr} {c : Nat} {D : Option Addr} {d : Nat} {E : Option Addr} {e' : Nat} {v : Value} {g : Int → Int} {w : World} {base : Nat} {e : Int} (h : SIn AX cX lx t C c D d v g w) (r : Kd.R Kd.bool 4 w base (fun _ => True) (.slice E lx.length e') (List.replicate lx.length false)) (he : -9223372036854775808 ≤ e + 1 ∧ e + 1 ≤ 9223372036854775807) : SIn AX cX lx (advStep lx sl g t e) D d E e' v g w := by
  have q := Kd.R_reads' r
  have l : (List.replicate lx.length false).length = lx.length := List.length_replicate
  have y := TyB.of_R r
  refine ⟨h.X, h.lX, h.nX, h.hN, h.cN_, h.lN, ?_, ?_, ?_, h.ch, he, h.tN, ?_⟩
  · show Kd.C Kd.bool w E (List.replicate lx.length false).length (List.replicate lx.length false)
    exact q.2.2
  · show (List.replicate lx.length false).length ≤ e'
    rw [l]; exact q.2.1
  · show (List.replicate lx.length false).length ≤ 17592186043904
    rw [l]; exact h.nX
  · show TyB w E (List.replicate lx.length false).length
    rw [l]; exact y
theorem pull10_to {AX : Option Addr} {cX : Nat} {lx : List Int} {sl bo : Int} {s : LS} {AB : Option Addr} {cB : Nat} {AN : Option Addr} {cN : Nat} {v : Value} {g : Int → Int} {w : World} {m0 m1 m2 m3 : Bool} {mpe mpr mce mcr mfe mfr : Int} (hm : pullOf lx sl g s = ⟨m0, m1, m2, m3, mpe, mpr, mce, mcr, mfe, mfr⟩) (h : SIn AX cX lx s AB cB AN cN v g w) :
    Calls Try.prog 14 #[.agg #[.slice AX lx.length cX, .int .i64 sl, .int .i64 bo], .agg (stC s AB cB AN cN), v] w fun x w' => x = .returned (.agg #[.bool m0, .bool m1, .bool m2, .bool m3, .int .i64 mpe, .int .u64 mpr, .int .i64 mce, .int .u64 mcr, .int .i64 mfe, .int .u64 mfr]) ∧ Below w.heap.size w w' := by
  have := pull10_calls AX cX lx sl bo s AB cB AN cN v g w h
  rw [hm] at this
  exact this
theorem pull_to' {AX : Option Addr} {cX : Nat} {lx : List Int} {sl bo : Int} {s : LS} {AB : Option Addr} {cB : Nat} {AN : Option Addr} {cN : Nat} {v : Value} {g : Int → Int} {w : World} {m0 m1 m2 m3 : Bool} {mpe mpr mce mcr mfe mfr : Int} (hm : pullOf lx sl g s = ⟨m0, m1, m2, m3, mpe, mpr, mce, mcr, mfe, mfr⟩) (h : SIn AX cX lx s AB cB AN cN v g w) :
    Calls Try.prog 21 #[.agg #[.slice AX lx.length cX, .int .i64 sl, .int .i64 bo], .agg (stC s AB cB AN cN), v] w fun x w' => x = .returned (.agg #[.bool m0, .bool m1, .bool m2, .bool m3, .int .i64 mpe, .int .u64 mpr, .int .i64 mce, .int .u64 mcr, .int .i64 mfe, .int .u64 mfr]) ∧ Below w.heap.size w w' := by
  have := pull_calls AX cX lx sl bo s AB cB AN cN v g w h
  rw [hm] at this
  exact this
theorem sc_far {s : LS} {q sl : Int} {j : Nat} (h : 0 ≤ s.ep ∧ s.ep ≤ 9223372036854775807) (hs : 1 ≤ sl) (hq : -9223372036854775808 ≤ q ∧ q ≤ 9223372036854775807) (hj : j < manyOf s q sl) : -9223372036854775808 ≤ s.ep + (j : Int) + 1 ∧ s.ep + (j : Int) + 1 ≤ 9223372036854775807 := by
  have h2 := epOf_range q sl hq.2
  unfold manyOf at hj
  omega
theorem count_to {AX : Option Addr} {cX : Nat} {lx : List Int} {sl bo : Int} {s : LS} {AB : Option Addr} {cB : Nat} {AN : Option Addr} {cN : Nat} {vs vh vse vsr vte vtr : Int} {AW : Option Addr} {cW : Nat} {W : List Int} {rt : Bool} {kr : Nat} {v : Value} {g : Int → Int} {w : World} {s2 : LS} {ob : Bool} (hc : countOf sl g s rt vse vsr vte vtr W = (s2, ob)) (h : SIn AX cX lx s AB cB AN cN v g w) (hW : Kd.C (Kd.int .i64) w AW W.length W) (hcW : W.length ≤ cW)
    (hk : vote_Right.f kr lx sl bo vs vh vse vsr vte vtr W = some rt) (hin : rt = true → ∀ j, j < W.length → 0 ≤ rd W (j : Int) ∧ rd W (j : Int) < (s.bf.length : Int) ∧ rd W (j : Int) < (s.nw.length : Int)) (hWl : W.length ≤ 17592186043904) (hte : -9223372036854775808 ≤ vte ∧ vte ≤ 9223372036854775807) :
    Calls Try.prog 18 #[.agg #[.slice AX lx.length cX, .int .i64 sl, .int .i64 bo], .agg (stC s AB cB AN cN), .agg #[.int .i64 vs, .int .u64 vh, .int .i64 vse, .int .u64 vsr, .int .i64 vte, .int .u64 vtr, .slice AW W.length cW], v] w fun x w' => ∃ AB' cB' AN' cN',
      x = .returned (.tuple #[.agg (stC s2 AB' cB' AN' cN'), .bool ob]) ∧ SIn AX cX lx s2 AB' cB' AN' cN' v g w' ∧ Below w.heap.size w w' := by
  have := count_calls AX cX lx sl bo s AB cB AN cN vs vh vse vsr vte vtr AW cW W rt kr v g w h hW hcW hk hin hWl hte
  rw [hc] at this
  exact this
theorem cnt10_to {AX : Option Addr} {cX : Nat} {lx : List Int} {sl bo : Int} {s : LS} {AB : Option Addr} {cB : Nat} {AN : Option Addr} {cN : Nat} {vs vh vse vsr vte vtr : Int} {AW : Option Addr} {cW : Nat} {W : List Int} {rt : Bool} {kr : Nat} {v : Value} {g : Int → Int} {w : World} {s2 : LS} {ob : Bool} (hc : countOf sl g s rt vse vsr vte vtr W = (s2, ob)) (h : SIn AX cX lx s AB cB AN cN v g w) (hW : Kd.C (Kd.int .i64) w AW W.length W) (hcW : W.length ≤ cW)
    (hk : vote_Right.f kr lx sl bo vs vh vse vsr vte vtr W = some rt) (hin : rt = true → ∀ j, j < W.length → 0 ≤ rd W (j : Int) ∧ rd W (j : Int) < (s.bf.length : Int) ∧ rd W (j : Int) < (s.nw.length : Int)) (hWl : W.length ≤ 17592186043904) (hte : -9223372036854775808 ≤ vte ∧ vte ≤ 9223372036854775807) (hr : rt = true → 0 ≤ vte) :
    Calls Try.prog 19 #[.agg #[.slice AX lx.length cX, .int .i64 sl, .int .i64 bo], .agg (stC s AB cB AN cN), .agg #[.int .i64 vs, .int .u64 vh, .int .i64 vse, .int .u64 vsr, .int .i64 vte, .int .u64 vtr, .slice AW W.length cW], v] w fun x w' => ∃ AB' cB' AN' cN',
      x = .returned (.tuple #[.agg (stC s2 AB' cB' AN' cN'), .bool ob]) ∧ SIn AX cX lx s2 AB' cB' AN' cN' v g w' ∧ Below w.heap.size w w' := by
  have := cnt10_calls AX cX lx sl bo s AB cB AN cN vs vh vse vsr vte vtr AW cW W rt kr v g w h hW hcW hk hin hWl hte hr
  rw [hc] at this
  exact this
/-- What lies in memory between two deeds: the engine's state and the reference's. -/
structure ScIn (w0 : World) (sb wb : Nat) (AX : Option Addr) (cX : Nat) (lx : List Int) (v : Value) (g : Int → Int) (s t : LS) (A : Option Addr) (a : Nat) (B : Option Addr) (b : Nat) (C : Option Addr) (c : Nat) (D : Option Addr) (d : Nat) (wr : World) : Prop where
  bel : Below w0.heap.size w0 wr
  bs : wr.heap[sb]? = some (.cells (stC s A a B b) 39 (0, 0))
  bw : wr.heap[wb]? = some (.cells (stC t C c D d) 39 (0, 0))
  si : SIn AX cX lx s A a B b v g wr
  wi : SIn AX cX lx t C c D d v g wr
  hc : CIn AX cX lx v g w0
  ls : w0.heap.size ≤ sb
  lw : w0.heap.size ≤ wb
  ne : sb ≠ wb
section
variable {w0 : World} {sb wb : Nat} {AX : Option Addr} {cX : Nat} {lx : List Int} {v : Value} {g : Int → Int} {s t : LS} {A : Option Addr} {a : Nat} {B : Option Addr} {b : Nat} {C : Option Addr} {c : Nat} {D : Option Addr} {d : Nat} {wr w1 : World}
theorem ScIn.below (h : ScIn w0 sb wb AX cX lx v g s t A a B b C c D d wr) (hb : Below wr.heap.size wr w1) : ScIn w0 sb wb AX cX lx v g s t A a B b C c D d w1 :=
  ⟨below_then h.bel h.bel.size hb, blk_below h.bs hb, blk_below h.bw hb, h.si.below hb, h.wi.below hb, h.hc, h.ls, h.lw, h.ne⟩
theorem ScIn.lts (h : ScIn w0 sb wb AX cX lx v g s t A a B b C c D d wr) : sb < wr.heap.size ∧ wb < wr.heap.size := ⟨(Array.getElem?_eq_some_iff.1 h.bs).1, (Array.getElem?_eq_some_iff.1 h.bw).1⟩
/-- A store over another box. -/
theorem ScIn.over (h : ScIn w0 sb wb AX cX lx v g s t A a B b C c D d wr) {q e : Nat} {cs : Array Value} (hq : wr.heap[q]? = some (.cells cs e (0, 0))) (he : e ≠ 4) (h1 : q ≠ sb) (h2 : q ≠ wb) (h3 : w0.heap.size ≤ q) (hg : wr.grownBy w1 (some q)) : ScIn w0 sb wb AX cX lx v g s t A a B b C c D d w1 :=
  have hb := h.bel.grown hg h.bel.size (fun k e => by cases e; exact h3)
  ⟨hb, blk_grown h.bs hg (fun e => h1 (by injection e with e; exact e.symm)), blk_grown h.bw hg (fun e => h2 (by injection e with e; exact e.symm)), h.si.over h.hc hq he hg hb, h.wi.over h.hc hq he hg hb, h.hc, h.ls, h.lw, h.ne⟩
/-- The engine's state stored anew. -/
theorem ScIn.putS (h : ScIn w0 sb wb AX cX lx v g s t A a B b C c D d wr) {s' : LS} {A' : Option Addr} {a' : Nat} {B' : Option Addr} {b' : Nat} (hs : SIn AX cX lx s' A' a' B' b' v g wr) (h1 : w1.heap[sb]? = some (.cells (stC s' A' a' B' b') 39 (0, 0))) (hg : wr.grownBy w1 (some sb)) : ScIn w0 sb wb AX cX lx v g s' t A' a' B' b' C c D d w1 :=
  have hb := h.bel.grown hg h.bel.size (fun k e => by cases e; exact h.ls)
  ⟨hb, h1, blk_grown h.bw hg (fun e => h.ne (by injection e with e; exact e.symm)), hs.over h.hc h.bs (by decide) hg hb, h.wi.over h.hc h.bs (by decide) hg hb, h.hc, h.ls, h.lw, h.ne⟩
/-- The reference's state stored anew. -/
theorem ScIn.putW (h : ScIn w0 sb wb AX cX lx v g s t A a B b C c D d wr) {s' : LS} {A' : Option Addr} {a' : Nat} {B' : Option Addr} {b' : Nat} (hs : SIn AX cX lx s' A' a' B' b' v g wr) (h1 : w1.heap[wb]? = some (.cells (stC s' A' a' B' b') 39 (0, 0))) (hg : wr.grownBy w1 (some wb)) : ScIn w0 sb wb AX cX lx v g s s' A a B b A' a' B' b' w1 :=
  have hb := h.bel.grown hg h.bel.size (fun k e => by cases e; exact h.lw)
  ⟨hb, blk_grown h.bs hg (fun e => h.ne (by injection e)), h1, h.si.over h.hc h.bw (by decide) hg hb, hs.over h.hc h.bw (by decide) hg hb, h.hc, h.ls, h.lw, h.ne⟩
end
/-- Cells stored over a part of a box. -/
theorem store_at {P : Program} {ops : Array Oper} {rest : List Oper} {o : Oper} {a : Act} {Q : Exit → Act → World → Prop} {W : World} (hN : o.dst = none) (hgd : o.guard = none) (t : TypeId) (p x : Operand) (ho : o.op = .store t p x) (g i : Nat) (e : TypeId) (cur : Array Value) (seg : List Value) (u : Value)
    (haddr : a.eval p = .pointer (some ⟨g, i, none⟩)) (hx : a.eval x = u) (hu : u.cells.toList = seg) (hh : W.heap[g]? = some (.cells cur e (0, 0))) (hfit : i + seg.length ≤ cur.size) (ht : (P.info? t).map (·.size) = some seg.length) (h1 : ∀ q ∈ seg, q.oneCell' = true) (res : Array Value) (hres : cur.toList.take i ++ seg ++ cur.toList.drop (i + seg.length) = res.toList)
    (h : ∀ w1, w1.heap[g]? = some (.cells res e (0, 0)) → W.grownBy w1 (some g) → wpList P ops Q rest a w1) : wpList P ops Q (o :: rest) a W := by
  have hrun := run_store_run (P := P) (w := W) (o := i) t u seg hh hu ht hfit h1
  have hs := setCells_same g seg i W
  have hr := setCells_row seg i W cur hh hfit
  refine wpList_plain hgd fun K hK => ?_
  unfold Oper.wp execOp
  simp only [ho, haddr, hx, Sem.run_bind, Sem.run_pure, Result.andThen_ok, hrun]
  show K (a.put o.dst undef) _
  rw [hN]
  refine hK a _ (h _ ?_ ⟨hs.1, hs.2.1, hs.2.2.1, by rw [hs.2.2.2]; omega, fun k hk hne => setCells_far _ _ k (fun e => hne (by rw [e]))⟩)
  obtain ⟨cur', h2, h3, h4⟩ := hr
  have : cur' = res := by
    apply Array.ext'
    rw [h4, hres]
  rwa [this] at h2
end Go.Proofs.Ytiklbldanidfiaa.QL
