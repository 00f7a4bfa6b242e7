/-
  Package psephoslaw10: its awake.
-/
import Derived.Test.YtiklbldanidfiaaLB
import Derived.Test.YtiklbldanidfiaaLC
import Derived.Test.YtiklbldanidfiaaLE
import Derived.Test.YtiklbldanidfiaaWEqStruct
import Derived.Test.YtiklbldanidfiaaQLx10
namespace Go.Proofs.Ytiklbldanidfiaa.QL
open Go.RowKit Go.Proofs.YtiklbldanidfiaaW.PrintWords Go.Proofs.YtiklbldanidfiaaW.PrintLast Go.Proofs.Ytiklbldanidfiaa.Own Go.Proofs.Ytiklbldanidfiaa.Justify
set_option linter.unusedVariables false
set_option linter.unusedSimpArgs false
set_option maxHeartbeats 4000000 in
set_option maxRecDepth 100000 in
theorem Chain_calls (n : Int) (hn : 0 ≤ n ∧ n ≤ 255) (w : World) :
    Calls Try.prog 11 #[.int .u8 n] w fun x w' => ∃ v, x = .returned v ∧ ChainAt v (chainOf n) w' ∧ Below w.heap.size w w' := by
  have HN := Aside0.mk hn
  clear hn
  go_enter Try.func11, Try.ntmps11
  go_wp2_with fail
  refine bodyPost_ret (v := .func (.func 28) #[] #[.pointer (some ⟨w.heap.size, 0, none⟩)]) ?_ rfl ⟨_, rfl, chain_at n HN.out w.heap.size _ (by simp) (heap_alloc_new w _), below_alloc (Below.refl _ _) _⟩
  simp [results, Try.results11, go_sem]
end Go.Proofs.Ytiklbldanidfiaa.QL
namespace Go.Proofs.Ytiklbldanidfiaa.QL
open Go.RowKit Go.Proofs.YtiklbldanidfiaaW.PrintWords Go.Proofs.YtiklbldanidfiaaW.PrintLast Go.Proofs.Ytiklbldanidfiaa.Own Go.Proofs.Ytiklbldanidfiaa.Justify
set_option linter.unusedVariables false
theorem idx_none (n : Nat) : ∀ i, idx i (List.replicate n false) = [] := by
  induction n with
  | zero => intro i; rfl
  | succ n ih =>
    intro i
    rw [List.replicate_succ]
    unfold idx
    rw [if_neg (by simp)]
    exact ih (i + 1)
theorem all_range (lx : List Int) : ∀ a : Int, 0 ≤ a ∧ a ≤ 18446744073709551615 → 0 ≤ allOf a lx ∧ allOf a lx ≤ 18446744073709551615 := by
  induction lx with
  | nil => intro a h; exact h
  | cons x l ih => intro a h; exact ih _ (u64_range _)
theorem enough_none (b : Int) (h : 0 ≤ b ∧ b ≤ 18446744073709551615) : enough 0 b = false := by
  unfold enough
  split
  · rename_i hb
    rw [Int.tdiv_eq_ediv_of_nonneg h.1, Int.tmod_eq_emod_of_nonneg h.1]
    simp only [IntKind.wrap_u64]
    rw [Int.tdiv_eq_ediv_of_nonneg (by omega)]
    apply decide_eq_false
    omega
  · rfl
/-- Nothing but the first block. -/
def Bare (n : Nat) (r : Int) (s : LS) : Prop := s.j.b0 = false ∧ s.j.pe = 0 ∧ s.j.pr = r ∧ s.j.ce = 0 ∧ s.j.cr = r ∧ s.j.fe = 0 ∧ s.j.fr = r ∧ s.bf = List.replicate n false ∧ s.nw = List.replicate n false
theorem bare_pull {lx : List Int} {sl : Int} {g : Int → Int} {r : Int} {n : Nat} {s : LS} (h : Bare n r s) :
    (pullOf lx sl g s).b0 = false ∧ (pullOf lx sl g s).pe = 0 ∧ (pullOf lx sl g s).pr = r ∧ (pullOf lx sl g s).ce = 0 ∧ (pullOf lx sl g s).cr = r ∧ (pullOf lx sl g s).fe = 0 ∧ (pullOf lx sl g s).fr = r := by
  obtain ⟨h0, h1, h2, h3, h4, h5, h6, h7, h8⟩ := h
  have hs : sumOf lx 0 [] = 0 := rfl
  have he := enough_none (allOf 0 lx) (all_range lx 0 (by omega))
  unfold pullOf
  split
  · exact ⟨h0, h1, h2, h3, h4, h5, h6⟩
  · rw [h7, h8, idx_none, hs, he]
    simp [next, h0, h3, h4, h5, h6]
theorem bare_step {lx : List Int} {sl : Int} {g : Int → Int} {r : Int} {s : LS} (h : Bare lx.length r s) (e : Int) : Bare lx.length r (advStep lx sl g s e) := by
  obtain ⟨p0, p1, p2, p3, p4, p5, p6⟩ := bare_pull (lx := lx) (sl := sl) (g := g) h
  exact ⟨p0, p1, p2, p3, p4, p5, p6, h.2.2.2.2.2.2.2.2, rfl⟩
theorem bare_fold {lx : List Int} {sl : Int} {g : Int → Int} {r : Int} (es : List Int) : ∀ s : LS, Bare lx.length r s → Bare lx.length r (es.foldl (advStep lx sl g) s) := by
  induction es with
  | nil => intro s h; exact h
  | cons e es ih => intro s h; exact ih _ (bare_step h e)
theorem ep_fold {lx : List Int} {sl : Int} {g : Int → Int} (n : Nat) : ∀ (e : Int) (s : LS), s.ep = e → ((epochs e n).foldl (advStep lx sl g) s).ep = e + n := by
  induction n with
  | zero => intro e s h; simpa [epochs] using h
  | succ n ih =>
    intro e s h
    show ((epochs (e + 1) n).foldl (advStep lx sl g) (advStep lx sl g s e)).ep = _
    rw [ih (e + 1) _ rfl]
    omega
theorem bare_adv {lx : List Int} {sl : Int} {g : Int → Int} {r slot : Int} {s : LS} (h : Bare lx.length r s) : Bare lx.length r (advTo lx sl g s slot) := bare_fold _ _ h
theorem adv_ep {lx : List Int} {sl : Int} {g : Int → Int} {slot : Int} {s : LS} (h : s.ep = 0) (hs : slot ≤ 9223372036854775807) : (advTo lx sl g s slot).ep = min (mx 0 slot / mx 1 sl) 4096 := by
  unfold advTo endsOf
  have h0 : epOf (wrap64 (s.ep * mx 1 sl)) sl = 0 := by
    rw [h, Int.zero_mul]
    have : wrap64 0 = 0 := by unfold wrap64; omega
    rw [this]
    unfold epOf
    have : mx 0 0 = 0 := by unfold mx; omega
    rw [this, Int.zero_ediv]
  have h2 := epOf_range slot sl hs
  rw [h0, ep_fold _ 0 s h]
  unfold howMany
  rw [h0]
  show _ = min (epOf slot sl) 4096
  omega
end Go.Proofs.Ytiklbldanidfiaa.QL
namespace Go.Proofs.Ytiklbldanidfiaa.QL
open Go.RowKit Go.Proofs.YtiklbldanidfiaaW.PrintWords Go.Proofs.YtiklbldanidfiaaW.PrintLast Go.Proofs.YtiklbldanidfiaaW.PrintMore Go.Proofs.Ytiklbldanidfiaa.Own Go.Proofs.Ytiklbldanidfiaa.Justify
set_option linter.unusedVariables false
set_option linter.unusedSimpArgs false

/-- A state's cells. -/
abbrev stC (s : LS) (AB : Option Addr) (cB : Nat) (AN : Option Addr) (cN : Nat) : Array Value := #[.bool s.j.b0, .bool s.j.b1, .bool s.j.b2, .bool s.j.b3, .int .i64 s.j.pe, .int .u64 s.j.pr, .int .i64 s.j.ce, .int .u64 s.j.cr, .int .i64 s.j.fe, .int .u64 s.j.fr, .int .i64 s.ep, .slice AB s.bf.length cB, .slice AN s.nw.length cN]
/-- A configuration, a state and a chain that are there. -/
def SIn (AX : Option Addr) (cX : Nat) (lx : List Int) (s : LS) (AB : Option Addr) (cB : Nat) (AN : Option Addr) (cN : Nat) (v : Value) (g : Int → Int) (w : World) : Prop :=
  PIn AX cX lx s.j.b0 s.j.b1 s.j.b2 s.j.b3 s.j.pe s.j.pr s.j.ce s.j.cr s.j.fe s.j.fr s.ep AB cB s.bf AN cN s.nw v g w
theorem SIn.below {AX : Option Addr} {cX : Nat} {lx : List Int} {s : LS} {AB : Option Addr} {cB : Nat} {AN : Option Addr} {cN : Nat} {v : Value} {g : Int → Int} {w w' : World} (h : SIn AX cX lx s AB cB AN cN v g w) (hb : Below w.heap.size w w') : SIn AX cX lx s AB cB AN cN v g w' := PIn.below h hb
/-- What a configuration must be. -/
structure CIn (AX : Option Addr) (cX : Nat) (lx : List Int) (v : Value) (g : Int → Int) (w : World) : Prop where
  X : Kd.C (Kd.int .u64) w AX lx.length lx
  lX : lx.length ≤ cX
  nX : lx.length ≤ 17592186043904
  ch : ChainAt v g w
theorem CIn.below {AX : Option Addr} {cX : Nat} {lx : List Int} {v : Value} {g : Int → Int} {w w' : World} (h : CIn AX cX lx v g w) (hb : Below w.heap.size w w') : CIn AX cX lx v g w' := ⟨Kd.C_below h.X hb, h.lX, h.nX, h.ch.below hb⟩
theorem SIn.c {AX : Option Addr} {cX : Nat} {lx : List Int} {s : LS} {AB : Option Addr} {cB : Nat} {AN : Option Addr} {cN : Nat} {v : Value} {g : Int → Int} {w : World} (h : SIn AX cX lx s AB cB AN cN v g w) : CIn AX cX lx v g w := ⟨h.X, h.lX, h.nX, h.ch⟩
/-- The state at the beginning. -/
def openS (r : Int) (n : Nat) : LS := ⟨⟨false, false, false, false, 0, r, 0, r, 0, r⟩, 0, List.replicate n false, List.replicate n false⟩
/-- Two rows of bools of the call's own, in blocks of their own. -/
structure Rows2 (base : Nat) (s : LS) (AB : Option Addr) (cB : Nat) (AN : Option Addr) (cN : Nat) (w : World) : Prop where
  r1 : Kd.R Kd.bool 4 w base (fun _ => True) (.slice AB s.bf.length cB) s.bf
  r2 : Kd.R Kd.bool 4 w base (fun _ => True) (.slice AN s.nw.length cN) s.nw
  ne : ∀ k, (Value.slice AB s.bf.length cB).ownBlock = some k → (Value.slice AN s.nw.length cN).ownBlock = some k → False
theorem Rows2.below {base : Nat} {s : LS} {AB : Option Addr} {cB : Nat} {AN : Option Addr} {cN : Nat} {w w' : World} (h : Rows2 base s AB cB AN cN w) (hb : Below w.heap.size w w') : Rows2 base s AB cB AN cN w' := ⟨Kd.R_below h.r1 hb, Kd.R_below h.r2 hb, h.ne⟩
theorem open_calls (AX : Option Addr) (cX : Nat) (lx : List Int) (sl bo r : Int) (w : World) (hlx : lx.length ≤ 17592186043904) :
    Calls Try.prog 12 #[.agg #[.slice AX lx.length cX, .int .i64 sl, .int .i64 bo], .int .u64 r] w fun x w' => ∃ a1 c1 a2 c2, x = .returned (.agg (stC (openS r lx.length) a1 c1 a2 c2)) ∧ Rows2 w.heap.size (openS r lx.length) a1 c1 a2 c2 w' ∧ Below w.heap.size w w' := by
  refine (open2_at AX cX lx sl bo r w hlx).mono ?_
  rintro x w' ⟨a1, c1, a2, c2, rfl, h1, h2, h3, h4⟩
  have e : (List.replicate lx.length false).length = lx.length := List.length_replicate
  refine ⟨a1, c1, a2, c2, ?_, ⟨?_, ?_, ?_⟩, h4⟩
  · unfold stC openS
    simp
  · show Kd.R Kd.bool 4 w' w.heap.size (fun _ => True) (.slice a1 (List.replicate lx.length false).length c1) (List.replicate lx.length false)
    rw [e]; exact h1
  · show Kd.R Kd.bool 4 w' w.heap.size (fun _ => True) (.slice a2 (List.replicate lx.length false).length c2) (List.replicate lx.length false)
    rw [e]; exact h2
  · show ∀ k, (Value.slice a1 (List.replicate lx.length false).length c1).ownBlock = some k → (Value.slice a2 (List.replicate lx.length false).length c2).ownBlock = some k → False
    rw [e]; exact h3
theorem Rows2.sin {base : Nat} {s : LS} {AB : Option Addr} {cB : Nat} {AN : Option Addr} {cN : Nat} {w : World} {AX : Option Addr} {cX : Nat} {lx : List Int} {v : Value} {g : Int → Int} (h : Rows2 base s AB cB AN cN w) (hc : CIn AX cX lx v g w) (h1 : s.bf.length ≤ 17592186043904) (h2 : s.nw.length ≤ 17592186043904) (he : -9223372036854775808 ≤ s.ep ∧ s.ep ≤ 9223372036854775807) : SIn AX cX lx s AB cB AN cN v g w :=
  ⟨hc.X, hc.lX, hc.nX, (Kd.R_reads' h.r1).2.2, (Kd.R_reads' h.r1).2.1, h1, (Kd.R_reads' h.r2).2.2, (Kd.R_reads' h.r2).2.1, h2, hc.ch, he, TyB.of_R h.r1, TyB.of_R h.r2⟩
/-- A store over a box that is no row of bools. -/
theorem SIn.over {AX : Option Addr} {cX : Nat} {lx : List Int} {s : LS} {AB : Option Addr} {cB : Nat} {AN : Option Addr} {cN : Nat} {v : Value} {g : Int → Int} {w0 w w1 : World} {b e : Nat} {cs : Array Value} (h : SIn AX cX lx s AB cB AN cN v g w) (hc : CIn AX cX lx v g w0) (hb : w.heap[b]? = some (.cells cs e (0, 0))) (he : e ≠ 4) (hg : w.grownBy w1 (some b)) (h01 : Below w0.heap.size w0 w1) : SIn AX cX lx s AB cB AN cN v g w1 :=
  have hc1 := hc.below h01
  ⟨hc1.X, hc1.lX, hc1.nX, CB_over h.hB h.tB hb he hg, h.cB_, h.lB, CB_over h.hN h.tN hb he hg, h.cN_, h.lN, hc1.ch, h.ep_, h.tB.over hb he hg, h.tN.over hb he hg⟩
theorem advance_calls (AX : Option Addr) (cX : Nat) (lx : List Int) (sl bo : Int) (s : LS) (AB : Option Addr) (cB : Nat) (AN : Option Addr) (cN : Nat) (slot : Int) (v : Value) (g : Int → Int) (w : World) (h : SIn AX cX lx s AB cB AN cN v g w) (hs : -9223372036854775808 ≤ slot ∧ slot ≤ 9223372036854775807) :
    Calls Try.prog 13 #[.agg #[.slice AX lx.length cX, .int .i64 sl, .int .i64 bo], .agg (stC s AB cB AN cN), .int .i64 slot, v] w fun x w' => ∃ AB' cB' AN' cN', x = .returned (.agg (stC (advTo lx sl g s slot) AB' cB' AN' cN')) ∧ SIn AX cX lx (advTo lx sl g s slot) AB' cB' AN' cN' v g w' ∧ Below w.heap.size w w' := by
  refine (advance_at AX cX lx sl bo s.j.b0 s.j.b1 s.j.b2 s.j.b3 s.j.pe s.j.pr s.j.ce s.j.cr s.j.fe s.j.fr s.ep AB cB s.bf AN cN s.nw slot v g w h hs).mono ?_
  rintro x w' ⟨s0, s1, s2, s3, pe, pr, ce, cr, fe, fr, ep, AB', cB', B', AN', cN', N', rfl, he, hp, hb⟩
  have he2 : advTo lx sl g s slot = ⟨⟨s0, s1, s2, s3, pe, pr, ce, cr, fe, fr⟩, ep, B', N'⟩ := he
  rw [he2]
  exact ⟨AB', cB', AN', cN', rfl, hp, hb⟩
theorem count_calls (AX : Option Addr) (cX : Nat) (lx : List Int) (sl bo : Int) (s : LS) (AB : Option Addr) (cB : Nat) (AN : Option Addr) (cN : Nat) (vs vh vse vsr vte vtr : Int) (AW : Option Addr) (cW : Nat) (W : List Int) (rt : Bool) (kr : Nat) (v : Value) (g : Int → Int) (w : World) (h : SIn AX cX lx s AB cB AN cN v g w) (hW : Kd.C (Kd.int .i64) w AW W.length W) (hcW : W.length ≤ cW)
    (hk : vote_Right.f kr lx sl bo vs vh vse vsr vte vtr W = some rt) (hin : rt = true → ∀ j, j < W.length → 0 ≤ rd W (j : Int) ∧ rd W (j : Int) < (s.bf.length : Int) ∧ rd W (j : Int) < (s.nw.length : Int)) (hWl : W.length ≤ 17592186043904) (hte : -9223372036854775808 ≤ vte ∧ vte ≤ 9223372036854775807) :
    Calls Try.prog 18 #[.agg #[.slice AX lx.length cX, .int .i64 sl, .int .i64 bo], .agg (stC s AB cB AN cN), .agg #[.int .i64 vs, .int .u64 vh, .int .i64 vse, .int .u64 vsr, .int .i64 vte, .int .u64 vtr, .slice AW W.length cW], v] w fun x w' => ∃ AB' cB' AN' cN',
      x = .returned (.tuple #[.agg (stC (countOf sl g s rt vse vsr vte vtr W).1 AB' cB' AN' cN'), .bool (countOf sl g s rt vse vsr vte vtr W).2]) ∧ SIn AX cX lx (countOf sl g s rt vse vsr vte vtr W).1 AB' cB' AN' cN' v g w' ∧ Below w.heap.size w w' := by
  refine (count_at AX cX lx sl bo s.j.b0 s.j.b1 s.j.b2 s.j.b3 s.j.pe s.j.pr s.j.ce s.j.cr s.j.fe s.j.fr s.ep AB cB s.bf AN cN s.nw vs vh vse vsr vte vtr AW cW W rt kr v g w h hW hcW hk hin hWl hte).mono ?_
  rintro x w' ⟨b, AB', cB', B', AN', cN', N', rfl, he, hp, hb⟩
  have he2 : countOf sl g s rt vse vsr vte vtr W = (⟨s.j, s.ep, B', N'⟩, b) := he
  rw [he2]
  exact ⟨AB', cB', AN', cN', rfl, hp, hb⟩
theorem pull_calls (AX : Option Addr) (cX : Nat) (lx : List Int) (sl bo : Int) (s : LS) (AB : Option Addr) (cB : Nat) (AN : Option Addr) (cN : Nat) (v : Value) (g : Int → Int) (w : World) (h : SIn AX cX lx s AB cB AN cN v g w) :
    Calls Try.prog 21 #[.agg #[.slice AX lx.length cX, .int .i64 sl, .int .i64 bo], .agg (stC s AB cB AN cN), v] w fun x w' => x = .returned (.agg (pullOf lx sl g s).cells) ∧ Below w.heap.size w w' :=
  pull_at AX cX lx sl bo s.j.b0 s.j.b1 s.j.b2 s.j.b3 s.j.pe s.j.pr s.j.ce s.j.cr s.j.fe s.j.fr s.ep AB cB s.bf AN cN s.nw v g w h.X h.lX h.nX h.hB h.cB_ h.lB h.hN h.cN_ h.lN h.ch h.ep_
/-- A state's box, laid in a region that draws its order: any cells. -/
theorem alloc_step {ops : Array Oper} {o : Oper} {a : Act} {Kc : Act → World → Prop} {Q : Exit → Act → World → Prop} {W w0 : World} {base : Nat} (t : TypeId) (zs : Array Value) (hw : Region.wanted o (yielded ops a.tmps) = true) {N : Tmp} (hd : o.dst = some N) (ho : o.op = .alloc t) (hz : (execOp (fun x => a.eval x) { o with op := .alloc t }).run Try.prog W = .ok (.value (.pointer (some ⟨W.heap.size, 0, none⟩))) (W.alloc (.cells zs t)))
    (HB : Below base w0 W) (hbase : base ≤ W.heap.size) (h : ∀ g w1, w1.heap[g]? = some (.cells zs t (0, 0)) → base ≤ g → Below base w0 w1 → W.grownBy w1 none → Kc (a.put o.dst (.pointer (some ⟨g, 0, none⟩))) w1) :
    if Region.wanted o (yielded ops a.tmps) = true then Oper.wp Try.prog o a W Kc Q else Kc (a.put o.dst undef) W := by
  have hrun : (execOp a.eval o).run Try.prog W = .ok (.value (.pointer (some ⟨W.heap.size, 0, none⟩))) (W.alloc (.cells zs t)) := by
    rw [← hz]
    cases o
    simp only at ho
    subst ho
    rfl
  rw [if_pos hw]
  unfold Oper.wp
  rw [hrun]
  exact h W.heap.size _ (heap_alloc_new _ _) hbase (HB.alloc hbase _) (World.grownBy_alloc W _ none)
end Go.Proofs.Ytiklbldanidfiaa.QL
namespace Go.Proofs.Ytiklbldanidfiaa.QL
open Go.RowKit Go.Proofs.YtiklbldanidfiaaW.PrintWords Go.Proofs.YtiklbldanidfiaaW.PrintLast Go.Proofs.YtiklbldanidfiaaW.PrintMore Go.Proofs.Ytiklbldanidfiaa.Own Go.Proofs.Ytiklbldanidfiaa.Justify
set_option linter.unusedVariables false
set_option linter.unusedSimpArgs false
attribute [local go_sem] max2_is min2_is max_pair min_pair
attribute [local go_sem high] eqA34

theorem rows_ex {base : Nat} {s : LS} {AB : Option Addr} {cB : Nat} {AN : Option Addr} {cN : Nat} {w : World} (h : Rows2 base s AB cB AN cN w) : ∃ b, Rows2 b s AB cB AN cN w := ⟨_, h⟩
theorem rows_below {s : LS} {AB : Option Addr} {cB : Nat} {AN : Option Addr} {cN : Nat} {w w' : World} (h : ∃ b, Rows2 b s AB cB AN cN w) (hb : Below w.heap.size w w') : ∃ b, Rows2 b s AB cB AN cN w' := by
  obtain ⟨b, h⟩ := h
  exact ⟨b, h.below hb⟩
/-- A literal row reads as its numbers. -/
theorem lit_C (w : World) (k : IntKind) (xs : List Int) (e : TypeId) (h : xs.length ≤ 9223372036854775807) : Kd.C (Kd.int k) (w.alloc (.cells (xs.map (Value.int k)).toArray e)) (some ⟨w.heap.size, 0, none⟩) xs.length xs := by
  refine Kd.C_of_reads (enc := Value.int k) (d := (0 : Int)) (h1 := fun _ => rfl) ⟨rfl, h, fun _ => ⟨_, rfl, fun j hj => ?_⟩⟩
  rw [add_plain, World.cell?_alloc_mark]
  simp [List.getElem?_eq_getElem hj, List.getD_eq_getElem?_getD]
section
variable {ops : Array Oper} {rest : List Oper} {o : Oper} {a : Act} {Q : Exit → Act → World → Prop}
theorem value_g {w : World} (hwt : Region.wanted o (yielded ops a.tmps) = true) (v : Value) (hrun : (execOp a.eval o).run Try.prog w = .ok (.value v) w) (hK : wpList Try.prog ops Q rest (a.put o.dst v) w) : wpList Try.prog ops Q (o :: rest) a w := by
  refine wpList_step fun K' hK' => ?_
  rw [if_pos hwt]
  unfold Oper.wp
  rw [hrun]
  exact hK' _ _ hK
end
def gA : Int → Int := fun s => IntKind.u64.wrap (IntKind.u64.wrap s + 100)
def sA2 : LS := ⟨⟨false, false, false, false, 0, 100, 0, 100, 0, 100⟩, 2, [false, false, false], [false, false, false]⟩
def sA3 : LS := ⟨⟨false, false, false, false, 0, 100, 0, 100, 0, 100⟩, 2, [false, false, false], [true, false, true]⟩
theorem awake_adv : advTo [1, 1, 1] 4 gA (openS 100 3) 9 = sA2 := by kernel_rfl
theorem awake_right : vote_Right.f 20 [1, 1, 1] 4 0 9 0 0 100 2 108 [0, 2] = some true := by kernel_rfl
theorem awake_count : countOf 4 gA sA2 true 0 100 2 108 [0, 2] = (sA3, true) := by kernel_rfl
theorem awake_pull : pullOf [1, 1, 1] 4 gA sA3 = ⟨true, false, false, false, 0, 100, 2, 108, 0, 100⟩ := by kernel_rfl
theorem openA (b : Nat) (w : World) : Calls Try.prog 12 #[.agg #[.slice (some ⟨b, 0, none⟩) 3 3, .int .i64 4, .int .i64 0], .int .u64 100] w fun x w' => ∃ a1 c1 a2 c2, x = .returned (.agg (stC (openS 100 3) a1 c1 a2 c2)) ∧ Rows2 w.heap.size (openS 100 3) a1 c1 a2 c2 w' ∧ Below w.heap.size w w' :=
  open_calls (some ⟨b, 0, none⟩) 3 [1, 1, 1] 4 0 100 w (by decide)
abbrev CA (b : Nat) (w : World) : Prop := CIn (some ⟨b, 0, none⟩) 3 [1, 1, 1] (.func (.func 26) #[] #[]) gA w
abbrev SA (b : Nat) (s : LS) (AB : Option Addr) (cB : Nat) (AN : Option Addr) (cN : Nat) (w : World) : Prop := SIn (some ⟨b, 0, none⟩) 3 [1, 1, 1] s AB cB AN cN (.func (.func 26) #[] #[]) gA w
theorem advA (b : Nat) (AB : Option Addr) (cB : Nat) (AN : Option Addr) (cN : Nat) (w : World) {rb : Nat} (hr : Rows2 rb (openS 100 3) AB cB AN cN w) (hc : CA b w) :
    Calls Try.prog 13 #[.agg #[.slice (some ⟨b, 0, none⟩) 3 3, .int .i64 4, .int .i64 0], .agg (stC (openS 100 3) AB cB AN cN), .int .i64 9, .func (.func 26) #[] #[]] w fun x w' => ∃ AB' cB' AN' cN', x = .returned (.agg (stC sA2 AB' cB' AN' cN')) ∧ SA b sA2 AB' cB' AN' cN' w' ∧ Below w.heap.size w w' := by
  have h := advance_calls (some ⟨b, 0, none⟩) 3 [1, 1, 1] 4 0 (openS 100 3) AB cB AN cN 9 (.func (.func 26) #[] #[]) gA w (hr.sin hc (by decide) (by decide) (by decide)) (by decide)
  rw [awake_adv] at h
  exact h
theorem countA (b g : Nat) (AB : Option Addr) (cB : Nat) (AN : Option Addr) (cN : Nat) (w : World) (h : SA b sA2 AB cB AN cN w) (hW : Kd.C (Kd.int .i64) w (some ⟨g, 0, none⟩) 2 [0, 2]) :
    Calls Try.prog 18 #[.agg #[.slice (some ⟨b, 0, none⟩) 3 3, .int .i64 4, .int .i64 0], .agg (stC sA2 AB cB AN cN), .agg #[.int .i64 9, .int .u64 0, .int .i64 0, .int .u64 100, .int .i64 2, .int .u64 108, .slice (some ⟨g, 0, none⟩) 2 2], .func (.func 26) #[] #[]] w fun x w' => ∃ AB' cB' AN' cN', x = .returned (.tuple #[.agg (stC sA3 AB' cB' AN' cN'), .bool true]) ∧ SA b sA3 AB' cB' AN' cN' w' ∧ Below w.heap.size w w' := by
  have h := count_calls (some ⟨b, 0, none⟩) 3 [1, 1, 1] 4 0 sA2 AB cB AN cN 9 0 0 100 2 108 (some ⟨g, 0, none⟩) 2 [0, 2] true 20 (.func (.func 26) #[] #[]) gA w h hW (by decide) awake_right (fun _ j hj => by
    have : j = 0 ∨ j = 1 := by simp at hj; omega
    rcases this with rfl | rfl <;> decide) (by decide) (by decide)
  rw [awake_count] at h
  exact h
theorem pullA (b : Nat) (AB : Option Addr) (cB : Nat) (AN : Option Addr) (cN : Nat) (w : World) (h : SA b sA3 AB cB AN cN w) :
    Calls Try.prog 21 #[.agg #[.slice (some ⟨b, 0, none⟩) 3 3, .int .i64 4, .int .i64 0], .agg (stC sA3 AB cB AN cN), .func (.func 26) #[] #[]] w fun x w' => x = .returned (.agg #[.bool true, .bool false, .bool false, .bool false, .int .i64 0, .int .u64 100, .int .i64 2, .int .u64 108, .int .i64 0, .int .u64 100]) ∧ Below w.heap.size w w' := by
  have h := pull_calls (some ⟨b, 0, none⟩) 3 [1, 1, 1] 4 0 sA3 AB cB AN cN (.func (.func 26) #[] #[]) gA w h
  rw [awake_pull] at h
  exact h
theorem countL (b g : Nat) (AB : Option Addr) (cB : Nat) (AN : Option Addr) (cN : Nat) (w : World) (h : SA b sA2 AB cB AN cN w) (hW : Kd.C (Kd.int .i64) w (some ⟨g, 0, none⟩) 2 [0, 2]) :
    Calls Try.prog 18 #[.agg #[.slice (some ⟨b, 0, none⟩) 3 3, .int .i64 4, .int .i64 0], .agg #[.bool false, .bool false, .bool false, .bool false, .int .i64 0, .int .u64 100, .int .i64 0, .int .u64 100, .int .i64 0, .int .u64 100, .int .i64 2, .slice AB 3 cB, .slice AN 3 cN], .agg #[.int .i64 9, .int .u64 0, .int .i64 0, .int .u64 100, .int .i64 2, .int .u64 108, .slice (some ⟨g, 0, none⟩) 2 2], .func (.func 26) #[] #[]] w fun x w' => ∃ AB' cB' AN' cN', x = .returned (.tuple #[.agg #[.bool false, .bool false, .bool false, .bool false, .int .i64 0, .int .u64 100, .int .i64 0, .int .u64 100, .int .i64 0, .int .u64 100, .int .i64 2, .slice AB' 3 cB', .slice AN' 3 cN'], .bool true]) ∧ SA b sA3 AB' cB' AN' cN' w' ∧ Below w.heap.size w w' :=
  countA b g AB cB AN cN w h hW
theorem pullL (b : Nat) (AB : Option Addr) (cB : Nat) (AN : Option Addr) (cN : Nat) (w : World) (h : SA b sA3 AB cB AN cN w) :
    Calls Try.prog 21 #[.agg #[.slice (some ⟨b, 0, none⟩) 3 3, .int .i64 4, .int .i64 0], .agg #[.bool false, .bool false, .bool false, .bool false, .int .i64 0, .int .u64 100, .int .i64 0, .int .u64 100, .int .i64 0, .int .u64 100, .int .i64 2, .slice AB 3 cB, .slice AN 3 cN], .func (.func 26) #[] #[]] w fun x w' => x = .returned (.agg #[.bool true, .bool false, .bool false, .bool false, .int .i64 0, .int .u64 100, .int .i64 2, .int .u64 108, .int .i64 0, .int .u64 100]) ∧ Below w.heap.size w w' :=
  pullA b AB cB AN cN w h
set_option maxHeartbeats 16000000 in
set_option maxRecDepth 100000 in
theorem awake_calls (w : World) : Calls Try.prog 9 #[] w fun e w' => e = .returned (.bool true) ∧ Below w.heap.size w w' := by
  go_enter Try.func9, Try.ntmps9
  go_upto_region 3 with fail
  obtain ⟨wr, hwr⟩ : ∃ wr, wr = (w.alloc (.cells #[.int .u64 1, .int .u64 1, .int .u64 1] 32)).alloc (.cells #[.slice (some ⟨w.heap.size, 0, none⟩) 3 3, .int .i64 4, .int .i64 0] 24) := ⟨_, rfl⟩
  have BM : Aside0 (wr.heap[w.heap.size + 1]? = some (.cells #[.slice (some ⟨w.heap.size, 0, none⟩) 3 3, .int .i64 4, .int .i64 0] 24 (0, 0))) := ⟨by rw [hwr]; have := heap_alloc_new (w.alloc (.cells #[.int .u64 1, .int .u64 1, .int .u64 1] 32)) (.cells #[.slice (some ⟨w.heap.size, 0, none⟩) 3 3, .int .i64 4, .int .i64 0] 24); simpa using this⟩
  have HBR : Aside0 (Below w.heap.size w wr) := ⟨by rw [hwr]; exact below_alloc (below_alloc (Below.refl _ _) _) _⟩
  have CN : Aside0 (CA w.heap.size wr) := ⟨⟨by rw [hwr]; exact Kd.C_below (lit_C w .u64 [1, 1, 1] 32 (by decide)) (below_alloc (Below.refl _ _) _), by decide, by decide, awakeChain_at _⟩⟩
  have LT : Aside0 (w.heap.size + 1 < wr.heap.size) := ⟨by rw [hwr]; simp⟩
  rw [← hwr]
  clear hwr
  rename_i K Q a0_
  refine start_ (n := 7) (S := fun w' => w'.cell? ⟨w.heap.size + 1, 0, none⟩ = some (.slice (some ⟨w.heap.size, 0, none⟩) 3 3) ∧ w'.cell? ⟨w.heap.size + 1, 1, none⟩ = some (.int .i64 4) ∧ w'.cell? ⟨w.heap.size + 1, 2, none⟩ = some (.int .i64 0)) (ds := [6]) #[false, false, false, false, false, false, false] (by kernel_rfl) rfl rfl ⟨(blk_cell BM.out 0), (blk_cell BM.out 1), (blk_cell BM.out 2)⟩ (fun hHeld => ?_)
  refine pure_ (i := 3) (N := some 10) (v := ?_) (a' := ?_) #[false, false, false, true, false, false, false] rfl rfl (by kernel_rfl) (fun _ _ _ h => h) (Or.inl ⟨by rfl, ?_⟩) ?_ ?_
  rotate_left
  · intro w'
    go_simp
    with_reducible rfl
  rotate_left
  · simp only [Act.put, List.setIfInBounds_toArray, List.set_cons_zero, List.set_cons_succ, i64_w, i32_w]
    rfl
  refine take_ (i := 0) (N := some 7) (v := ?_) (a' := ?_) #[true, false, false, true, false, false, false] rfl rfl (by kernel_rfl) (fun _ _ _ h => h) (Or.inl ⟨by rfl, ?_⟩) hHeld ?_ ?_
  rotate_left
  · rintro w' ⟨s0, s1, s2⟩
    go_simp
    with_reducible rfl
  rotate_left
  · simp only [Act.put, List.setIfInBounds_toArray, List.set_cons_zero, List.set_cons_succ, i64_w, i32_w]
    rfl
  refine take_ (i := 1) (N := some 8) (v := ?_) (a' := ?_) #[true, true, false, true, false, false, false] rfl rfl (by kernel_rfl) (fun _ _ _ h => h) (Or.inl ⟨by rfl, ?_⟩) hHeld ?_ ?_
  rotate_left
  · rintro w' ⟨s0, s1, s2⟩
    go_simp
    with_reducible rfl
  rotate_left
  · simp only [Act.put, List.setIfInBounds_toArray, List.set_cons_zero, List.set_cons_succ, i64_w, i32_w]
    rfl
  refine join_ (σ := Value × Value × Value) 1 #[true, true, true, true, true, true, false] (fun s_ => [(9, s_.1), (11, s_.2.1), (3, s_.2.2)]) (fun s_ w' => (w'.cell? ⟨w.heap.size + 1, 0, none⟩ = some (.slice (some ⟨w.heap.size, 0, none⟩) 3 3) ∧ w'.cell? ⟨w.heap.size + 1, 1, none⟩ = some (.int .i64 4) ∧ w'.cell? ⟨w.heap.size + 1, 2, none⟩ = some (.int .i64 0)) ∧ (∃ AB cB AN cN AB2 cB2 AN2 cN2 g, s_ = (.agg (stC (openS 100 3) AB cB AN cN), .agg (stC sA2 AB2 cB2 AN2 cN2), .pointer (some ⟨g, 0, none⟩)) ∧ (∃ b, Rows2 b (openS 100 3) AB cB AN cN w') ∧ (SIn (some ⟨w.heap.size, 0, none⟩) 3 [1, 1, 1] sA2 AB2 cB2 AN2 cN2 (.func (.func 26) #[] #[]) gA w') ∧ (w'.heap[g]? = some (.cells #[.bool false, .bool false, .bool false, .bool false, .int .i64 0, .int .u64 0, .int .i64 0, .int .u64 0, .int .i64 0, .int .u64 0, .int .i64 0, .slice none 0 0, .slice none 0 0] 39 (0, 0))) ∧ (wr.heap.size ≤ g)) ∧ Below wr.heap.size wr w') ?_ ?_
  rotate_left
  · intro hCont
    refine two_ (i := 2) (j := 5) (Ni := some 9) (Nj := some 3) #[true, true, true, true, false, false, false] #[true, true, false, true, false, true, false] rfl rfl rfl rfl (by kernel_rfl) (by decide) (by decide) (fun K hK => ?_) (fun K hK => ?_)
    · skip
      refine goes_ Try.func12 (by kernel_rfl) rfl #[.agg #[.slice (some ⟨w.heap.size, 0, none⟩) 3 3, .int .i64 4, .int .i64 0], .int .u64 100] (by rfl) rfl rfl (by simp only [List.map_toArray, List.map_cons, List.map_nil]; rfl) ?_
      with_reducible refine (openA w.heap.size _).mono ?_
      rintro x wq1 ⟨AB, cB, AN, cN, rfl, h_RW, hb⟩
      refine ⟨_, rfl, ?_⟩
      have h_RW := rows_ex h_RW
      have HQ1 := Aside0.mk (below_then (below_drew (Below.refl wr.heap.size wr)) (Nat.le_refl _) hb)
      have RW_1 := Aside0.mk h_RW
      clear hb h_RW
      refine hK.out _ _ ⟨(pw_cell_below HQ1.out (blk_cell BM.out 0)), (pw_cell_below HQ1.out (blk_cell BM.out 1)), (pw_cell_below HQ1.out (blk_cell BM.out 2))⟩ (fun hHeld => ?_)
      clear hK K
      refine norm_ (a' := ?_) ?_ ?_
      rotate_left
      · show Act.put _ (some 9) _ = _
        simp only [Act.put, List.setIfInBounds_toArray, List.set_cons_zero, List.set_cons_succ, i64_w, i32_w]
        rfl
      refine two_ (i := 4) (j := 5) (Ni := some 11) (Nj := some 3) #[true, true, true, true, true, false, false] #[true, true, true, true, false, true, false] rfl rfl rfl rfl (by kernel_rfl) (by decide) (by decide) (fun K hK => ?_) (fun K hK => ?_)
      · skip
        obtain ⟨rb, RWx⟩ := RW_1.out
        refine goes_ Try.func13 (by kernel_rfl) rfl #[.agg #[.slice (some ⟨w.heap.size, 0, none⟩) 3 3, .int .i64 4, .int .i64 0], .agg (stC (openS 100 3) AB cB AN cN), .int .i64 9, .func (.func 26) #[] #[]] (by rfl) rfl rfl (by simp only [List.map_toArray, List.map_cons, List.map_nil]; rfl) ?_
        with_reducible refine (advA w.heap.size AB cB AN cN _ RWx (CN.out.below HQ1.out)).mono ?_
        rintro x wq2 ⟨AB2, cB2, AN2, cN2, rfl, h_SI, hb⟩
        refine ⟨_, rfl, ?_⟩
        clear RWx
        have HQ2 := Aside0.mk (below_then HQ1.out HQ1.out.size hb)
        have SI_2 := Aside0.mk h_SI
        have RW_2 := Aside0.mk (rows_below RW_1.out hb)
        clear hb h_SI
        refine hK.out _ _ ⟨(pw_cell_below HQ2.out (blk_cell BM.out 0)), (pw_cell_below HQ2.out (blk_cell BM.out 1)), (pw_cell_below HQ2.out (blk_cell BM.out 2))⟩ (fun hHeld => ?_)
        clear hK K
        refine norm_ (a' := ?_) ?_ ?_
        rotate_left
        · show Act.put _ (some 11) _ = _
          simp only [Act.put, List.setIfInBounds_toArray, List.set_cons_zero, List.set_cons_succ, i64_w, i32_w]
          rfl
        refine one_ (i := 5) (N := some 3) #[true, true, true, true, true, true, false] rfl rfl (by kernel_rfl) (by decide) (fun K hK => ?_)
        refine alloc_step (base := wq2.heap.size) (w0 := wq2) 39 #[.bool false, .bool false, .bool false, .bool false, .int .i64 0, .int .u64 0, .int .i64 0, .int .u64 0, .int .i64 0, .int .u64 0, .int .i64 0, .slice none 0 0, .slice none 0 0] (by rfl) rfl rfl (by kernel_rfl) (Below.refl _ _) (Nat.le_refl _) ?_
        intro g wq3 h_GZ hge hb hg_
        have h_GEGZ : wr.heap.size ≤ g := Nat.le_trans HQ2.out.size hge
        clear hge hg_
        have HQ3 := Aside0.mk (below_then HQ2.out HQ2.out.size hb)
        have GZ_3 := Aside0.mk h_GZ
        have GEGZ_3 := Aside0.mk h_GEGZ
        have RW_3 := Aside0.mk (rows_below RW_2.out hb)
        have SI_3 := Aside0.mk (SIn.below SI_2.out hb)
        clear hb h_GZ h_GEGZ
        refine hK.out _ _ ⟨(pw_cell_below HQ3.out (blk_cell BM.out 0)), (pw_cell_below HQ3.out (blk_cell BM.out 1)), (pw_cell_below HQ3.out (blk_cell BM.out 2))⟩ (fun hHeld => ?_)
        clear hK K
        refine norm_ (a' := ?_) ?_ ?_
        rotate_left
        · show Act.put _ (some 3) _ = _
          simp only [Act.put, List.setIfInBounds_toArray, List.set_cons_zero, List.set_cons_succ, i64_w, i32_w]
          rfl
        exact norm_ (by simp only [putAll, Act.put, List.setIfInBounds_toArray, List.set_cons_zero, List.set_cons_succ]) (hCont (.agg (stC (openS 100 3) AB cB AN cN), .agg (stC sA2 AB2 cB2 AN2 cN2), .pointer (some ⟨g, 0, none⟩)) _ ⟨hHeld, ⟨AB, cB, AN, cN, AB2, cB2, AN2, cN2, g, rfl, RW_3.out, SI_3.out, GZ_3.out, GEGZ_3.out⟩, HQ3.out⟩)
      · skip
        refine alloc_step (base := wq1.heap.size) (w0 := wq1) 39 #[.bool false, .bool false, .bool false, .bool false, .int .i64 0, .int .u64 0, .int .i64 0, .int .u64 0, .int .i64 0, .int .u64 0, .int .i64 0, .slice none 0 0, .slice none 0 0] (by rfl) rfl rfl (by kernel_rfl) (Below.refl _ _) (Nat.le_refl _) ?_
        intro g wq2 h_GZ hge hb hg_
        have h_GEGZ : wr.heap.size ≤ g := Nat.le_trans HQ1.out.size hge
        clear hge hg_
        have HQ2 := Aside0.mk (below_then HQ1.out HQ1.out.size hb)
        have GZ_2 := Aside0.mk h_GZ
        have GEGZ_2 := Aside0.mk h_GEGZ
        have RW_2 := Aside0.mk (rows_below RW_1.out hb)
        clear hb h_GZ h_GEGZ
        refine hK.out _ _ ⟨(pw_cell_below HQ2.out (blk_cell BM.out 0)), (pw_cell_below HQ2.out (blk_cell BM.out 1)), (pw_cell_below HQ2.out (blk_cell BM.out 2))⟩ (fun hHeld => ?_)
        clear hK K
        refine norm_ (a' := ?_) ?_ ?_
        rotate_left
        · show Act.put _ (some 3) _ = _
          simp only [Act.put, List.setIfInBounds_toArray, List.set_cons_zero, List.set_cons_succ, i64_w, i32_w]
          rfl
        refine one_ (i := 4) (N := some 11) #[true, true, true, true, true, true, false] rfl rfl (by kernel_rfl) (by decide) (fun K hK => ?_)
        obtain ⟨rb, RWx⟩ := RW_2.out
        refine goes_ Try.func13 (by kernel_rfl) rfl #[.agg #[.slice (some ⟨w.heap.size, 0, none⟩) 3 3, .int .i64 4, .int .i64 0], .agg (stC (openS 100 3) AB cB AN cN), .int .i64 9, .func (.func 26) #[] #[]] (by rfl) rfl rfl (by simp only [List.map_toArray, List.map_cons, List.map_nil]; rfl) ?_
        with_reducible refine (advA w.heap.size AB cB AN cN _ RWx (CN.out.below HQ2.out)).mono ?_
        rintro x wq3 ⟨AB2, cB2, AN2, cN2, rfl, h_SI, hb⟩
        refine ⟨_, rfl, ?_⟩
        clear RWx
        have HQ3 := Aside0.mk (below_then HQ2.out HQ2.out.size hb)
        have SI_3 := Aside0.mk h_SI
        have RW_3 := Aside0.mk (rows_below RW_2.out hb)
        have GZ_3 := Aside0.mk (blk_below GZ_2.out hb)
        have GEGZ_3 := Aside0.mk (GEGZ_2.out)
        clear hb h_SI
        refine hK.out _ _ ⟨(pw_cell_below HQ3.out (blk_cell BM.out 0)), (pw_cell_below HQ3.out (blk_cell BM.out 1)), (pw_cell_below HQ3.out (blk_cell BM.out 2))⟩ (fun hHeld => ?_)
        clear hK K
        refine norm_ (a' := ?_) ?_ ?_
        rotate_left
        · show Act.put _ (some 11) _ = _
          simp only [Act.put, List.setIfInBounds_toArray, List.set_cons_zero, List.set_cons_succ, i64_w, i32_w]
          rfl
        exact norm_ (by simp only [putAll, Act.put, List.setIfInBounds_toArray, List.set_cons_zero, List.set_cons_succ]) (hCont (.agg (stC (openS 100 3) AB cB AN cN), .agg (stC sA2 AB2 cB2 AN2 cN2), .pointer (some ⟨g, 0, none⟩)) _ ⟨hHeld, ⟨AB, cB, AN, cN, AB2, cB2, AN2, cN2, g, rfl, RW_3.out, SI_3.out, GZ_3.out, GEGZ_3.out⟩, HQ3.out⟩)
    · skip
      refine alloc_step (base := wr.drew.heap.size) (w0 := wr.drew) 39 #[.bool false, .bool false, .bool false, .bool false, .int .i64 0, .int .u64 0, .int .i64 0, .int .u64 0, .int .i64 0, .int .u64 0, .int .i64 0, .slice none 0 0, .slice none 0 0] (by rfl) rfl rfl (by kernel_rfl) (Below.refl _ _) (Nat.le_refl _) ?_
      intro g wq1 h_GZ hge hb hg_
      have h_GEGZ : wr.heap.size ≤ g := Nat.le_trans (below_drew (Below.refl wr.heap.size wr)).size hge
      clear hge hg_
      have HQ1 := Aside0.mk (below_then (below_drew (Below.refl wr.heap.size wr)) (Nat.le_refl _) hb)
      have GZ_1 := Aside0.mk h_GZ
      have GEGZ_1 := Aside0.mk h_GEGZ
      clear hb h_GZ h_GEGZ
      refine hK.out _ _ ⟨(pw_cell_below HQ1.out (blk_cell BM.out 0)), (pw_cell_below HQ1.out (blk_cell BM.out 1)), (pw_cell_below HQ1.out (blk_cell BM.out 2))⟩ (fun hHeld => ?_)
      clear hK K
      refine norm_ (a' := ?_) ?_ ?_
      rotate_left
      · show Act.put _ (some 3) _ = _
        simp only [Act.put, List.setIfInBounds_toArray, List.set_cons_zero, List.set_cons_succ, i64_w, i32_w]
        rfl
      refine one_ (i := 2) (N := some 9) #[true, true, true, true, false, true, false] rfl rfl (by kernel_rfl) (by decide) (fun K hK => ?_)
      refine goes_ Try.func12 (by kernel_rfl) rfl #[.agg #[.slice (some ⟨w.heap.size, 0, none⟩) 3 3, .int .i64 4, .int .i64 0], .int .u64 100] (by rfl) rfl rfl (by simp only [List.map_toArray, List.map_cons, List.map_nil]; rfl) ?_
      with_reducible refine (openA w.heap.size _).mono ?_
      rintro x wq2 ⟨AB, cB, AN, cN, rfl, h_RW, hb⟩
      refine ⟨_, rfl, ?_⟩
      have h_RW := rows_ex h_RW
      have HQ2 := Aside0.mk (below_then HQ1.out HQ1.out.size hb)
      have RW_2 := Aside0.mk h_RW
      have GZ_2 := Aside0.mk (blk_below GZ_1.out hb)
      have GEGZ_2 := Aside0.mk (GEGZ_1.out)
      clear hb h_RW
      refine hK.out _ _ ⟨(pw_cell_below HQ2.out (blk_cell BM.out 0)), (pw_cell_below HQ2.out (blk_cell BM.out 1)), (pw_cell_below HQ2.out (blk_cell BM.out 2))⟩ (fun hHeld => ?_)
      clear hK K
      refine norm_ (a' := ?_) ?_ ?_
      rotate_left
      · show Act.put _ (some 9) _ = _
        simp only [Act.put, List.setIfInBounds_toArray, List.set_cons_zero, List.set_cons_succ, i64_w, i32_w]
        rfl
      refine one_ (i := 4) (N := some 11) #[true, true, true, true, true, true, false] rfl rfl (by kernel_rfl) (by decide) (fun K hK => ?_)
      obtain ⟨rb, RWx⟩ := RW_2.out
      refine goes_ Try.func13 (by kernel_rfl) rfl #[.agg #[.slice (some ⟨w.heap.size, 0, none⟩) 3 3, .int .i64 4, .int .i64 0], .agg (stC (openS 100 3) AB cB AN cN), .int .i64 9, .func (.func 26) #[] #[]] (by rfl) rfl rfl (by simp only [List.map_toArray, List.map_cons, List.map_nil]; rfl) ?_
      with_reducible refine (advA w.heap.size AB cB AN cN _ RWx (CN.out.below HQ2.out)).mono ?_
      rintro x wq3 ⟨AB2, cB2, AN2, cN2, rfl, h_SI, hb⟩
      refine ⟨_, rfl, ?_⟩
      clear RWx
      have HQ3 := Aside0.mk (below_then HQ2.out HQ2.out.size hb)
      have SI_3 := Aside0.mk h_SI
      have RW_3 := Aside0.mk (rows_below RW_2.out hb)
      have GZ_3 := Aside0.mk (blk_below GZ_2.out hb)
      have GEGZ_3 := Aside0.mk (GEGZ_2.out)
      clear hb h_SI
      refine hK.out _ _ ⟨(pw_cell_below HQ3.out (blk_cell BM.out 0)), (pw_cell_below HQ3.out (blk_cell BM.out 1)), (pw_cell_below HQ3.out (blk_cell BM.out 2))⟩ (fun hHeld => ?_)
      clear hK K
      refine norm_ (a' := ?_) ?_ ?_
      rotate_left
      · show Act.put _ (some 11) _ = _
        simp only [Act.put, List.setIfInBounds_toArray, List.set_cons_zero, List.set_cons_succ, i64_w, i32_w]
        rfl
      exact norm_ (by simp only [putAll, Act.put, List.setIfInBounds_toArray, List.set_cons_zero, List.set_cons_succ]) (hCont (.agg (stC (openS 100 3) AB cB AN cN), .agg (stC sA2 AB2 cB2 AN2 cN2), .pointer (some ⟨g, 0, none⟩)) _ ⟨hHeld, ⟨AB, cB, AN, cN, AB2, cB2, AN2, cN2, g, rfl, RW_3.out, SI_3.out, GZ_3.out, GEGZ_3.out⟩, HQ3.out⟩)
  rintro s_ wj ⟨hS_, ⟨AB, cB, AN, cN, AB2, cB2, AN2, cN2, g, rfl, h_RW, h_SI, h_GZ, h_GEGZ⟩, hbj⟩
  have RW := Aside0.mk h_RW
  have SI := Aside0.mk h_SI
  have GZ := Aside0.mk h_GZ
  have GEGZ := Aside0.mk h_GEGZ
  have HJ := Aside0.mk hbj
  clear hbj h_RW h_SI h_GZ h_GEGZ
  have hHeld : wj.cell? ⟨w.heap.size + 1, 0, none⟩ = some (.slice (some ⟨w.heap.size, 0, none⟩) 3 3) ∧ wj.cell? ⟨w.heap.size + 1, 1, none⟩ = some (.int .i64 4) ∧ wj.cell? ⟨w.heap.size + 1, 2, none⟩ = some (.int .i64 0) := hS_
  refine norm_ (a' := ?_) ?_ ?_
  rotate_left
  · simp only [putAll, Act.put, List.setIfInBounds_toArray, List.set_cons_zero, List.set_cons_succ]
    rfl
  refine last_ (i := 6) (N := none) #[true, true, true, true, true, true, true] rfl rfl (by kernel_rfl) (by decide) (fun K hK => ?_)
  refine store_step (by rfl) rfl 39 (.tmp 3) (.tmp 11) rfl g 39 _ (stC sA2 AB2 cB2 AN2 cN2) rfl rfl GZ.out rfl (by kernel_rfl) (by simp [stC, Value.oneCell']) ?_
  intro wz hbk hgr
  have G9 := Aside0.mk hbk
  have HZ := Aside0.mk ((below_then HBR.out HBR.out.size HJ.out).grown hgr (below_then HBR.out HBR.out.size HJ.out).size (fun k hk => by cases hk; have := GEGZ.out; have := HBR.out.size; omega))
  have BMz := Aside0.mk (blk_grown (blk_below BM.out HJ.out) hgr (fun e => by injection e with e; have := GEGZ.out; have := LT.out; omega))
  have SIz := Aside0.mk (SI.out.over CN.out GZ.out (by decide) hgr (HJ.out.grown hgr HJ.out.size (fun k hk => by cases hk; exact GEGZ.out)))
  have HJZ := Aside0.mk (HJ.out.grown hgr HJ.out.size (fun k hk => by cases hk; exact GEGZ.out))
  clear hbk hgr
  refine hK.out _ _ ?_
  clear hK K
  refine done_ (by kernel_rfl) ?_
  have G8 : Aside0 (wz.heap[g]? = some (.cells #[.bool false, .bool false, .bool false, .bool false, .int .i64 0, .int .u64 100, .int .i64 0, .int .u64 100, .int .i64 0, .int .u64 100, .int .i64 2, .slice AB2 3 cB2, .slice AN2 3 cN2] 39 (0, 0))) := ⟨G9.out⟩
  have hg0 := blk_cell G8.out
  have hm0 := blk_cell BMz.out
  have CZ : Aside0 (CA w.heap.size wz) := ⟨CN.out.below (HJZ.out)⟩
  clear G9 RW SI GZ HJ hHeld BM
  go_wp2_with (first
    | (go_at_call 18; with_reducible refine (countL w.heap.size wz.heap.size AB2 cB2 AN2 cN2 _ (SIz.out.below (below_alloc (Below.refl _ _) _)) (lit_C wz .i64 [0, 2] 3 (by decide))).mono ?_; rintro x w5 ⟨AB3, cB3, AN3, cN3, rfl, hs, hb⟩; have HB5 := Aside0.mk (below_then (below_alloc (Below.refl wz.heap.size wz) _) (by simp) hb); have S5 := Aside0.mk hs; have G5 := Aside0.mk (blk_below G8.out HB5.out); have BM5 := Aside0.mk (blk_below BMz.out HB5.out); clear hs hb)
    | (refine Block.store_block rfl rfl 39 (.tmp 3) (.tmp 21) rfl g 39 _ _ rfl rfl G5.out rfl (by kernel_rfl) (by simp [Value.oneCell']) ?_; intro w6 hbk hgr; have HW6 := Aside0.mk ((HJZ.out.trans (HB5.out.mono HJZ.out.size)).grown hgr (HJZ.out.trans (HB5.out.mono HJZ.out.size)).size (fun k hk => by cases hk; exact GEGZ.out)); have S6 := Aside0.mk (S5.out.over CN.out G5.out (by decide) hgr HW6.out); have HZ6 := Aside0.mk (HBR.out.trans (HW6.out.mono HBR.out.size)); have BM6 := Aside0.mk (blk_grown BM5.out hgr (fun e => by injection e with e; have := GEGZ.out; have := LT.out; omega)); have hg6 := blk_cell hbk; have hm6 := blk_cell BM6.out; clear hbk hgr)
    | (go_at_call 21; with_reducible refine (pullL w.heap.size AB3 cB3 AN3 cN3 _ S6.out).mono ?_; rintro x w7 ⟨rfl, hb⟩; have HB7 := Aside0.mk (below_then HZ6.out HZ6.out.size hb); clear hb)
    | (refine value_g (o := { dst := some 34, op := _, type := _, pos := _, after := _, guard := _ }) rfl (.agg #[.int .i64 2, .int .u64 108]) (by rfl) ?_))
  go_ret
  exact ⟨rfl, HB7.out⟩
end Go.Proofs.Ytiklbldanidfiaa.QL
