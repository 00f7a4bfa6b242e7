/-
  What would be justified, if an epoch ended now: ledger.Pull walked.
-/
import Derived.Test.YtiklbldanidfiaaQLCfg
import Derived.Test.YtiklbldanidfiaaLJ
import Derived.Test.YtiklbldanidfiaaOwn
import Derived.Test.YtiklbldanidfiaaWLast
import Derived.Deep.RegionHeld3
import Derived.Outline
import Derived.Test.YtiklbldanidfiaaBlock
import Derived.Test.YtiklbldanidfiaaQLx1
import Derived.Test.YtiklbldanidfiaaQLx2
import Derived.Test.YtiklbldanidfiaaQLx4
import Derived.Test.YtiklbldanidfiaaQLx5
import Derived.Test.YtiklbldanidfiaaQLx6
import Derived.Test.YtiklbldanidfiaaQLx7
import Derived.Test.YtiklbldanidfiaaQLx8
namespace Go.Proofs.Ytiklbldanidfiaa.QL
open Go.RowKit Go.Proofs.YtiklbldanidfiaaW.PrintWords Go.Proofs.Ytiklbldanidfiaa.Justify
set_option linter.unusedVariables false

/-- The places from i on at which a list is true. -/
def idx : Nat → List Bool → List Int
  | _, [] => []
  | i, b :: l => if b = true then (i : Int) :: idx (i + 1) l else idx (i + 1) l
theorem idx_length (l : List Bool) : ∀ i, (idx i l).length ≤ l.length := by
  induction l with
  | nil => intro i; simp [idx]
  | cons b l ih =>
    intro i
    have := ih (i + 1)
    unfold idx
    split <;> simp <;> omega
theorem rdB_drop (l : List Bool) (i : Nat) (h : i < l.length) : l.drop i = rdOf false l i :: l.drop (i + 1) := by
  rw [List.drop_eq_getElem_cons h]
  simp [rdOf, List.getD_eq_getElem?_getD, h]
theorem who_l0 (l : List Bool) (hn : l.length ≤ 17592186043904) (d : Nat) : ∀ (i : Nat) (acc : List Int), i + d = l.length → acc.length ≤ i →
    Ev (fun k => ledger_who.l0 k acc l l.length i) (acc ++ idx i (l.drop i)) := by
  induction d with
  | zero =>
    intro i acc hi ha
    refine Ev.step (f := fun _ => some (acc ++ idx i (l.drop i))) (fun k => ?_) (Ev.now _)
    simp only [ledger_who.l0]
    rw [if_neg (by omega), List.drop_eq_nil_of_le (by omega)]
    simp [idx]
  | succ d ih =>
    intro i acc hi ha
    have hg : i < l.length := by omega
    rw [rdB_drop l i hg]
    unfold idx
    by_cases h : rdOf false l i = true
    · rw [if_pos h]
      have h2 := ih (i + 1) (acc ++ [(i : Int)]) (by omega) (by simp; omega)
      rw [List.append_assoc] at h2
      refine Ev.step (f := fun k => ledger_who.l0 k (acc ++ [(i : Int)]) l l.length ((i + 1 : Nat) : Int)) (fun k => ?_) h2
      simp only [ledger_who.l0]
      rw [if_pos (by omega), if_pos (by omega), if_pos (by omega), if_pos h, if_pos (by omega), wrap_next (n := l.length) hg (by omega)]
    · rw [if_neg h]
      refine Ev.step (f := fun k => ledger_who.l0 k acc l l.length ((i + 1 : Nat) : Int)) (fun k => ?_) (ih (i + 1) acc (by omega) (by omega))
      simp only [ledger_who.l0]
      rw [if_pos (by omega), if_pos (by omega), if_pos (by omega), if_neg h, wrap_next (n := l.length) hg (by omega)]
theorem who_f (l : List Bool) (hn : l.length ≤ 17592186043904) : Ev (fun k => ledger_who.f k l) (idx 0 l) := by
  have h := who_l0 l hn l.length 0 [] (by omega) (by simp)
  rw [List.drop_zero, List.nil_append] at h
  exact h

/-- Enough of all: two thirds, and all of something. -/
def enough (a b : Int) : Bool := if b > 0 then decide (a ≥ (IntKind.u64.wrap ((IntKind.u64.wrap (2 * (IntKind.u64.wrap (Int.tdiv b 3)))) + (IntKind.u64.wrap (Int.tdiv (IntKind.u64.wrap ((IntKind.u64.wrap (2 * (Int.tmod b 3))) + 2)) 3))))) else false
theorem enough_f (a b : Int) : quorum_Enough.f a b = some (enough a b) := by
  unfold quorum_Enough.f enough
  split <;> rfl

def startOf (e sl : Int) : Int := wrap64 ((mx 0 e) * (mx 1 sl))
theorem start_f (e sl : Int) : epoch_Start.f e sl = some (startOf e sl) := rfl
/-- A slot's epoch. -/
def epOf (s sl : Int) : Int := mx 0 s / mx 1 sl
theorem epOf_range (s sl : Int) (hs : s ≤ 9223372036854775807) : 0 ≤ epOf s sl ∧ epOf s sl ≤ 9223372036854775807 := by
  unfold epOf
  have h0 : 0 ≤ mx 0 s ∧ mx 0 s ≤ 9223372036854775807 := by unfold mx; omega
  have h1 : 1 ≤ mx 1 sl := by unfold mx; omega
  have := Int.ediv_nonneg h0.1 (show 0 ≤ mx 1 sl by omega)
  have := Int.ediv_le_self (mx 1 sl) h0.1
  omega
theorem of_f (s sl : Int) (hs : s ≤ 9223372036854775807) : epoch_Of.f s sl = some (epOf s sl) := by
  unfold epoch_Of.f
  have h1 : 1 ≤ mx 1 sl := by unfold mx; omega
  have h2 := epOf_range s sl hs
  rw [if_neg (by omega)]
  have : wrap64 (mx 0 s / mx 1 sl) = epOf s sl := by
    show wrap64 (epOf s sl) = _
    generalize epOf s sl = q at h2 ⊢
    unfold wrap64
    omega
  rw [this]
/-- The epochs from one on, so many. -/
def epochs : Int → Nat → List Int
  | _, 0 => []
  | e, n + 1 => e :: epochs (e + 1) n
theorem epochs_length (n : Nat) : ∀ e, (epochs e n).length = n := by
  induction n with
  | zero => intro e; rfl
  | succ n ih => intro e; simp [epochs, ih]
/-- How many epochs end between two slots. -/
def howMany (a b sl : Int) : Nat := min 4096 (epOf b sl - epOf a sl).toNat
theorem ends_l0 (b sl : Int) (hb : b ≤ 9223372036854775807) (d : Nat) : ∀ (e : Int) (acc : List Int), 0 ≤ e → acc.length + d = 4096 →
    Ev (fun k => epoch_Ends.l0 k b sl acc e) (acc ++ epochs e (min d (epOf b sl - e).toNat)) := by
  have hr := epOf_range b sl hb
  induction d with
  | zero =>
    intro e acc he ha
    refine Ev.step (f := fun _ => some (acc ++ epochs e (min 0 (epOf b sl - e).toNat))) (fun k => ?_) (Ev.now _)
    simp only [epoch_Ends.l0]
    rw [of_f b sl hb]
    simp only [Option.bind_some]
    rw [Nat.zero_min]
    simp only [epochs, List.append_nil]
    split
    · rw [if_neg (by omega)]
    · rfl
  | succ d ih =>
    intro e acc he ha
    by_cases h : e < epOf b sl
    · have h2 := ih (e + 1) (acc ++ [e]) (by omega) (by simp; omega)
      rw [List.append_assoc] at h2
      have e1 : min (d + 1) (epOf b sl - e).toNat = min d (epOf b sl - (e + 1)).toNat + 1 := by omega
      rw [e1, epochs]
      refine Ev.step (f := fun k => epoch_Ends.l0 k b sl (acc ++ [e]) (e + 1)) (fun k => ?_) h2
      simp only [epoch_Ends.l0]
      rw [of_f b sl hb]
      simp only [Option.bind_some]
      rw [if_pos h, if_pos (by omega), if_pos (by omega), show wrap64 (e + 1) = e + 1 by unfold wrap64; omega]
    · have e1 : min (d + 1) (epOf b sl - e).toNat = 0 := by omega
      rw [e1]
      refine Ev.step (f := fun _ => some (acc ++ epochs e 0)) (fun k => ?_) (Ev.now _)
      simp only [epoch_Ends.l0]
      rw [of_f b sl hb]
      simp only [Option.bind_some]
      rw [if_neg h]
      simp [epochs]
theorem ends_f (a b sl : Int) (ha : a ≤ 9223372036854775807) (hb : b ≤ 9223372036854775807) : Ev (fun k => epoch_Ends.f k a b sl) (epochs (epOf a sl) (howMany a b sl)) := by
  have h := ends_l0 b sl hb 4096 (epOf a sl) [] (epOf_range a sl ha).1 (by simp)
  refine Ev.congr (fun k => ?_) h
  unfold epoch_Ends.f
  rw [of_f a sl ha]
  rfl

/-! ### a state -/
structure LS where
  j : St
  ep : Int
  bf : List Bool
  nw : List Bool
/-- What would be justified, if the epoch ended. -/
def pullOf (lx : List Int) (sl : Int) (f : Int → Int) (s : LS) : St :=
  if s.ep < 2 then s.j else next s.j s.ep (enough (sumOf lx 0 (idx 0 s.bf)) (allOf 0 lx)) (enough (sumOf lx 0 (idx 0 s.nw)) (allOf 0 lx)) (mx 0 (s.ep - 1)) (f (startOf (s.ep - 1) sl)) (mx 0 s.ep) (f (startOf s.ep sl))
def advStep (lx : List Int) (sl : Int) (f : Int → Int) (s : LS) (e : Int) : LS := ⟨pullOf lx sl f s, e + 1, s.nw, List.replicate lx.length false⟩
def advOf (lx : List Int) (sl : Int) (f : Int → Int) (s : LS) (slot : Int) : LS := (epochs (epOf (s.ep * mx 1 sl) sl) (howMany (s.ep * mx 1 sl) slot sl)).foldl (advStep lx sl f) s
end Go.Proofs.Ytiklbldanidfiaa.QL
namespace Go.Proofs.Ytiklbldanidfiaa.QL
open Go.RowKit Go.Proofs.YtiklbldanidfiaaW.PrintWords Go.Proofs.YtiklbldanidfiaaW.PrintLast Go.Proofs.Ytiklbldanidfiaa.Own Go.Proofs.Ytiklbldanidfiaa.Justify
set_option linter.unusedVariables false
attribute [local go_sem] max2_is min2_is max_pair min_pair

/-- A function value that tells the block of a slot, from a world on. -/
def ChainAt (v : Value) (g : Int → Int) (w : World) : Prop := ∃ (f : FuncId) (C : Array Value), v = .func (.func f) #[] C ∧ (∀ (args : Array Value) (w : World), (callFunc f args).run Try.prog w = .ok (.enter f args) w) ∧
  (∀ s, 0 ≤ g s ∧ g s ≤ 18446744073709551615) ∧ ∀ w', Below w.heap.size w w' → ∀ s, -9223372036854775808 ≤ s ∧ s ≤ 9223372036854775807 → Calls Try.prog f (#[.int .i64 s] ++ C) w' fun e w'' => e = .returned (.int .u64 (g s)) ∧ Below w'.heap.size w' w''
theorem ChainAt.below {v : Value} {g : Int → Int} {w w1 : World} (h : ChainAt v g w) (hb : Below w.heap.size w w1) : ChainAt v g w1 := by
  obtain ⟨f, C, h1, h2, h3, h4⟩ := h
  exact ⟨f, C, h1, h2, h3, fun w' hb' s hs => h4 w' (below_then hb hb.size hb') s hs⟩
section
variable {ops : Array Oper} {rest : List Oper} {oi : Oper} {a : Act} {Q : Exit → Act → World → Prop}
/-- A chain asked for a slot's block, at the operation. -/
theorem fire {v : Value} {g : Int → Int} {w w0 : World} (h : ChainAt v g w0) (hb : Below w0.heap.size w0 w) (N : Option Tmp) (hd : oi.dst = N) (hg : oi.guard = none) {x y : Operand} {ts : Array TypeId} (hop : oi.op = .call { callee := .value x, args := #[y], argTypes := ts }) (hx : a.eval x = v) (s : Int) (hargs : a.eval y = .int .i64 s) (hs : -9223372036854775808 ≤ s ∧ s ≤ 9223372036854775807)
    (hK : ∀ w2, Below w.heap.size w w2 → wpList Try.prog ops Q rest (a.put N (.int .u64 (g s))) w2) : wpList Try.prog ops Q (oi :: rest) a w := by
  obtain ⟨f, C, rfl, he, _, hc⟩ := h
  refine wpList_plain hg fun K hK' => ?_
  have hrun : (execOp a.eval oi).run Try.prog w = .ok (.enter f (#[.int .i64 s] ++ C)) w := by
    unfold execOp
    simp [hop, resolve, Deferred.ofValue, invoke, hx, hargs, he]
  unfold Oper.wp
  rw [hrun, Oper.upon_enter]
  refine (hc w hb s hs).mono fun e w'' hh => ?_
  obtain ⟨rfl, hb2⟩ := hh
  subst hd
  exact hK' _ _ (hK w'' hb2)
end

set_option maxHeartbeats 4000000 in
set_option maxRecDepth 100000 in
theorem point_calls (A : Option Addr) (n c : Nat) (sl bo e : Int) (v : Value) (g : Int → Int) (w : World) (h : ChainAt v g w) (he : -9223372036854775808 ≤ e ∧ e ≤ 9223372036854775807) :
    Calls Try.prog 36 #[.agg #[.slice A n c, .int .i64 sl, .int .i64 bo], .int .i64 e, v] w fun x w' => x = .returned (.agg #[.int .i64 (mx 0 e), .int .u64 (g (startOf e sl))]) ∧ Below w.heap.size w w' := by
  have H := Aside0.mk h
  have HS := Aside0.mk (start_f e sl)
  have HW : Aside0 (-9223372036854775808 ≤ startOf e sl ∧ startOf e sl ≤ 9223372036854775807) := ⟨by unfold startOf wrap64; omega⟩
  clear h
  go_enter Try.func36, Try.ntmps36
  go_wp2_with (first
    | (go_at_call 17; refine (epoch_Start.calls e sl _ _ HS.out).mono ?_; rintro x w1 ⟨rfl, hb⟩; have HB1 := Aside0.mk (below_then (below_alloc (below_alloc (Below.refl w.heap.size w) _) _) (by simp; omega) hb); have BR1 : Aside0 (w1.heap[w.heap.size + 1]? = some (.cells #[.int .i64 0, .int .u64 0] 34 (0, 0))) := ⟨blk_below (by have h := heap_alloc_new (w.alloc (.cells #[.slice A n c, .int .i64 sl, .int .i64 bo] 24)) (.cells #[.int .i64 0, .int .u64 0] 34); simpa using h) hb⟩; clear hb)
    | (refine fire H.out HB1.out (some 14) rfl rfl (x := .tmp 9) rfl rfl (startOf e sl) rfl HW.out ?_; intro w2 hb; have HB2 := Aside0.mk (below_then HB1.out HB1.out.size hb); have BR2 := Aside0.mk (blk_below BR1.out hb); have hc2 := blk_cell BR2.out; have hf2 := blk_frozen BR2.out; clear hb))
  have hmx : max 0 e = mx 0 e := by unfold mx; omega
  refine bodyPost_ret (v := .agg #[.int .i64 (mx 0 e), .int .u64 (g (startOf e sl))]) ?_ rfl ⟨rfl, ?_⟩
  · simp [results, Try.results36, go_sem, hmx, hc2]
  · exact below_set (below_set HB2.out (by omega)) (by omega)
end Go.Proofs.Ytiklbldanidfiaa.QL
namespace Go.Proofs.Ytiklbldanidfiaa.QL
open Go.RowKit Go.Proofs.YtiklbldanidfiaaW.PrintWords Go.Proofs.YtiklbldanidfiaaW.PrintLast Go.Proofs.Ytiklbldanidfiaa.Own Go.Proofs.Ytiklbldanidfiaa.Justify
set_option linter.unusedVariables false
set_option linter.unusedSimpArgs false
attribute [local go_sem] max2_is min2_is max_pair min_pair

/-- The block of a slot on the law package's chain of a number. -/
def chainOf (n s : Int) : Int := IntKind.u64.wrap (IntKind.u64.wrap (Int.tdiv s (1 + n % 9)) + 1)
theorem u64_range (x : Int) : 0 ≤ IntKind.u64.wrap x ∧ IntKind.u64.wrap x ≤ 18446744073709551615 := by
  rw [IntKind.wrap_u64]; omega
set_option maxHeartbeats 4000000 in
set_option maxRecDepth 100000 in
theorem chain_at (n : Int) (hn : 0 ≤ n ∧ n ≤ 255) (g : Nat) (w : World) (hg : g < w.heap.size) (h : w.heap[g]? = some (.cells #[.int .u8 n] 5 (0, 0))) :
    ChainAt (.func (.func 28) #[] #[.pointer (some ⟨g, 0, none⟩)]) (chainOf n) w := by
  refine ⟨_, _, rfl, fun args w => rfl, fun s => u64_range _, fun w' hb s hs => ?_⟩
  have hc := blk_cell (Block.stays h hb hg)
  have h0 : w'.cell? ⟨g, 0, none⟩ = some (.int .u8 n) := hc 0
  have ht : Int.tmod n 9 = n % 9 := Int.tmod_eq_emod_of_nonneg hn.1
  have H0 := Aside0.mk h0
  clear hc hb h h0
  go_enter Try.func28, Try.ntmps28
  have h0 := H0.out
  go_wp2_with fail
  go_ret
  exact ⟨rfl, Below.refl _ _⟩
set_option maxHeartbeats 4000000 in
set_option maxRecDepth 100000 in
theorem awakeChain_at (w : World) : ChainAt (.func (.func 26) #[] #[]) (fun s => IntKind.u64.wrap (IntKind.u64.wrap s + 100)) w := by
  refine ⟨_, _, rfl, fun args w => rfl, fun s => u64_range _, fun w' hb s hs => ?_⟩
  clear hb
  go_enter Try.func26, Try.ntmps26
  go_wp2_with fail
  go_ret
  exact ⟨rfl, Below.refl _ _⟩
end Go.Proofs.Ytiklbldanidfiaa.QL
namespace Go.Proofs.Ytiklbldanidfiaa.QL
open Go.RowKit Go.Proofs.YtiklbldanidfiaaW.PrintWords Go.Proofs.YtiklbldanidfiaaW.PrintLast Go.Proofs.Ytiklbldanidfiaa.Own Go.Proofs.Ytiklbldanidfiaa.Justify
set_option linter.unusedVariables false
set_option linter.unusedSimpArgs false
attribute [local go_sem] max2_is min2_is max_pair min_pair

theorem store_step {P : Program} {ops : Array Oper} {oi : Oper} {a : Act} {K : Act → World → Prop} {Q : Exit → Act → World → Prop} {W : World} (hw : Region.wanted oi (yielded ops a.tmps) = true) (hN : oi.dst = none) (t : TypeId) (p x : Operand) (ho : oi.op = .store t p x) (g : Nat) (e : TypeId) (cur cs : Array Value)
    (haddr : a.eval p = .pointer (some ⟨g, 0, none⟩)) (hx : a.eval x = .agg cs) (hh : W.heap[g]? = some (.cells cur e (0, 0))) (hsz : cs.size = cur.size) (ht : (P.info? t).map (·.size) = some cs.size) (h1 : ∀ q ∈ cs.toList, q.oneCell' = true)
    (h : ∀ w1, w1.heap[g]? = some (.cells cs e (0, 0)) → W.grownBy w1 (some g) → K a w1) : if Region.wanted oi (yielded ops a.tmps) = true then Oper.wp P oi a W K Q else K (a.put none undef) W := by
  have hrun := run_store_run (P := P) (w := W) (o := 0) t (.agg cs) cs.toList hh rfl (by rw [ht, Array.length_toList]) (by simp [hsz]) h1
  have hs := setCells_same g cs.toList 0 W
  have hr := setCells_row cs.toList 0 W cur hh (by simp [hsz])
  rw [if_pos hw]
  unfold Oper.wp execOp
  simp only [ho, haddr, hx, Sem.run_bind, Sem.run_pure, Result.andThen_ok, hrun]
  show K (a.put oi.dst undef) _
  rw [hN]
  refine h _ ?_ ⟨hs.1, hs.2.1, hs.2.2.1, by rw [hs.2.2.2]; omega, fun k hk hne => setCells_far _ _ k (fun e => hne (by rw [e]))⟩
  obtain ⟨cur', h2, h3, h4⟩ := hr
  have : cur' = cs := by
    apply Array.ext'
    rw [h4]
    rw [List.drop_of_length_le (show cur.toList.length ≤ 0 + cs.toList.length by simp [hsz]), List.take_zero, List.nil_append, List.append_nil]
  rwa [this] at h2
/-- What Pull has before it while it runs. -/
structure PullIn (AX : Option Addr) (cX : Nat) (lx : List Int) (sl bo : Int) (s0 s1 s2 s3 : Bool) (pe pr ce cr fe fr ep : Int) (AB : Option Addr) (cB : Nat) (B : List Bool) (AN : Option Addr) (cN : Nat) (N : List Bool) (v : Value) (g : Int → Int) (b : Nat) (w0 w : World) : Prop where
  bel : Below w0.heap.size w0 w
  X : Kd.C (Kd.int .u64) w AX lx.length lx
  hB : Kd.C Kd.bool w AB B.length B
  hN : Kd.C Kd.bool w AN N.length N
  ch : ChainAt v g w
  m : w.heap[b]? = some (.cells #[.slice AX lx.length cX, .int .i64 sl, .int .i64 bo] 24 (0, 0))
  s : w.heap[b + 1]? = some (.cells #[.bool s0, .bool s1, .bool s2, .bool s3, .int .i64 pe, .int .u64 pr, .int .i64 ce, .int .u64 cr, .int .i64 fe, .int .u64 fr, .int .i64 ep, .slice AB B.length cB, .slice AN N.length cN] 39 (0, 0))
  o : w.heap[b + 1 + 1]? = some (.cells #[.bool false, .bool false, .bool false, .bool false, .int .i64 0, .int .u64 0, .int .i64 0, .int .u64 0, .int .i64 0, .int .u64 0] 36 (0, 0))
theorem PullIn.below {AX : Option Addr} {cX : Nat} {lx : List Int} {sl bo : Int} {s0 s1 s2 s3 : Bool} {pe pr ce cr fe fr ep : Int} {AB : Option Addr} {cB : Nat} {B : List Bool} {AN : Option Addr} {cN : Nat} {N : List Bool} {v : Value} {g : Int → Int} {b : Nat} {w0 w w' : World}
    (h : PullIn AX cX lx sl bo s0 s1 s2 s3 pe pr ce cr fe fr ep AB cB B AN cN N v g b w0 w) (hb : Below w.heap.size w w') : PullIn AX cX lx sl bo s0 s1 s2 s3 pe pr ce cr fe fr ep AB cB B AN cN N v g b w0 w' :=
  ⟨below_then h.bel h.bel.size hb, Kd.C_below h.X hb, Kd.C_below h.hB hb, Kd.C_below h.hN hb, h.ch.below hb, blk_below h.m hb, blk_below h.s hb, blk_below h.o hb⟩
theorem PullIn.held {AX : Option Addr} {cX : Nat} {lx : List Int} {sl bo : Int} {s0 s1 s2 s3 : Bool} {pe pr ce cr fe fr ep : Int} {AB : Option Addr} {cB : Nat} {B : List Bool} {AN : Option Addr} {cN : Nat} {N : List Bool} {v : Value} {g : Int → Int} {b : Nat} {w0 w' : World}
    (h : PullIn AX cX lx sl bo s0 s1 s2 s3 pe pr ce cr fe fr ep AB cB B AN cN N v g b w0 w') : w'.cell? ⟨b, 0, none⟩ = some (.slice AX lx.length cX) ∧ w'.cell? ⟨b, 1, none⟩ = some (.int .i64 sl) ∧ w'.cell? ⟨b, 2, none⟩ = some (.int .i64 bo) ∧ w'.cell? ⟨b + 1, 10, none⟩ = some (.int .i64 ep) ∧ w'.cell? ⟨b + 1, 11, none⟩ = some (.slice AB B.length cB) ∧ w'.cell? ⟨b + 1, 12, none⟩ = some (.slice AN N.length cN) :=
  ⟨blk_cell h.m 0, blk_cell h.m 1, blk_cell h.m 2, blk_cell h.s 10, blk_cell h.s 11, blk_cell h.s 12⟩
theorem PullIn.heldJ {AX : Option Addr} {cX : Nat} {lx : List Int} {sl bo : Int} {s0 s1 s2 s3 : Bool} {pe pr ce cr fe fr ep : Int} {AB : Option Addr} {cB : Nat} {B : List Bool} {AN : Option Addr} {cN : Nat} {N : List Bool} {v : Value} {g : Int → Int} {b : Nat} {w0 w' : World}
    (h : PullIn AX cX lx sl bo s0 s1 s2 s3 pe pr ce cr fe fr ep AB cB B AN cN N v g b w0 w') : w'.cell? ⟨b, 0, none⟩ = some (.slice AX lx.length cX) ∧ w'.cell? ⟨b, 1, none⟩ = some (.int .i64 sl) ∧ w'.cell? ⟨b, 2, none⟩ = some (.int .i64 bo) ∧ w'.cell? ⟨b + 1, 0, none⟩ = some (.bool s0) ∧ w'.cell? ⟨b + 1, 1, none⟩ = some (.bool s1) ∧ w'.cell? ⟨b + 1, 2, none⟩ = some (.bool s2) ∧ w'.cell? ⟨b + 1, 3, none⟩ = some (.bool s3) ∧ w'.cell? ⟨b + 1, 4, none⟩ = some (.int .i64 pe) ∧ w'.cell? ⟨b + 1, 5, none⟩ = some (.int .u64 pr) ∧ w'.cell? ⟨b + 1, 6, none⟩ = some (.int .i64 ce) ∧ w'.cell? ⟨b + 1, 7, none⟩ = some (.int .u64 cr) ∧ w'.cell? ⟨b + 1, 8, none⟩ = some (.int .i64 fe) ∧ w'.cell? ⟨b + 1, 9, none⟩ = some (.int .u64 fr) ∧ w'.cell? ⟨b + 1, 10, none⟩ = some (.int .i64 ep) :=
  ⟨blk_cell h.m 0, blk_cell h.m 1, blk_cell h.m 2, blk_cell h.s 0, blk_cell h.s 1, blk_cell h.s 2, blk_cell h.s 3, blk_cell h.s 4, blk_cell h.s 5, blk_cell h.s 6, blk_cell h.s 7, blk_cell h.s 8, blk_cell h.s 9, blk_cell h.s 10⟩

set_option maxHeartbeats 8000000 in
set_option maxRecDepth 100000 in
theorem pull_at (AX : Option Addr) (cX : Nat) (lx : List Int) (sl bo : Int) (s0 s1 s2 s3 : Bool) (pe pr ce cr fe fr ep : Int) (AB : Option Addr) (cB : Nat) (B : List Bool) (AN : Option Addr) (cN : Nat) (N : List Bool) (v : Value) (g : Int → Int) (w : World)
    (hX : Kd.C (Kd.int .u64) w AX lx.length lx) (hcX : lx.length ≤ cX) (hlx : lx.length ≤ 17592186043904) (hB : Kd.C Kd.bool w AB B.length B) (hcB : B.length ≤ cB) (hlB : B.length ≤ 17592186043904) (hN : Kd.C Kd.bool w AN N.length N) (hcN : N.length ≤ cN) (hlN : N.length ≤ 17592186043904)
    (hv : ChainAt v g w) (he : -9223372036854775808 ≤ ep ∧ ep ≤ 9223372036854775807) :
    Calls Try.prog 21 #[.agg #[.slice AX lx.length cX, .int .i64 sl, .int .i64 bo], .agg #[.bool s0, .bool s1, .bool s2, .bool s3, .int .i64 pe, .int .u64 pr, .int .i64 ce, .int .u64 cr, .int .i64 fe, .int .u64 fr, .int .i64 ep, .slice AB B.length cB, .slice AN N.length cN], v] w fun x w' => x = .returned (.agg (pullOf lx sl g ⟨⟨s0, s1, s2, s3, pe, pr, ce, cr, fe, fr⟩, ep, B, N⟩).cells) ∧ Below w.heap.size w w' := by
  have HCX := Aside0.mk hcX
  have HE := Aside0.mk he
  have HCB := Aside0.mk hcB
  have HCN := Aside0.mk hcN
  have hiB := idx_length B 0
  have hiN := idx_length N 0
  obtain ⟨kt, hkt⟩ := (total_f lx sl bo (by omega)).rounds
  obtain ⟨kb, hkb⟩ := (who_f B hlB).rounds
  obtain ⟨kn, hkn⟩ := (who_f N hlN).rounds
  obtain ⟨kc, hkc⟩ := (sum_f lx (idx 0 B) sl bo (by omega)).rounds
  obtain ⟨kd, hkd⟩ := (sum_f lx (idx 0 N) sl bo (by omega)).rounds
  have HKT := Aside0.mk hkt
  have HKB := Aside0.mk hkb
  have HKN := Aside0.mk hkn
  have HKC := Aside0.mk hkc
  have HKD := Aside0.mk hkd
  have HEB := Aside0.mk (enough_f (sumOf lx 0 (idx 0 B)) (allOf 0 lx))
  have HEN := Aside0.mk (enough_f (sumOf lx 0 (idx 0 N)) (allOf 0 lx))
  have H0 := Aside0.mk (show ∀ w1, Below w.heap.size w w1 → w1.heap[w.heap.size]? = some (.cells #[.slice AX lx.length cX, .int .i64 sl, .int .i64 bo] 24 (0, 0)) → w1.heap[w.heap.size + 1]? = some (.cells #[.bool s0, .bool s1, .bool s2, .bool s3, .int .i64 pe, .int .u64 pr, .int .i64 ce, .int .u64 cr, .int .i64 fe, .int .u64 fr, .int .i64 ep, .slice AB B.length cB, .slice AN N.length cN] 39 (0, 0)) → w1.heap[w.heap.size + 1 + 1]? = some (.cells #[.bool false, .bool false, .bool false, .bool false, .int .i64 0, .int .u64 0, .int .i64 0, .int .u64 0, .int .i64 0, .int .u64 0] 36 (0, 0)) → PullIn AX cX lx sl bo s0 s1 s2 s3 pe pr ce cr fe fr ep AB cB B AN cN N v g w.heap.size w w1 from
    fun w1 hb hm hs ho => ⟨hb, Kd.C_below hX hb, Kd.C_below hB hb, Kd.C_below hN hb, hv.below hb, hm, hs, ho⟩)
  clear hX hcX hB hcB hN hcN hv hkt hkb hkn hkc hkd hiB hiN
  go_enter Try.func21, Try.ntmps21
  have hbx := Block.box3 w #[.slice AX lx.length cX, .int .i64 sl, .int .i64 bo] #[.bool s0, .bool s1, .bool s2, .bool s3, .int .i64 pe, .int .u64 pr, .int .i64 ce, .int .u64 cr, .int .i64 fe, .int .u64 fr, .int .i64 ep, .slice AB B.length cB, .slice AN N.length cN] #[.bool false, .bool false, .bool false, .bool false, .int .i64 0, .int .u64 0, .int .i64 0, .int .u64 0, .int .i64 0, .int .u64 0] 24 39 36
  have L0 := Aside0.mk (H0.out (((w.alloc (.cells #[.slice AX lx.length cX, .int .i64 sl, .int .i64 bo] 24)).alloc (.cells #[.bool s0, .bool s1, .bool s2, .bool s3, .int .i64 pe, .int .u64 pr, .int .i64 ce, .int .u64 cr, .int .i64 fe, .int .u64 fr, .int .i64 ep, .slice AB B.length cB, .slice AN N.length cN] 39)).alloc (.cells #[.bool false, .bool false, .bool false, .bool false, .int .i64 0, .int .u64 0, .int .i64 0, .int .u64 0, .int .i64 0, .int .u64 0] 36)) (below_alloc (below_alloc (below_alloc (Below.refl _ _) _) _) _) hbx.1 hbx.2.1 hbx.2.2)
  clear hbx
  by_cases h2 : ep < 2
  · have t : decide (ep < 2) = true := decide_eq_true h2
    have hs0 := blk_cell L0.out.s
    have ho0 := blk_cell L0.out.o
    have HP : Aside0 (pullOf lx sl g ⟨⟨s0, s1, s2, s3, pe, pr, ce, cr, fe, fr⟩, ep, B, N⟩ = ⟨s0, s1, s2, s3, pe, pr, ce, cr, fe, fr⟩) := ⟨by rw [pullOf, if_pos h2]⟩
    clear h2
    go_wp2_with fail
    refine bodyPost_ret (v := .agg (pullOf lx sl g ⟨⟨s0, s1, s2, s3, pe, pr, ce, cr, fe, fr⟩, ep, B, N⟩).cells) ?_ rfl ⟨rfl, ?_⟩
    · rw [HP.out]
      simp [results, Try.results21, go_sem, St.cells]
    · exact below_alloc (below_alloc (below_alloc (Below.refl _ _) _) _) _
  · have t : decide (ep < 2) = false := decide_eq_false h2
    have hs0 := blk_cell L0.out.s
    have hm0 := blk_cell L0.out.m
    go_wp2_with (first
      | (go_at_call 25; refine (config_Total.calls kt AX cX lx sl bo _ _ L0.out.X HCX.out HKT.out).mono ?_; rintro x w1 ⟨rfl, hb⟩; have L1 := Aside0.mk (L0.out.below hb); clear hb))
    have L1d := Aside0.mk (L1.out.below (below_drew (Below.refl _ _)))
    go_region_held3 (fun w' => w'.cell? ⟨w.heap.size, 0, none⟩ = some (.slice AX lx.length cX) ∧ w'.cell? ⟨w.heap.size, 1, none⟩ = some (.int .i64 sl) ∧ w'.cell? ⟨w.heap.size, 2, none⟩ = some (.int .i64 bo) ∧ w'.cell? ⟨w.heap.size + 1, 10, none⟩ = some (.int .i64 ep) ∧ w'.cell? ⟨w.heap.size + 1, 11, none⟩ = some (.slice AB B.length cB) ∧ w'.cell? ⟨w.heap.size + 1, 12, none⟩ = some (.slice AN N.length cN))
      (first | exact L4.out.held | exact L3.out.held | exact L2.out.held | exact L1d.out.held | exact L1.out.held)
      (first
        | (go_at_call 37; refine (ledger_who.calls kb AB cB B _ _ L1d.out.hB HCB.out HKB.out).mono ?_; rintro x w2 ⟨v0, rfl, hR, hb⟩; have L2 := Aside0.mk (L1d.out.below hb); obtain ⟨A2, c2, rfl, hc2, hC⟩ := Kd.R_reads hR; have R2 := Aside0.mk hC; have HC2 := Aside0.mk hc2; clear hb hR hC hc2)
        | (go_at_call 24; refine (config_Sum.calls kc AX cX lx sl bo A2 c2 (idx 0 B) _ _ L2.out.X HCX.out R2.out HC2.out HKC.out).mono ?_; rintro x w3 ⟨rfl, hb⟩; have L3 := Aside0.mk (L2.out.below hb); clear hb)
        | (go_at_call 23; refine (quorum_Enough.calls _ _ _ _ HEB.out).mono ?_; rintro x w4 ⟨rfl, hb⟩; have L4 := Aside0.mk (L3.out.below hb.below); clear hb))
    all_goals
      have L4d := Aside0.mk (L4.out.below (below_drew (Below.refl _ _)))
      clear L1 L1d L2 L3
      go_upto_region 5 with fail
      go_region_held3 (fun w' => w'.cell? ⟨w.heap.size, 0, none⟩ = some (.slice AX lx.length cX) ∧ w'.cell? ⟨w.heap.size, 1, none⟩ = some (.int .i64 sl) ∧ w'.cell? ⟨w.heap.size, 2, none⟩ = some (.int .i64 bo) ∧ w'.cell? ⟨w.heap.size + 1, 10, none⟩ = some (.int .i64 ep) ∧ w'.cell? ⟨w.heap.size + 1, 11, none⟩ = some (.slice AB B.length cB) ∧ w'.cell? ⟨w.heap.size + 1, 12, none⟩ = some (.slice AN N.length cN))
        (first | exact L7.out.held | exact L6.out.held | exact L5.out.held | exact L4d.out.held | exact L4.out.held)
        (first
          | (go_at_call 37; refine (ledger_who.calls kn AN cN N _ _ L4d.out.hN HCN.out HKN.out).mono ?_; rintro x w5 ⟨v0, rfl, hR, hb⟩; have L5 := Aside0.mk (L4d.out.below hb); obtain ⟨A3, c3, rfl, hc3, hC⟩ := Kd.R_reads hR; have R3 := Aside0.mk hC; have HC3 := Aside0.mk hc3; clear hb hR hC hc3)
          | (go_at_call 24; refine (config_Sum.calls kd AX cX lx sl bo A3 c3 (idx 0 N) _ _ L5.out.X HCX.out R3.out HC3.out HKD.out).mono ?_; rintro x w6 ⟨rfl, hb⟩; have L6 := Aside0.mk (L5.out.below hb); clear hb)
          | (go_at_call 23; refine (quorum_Enough.calls _ _ _ _ HEN.out).mono ?_; rintro x w7 ⟨rfl, hb⟩; have L7 := Aside0.mk (L6.out.below hb.below); clear hb))
      all_goals
        have L7d := Aside0.mk (L7.out.below (below_drew (Below.refl _ _)))
        clear L4 L4d L5 L6
        have e9 : wrap64 (ep - 1) = ep - 1 := by unfold wrap64; omega
        have HE1 : Aside0 (-9223372036854775808 ≤ ep - 1 ∧ ep - 1 ≤ 9223372036854775807) := ⟨by omega⟩
        go_upto_region 6 with fail
        rename_i K Q a0_
        refine start_ (n := 19) (S := fun w' => w'.cell? ⟨w.heap.size, 0, none⟩ = some (.slice AX lx.length cX) ∧ w'.cell? ⟨w.heap.size, 1, none⟩ = some (.int .i64 sl) ∧ w'.cell? ⟨w.heap.size, 2, none⟩ = some (.int .i64 bo) ∧ w'.cell? ⟨w.heap.size + 1, 0, none⟩ = some (.bool s0) ∧ w'.cell? ⟨w.heap.size + 1, 1, none⟩ = some (.bool s1) ∧ w'.cell? ⟨w.heap.size + 1, 2, none⟩ = some (.bool s2) ∧ w'.cell? ⟨w.heap.size + 1, 3, none⟩ = some (.bool s3) ∧ w'.cell? ⟨w.heap.size + 1, 4, none⟩ = some (.int .i64 pe) ∧ w'.cell? ⟨w.heap.size + 1, 5, none⟩ = some (.int .u64 pr) ∧ w'.cell? ⟨w.heap.size + 1, 6, none⟩ = some (.int .i64 ce) ∧ w'.cell? ⟨w.heap.size + 1, 7, none⟩ = some (.int .u64 cr) ∧ w'.cell? ⟨w.heap.size + 1, 8, none⟩ = some (.int .i64 fe) ∧ w'.cell? ⟨w.heap.size + 1, 9, none⟩ = some (.int .u64 fr) ∧ w'.cell? ⟨w.heap.size + 1, 10, none⟩ = some (.int .i64 ep)) (ds := [18]) #[false, false, false, false, false, false, false, false, false, false, false, false, false, false, false, false, false, false, false] (by kernel_rfl) rfl rfl ⟨(blk_cell L7.out.m 0), (blk_cell L7.out.m 1), (blk_cell L7.out.m 2), (blk_cell L7.out.s 0), (blk_cell L7.out.s 1), (blk_cell L7.out.s 2), (blk_cell L7.out.s 3), (blk_cell L7.out.s 4), (blk_cell L7.out.s 5), (blk_cell L7.out.s 6), (blk_cell L7.out.s 7), (blk_cell L7.out.s 8), (blk_cell L7.out.s 9), (blk_cell L7.out.s 10)⟩ (fun hHeld => ?_)
        refine pure_ (i := 0) (N := some 31) (v := ?_) (a' := ?_) #[true, false, false, false, false, false, false, false, false, false, false, false, false, false, false, false, false, false, false] rfl rfl (by kernel_rfl) (fun _ _ _ h => h) (Or.inl ⟨by rfl, ?_⟩) ?_ ?_
        rotate_left
        · intro w'
          go_simp
          with_reducible rfl
        rotate_left
        · simp only [Act.put, List.setIfInBounds_toArray, List.set_cons_zero, List.set_cons_succ, i64_w, i32_w]
          rfl
        refine pure_ (i := 2) (N := some 33) (v := ?_) (a' := ?_) #[true, false, true, false, false, false, false, false, false, false, false, false, false, false, false, false, false, false, false] rfl rfl (by kernel_rfl) (fun _ _ _ h => h) (Or.inl ⟨by rfl, ?_⟩) ?_ ?_
        rotate_left
        · intro w'
          go_simp
          with_reducible rfl
        rotate_left
        · simp only [Act.put, List.setIfInBounds_toArray, List.set_cons_zero, List.set_cons_succ, i64_w, i32_w]
          rfl
        refine pure_ (i := 4) (N := some 35) (v := ?_) (a' := ?_) #[true, false, true, false, true, false, false, false, false, false, false, false, false, false, false, false, false, false, false] rfl rfl (by kernel_rfl) (fun _ _ _ h => h) (Or.inl ⟨by rfl, ?_⟩) ?_ ?_
        rotate_left
        · intro w'
          go_simp
          with_reducible rfl
        rotate_left
        · simp only [Act.put, List.setIfInBounds_toArray, List.set_cons_zero, List.set_cons_succ, i64_w, i32_w]
          rfl
        refine pure_ (i := 5) (N := some 36) (v := ?_) (a' := ?_) #[true, false, true, false, true, true, false, false, false, false, false, false, false, false, false, false, false, false, false] rfl rfl (by kernel_rfl) (fun _ _ _ h => h) (Or.inl ⟨by rfl, ?_⟩) ?_ ?_
        rotate_left
        · intro w'
          go_simp
          with_reducible rfl
        rotate_left
        · simp only [Act.put, List.setIfInBounds_toArray, List.set_cons_zero, List.set_cons_succ, i64_w, i32_w]
          rfl
        refine pure_ (i := 7) (N := some 38) (v := ?_) (a' := ?_) #[true, false, true, false, true, true, false, true, false, false, false, false, false, false, false, false, false, false, false] rfl rfl (by kernel_rfl) (fun _ _ _ h => h) (Or.inl ⟨by rfl, ?_⟩) ?_ ?_
        rotate_left
        · intro w'
          go_simp
          with_reducible rfl
        rotate_left
        · simp only [Act.put, List.setIfInBounds_toArray, List.set_cons_zero, List.set_cons_succ, i64_w, i32_w]
          rfl
        refine pure_ (i := 10) (N := some 41) (v := ?_) (a' := ?_) #[true, false, true, false, true, true, false, true, false, false, true, false, false, false, false, false, false, false, false] rfl rfl (by kernel_rfl) (fun _ _ _ h => h) (Or.inl ⟨by rfl, ?_⟩) ?_ ?_
        rotate_left
        · intro w'
          go_simp
          with_reducible rfl
        rotate_left
        · simp only [Act.put, List.setIfInBounds_toArray, List.set_cons_zero, List.set_cons_succ, i64_w, i32_w]
          rfl
        refine pure_ (i := 13) (N := some 44) (v := ?_) (a' := ?_) #[true, false, true, false, true, true, false, true, false, false, true, false, false, true, false, false, false, false, false] rfl rfl (by kernel_rfl) (fun _ _ _ h => h) (Or.inl ⟨by rfl, ?_⟩) ?_ ?_
        rotate_left
        · intro w'
          go_simp
          with_reducible rfl
        rotate_left
        · simp only [Act.put, List.setIfInBounds_toArray, List.set_cons_zero, List.set_cons_succ, i64_w, i32_w]
          rfl
        refine pure_ (i := 15) (N := some 46) (v := ?_) (a' := ?_) #[true, false, true, false, true, true, false, true, false, false, true, false, false, true, false, true, false, false, false] rfl rfl (by kernel_rfl) (fun _ _ _ h => h) (Or.inl ⟨by rfl, ?_⟩) ?_ ?_
        rotate_left
        · intro w'
          go_simp
          with_reducible rfl
        rotate_left
        · simp only [Act.put, List.setIfInBounds_toArray, List.set_cons_zero, List.set_cons_succ, i64_w, i32_w]
          rfl
        refine take_ (i := 1) (N := some 32) (v := ?_) (a' := ?_) #[true, true, true, false, true, true, false, true, false, false, true, false, false, true, false, true, false, false, false] rfl rfl (by kernel_rfl) (fun _ _ _ h => h) (Or.inl ⟨by rfl, ?_⟩) hHeld ?_ ?_
        rotate_left
        · rintro w' ⟨s0, s1, s2, s3, s4, s5, s6, s7, s8, s9, s10, s11, s12, s13⟩
          go_simp
          with_reducible rfl
        rotate_left
        · simp only [Act.put, List.setIfInBounds_toArray, List.set_cons_zero, List.set_cons_succ, i64_w, i32_w]
          rfl
        refine take_ (i := 3) (N := some 34) (v := ?_) (a' := ?_) #[true, true, true, true, true, true, false, true, false, false, true, false, false, true, false, true, false, false, false] rfl rfl (by kernel_rfl) (fun _ _ _ h => h) (Or.inl ⟨by rfl, ?_⟩) hHeld ?_ ?_
        rotate_left
        · rintro w' ⟨s0, s1, s2, s3, s4, s5, s6, s7, s8, s9, s10, s11, s12, s13⟩
          go_simp
          with_reducible rfl
        rotate_left
        · simp only [Act.put, List.setIfInBounds_toArray, List.set_cons_zero, List.set_cons_succ, i64_w, i32_w]
          rfl
        refine take_ (i := 6) (N := some 37) (v := ?_) (a' := ?_) #[true, true, true, true, true, true, true, true, false, false, true, false, false, true, false, true, false, false, false] rfl rfl (by kernel_rfl) (fun _ _ _ h => h) (Or.inl ⟨by rfl, ?_⟩) hHeld ?_ ?_
        rotate_left
        · rintro w' ⟨s0, s1, s2, s3, s4, s5, s6, s7, s8, s9, s10, s11, s12, s13⟩
          go_simp
          with_reducible rfl
        rotate_left
        · simp only [Act.put, List.setIfInBounds_toArray, List.set_cons_zero, List.set_cons_succ, i64_w, i32_w]
          rfl
        refine take_ (i := 8) (N := some 39) (v := ?_) (a' := ?_) #[true, true, true, true, true, true, true, true, true, false, true, false, false, true, false, true, false, false, false] rfl rfl (by kernel_rfl) (fun _ _ _ h => h) (Or.inl ⟨by rfl, ?_⟩) hHeld ?_ ?_
        rotate_left
        · rintro w' ⟨s0, s1, s2, s3, s4, s5, s6, s7, s8, s9, s10, s11, s12, s13⟩
          go_simp
          with_reducible rfl
        rotate_left
        · simp only [Act.put, List.setIfInBounds_toArray, List.set_cons_zero, List.set_cons_succ, i64_w, i32_w]
          rfl
        refine pure_ (i := 9) (N := some 40) (v := ?_) (a' := ?_) #[true, true, true, true, true, true, true, true, true, true, true, false, false, true, false, true, false, false, false] rfl rfl (by kernel_rfl) (fun _ _ _ h => h) (Or.inl ⟨by rfl, ?_⟩) ?_ ?_
        rotate_left
        · intro w'
          go_simp
          with_reducible rfl
        rotate_left
        · simp only [Act.put, List.setIfInBounds_toArray, List.set_cons_zero, List.set_cons_succ, i64_w, i32_w]
          rfl
        refine take_ (i := 12) (N := some 43) (v := ?_) (a' := ?_) #[true, true, true, true, true, true, true, true, true, true, true, false, true, true, false, true, false, false, false] rfl rfl (by kernel_rfl) (fun _ _ _ h => h) (Or.inl ⟨by rfl, ?_⟩) hHeld ?_ ?_
        rotate_left
        · rintro w' ⟨s0, s1, s2, s3, s4, s5, s6, s7, s8, s9, s10, s11, s12, s13⟩
          go_simp
          with_reducible rfl
        rotate_left
        · simp only [Act.put, List.setIfInBounds_toArray, List.set_cons_zero, List.set_cons_succ, i64_w, i32_w]
          rfl
        refine take_ (i := 14) (N := some 45) (v := ?_) (a' := ?_) #[true, true, true, true, true, true, true, true, true, true, true, false, true, true, true, true, false, false, false] rfl rfl (by kernel_rfl) (fun _ _ _ h => h) (Or.inl ⟨by rfl, ?_⟩) hHeld ?_ ?_
        rotate_left
        · rintro w' ⟨s0, s1, s2, s3, s4, s5, s6, s7, s8, s9, s10, s11, s12, s13⟩
          go_simp
          with_reducible rfl
        rotate_left
        · simp only [Act.put, List.setIfInBounds_toArray, List.set_cons_zero, List.set_cons_succ, i64_w, i32_w]
          rfl
        refine one_ (i := 11) (N := some 42) #[true, true, true, true, true, true, true, true, true, true, true, true, true, true, true, true, false, false, false] rfl rfl (by kernel_rfl) (by decide) (fun K hK => ?_)
        refine goes_ Try.func36 (by kernel_rfl) rfl #[.agg #[.slice AX lx.length cX, .int .i64 sl, .int .i64 bo], .int .i64 (wrap64 (ep - 1)), v] (by rfl) rfl rfl (by simp only [List.map_toArray, List.map_cons, List.map_nil]; rfl) ?_
        rw [e9]
        with_reducible refine (point_calls AX _ cX sl bo (ep - 1) v g _ L7d.out.ch HE1.out).mono ?_
        rintro x w8 ⟨rfl, hb⟩
        refine ⟨_, rfl, ?_⟩
        have L8 := Aside0.mk (L7d.out.below hb)
        clear hb
        refine hK.out _ _ ⟨(blk_cell L8.out.m 0), (blk_cell L8.out.m 1), (blk_cell L8.out.m 2), (blk_cell L8.out.s 0), (blk_cell L8.out.s 1), (blk_cell L8.out.s 2), (blk_cell L8.out.s 3), (blk_cell L8.out.s 4), (blk_cell L8.out.s 5), (blk_cell L8.out.s 6), (blk_cell L8.out.s 7), (blk_cell L8.out.s 8), (blk_cell L8.out.s 9), (blk_cell L8.out.s 10)⟩ (fun hHeld => ?_)
        clear hK K
        refine norm_ (a' := ?_) ?_ ?_
        rotate_left
        · show Act.put _ (some 42) _ = _
          simp only [Act.put, List.setIfInBounds_toArray, List.set_cons_zero, List.set_cons_succ, i64_w, i32_w]
          rfl
        refine one_ (i := 16) (N := some 47) #[true, true, true, true, true, true, true, true, true, true, true, true, true, true, true, true, true, false, false] rfl rfl (by kernel_rfl) (by decide) (fun K hK => ?_)
        refine goes_ Try.func36 (by kernel_rfl) rfl #[.agg #[.slice AX lx.length cX, .int .i64 sl, .int .i64 bo], .int .i64 ep, v] (by rfl) rfl rfl (by simp only [List.map_toArray, List.map_cons, List.map_nil]; rfl) ?_
        with_reducible refine (point_calls AX _ cX sl bo ep v g _ L8.out.ch HE.out).mono ?_
        rintro x w9 ⟨rfl, hb⟩
        refine ⟨_, rfl, ?_⟩
        have L9 := Aside0.mk (L8.out.below hb)
        clear hb
        refine hK.out _ _ ⟨(blk_cell L9.out.m 0), (blk_cell L9.out.m 1), (blk_cell L9.out.m 2), (blk_cell L9.out.s 0), (blk_cell L9.out.s 1), (blk_cell L9.out.s 2), (blk_cell L9.out.s 3), (blk_cell L9.out.s 4), (blk_cell L9.out.s 5), (blk_cell L9.out.s 6), (blk_cell L9.out.s 7), (blk_cell L9.out.s 8), (blk_cell L9.out.s 9), (blk_cell L9.out.s 10)⟩ (fun hHeld => ?_)
        clear hK K
        refine norm_ (a' := ?_) ?_ ?_
        rotate_left
        · show Act.put _ (some 47) _ = _
          simp only [Act.put, List.setIfInBounds_toArray, List.set_cons_zero, List.set_cons_succ, i64_w, i32_w]
          rfl
        refine one_ (i := 17) (N := some 48) #[true, true, true, true, true, true, true, true, true, true, true, true, true, true, true, true, true, true, false] rfl rfl (by kernel_rfl) (by decide) (fun K hK => ?_)
        refine goes_ Try.func30 (by kernel_rfl) rfl #[.agg #[.bool s0, .bool s1, .bool s2, .bool s3, .int .i64 pe, .int .u64 pr, .int .i64 ce, .int .u64 cr, .int .i64 fe, .int .u64 fr], .int .i64 ep, .bool (enough (sumOf lx 0 (idx 0 B)) (allOf 0 lx)), .bool (enough (sumOf lx 0 (idx 0 N)) (allOf 0 lx)), .agg #[.int .i64 (mx 0 (ep - 1)), .int .u64 (g (startOf (ep - 1) sl))], .agg #[.int .i64 (mx 0 ep), .int .u64 (g (startOf ep sl))]] (by rfl) rfl rfl (by simp only [List.map_toArray, List.map_cons, List.map_nil]; rfl) ?_
        with_reducible refine (next_some s0 s1 s2 s3 pe pr ce cr fe fr ep _ _ _ _ _ _ _).mono ?_
        rintro x w10 ⟨m0, m1, m2, m3, mpe, mpr, mce, mcr, mfe, mfr, rfl, hm, hb⟩
        refine ⟨_, rfl, ?_⟩
        have L10 := Aside0.mk (L9.out.below hb)
        have HM := Aside0.mk hm
        clear hm hb
        refine hK.out _ _ ⟨(blk_cell L10.out.m 0), (blk_cell L10.out.m 1), (blk_cell L10.out.m 2), (blk_cell L10.out.s 0), (blk_cell L10.out.s 1), (blk_cell L10.out.s 2), (blk_cell L10.out.s 3), (blk_cell L10.out.s 4), (blk_cell L10.out.s 5), (blk_cell L10.out.s 6), (blk_cell L10.out.s 7), (blk_cell L10.out.s 8), (blk_cell L10.out.s 9), (blk_cell L10.out.s 10)⟩ (fun hHeld => ?_)
        clear hK K
        refine norm_ (a' := ?_) ?_ ?_
        rotate_left
        · show Act.put _ (some 48) _ = _
          simp only [Act.put, List.setIfInBounds_toArray, List.set_cons_zero, List.set_cons_succ, i64_w, i32_w]
          rfl
        refine last_ (i := 18) (N := none) #[true, true, true, true, true, true, true, true, true, true, true, true, true, true, true, true, true, true, true] rfl rfl (by kernel_rfl) (by decide) (fun K hK => ?_)
        refine store_step (by rfl) rfl 36 (.tmp 6) (.tmp 48) rfl (w.heap.size + 1 + 1) 36 _ #[.bool m0, .bool m1, .bool m2, .bool m3, .int .i64 mpe, .int .u64 mpr, .int .i64 mce, .int .u64 mcr, .int .i64 mfe, .int .u64 mfr] rfl rfl L10.out.o rfl (by kernel_rfl) (by simp [Value.oneCell']) ?_
        intro wz hbk hgr
        have B9 := Aside0.mk hbk
        have HZ := Aside0.mk (L10.out.bel.grown hgr L10.out.bel.size (fun k hk => by cases hk; omega))
        clear hbk hgr
        refine hK.out _ _ ?_
        clear hK K
        refine done_ (by kernel_rfl) ?_
        have HP : pullOf lx sl g ⟨⟨s0, s1, s2, s3, pe, pr, ce, cr, fe, fr⟩, ep, B, N⟩ = ⟨m0, m1, m2, m3, mpe, mpr, mce, mcr, mfe, mfr⟩ := by
          rw [pullOf, if_neg (by simp only; omega)]
          exact HM.out
        have hc9 := blk_cell B9.out
        go_wp2_with fail
        refine bodyPost_ret (v := .agg (pullOf lx sl g ⟨⟨s0, s1, s2, s3, pe, pr, ce, cr, fe, fr⟩, ep, B, N⟩).cells) ?_ rfl ⟨rfl, HZ.out⟩
        rw [HP]
        simp [results, Try.results21, go_sem, St.cells, hc9]
end Go.Proofs.Ytiklbldanidfiaa.QL
