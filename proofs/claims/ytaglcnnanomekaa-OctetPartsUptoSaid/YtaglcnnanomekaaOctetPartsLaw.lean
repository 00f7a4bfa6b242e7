/-
  The law OctetParts, of arguments of at most 1048576 values together: its printed function answers true, so its call does.
-/
import Derived.Test.YtaglcnnanomekaaQPx2
import Derived.Test.YtaglcnnanomekaaOwn
namespace Go.Proofs.Ytaglcnnanomekaa.QP
open Go.RowKit Go.Proofs.YtaglcnnanomekaaW.PrintWords Go.Proofs.YtaglcnnanomekaaW.PrintLast Go.Proofs.YtaglcnnanomekaaW.PrintMore Go.Proofs.Ytaglcnnanomekaa.Own
set_option linter.unusedVariables false

theorem drop_rd (l : List Int) (i : Nat) (h : i < l.length) : l.drop i = rd l i :: l.drop (i + 1) := by
  rw [List.drop_eq_getElem_cons h]
  simp [rd, List.getD_eq_getElem?_getD, h]
theorem wrap_next {i n : Nat} (hi : i < n) (hn : n ≤ 140737488351232) : wrap64 ((i : Int) + 1) = ((i + 1 : Nat) : Int) := by
  unfold wrap64
  omega

/-- A number's eight bytes. -/
def eight (n : Int) : List Int := [(shr .u64 n 56) % 256, (shr .u64 n 48) % 256, (shr .u64 n 40) % 256, (shr .u64 n 32) % 256, (shr .u64 n 24) % 256, (shr .u64 n 16) % 256, (shr .u64 n 8) % 256, (shr .u64 n 0) % 256]
/-- All numbers' bytes. -/
def bytesAll (ns : List Int) : List Int := ns.flatMap eight
theorem eight_len (n : Int) : (eight n).length = 8 := rfl
theorem bytesAll_len (ns : List Int) : (bytesAll ns).length = 8 * ns.length := by
  induction ns with
  | nil => rfl
  | cons n r ih =>
    have h : (bytesAll (n :: r)).length = (eight n).length + (bytesAll r).length := by simp [bytesAll]
    rw [h, ih, eight_len, List.length_cons]
    omega
theorem one_more (k : Nat) (out : List Int) (n s : Int) (ns : List Int) (len i : Int) (h0 : 0 ≤ s) (h1 : s ≤ 56) (hl : out.length < 140737488355328) : octet_Put.l1 (k + 1) out n s ns len i = octet_Put.l1 k (out ++ [(shr .u64 n s) % 256]) n (s - 8) ns len i := by
  have hw : wrap64 (s - 8) = s - 8 := by unfold wrap64; omega
  simp only [octet_Put.l1]
  rw [if_pos (by omega), if_pos (by omega), if_pos (by omega), hw]
theorem put_l1 (out : List Int) (n : Int) (ns : List Int) (len i : Int) (r : List Int) (hl : out.length + 8 < 140737488355328) (h : Ev (fun k => octet_Put.l0 k (out ++ eight n) ns len (wrap64 (i + 1))) r) :
    Ev (fun k => octet_Put.l1 k out n 56 ns len i) r := by
  have hs := fun k o s h0 h1 hl => one_more k o n s ns len i h0 h1 hl
  refine Ev.step (fun k => hs k _ _ (by decide) (by decide) (by omega)) ?_
  refine Ev.step (fun k => hs k _ _ (by decide) (by decide) (by simp; omega)) ?_
  refine Ev.step (fun k => hs k _ _ (by decide) (by decide) (by simp; omega)) ?_
  refine Ev.step (fun k => hs k _ _ (by decide) (by decide) (by simp; omega)) ?_
  refine Ev.step (fun k => hs k _ _ (by decide) (by decide) (by simp; omega)) ?_
  refine Ev.step (fun k => hs k _ _ (by decide) (by decide) (by simp; omega)) ?_
  refine Ev.step (fun k => hs k _ _ (by decide) (by decide) (by simp; omega)) ?_
  refine Ev.step (fun k => hs k _ _ (by decide) (by decide) (by simp; omega)) ?_
  refine Ev.step (fun k => ?_) h
  simp only [octet_Put.l1]
  rw [if_neg (by omega)]
  simp [eight]
theorem put_l0 (ns : List Int) (hn : ns.length ≤ 140737488351232) (d : Nat) : ∀ (i : Nat) (out : List Int), i + d = ns.length → out.length + 8 * d < 140737488351232 →
    Ev (fun k => octet_Put.l0 k out ns ns.length i) (out ++ bytesAll (ns.drop i)) := by
  induction d with
  | zero =>
    intro i out hi _
    refine Ev.step (f := fun _ => some (out ++ bytesAll (ns.drop i))) (fun k => ?_) (Ev.now _)
    simp only [octet_Put.l0]
    rw [if_neg (by omega), List.drop_eq_nil_of_le (by omega)]
    simp [bytesAll]
  | succ d ih =>
    intro i out hi hl
    refine Ev.step (f := fun k => octet_Put.l1 k out (rd ns i) 56 ns ns.length i) (fun k => ?_) ?_
    · simp only [octet_Put.l0]
      rw [if_pos (by omega), if_pos (by omega), if_pos (by omega)]
    · refine put_l1 out (rd ns i) ns ns.length i _ (by omega) ?_
      rw [wrap_next (n := ns.length) (by omega) (by omega), drop_rd ns i (by omega)]
      have e : out ++ bytesAll (rd ns i :: ns.drop (i + 1)) = (out ++ eight (rd ns i)) ++ bytesAll (ns.drop (i + 1)) := by simp [bytesAll]
      rw [e]
      exact ih (i + 1) (out ++ eight (rd ns i)) (by omega) (by rw [List.length_append, eight_len]; omega)
theorem put_f (b ns : List Int) (h : b.length + 8 * ns.length < 140737488351232) : Ev (fun k => octet_Put.f k b ns) (b ++ bytesAll ns) := by
  refine Ev.congr (f := fun k => octet_Put.l0 k b ns ns.length ((0 : Nat) : Int)) (fun k => ?_) ?_
  · unfold octet_Put.f
    rw [if_pos (by simp; omega), List.nil_append]
    rfl
  · have := put_l0 ns (by omega) ns.length 0 b (by omega) h
    rwa [List.drop_zero] at this

theorem law_f (b ns ms : List Int) (hb : b.length + ns.length + ms.length ≤ 1048576) : ∃ k, psephoslaw01_OctetParts.f k b ns ms = some true := by
  refine Ev.rounds (g := fun k => psephoslaw01_OctetParts.f k b ns ms) ?_
  unfold psephoslaw01_OctetParts.f
  rw [show psephoslaw01_awake.f = some true from rfl]
  refine Ev.congr (f := fun k => (octet_Put.f k b ns).bind fun t131 => ((octet_Put.f k t131 ms).bind fun t134 => ((octet_Put.f k b (ns ++ ms)).bind fun t143 => (some ((strOfNums t134).toList == (strOfNums t143).toList))))) (fun k => ?_) ?_
  · rw [Option.bind_some, if_pos rfl]
    congr 1
    funext t
    congr 1
    funext t2
    rw [if_pos (by simp; omega)]
    simp only [Option.bind_some, List.nil_append]
    rw [if_pos (by omega)]
  · refine Ev.bind (put_f b ns (by omega)) ?_
    refine Ev.bind (put_f (b ++ bytesAll ns) ms (by rw [List.length_append, bytesAll_len]; omega)) ?_
    refine Ev.bind (put_f b (ns ++ ms) (by rw [List.length_append]; omega)) ?_
    have e : (b ++ bytesAll ns) ++ bytesAll ms = b ++ bytesAll (ns ++ ms) := by simp [bytesAll]
    rw [e, beq_self_eq_true]
    exact Ev.now _

theorem octetParts_law (A : Option Addr) (n c : Nat) (b : List Int) (A1 : Option Addr) (n1 c1 : Nat) (ns : List Int) (A2 : Option Addr) (n2 c2 : Nat) (ms : List Int) (w : World) (g : ReadsInt w .u8 A n b) (hc : n ≤ c) (g1 : ReadsInt w .u64 A1 n1 ns) (hc1 : n1 ≤ c1) (g2 : ReadsInt w .u64 A2 n2 ms) (hc2 : n2 ≤ c2) (hs : n + n1 + n2 ≤ 1048576) :
    Calls Try.prog 6 #[.slice A n c, .slice A1 n1 c1, .slice A2 n2 c2] w fun e w' => e = .returned (.bool true) ∧ Below w.heap.size w w' := by
  obtain ⟨rfl, hm, hr⟩ := g
  obtain ⟨rfl, hm1, hr1⟩ := g1
  obtain ⟨rfl, hm2, hr2⟩ := g2
  obtain ⟨k, h⟩ := law_f b ns ms hs
  exact psephoslaw01_OctetParts.calls k _ _ b _ _ ns _ _ ms true w (Kd.C_of_reads (d := (0 : Int)) (h1 := fun _ => rfl) ⟨rfl, hm, hr⟩) hc (Kd.C_of_reads (d := (0 : Int)) (h1 := fun _ => rfl) ⟨rfl, hm1, hr1⟩) hc1 (Kd.C_of_reads (d := (0 : Int)) (h1 := fun _ => rfl) ⟨rfl, hm2, hr2⟩) hc2 h rfl
end Go.Proofs.Ytaglcnnanomekaa.QP
