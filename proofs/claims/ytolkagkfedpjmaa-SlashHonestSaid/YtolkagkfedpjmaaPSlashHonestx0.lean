-- PRINTED BY print.sh 35421559b90ae4d0a3588c463048766b98c2df88dd9212a6774a882060cdf62d: not written by this session
import Derived.Test.YtolkagkfedpjmaaProg
import Derived.Below
import Derived.Deep.Draws
import Derived.Deep.AppendLies
import Derived.Maps.AppendAt
import Derived.OwnWalk
import Derived.Laws.BytesArg
import Derived.Laws.MakeOwn
import Derived.Laws.OwnMore
import Derived.Deep.OwnRows
import Derived.Tactics
import Derived.Lib.ConvBytes
import Derived.Laws.Slices
import Derived.WalkKit
import Derived.KernelRfl
import Derived.RowKit3
import Derived.Deep.LoopGhost
import Derived.Deep.QuietTactic
import Derived.BigQuiet
import Derived.WideLaws
import Derived.Deep.DeepCutAuto
import Derived.Deep.CutBlock
import Derived.Deep.RegionHeld3
import Derived.Laws.Rows
import Derived.Lib.AppendStr
import Derived.ArgAppend
import Derived.Laws.IdiomCopy
import Derived.OrdersHeld
import Derived.Laws.BitsLemmas
import Derived.RowKit
import Derived.Test.YtolkagkfedpjmaaWWords
import Derived.Test.YtolkagkfedpjmaaWLast
import Derived.Test.YtolkagkfedpjmaaWTab
import Derived.Test.YtolkagkfedpjmaaWFour
import Derived.Test.YtolkagkfedpjmaaWQPut
import Derived.Test.YtolkagkfedpjmaaWApart
import Derived.Test.YtolkagkfedpjmaaWArr
import Derived.Test.YtolkagkfedpjmaaWZeros
import Derived.Test.YtolkagkfedpjmaaWFoot
import Derived.Test.YtolkagkfedpjmaaWKept
import Derived.Test.YtolkagkfedpjmaaWShare
import Derived.Test.YtolkagkfedpjmaaWN
import Derived.Test.YtolkagkfedpjmaaWFootNe
import Derived.Test.YtolkagkfedpjmaaWAt
import Derived.Test.YtolkagkfedpjmaaWEqStruct
import Derived.Test.YtolkagkfedpjmaaWRepsOne
import Derived.Test.YtolkagkfedpjmaaWInv
import Derived.Test.YtolkagkfedpjmaaWInvWords
import Derived.Test.YtolkagkfedpjmaaWGuard
import Derived.Test.YtolkagkfedpjmaaWNEv
import Derived.Test.YtolkagkfedpjmaaWMore
namespace Go.Proofs.Ytolkagkfedpjmaa.PSlashHonest
open Go.RowKit Go.Proofs.YtolkagkfedpjmaaW.PrintWords Go.Proofs.YtolkagkfedpjmaaW.PrintLast Go.Proofs.YtolkagkfedpjmaaW.PrintMore
attribute [local go_sem] max2_int min2_int max_two min_two max_three min_three max_four min_four   -- for this text's walks alone
set_option linter.unusedVariables false
set_option linter.unusedSimpArgs false



def errW : Option Int → Value
  | none => .nilIface
  | some c => .iface 0 (.int .i64 c)
theorem errW_none : errW none = .nilIface := rfl
theorem errW_some (c : Int) : errW (some c) = .iface 0 (.int .i64 c) := rfl

theorem info27 : (Try.prog.info? 27).map (fun i => (i.zero, i.size, i.bytes)) = some (some (.agg #[(.int .i64 0), (.int .u64 0), (.int .i64 0), (.int .u64 0), (.int .i64 0), (.int .u64 0), (.slice none 0 0)]), 7, 72) := by kernel_rfl
-- the values' own types
/-! #### struct type 24 -/
structure S24 where
  f0 : Int
  f1 : Int
def z24 : S24 := ⟨(0 : Int), (0 : Int)⟩
def k24 : Kd S24 := Kd.iso (Kd.pair (Kd.int .i64) (Kd.int .u64)) (fun x : S24 => (x.f0, x.f1))
theorem k24_open {w : World} {x : S24} {cs : List Value} (h : k24.K w x cs) : cs = [.int .i64 x.f0, .int .u64 x.f1] := by
  obtain ⟨_, _, rfl, rfl, rfl⟩ := h
  exact rfl
theorem k24_openM {w : World} {base : Nat} {ok : Nat → Prop} {x : S24} {cs : List Value} (h : k24.M w base ok x cs) : cs = [.int .i64 x.f0, .int .u64 x.f1] := by
  obtain ⟨_, _, rfl, rfl, rfl⟩ := h
  exact rfl
theorem k24_mk (w : World) (x : S24)  : k24.K w x [.int .i64 x.f0, .int .u64 x.f1] := ⟨[.int .i64 x.f0], [.int .u64 x.f1], rfl, rfl, rfl⟩
theorem k24_mkM (w : World) (base : Nat) (ok : Nat → Prop) (x : S24)  : k24.M w base ok x [.int .i64 x.f0, .int .u64 x.f1] := ⟨[.int .i64 x.f0], [.int .u64 x.f1], rfl, rfl, rfl⟩
def rd_T24 (xs : List S24) (i : Int) : S24 := xs.getD i.toNat z24
theorem at_T24 {w : World} {A : Option Addr} {n : Nat} {xs : List S24} (h : Kd.C k24 w A n xs) (i : Int) (h0 : 0 ≤ i) (h1 : i < n) : ∃ ad , A = some ad ∧ w.cell? (ad.add (i.toNat * 2)) = some (.int .i64 (rd_T24 xs i).f0) ∧ w.cell? ⟨(ad.add (i.toNat * 2)).block, (ad.add (i.toNat * 2)).off + 1, none⟩ = some (.int .u64 (rd_T24 xs i).f1) := by
  obtain ⟨ad, c, e, _, hK, hc0⟩ := Kd.C_get h z24 i h0 h1
  have hc : ∀ j u, c[j]? = some u → w.cell? (ad.add (i.toNat * 2 + j)) = some u := hc0
  obtain rfl := k24_open hK
  exact ⟨ad, e, hc 0 _ rfl, by rw [← add_field _ _ 1 (by omega)]; exact hc 1 _ rfl⟩

def rd_L3 (xs : List (List Int)) (i : Int) : (List Int) := xs.getD i.toNat ([] : List Int)
theorem at_L3 {w : World} {A : Option Addr} {n : Nat} {xs : List (List Int)} (h : Kd.C (Kd.slice 3 (Kd.int .i64)) w A n xs) (i : Int) (h0 : 0 ≤ i) (h1 : i < n) : ∃ ad A0 c0, A = some ad ∧ w.cell? (ad.add i.toNat) = some (.slice A0 (rd_L3 xs i).length c0) ∧ (rd_L3 xs i).length ≤ c0 ∧ (Kd.int .i64).C w A0 (rd_L3 xs i).length (rd_L3 xs i) := by
  obtain ⟨ad, c, e, _, hK, hc0⟩ := Kd.C_get h ([] : List Int) i h0 h1
  have hc : ∀ j u, c[j]? = some u → w.cell? (ad.add (i.toNat * 1 + j)) = some u := hc0
  obtain ⟨A0, c0, rfl, l0, g0⟩ := hK
  exact ⟨ad, A0, c0, e, by have hq := hc 0 _ rfl; rwa [Nat.mul_one, Nat.add_zero] at hq, l0, g0⟩

/-! #### struct type 27 -/
structure S27 where
  f0 : Int
  f1 : Int
  f2 : S24
  f3 : S24
  f4 : (List Int)
def z27 : S27 := ⟨(0 : Int), (0 : Int), z24, z24, ([] : List Int)⟩
def k27 : Kd S27 := Kd.iso (Kd.pair (Kd.int .i64) (Kd.pair (Kd.int .u64) (Kd.pair k24 (Kd.pair k24 (Kd.slice 3 (Kd.int .i64)))))) (fun x : S27 => (x.f0, x.f1, x.f2, x.f3, x.f4))
theorem k27_open {w : World} {x : S27} {cs : List Value} (h : k27.K w x cs) : ∃ A6 c6, cs = [.int .i64 x.f0, .int .u64 x.f1, .int .i64 x.f2.f0, .int .u64 x.f2.f1, .int .i64 x.f3.f0, .int .u64 x.f3.f1, .slice A6 x.f4.length c6] ∧ x.f4.length ≤ c6 ∧ (Kd.int .i64).C w A6 x.f4.length x.f4 := by
  obtain ⟨_, _, rfl, rfl, ⟨_, _, rfl, rfl, ⟨_, _, rfl, s2, ⟨_, _, rfl, s4, ⟨A6, c6, rfl, l6, g6⟩⟩⟩⟩⟩ := h
  obtain rfl := k24_open s2
  obtain rfl := k24_open s4
  exact ⟨A6, c6, rfl, l6, g6⟩
theorem k27_openM {w : World} {base : Nat} {ok : Nat → Prop} {x : S27} {cs : List Value} (h : k27.M w base ok x cs) : ∃ v6, cs = [.int .i64 x.f0, .int .u64 x.f1, .int .i64 x.f2.f0, .int .u64 x.f2.f1, .int .i64 x.f3.f0, .int .u64 x.f3.f1, v6] ∧ (Kd.int .i64).R 3 w base ok v6 x.f4 := by
  obtain ⟨_, _, rfl, rfl, ⟨_, _, rfl, rfl, ⟨_, _, rfl, s2, ⟨_, _, rfl, s4, ⟨v6, rfl, g6⟩⟩⟩⟩⟩ := h
  obtain rfl := k24_openM s2
  obtain rfl := k24_openM s4
  exact ⟨v6, rfl, g6⟩
theorem k27_mk (w : World) (x : S27) {A6 : Option Addr} {c6 : Nat} (l6 : x.f4.length ≤ c6) (g6 : (Kd.int .i64).C w A6 x.f4.length x.f4) : k27.K w x [.int .i64 x.f0, .int .u64 x.f1, .int .i64 x.f2.f0, .int .u64 x.f2.f1, .int .i64 x.f3.f0, .int .u64 x.f3.f1, .slice A6 x.f4.length c6] := ⟨[.int .i64 x.f0], [.int .u64 x.f1, .int .i64 x.f2.f0, .int .u64 x.f2.f1, .int .i64 x.f3.f0, .int .u64 x.f3.f1, .slice A6 x.f4.length c6], rfl, rfl, ⟨[.int .u64 x.f1], [.int .i64 x.f2.f0, .int .u64 x.f2.f1, .int .i64 x.f3.f0, .int .u64 x.f3.f1, .slice A6 x.f4.length c6], rfl, rfl, ⟨[.int .i64 x.f2.f0, .int .u64 x.f2.f1], [.int .i64 x.f3.f0, .int .u64 x.f3.f1, .slice A6 x.f4.length c6], rfl, (k24_mk w x.f2 ), ⟨[.int .i64 x.f3.f0, .int .u64 x.f3.f1], [.slice A6 x.f4.length c6], rfl, (k24_mk w x.f3 ), ⟨A6, c6, rfl, l6, g6⟩⟩⟩⟩⟩
theorem k27_mkM (w : World) (base : Nat) (ok : Nat → Prop) (x : S27) {v6 : Value} (g6 : (Kd.int .i64).R 3 w base ok v6 x.f4) : k27.M w base ok x [.int .i64 x.f0, .int .u64 x.f1, .int .i64 x.f2.f0, .int .u64 x.f2.f1, .int .i64 x.f3.f0, .int .u64 x.f3.f1, v6] := ⟨[.int .i64 x.f0], [.int .u64 x.f1, .int .i64 x.f2.f0, .int .u64 x.f2.f1, .int .i64 x.f3.f0, .int .u64 x.f3.f1, v6], rfl, rfl, ⟨[.int .u64 x.f1], [.int .i64 x.f2.f0, .int .u64 x.f2.f1, .int .i64 x.f3.f0, .int .u64 x.f3.f1, v6], rfl, rfl, ⟨[.int .i64 x.f2.f0, .int .u64 x.f2.f1], [.int .i64 x.f3.f0, .int .u64 x.f3.f1, v6], rfl, (k24_mkM w base ok x.f2 ), ⟨[.int .i64 x.f3.f0, .int .u64 x.f3.f1], [v6], rfl, (k24_mkM w base ok x.f3 ), ⟨v6, rfl, g6⟩⟩⟩⟩⟩
def rd_T27 (xs : List S27) (i : Int) : S27 := xs.getD i.toNat z27
theorem at_T27 {w : World} {A : Option Addr} {n : Nat} {xs : List S27} (h : Kd.C k27 w A n xs) (i : Int) (h0 : 0 ≤ i) (h1 : i < n) : ∃ ad A6 c6, A = some ad ∧ w.cell? (ad.add (i.toNat * 7)) = some (.int .i64 (rd_T27 xs i).f0) ∧ w.cell? ⟨(ad.add (i.toNat * 7)).block, (ad.add (i.toNat * 7)).off + 1, none⟩ = some (.int .u64 (rd_T27 xs i).f1) ∧ w.cell? ⟨(ad.add (i.toNat * 7)).block, (ad.add (i.toNat * 7)).off + 2, none⟩ = some (.int .i64 (rd_T27 xs i).f2.f0) ∧ w.cell? ⟨(ad.add (i.toNat * 7)).block, (ad.add (i.toNat * 7)).off + 3, none⟩ = some (.int .u64 (rd_T27 xs i).f2.f1) ∧ w.cell? ⟨(ad.add (i.toNat * 7)).block, (ad.add (i.toNat * 7)).off + 4, none⟩ = some (.int .i64 (rd_T27 xs i).f3.f0) ∧ w.cell? ⟨(ad.add (i.toNat * 7)).block, (ad.add (i.toNat * 7)).off + 5, none⟩ = some (.int .u64 (rd_T27 xs i).f3.f1) ∧ w.cell? ⟨(ad.add (i.toNat * 7)).block, (ad.add (i.toNat * 7)).off + 6, none⟩ = some (.slice A6 (rd_T27 xs i).f4.length c6) ∧ (rd_T27 xs i).f4.length ≤ c6 ∧ (Kd.int .i64).C w A6 (rd_T27 xs i).f4.length (rd_T27 xs i).f4 := by
  obtain ⟨ad, c, e, _, hK, hc0⟩ := Kd.C_get h z27 i h0 h1
  have hc : ∀ j u, c[j]? = some u → w.cell? (ad.add (i.toNat * 7 + j)) = some u := hc0
  obtain ⟨A6, c6, rfl, l6, g6⟩ := k27_open hK
  exact ⟨ad, A6, c6, e, hc 0 _ rfl, by rw [← add_field _ _ 1 (by omega)]; exact hc 1 _ rfl, by rw [← add_field _ _ 2 (by omega)]; exact hc 2 _ rfl, by rw [← add_field _ _ 3 (by omega)]; exact hc 3 _ rfl, by rw [← add_field _ _ 4 (by omega)]; exact hc 4 _ rfl, by rw [← add_field _ _ 5 (by omega)]; exact hc 5 _ rfl, by rw [← add_field _ _ 6 (by omega)]; exact hc 6 _ rfl, l6, g6⟩

end Go.Proofs.Ytolkagkfedpjmaa.PSlashHonest
