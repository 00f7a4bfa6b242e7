-- Laid by this work's own turn of the print (gprint.py); not the print's own text.
import Derived.Test.YtegegnpjdpjgmaaQVx0
import Derived.Test.YtegegnpjdpjgmaaQVx3
import Derived.Test.YtegegnpjdpjgmaaQVx9
import Derived.Test.YtegegnpjdpjgmaaQVx10
import Derived.Test.YtegegnpjdpjgmaaQVx14
import Derived.Test.YtegegnpjdpjgmaaQVx16
import Derived.Test.YtegegnpjdpjgmaaQVx18
namespace Go.Proofs.Ytegegnpjdpjgmaa.QV
open Go.RowKit Go.Proofs.YtegegnpjdpjgmaaW.PrintWords Go.Proofs.YtegegnpjdpjgmaaW.PrintLast Go.Proofs.YtegegnpjdpjgmaaW.PrintMore
attribute [local go_sem] max2_int min2_int max_two min_two max_three min_three max_four min_four   -- for this text's walks alone
set_option linter.unusedVariables false
set_option linter.unusedSimpArgs false

/-! ### psephoslaw05_VoteFewer: function 8 -/
def psephoslaw05_VoteFewer.f (k : Nat) (l0_0 : List Int) (a0_1 : Int) (a0_2 : Int) (a1_0 : Int) (a1_1 : Int) (a1_2 : Int) (a1_3 : Int) (a1_4 : Int) (a1_5 : Int) (l1_6 : List Int) (a2 : Int) : Option (Bool) := (psephoslaw05_awake.f k).bind fun t233 => (if t233 = true then ((psephoslaw03_Make.f k l0_0 a0_1 a0_2).bind fun bt234 => ((psephoslaw05_Make.f k bt234.1 bt234.2.1 bt234.2.2 a1_0 a1_1 a1_2 a1_3 a1_4 a1_5 l1_6).bind fun bt240 => (if (bt240.2.2.2.2.2.2.length : Int) = 0 then (none) else (if 0 ≤ (Int.tmod (wrap64 (a2)) (bt240.2.2.2.2.2.2.length : Int)) then (if (Int.tmod (wrap64 (a2)) (bt240.2.2.2.2.2.2.length : Int)) ≤ (bt240.2.2.2.2.2.2.length : Int) then ((some (bt240.2.2.2.2.2.2.take ((Int.tmod (wrap64 (a2)) (bt240.2.2.2.2.2.2.length : Int)) : Int).toNat : List Int)).bind fun y251 => (if ([] : List Int).length + y251.length < 17592186044416 then ((some (([] : List Int) ++ y251 : List Int)).bind fun y255 => (if 0 ≤ (wrap64 ((Int.tmod (wrap64 (a2)) (bt240.2.2.2.2.2.2.length : Int)) + 1)) then (if (wrap64 ((Int.tmod (wrap64 (a2)) (bt240.2.2.2.2.2.2.length : Int)) + 1)) ≤ (bt240.2.2.2.2.2.2.length : Int) then ((some (bt240.2.2.2.2.2.2.drop ((wrap64 ((Int.tmod (wrap64 (a2)) (bt240.2.2.2.2.2.2.length : Int)) + 1)) : Int).toNat : List Int)).bind fun y258 => (if y255.length + y258.length < 17592186044416 then ((some (y255 ++ y258 : List Int)).bind fun y262 => ((vote_Right.f k bt234.1 bt234.2.1 bt234.2.2 bt240.1 bt240.2.1 bt240.2.2.1 bt240.2.2.2.1 bt240.2.2.2.2.1 bt240.2.2.2.2.2.1 bt240.2.2.2.2.2.2).bind fun t265 => (if t265 = true then ((vote_Right.f k bt234.1 bt234.2.1 bt234.2.2 bt240.1 bt240.2.1 bt240.2.2.1 bt240.2.2.2.1 bt240.2.2.2.2.1 bt240.2.2.2.2.2.1 y262).bind fun t266 => (if (t266 == (decide ((y262.length : Int) > 0))) = true then ((vote_Same.f bt240.1 bt240.2.1 bt240.2.2.1 bt240.2.2.2.1 bt240.2.2.2.2.1 bt240.2.2.2.2.2.1 bt240.2.2.2.2.2.2 bt240.1 bt240.2.1 bt240.2.2.1 bt240.2.2.2.1 bt240.2.2.2.2.1 bt240.2.2.2.2.2.1 y262).bind fun t267 => (if t267 = true then ((vote_Both.f k bt240.1 bt240.2.1 bt240.2.2.1 bt240.2.2.2.1 bt240.2.2.2.2.1 bt240.2.2.2.2.2.1 bt240.2.2.2.2.2.2 bt240.1 bt240.2.1 bt240.2.2.1 bt240.2.2.2.1 bt240.2.2.2.2.1 bt240.2.2.2.2.2.1 y262).bind fun t268 => (some ((t268.length : Int) == (y262.length : Int)))) else (some false))) else (some false))) else (some false)))) else (none))) else (none)) else (none))) else (none))) else (none)) else (none))))) else (some false))
theorem psephoslaw05_VoteFewer.mono : ∀ a0 a1 a2 a3 a4 a5 a6 a7 a8 a9 a10 k, LeO (psephoslaw05_VoteFewer.f k a0 a1 a2 a3 a4 a5 a6 a7 a8 a9 a10) (psephoslaw05_VoteFewer.f (k + 1) a0 a1 a2 a3 a4 a5 a6 a7 a8 a9 a10) := by
  intro a0 a1 a2 a3 a4 a5 a6 a7 a8 a9 a10 k
  unfold psephoslaw05_VoteFewer.f
  repeat' first
      | (with_reducible exact psephoslaw03_Make.mono _ _ _ _)
      | (with_reducible exact psephoslaw05_Make.mono _ _ _ _ _ _ _ _ _ _ _)
      | (with_reducible exact psephoslaw05_awake.mono _)
      | (with_reducible exact vote_Both.mono _ _ _ _ _ _ _ _ _ _ _ _ _ _ _)
      | (with_reducible exact vote_Right.mono _ _ _ _ _ _ _ _ _ _ _)
      | (with_reducible exact LeO.refl _)
      | (with_reducible exact LeO.none _)
      | (with_reducible refine LeO.ite ?_ ?_)
      | (with_reducible refine LeO.bind ?_ (fun _ => ?_))
      | exact psephoslaw03_Make.mono _ _ _ _
      | exact psephoslaw05_Make.mono _ _ _ _ _ _ _ _ _ _ _
      | exact psephoslaw05_awake.mono _
      | exact vote_Both.mono _ _ _ _ _ _ _ _ _ _ _ _ _ _ _
      | exact vote_Right.mono _ _ _ _ _ _ _ _ _ _ _
      | exact LeO.none _
      | refine LeO.ite ?_ ?_
      | refine LeO.bind ?_ (fun _ => ?_)
def psephoslaw05_VoteFewer.T7 : Bool × List (List Nat × List Nat) := (true, [([], []), ([0], [0]), ([], []), ([1, 2], [1, 2]), ([3], [3]), ([], []), ([5], [5]), ([], []), ([7], [7]), ([6, 8], [6, 8]), ([4, 9, 4], [4, 9]), ([0, 1, 2, 3, 4, 5, 6, 7, 8, 9, 10], []), ([11, 10, 10, 0, 1, 2, 3, 4, 5, 6, 7, 8, 9, 10], [10, 11])])
def psephoslaw05_VoteFewer.B7 : List Nat := [0, 1, 0, 7, 15, 0, 32, 0, 128, 480, 1023, 2047, 4095]
theorem psephoslaw05_VoteFewer.tab7 : rtab .any (opsOf Try.f8 7) = psephoslaw05_VoteFewer.T7 := by kernel_rfl
theorem psephoslaw05_VoteFewer.bits7 : waitsOk psephoslaw05_VoteFewer.T7.2 psephoslaw05_VoteFewer.B7 = true := by kernel_rfl
def psephoslaw05_VoteFewer.T8 : Bool × List (List Nat × List Nat) := (true, [([], []), ([], []), ([0, 1], [0, 1]), ([2, 2], [2]), ([3], [3]), ([3], [3]), ([4, 5, 3, 3], [3, 4, 5]), ([3], [3]), ([7, 3], [3, 7]), ([8, 3], [3, 8]), ([9, 3], [3, 9]), ([6, 10, 3], [3, 6, 10]), ([3, 11], [3, 11]), ([12, 6], [12]), ([13], [13]), ([13], [13]), ([14, 15, 13, 13], [13, 14, 15]), ([13, 16], [13, 16]), ([17, 16], [17]), ([18], [18]), ([18], [18]), ([19, 20, 18, 18], [18, 19, 20]), ([21, 18], [18, 21]), ([18], [18]), ([23, 18], [18, 23]), ([24, 18], [18, 24]), ([22, 25, 18], [18, 22, 25]), ([18, 26], [18, 26]), ([27, 21, 0, 1, 2, 3, 4, 5, 6, 7, 8, 9, 10, 11, 12, 13, 14, 15, 16, 17, 18, 19, 20, 21, 22, 23, 24, 25, 26, 27], [27])])
def psephoslaw05_VoteFewer.B8 : List Nat := [0, 0, 3, 7, 15, 15, 63, 15, 143, 399, 911, 2047, 4095, 8191, 16383, 16383, 65535, 131071, 262143, 524287, 524287, 2097151, 4194303, 524287, 8912895, 25690111, 67108863, 134217727, 268435455]
theorem psephoslaw05_VoteFewer.tab8 : rtab .any (opsOf Try.f8 8) = psephoslaw05_VoteFewer.T8 := by kernel_rfl
theorem psephoslaw05_VoteFewer.bits8 : waitsOk psephoslaw05_VoteFewer.T8.2 psephoslaw05_VoteFewer.B8 = true := by kernel_rfl
set_option maxHeartbeats 8000000 in
set_option maxRecDepth 100000 in
theorem psephoslaw05_VoteFewer.calls (k : Nat) (A0_0 : Option Addr) (c0_0 : Nat) (l0_0 : List Int) (a0_1 : Int) (a0_2 : Int) (a1_0 : Int) (a1_1 : Int) (a1_2 : Int) (a1_3 : Int) (a1_4 : Int) (a1_5 : Int) (A1_6 : Option Addr) (c1_6 : Nat) (l1_6 : List Int) (a2 : Int) (r : Bool) (w : World) (hr0_0 : Kd.C (Kd.int .u64) w A0_0 l0_0.length l0_0) (hc0_0 : l0_0.length ≤ c0_0) (hr1_6 : Kd.C (Kd.int .i64) w A1_6 l1_6.length l1_6) (hc1_6 : l1_6.length ≤ c1_6) (h : psephoslaw05_VoteFewer.f k l0_0 a0_1 a0_2 a1_0 a1_1 a1_2 a1_3 a1_4 a1_5 l1_6 a2 = some r) (hr_ : r = true) :
    Calls Try.prog 8 #[.agg #[.slice A0_0 l0_0.length c0_0, .int .i64 a0_1, .int .i64 a0_2], .agg #[.int .i64 a1_0, .int .u64 a1_1, .int .i64 a1_2, .int .u64 a1_3, .int .i64 a1_4, .int .u64 a1_5, .slice A1_6 l1_6.length c1_6], .int .u8 a2] w fun e w' => e = .returned (.bool r) ∧ Below w.heap.size w w' := by
  have hu24 := Try.underlying24
  have hu30 := Try.underlying30
  have HR0_0 := Aside0.mk hr0_0
  have HC0_0 := Aside0.mk hc0_0
  clear hr0_0 hc0_0
  have HR1_6 := Aside0.mk hr1_6
  have HC1_6 := Aside0.mk hc1_6
  clear hr1_6 hc1_6
  have HB := Aside0.mk (Below.refl w.heap.size w)
  have H : ((psephoslaw05_awake.f k).bind fun t233 => (if t233 = true then ((psephoslaw03_Make.f k l0_0 a0_1 a0_2).bind fun bt234 => ((psephoslaw05_Make.f k bt234.1 bt234.2.1 bt234.2.2 a1_0 a1_1 a1_2 a1_3 a1_4 a1_5 l1_6).bind fun bt240 => (if (bt240.2.2.2.2.2.2.length : Int) = 0 then (none) else (if 0 ≤ (Int.tmod (wrap64 (a2)) (bt240.2.2.2.2.2.2.length : Int)) then (if (Int.tmod (wrap64 (a2)) (bt240.2.2.2.2.2.2.length : Int)) ≤ (bt240.2.2.2.2.2.2.length : Int) then ((some (bt240.2.2.2.2.2.2.take ((Int.tmod (wrap64 (a2)) (bt240.2.2.2.2.2.2.length : Int)) : Int).toNat : List Int)).bind fun y251 => (if ([] : List Int).length + y251.length < 17592186044416 then ((some (([] : List Int) ++ y251 : List Int)).bind fun y255 => (if 0 ≤ (wrap64 ((Int.tmod (wrap64 (a2)) (bt240.2.2.2.2.2.2.length : Int)) + 1)) then (if (wrap64 ((Int.tmod (wrap64 (a2)) (bt240.2.2.2.2.2.2.length : Int)) + 1)) ≤ (bt240.2.2.2.2.2.2.length : Int) then ((some (bt240.2.2.2.2.2.2.drop ((wrap64 ((Int.tmod (wrap64 (a2)) (bt240.2.2.2.2.2.2.length : Int)) + 1)) : Int).toNat : List Int)).bind fun y258 => (if y255.length + y258.length < 17592186044416 then ((some (y255 ++ y258 : List Int)).bind fun y262 => ((vote_Right.f k bt234.1 bt234.2.1 bt234.2.2 bt240.1 bt240.2.1 bt240.2.2.1 bt240.2.2.2.1 bt240.2.2.2.2.1 bt240.2.2.2.2.2.1 bt240.2.2.2.2.2.2).bind fun t265 => (if t265 = true then ((vote_Right.f k bt234.1 bt234.2.1 bt234.2.2 bt240.1 bt240.2.1 bt240.2.2.1 bt240.2.2.2.1 bt240.2.2.2.2.1 bt240.2.2.2.2.2.1 y262).bind fun t266 => (if (t266 == (decide ((y262.length : Int) > 0))) = true then ((vote_Same.f bt240.1 bt240.2.1 bt240.2.2.1 bt240.2.2.2.1 bt240.2.2.2.2.1 bt240.2.2.2.2.2.1 bt240.2.2.2.2.2.2 bt240.1 bt240.2.1 bt240.2.2.1 bt240.2.2.2.1 bt240.2.2.2.2.1 bt240.2.2.2.2.2.1 y262).bind fun t267 => (if t267 = true then ((vote_Both.f k bt240.1 bt240.2.1 bt240.2.2.1 bt240.2.2.2.1 bt240.2.2.2.2.1 bt240.2.2.2.2.2.1 bt240.2.2.2.2.2.2 bt240.1 bt240.2.1 bt240.2.2.1 bt240.2.2.2.1 bt240.2.2.2.2.1 bt240.2.2.2.2.2.1 y262).bind fun t268 => (some ((t268.length : Int) == (y262.length : Int)))) else (some false))) else (some false))) else (some false)))) else (none))) else (none)) else (none))) else (none))) else (none)) else (none))))) else (some false))) = some r := h
  clear h
  replace H := Option.bind_eq_some_iff.mp H
  obtain ⟨t233, A40, H⟩ := H
  replace H : (if t233 = true then ((psephoslaw03_Make.f k l0_0 a0_1 a0_2).bind fun bt234 => ((psephoslaw05_Make.f k bt234.1 bt234.2.1 bt234.2.2 a1_0 a1_1 a1_2 a1_3 a1_4 a1_5 l1_6).bind fun bt240 => (if (bt240.2.2.2.2.2.2.length : Int) = 0 then (none) else (if 0 ≤ (Int.tmod (wrap64 (a2)) (bt240.2.2.2.2.2.2.length : Int)) then (if (Int.tmod (wrap64 (a2)) (bt240.2.2.2.2.2.2.length : Int)) ≤ (bt240.2.2.2.2.2.2.length : Int) then ((some (bt240.2.2.2.2.2.2.take ((Int.tmod (wrap64 (a2)) (bt240.2.2.2.2.2.2.length : Int)) : Int).toNat : List Int)).bind fun y251 => (if ([] : List Int).length + y251.length < 17592186044416 then ((some (([] : List Int) ++ y251 : List Int)).bind fun y255 => (if 0 ≤ (wrap64 ((Int.tmod (wrap64 (a2)) (bt240.2.2.2.2.2.2.length : Int)) + 1)) then (if (wrap64 ((Int.tmod (wrap64 (a2)) (bt240.2.2.2.2.2.2.length : Int)) + 1)) ≤ (bt240.2.2.2.2.2.2.length : Int) then ((some (bt240.2.2.2.2.2.2.drop ((wrap64 ((Int.tmod (wrap64 (a2)) (bt240.2.2.2.2.2.2.length : Int)) + 1)) : Int).toNat : List Int)).bind fun y258 => (if y255.length + y258.length < 17592186044416 then ((some (y255 ++ y258 : List Int)).bind fun y262 => ((vote_Right.f k bt234.1 bt234.2.1 bt234.2.2 bt240.1 bt240.2.1 bt240.2.2.1 bt240.2.2.2.1 bt240.2.2.2.2.1 bt240.2.2.2.2.2.1 bt240.2.2.2.2.2.2).bind fun t265 => (if t265 = true then ((vote_Right.f k bt234.1 bt234.2.1 bt234.2.2 bt240.1 bt240.2.1 bt240.2.2.1 bt240.2.2.2.1 bt240.2.2.2.2.1 bt240.2.2.2.2.2.1 y262).bind fun t266 => (if (t266 == (decide ((y262.length : Int) > 0))) = true then ((vote_Same.f bt240.1 bt240.2.1 bt240.2.2.1 bt240.2.2.2.1 bt240.2.2.2.2.1 bt240.2.2.2.2.2.1 bt240.2.2.2.2.2.2 bt240.1 bt240.2.1 bt240.2.2.1 bt240.2.2.2.1 bt240.2.2.2.2.1 bt240.2.2.2.2.2.1 y262).bind fun t267 => (if t267 = true then ((vote_Both.f k bt240.1 bt240.2.1 bt240.2.2.1 bt240.2.2.2.1 bt240.2.2.2.2.1 bt240.2.2.2.2.2.1 bt240.2.2.2.2.2.2 bt240.1 bt240.2.1 bt240.2.2.1 bt240.2.2.2.1 bt240.2.2.2.2.1 bt240.2.2.2.2.2.1 y262).bind fun t268 => (some ((t268.length : Int) == (y262.length : Int)))) else (some false))) else (some false))) else (some false)))) else (none))) else (none)) else (none))) else (none))) else (none)) else (none))))) else (some false)) = some r := H
  have A4 := Aside0.mk A40
  clear A40
  by_cases c5 : t233 = true
  · subst c5
    have H1 : ((psephoslaw03_Make.f k l0_0 a0_1 a0_2).bind fun bt234 => ((psephoslaw05_Make.f k bt234.1 bt234.2.1 bt234.2.2 a1_0 a1_1 a1_2 a1_3 a1_4 a1_5 l1_6).bind fun bt240 => (if (bt240.2.2.2.2.2.2.length : Int) = 0 then (none) else (if 0 ≤ (Int.tmod (wrap64 (a2)) (bt240.2.2.2.2.2.2.length : Int)) then (if (Int.tmod (wrap64 (a2)) (bt240.2.2.2.2.2.2.length : Int)) ≤ (bt240.2.2.2.2.2.2.length : Int) then ((some (bt240.2.2.2.2.2.2.take ((Int.tmod (wrap64 (a2)) (bt240.2.2.2.2.2.2.length : Int)) : Int).toNat : List Int)).bind fun y251 => (if ([] : List Int).length + y251.length < 17592186044416 then ((some (([] : List Int) ++ y251 : List Int)).bind fun y255 => (if 0 ≤ (wrap64 ((Int.tmod (wrap64 (a2)) (bt240.2.2.2.2.2.2.length : Int)) + 1)) then (if (wrap64 ((Int.tmod (wrap64 (a2)) (bt240.2.2.2.2.2.2.length : Int)) + 1)) ≤ (bt240.2.2.2.2.2.2.length : Int) then ((some (bt240.2.2.2.2.2.2.drop ((wrap64 ((Int.tmod (wrap64 (a2)) (bt240.2.2.2.2.2.2.length : Int)) + 1)) : Int).toNat : List Int)).bind fun y258 => (if y255.length + y258.length < 17592186044416 then ((some (y255 ++ y258 : List Int)).bind fun y262 => ((vote_Right.f k bt234.1 bt234.2.1 bt234.2.2 bt240.1 bt240.2.1 bt240.2.2.1 bt240.2.2.2.1 bt240.2.2.2.2.1 bt240.2.2.2.2.2.1 bt240.2.2.2.2.2.2).bind fun t265 => (if t265 = true then ((vote_Right.f k bt234.1 bt234.2.1 bt234.2.2 bt240.1 bt240.2.1 bt240.2.2.1 bt240.2.2.2.1 bt240.2.2.2.2.1 bt240.2.2.2.2.2.1 y262).bind fun t266 => (if (t266 == (decide ((y262.length : Int) > 0))) = true then ((vote_Same.f bt240.1 bt240.2.1 bt240.2.2.1 bt240.2.2.2.1 bt240.2.2.2.2.1 bt240.2.2.2.2.2.1 bt240.2.2.2.2.2.2 bt240.1 bt240.2.1 bt240.2.2.1 bt240.2.2.2.1 bt240.2.2.2.2.1 bt240.2.2.2.2.2.1 y262).bind fun t267 => (if t267 = true then ((vote_Both.f k bt240.1 bt240.2.1 bt240.2.2.1 bt240.2.2.2.1 bt240.2.2.2.2.1 bt240.2.2.2.2.2.1 bt240.2.2.2.2.2.2 bt240.1 bt240.2.1 bt240.2.2.1 bt240.2.2.2.1 bt240.2.2.2.2.1 bt240.2.2.2.2.2.1 y262).bind fun t268 => (some ((t268.length : Int) == (y262.length : Int)))) else (some false))) else (some false))) else (some false)))) else (none))) else (none)) else (none))) else (none))) else (none)) else (none))))) = some r := by rw [if_pos rfl] at H; exact H
    clear H
    have H := H1
    clear H1
    replace H := Option.bind_eq_some_iff.mp H
    obtain ⟨⟨t234, t237, t238⟩, A60, H⟩ := H
    replace H : ((psephoslaw05_Make.f k t234 t237 t238 a1_0 a1_1 a1_2 a1_3 a1_4 a1_5 l1_6).bind fun bt240 => (if (bt240.2.2.2.2.2.2.length : Int) = 0 then (none) else (if 0 ≤ (Int.tmod (wrap64 (a2)) (bt240.2.2.2.2.2.2.length : Int)) then (if (Int.tmod (wrap64 (a2)) (bt240.2.2.2.2.2.2.length : Int)) ≤ (bt240.2.2.2.2.2.2.length : Int) then ((some (bt240.2.2.2.2.2.2.take ((Int.tmod (wrap64 (a2)) (bt240.2.2.2.2.2.2.length : Int)) : Int).toNat : List Int)).bind fun y251 => (if ([] : List Int).length + y251.length < 17592186044416 then ((some (([] : List Int) ++ y251 : List Int)).bind fun y255 => (if 0 ≤ (wrap64 ((Int.tmod (wrap64 (a2)) (bt240.2.2.2.2.2.2.length : Int)) + 1)) then (if (wrap64 ((Int.tmod (wrap64 (a2)) (bt240.2.2.2.2.2.2.length : Int)) + 1)) ≤ (bt240.2.2.2.2.2.2.length : Int) then ((some (bt240.2.2.2.2.2.2.drop ((wrap64 ((Int.tmod (wrap64 (a2)) (bt240.2.2.2.2.2.2.length : Int)) + 1)) : Int).toNat : List Int)).bind fun y258 => (if y255.length + y258.length < 17592186044416 then ((some (y255 ++ y258 : List Int)).bind fun y262 => ((vote_Right.f k t234 t237 t238 bt240.1 bt240.2.1 bt240.2.2.1 bt240.2.2.2.1 bt240.2.2.2.2.1 bt240.2.2.2.2.2.1 bt240.2.2.2.2.2.2).bind fun t265 => (if t265 = true then ((vote_Right.f k t234 t237 t238 bt240.1 bt240.2.1 bt240.2.2.1 bt240.2.2.2.1 bt240.2.2.2.2.1 bt240.2.2.2.2.2.1 y262).bind fun t266 => (if (t266 == (decide ((y262.length : Int) > 0))) = true then ((vote_Same.f bt240.1 bt240.2.1 bt240.2.2.1 bt240.2.2.2.1 bt240.2.2.2.2.1 bt240.2.2.2.2.2.1 bt240.2.2.2.2.2.2 bt240.1 bt240.2.1 bt240.2.2.1 bt240.2.2.2.1 bt240.2.2.2.2.1 bt240.2.2.2.2.2.1 y262).bind fun t267 => (if t267 = true then ((vote_Both.f k bt240.1 bt240.2.1 bt240.2.2.1 bt240.2.2.2.1 bt240.2.2.2.2.1 bt240.2.2.2.2.2.1 bt240.2.2.2.2.2.2 bt240.1 bt240.2.1 bt240.2.2.1 bt240.2.2.2.1 bt240.2.2.2.2.1 bt240.2.2.2.2.2.1 y262).bind fun t268 => (some ((t268.length : Int) == (y262.length : Int)))) else (some false))) else (some false))) else (some false)))) else (none))) else (none)) else (none))) else (none))) else (none)) else (none)))) = some r := H
    have A6 := Aside0.mk A60
    clear A60
    replace H := Option.bind_eq_some_iff.mp H
    obtain ⟨⟨t240, t241, t242, t243, t244, t245, t246⟩, A70, H⟩ := H
    replace H : (if (t246.length : Int) = 0 then (none) else (if 0 ≤ (Int.tmod (wrap64 (a2)) (t246.length : Int)) then (if (Int.tmod (wrap64 (a2)) (t246.length : Int)) ≤ (t246.length : Int) then ((some (t246.take ((Int.tmod (wrap64 (a2)) (t246.length : Int)) : Int).toNat : List Int)).bind fun y251 => (if ([] : List Int).length + y251.length < 17592186044416 then ((some (([] : List Int) ++ y251 : List Int)).bind fun y255 => (if 0 ≤ (wrap64 ((Int.tmod (wrap64 (a2)) (t246.length : Int)) + 1)) then (if (wrap64 ((Int.tmod (wrap64 (a2)) (t246.length : Int)) + 1)) ≤ (t246.length : Int) then ((some (t246.drop ((wrap64 ((Int.tmod (wrap64 (a2)) (t246.length : Int)) + 1)) : Int).toNat : List Int)).bind fun y258 => (if y255.length + y258.length < 17592186044416 then ((some (y255 ++ y258 : List Int)).bind fun y262 => ((vote_Right.f k t234 t237 t238 t240 t241 t242 t243 t244 t245 t246).bind fun t265 => (if t265 = true then ((vote_Right.f k t234 t237 t238 t240 t241 t242 t243 t244 t245 y262).bind fun t266 => (if (t266 == (decide ((y262.length : Int) > 0))) = true then ((vote_Same.f t240 t241 t242 t243 t244 t245 t246 t240 t241 t242 t243 t244 t245 y262).bind fun t267 => (if t267 = true then ((vote_Both.f k t240 t241 t242 t243 t244 t245 t246 t240 t241 t242 t243 t244 t245 y262).bind fun t268 => (some ((t268.length : Int) == (y262.length : Int)))) else (some false))) else (some false))) else (some false)))) else (none))) else (none)) else (none))) else (none))) else (none)) else (none))) = some r := H
    have A7 := Aside0.mk A70
    clear A70
    by_cases c8 : (t246.length : Int) = 0
    · rw [if_pos c8] at H
      exact absurd H (by simp)
    · rw [if_neg c8] at H
      have c8b0 : ((t246.length : Int) == 0) = false := beq_eq_false_iff_ne.mpr c8
      have c8b1 : ((t246.length : Int) != 0) = true := bne_iff_ne.mpr c8
      have c8b2 : ¬ (t246 = []) := fun h_ => c8 (by rw [h_]; rfl)
      obtain ⟨ji9, hji9⟩ : ∃ j_ : Int, (Int.tmod (wrap64 (a2)) (t246.length : Int)) = j_ := ⟨_, rfl⟩
      replace H : (if 0 ≤ (ji9) then (if (ji9) ≤ (t246.length : Int) then ((some (t246.take ((ji9) : Int).toNat : List Int)).bind fun y251 => (if ([] : List Int).length + y251.length < 17592186044416 then ((some (([] : List Int) ++ y251 : List Int)).bind fun y255 => (if 0 ≤ (wrap64 ((ji9) + 1)) then (if (wrap64 ((ji9) + 1)) ≤ (t246.length : Int) then ((some (t246.drop ((wrap64 ((ji9) + 1)) : Int).toNat : List Int)).bind fun y258 => (if y255.length + y258.length < 17592186044416 then ((some (y255 ++ y258 : List Int)).bind fun y262 => ((vote_Right.f k t234 t237 t238 t240 t241 t242 t243 t244 t245 t246).bind fun t265 => (if t265 = true then ((vote_Right.f k t234 t237 t238 t240 t241 t242 t243 t244 t245 y262).bind fun t266 => (if (t266 == (decide ((y262.length : Int) > 0))) = true then ((vote_Same.f t240 t241 t242 t243 t244 t245 t246 t240 t241 t242 t243 t244 t245 y262).bind fun t267 => (if t267 = true then ((vote_Both.f k t240 t241 t242 t243 t244 t245 t246 t240 t241 t242 t243 t244 t245 y262).bind fun t268 => (some ((t268.length : Int) == (y262.length : Int)))) else (some false))) else (some false))) else (some false)))) else (none))) else (none)) else (none))) else (none))) else (none)) else (none)) = some r := by first | (rw [hji9] at H; exact H) | (simp only [hji9] at H ⊢; exact H)
      (try rw [hji9] at A4)
      (try rw [hji9] at A6)
      (try rw [hji9] at A7)
      by_cases c10 : 0 ≤ (ji9)
      · rw [if_pos c10] at H
        have c10b0 := eq_true c10
        have c10b1 : decide (0 ≤ (ji9)) = true := decide_eq_true c10
        clear c10
        by_cases c11 : (ji9) ≤ (t246.length : Int)
        · rw [if_pos c11] at H
          have c11b0 := eq_true c11
          have c11b1 : decide ((ji9) ≤ (t246.length : Int)) = true := decide_eq_true c11
          clear c11
          obtain ⟨y251, hy251⟩ : ∃ y_ : List Int, y_ = (t246.take ((ji9) : Int).toNat) := ⟨_, rfl⟩
          replace H : (if ([] : List Int).length + y251.length < 17592186044416 then ((some (([] : List Int) ++ y251 : List Int)).bind fun y255 => (if 0 ≤ (wrap64 ((ji9) + 1)) then (if (wrap64 ((ji9) + 1)) ≤ (t246.length : Int) then ((some (t246.drop ((wrap64 ((ji9) + 1)) : Int).toNat : List Int)).bind fun y258 => (if y255.length + y258.length < 17592186044416 then ((some (y255 ++ y258 : List Int)).bind fun y262 => ((vote_Right.f k t234 t237 t238 t240 t241 t242 t243 t244 t245 t246).bind fun t265 => (if t265 = true then ((vote_Right.f k t234 t237 t238 t240 t241 t242 t243 t244 t245 y262).bind fun t266 => (if (t266 == (decide ((y262.length : Int) > 0))) = true then ((vote_Same.f t240 t241 t242 t243 t244 t245 t246 t240 t241 t242 t243 t244 t245 y262).bind fun t267 => (if t267 = true then ((vote_Both.f k t240 t241 t242 t243 t244 t245 t246 t240 t241 t242 t243 t244 t245 y262).bind fun t268 => (some ((t268.length : Int) == (y262.length : Int)))) else (some false))) else (some false))) else (some false)))) else (none))) else (none)) else (none))) else (none)) = some r := by first | (rw [hy251]; with_reducible exact H) | (have H2_ := (Option.bind_some _ _).symm.trans H; rw [hy251]; with_reducible exact H2_) | (have H2_ := (Option.bind_some _ _).symm.trans H; with_reducible exact H2_) | with_reducible exact H | (rw [hy251]; exact H) | exact H
          have Ny251 := Aside0.mk hy251
          clear hy251
          by_cases c12 : ([] : List Int).length + y251.length < 17592186044416
          · rw [if_pos c12] at H
            have LMc12 := Aside0.mk c12
            clear c12
            obtain ⟨y255, hy255⟩ : ∃ y_ : List Int, y_ = (([] : List Int) ++ y251) := ⟨_, rfl⟩
            replace H : (if 0 ≤ (wrap64 ((ji9) + 1)) then (if (wrap64 ((ji9) + 1)) ≤ (t246.length : Int) then ((some (t246.drop ((wrap64 ((ji9) + 1)) : Int).toNat : List Int)).bind fun y258 => (if y255.length + y258.length < 17592186044416 then ((some (y255 ++ y258 : List Int)).bind fun y262 => ((vote_Right.f k t234 t237 t238 t240 t241 t242 t243 t244 t245 t246).bind fun t265 => (if t265 = true then ((vote_Right.f k t234 t237 t238 t240 t241 t242 t243 t244 t245 y262).bind fun t266 => (if (t266 == (decide ((y262.length : Int) > 0))) = true then ((vote_Same.f t240 t241 t242 t243 t244 t245 t246 t240 t241 t242 t243 t244 t245 y262).bind fun t267 => (if t267 = true then ((vote_Both.f k t240 t241 t242 t243 t244 t245 t246 t240 t241 t242 t243 t244 t245 y262).bind fun t268 => (some ((t268.length : Int) == (y262.length : Int)))) else (some false))) else (some false))) else (some false)))) else (none))) else (none)) else (none)) = some r := by first | (rw [hy255]; with_reducible exact H) | (have H2_ := (Option.bind_some _ _).symm.trans H; rw [hy255]; with_reducible exact H2_) | (have H2_ := (Option.bind_some _ _).symm.trans H; with_reducible exact H2_) | with_reducible exact H | (rw [hy255]; exact H) | exact H
            have Ny255 := Aside0.mk hy255
            clear hy255
            obtain ⟨ji13, hji13⟩ : ∃ j_ : Int, (wrap64 ((ji9) + 1)) = j_ := ⟨_, rfl⟩
            replace H : (if 0 ≤ (ji13) then (if (ji13) ≤ (t246.length : Int) then ((some (t246.drop ((ji13) : Int).toNat : List Int)).bind fun y258 => (if y255.length + y258.length < 17592186044416 then ((some (y255 ++ y258 : List Int)).bind fun y262 => ((vote_Right.f k t234 t237 t238 t240 t241 t242 t243 t244 t245 t246).bind fun t265 => (if t265 = true then ((vote_Right.f k t234 t237 t238 t240 t241 t242 t243 t244 t245 y262).bind fun t266 => (if (t266 == (decide ((y262.length : Int) > 0))) = true then ((vote_Same.f t240 t241 t242 t243 t244 t245 t246 t240 t241 t242 t243 t244 t245 y262).bind fun t267 => (if t267 = true then ((vote_Both.f k t240 t241 t242 t243 t244 t245 t246 t240 t241 t242 t243 t244 t245 y262).bind fun t268 => (some ((t268.length : Int) == (y262.length : Int)))) else (some false))) else (some false))) else (some false)))) else (none))) else (none)) else (none)) = some r := by first | (rw [hji13] at H; exact H) | (simp only [hji13] at H ⊢; exact H)
            (try rw [hji13] at A4)
            (try rw [hji13] at A6)
            (try rw [hji13] at A7)
            have hji13w : (IntKind.i64.wrap ((ji9) + 1)) = ji13 := (i64_w _).trans hji13
            by_cases c14 : 0 ≤ (ji13)
            · rw [if_pos c14] at H
              have c14b0 := eq_true c14
              have c14b1 : decide (0 ≤ (ji13)) = true := decide_eq_true c14
              clear c14
              by_cases c15 : (ji13) ≤ (t246.length : Int)
              · rw [if_pos c15] at H
                have c15b0 := eq_true c15
                have c15b1 : decide ((ji13) ≤ (t246.length : Int)) = true := decide_eq_true c15
                clear c15
                obtain ⟨y258, hy258⟩ : ∃ y_ : List Int, y_ = (t246.drop ((ji13) : Int).toNat) := ⟨_, rfl⟩
                replace H : (if y255.length + y258.length < 17592186044416 then ((some (y255 ++ y258 : List Int)).bind fun y262 => ((vote_Right.f k t234 t237 t238 t240 t241 t242 t243 t244 t245 t246).bind fun t265 => (if t265 = true then ((vote_Right.f k t234 t237 t238 t240 t241 t242 t243 t244 t245 y262).bind fun t266 => (if (t266 == (decide ((y262.length : Int) > 0))) = true then ((vote_Same.f t240 t241 t242 t243 t244 t245 t246 t240 t241 t242 t243 t244 t245 y262).bind fun t267 => (if t267 = true then ((vote_Both.f k t240 t241 t242 t243 t244 t245 t246 t240 t241 t242 t243 t244 t245 y262).bind fun t268 => (some ((t268.length : Int) == (y262.length : Int)))) else (some false))) else (some false))) else (some false)))) else (none)) = some r := by first | (rw [hy258]; with_reducible exact H) | (have H2_ := (Option.bind_some _ _).symm.trans H; rw [hy258]; with_reducible exact H2_) | (have H2_ := (Option.bind_some _ _).symm.trans H; with_reducible exact H2_) | with_reducible exact H | (rw [hy258]; exact H) | exact H
                have Ny258 := Aside0.mk hy258
                clear hy258
                by_cases c16 : y255.length + y258.length < 17592186044416
                · rw [if_pos c16] at H
                  have LMc16 := Aside0.mk c16
                  clear c16
                  obtain ⟨y262, hy262⟩ : ∃ y_ : List Int, y_ = (y255 ++ y258) := ⟨_, rfl⟩
                  replace H : ((vote_Right.f k t234 t237 t238 t240 t241 t242 t243 t244 t245 t246).bind fun t265 => (if t265 = true then ((vote_Right.f k t234 t237 t238 t240 t241 t242 t243 t244 t245 y262).bind fun t266 => (if (t266 == (decide ((y262.length : Int) > 0))) = true then ((vote_Same.f t240 t241 t242 t243 t244 t245 t246 t240 t241 t242 t243 t244 t245 y262).bind fun t267 => (if t267 = true then ((vote_Both.f k t240 t241 t242 t243 t244 t245 t246 t240 t241 t242 t243 t244 t245 y262).bind fun t268 => (some ((t268.length : Int) == (y262.length : Int)))) else (some false))) else (some false))) else (some false))) = some r := by first | (rw [hy262]; with_reducible exact H) | (have H2_ := (Option.bind_some _ _).symm.trans H; rw [hy262]; with_reducible exact H2_) | (have H2_ := (Option.bind_some _ _).symm.trans H; with_reducible exact H2_) | with_reducible exact H | (rw [hy262]; exact H) | exact H
                  have Ny262 := Aside0.mk hy262
                  clear hy262
                  replace H := Option.bind_eq_some_iff.mp H
                  obtain ⟨t265, A170, H⟩ := H
                  replace H : (if t265 = true then ((vote_Right.f k t234 t237 t238 t240 t241 t242 t243 t244 t245 y262).bind fun t266 => (if (t266 == (decide ((y262.length : Int) > 0))) = true then ((vote_Same.f t240 t241 t242 t243 t244 t245 t246 t240 t241 t242 t243 t244 t245 y262).bind fun t267 => (if t267 = true then ((vote_Both.f k t240 t241 t242 t243 t244 t245 t246 t240 t241 t242 t243 t244 t245 y262).bind fun t268 => (some ((t268.length : Int) == (y262.length : Int)))) else (some false))) else (some false))) else (some false)) = some r := H
                  have A17 := Aside0.mk A170
                  clear A170
                  by_cases c18 : t265 = true
                  · subst c18
                    have H1 : ((vote_Right.f k t234 t237 t238 t240 t241 t242 t243 t244 t245 y262).bind fun t266 => (if (t266 == (decide ((y262.length : Int) > 0))) = true then ((vote_Same.f t240 t241 t242 t243 t244 t245 t246 t240 t241 t242 t243 t244 t245 y262).bind fun t267 => (if t267 = true then ((vote_Both.f k t240 t241 t242 t243 t244 t245 t246 t240 t241 t242 t243 t244 t245 y262).bind fun t268 => (some ((t268.length : Int) == (y262.length : Int)))) else (some false))) else (some false))) = some r := by rw [if_pos rfl] at H; exact H
                    clear H
                    have H := H1
                    clear H1
                    replace H := Option.bind_eq_some_iff.mp H
                    obtain ⟨t266, A190, H⟩ := H
                    replace H : (if (t266 == (decide ((y262.length : Int) > 0))) = true then ((vote_Same.f t240 t241 t242 t243 t244 t245 t246 t240 t241 t242 t243 t244 t245 y262).bind fun t267 => (if t267 = true then ((vote_Both.f k t240 t241 t242 t243 t244 t245 t246 t240 t241 t242 t243 t244 t245 y262).bind fun t268 => (some ((t268.length : Int) == (y262.length : Int)))) else (some false))) else (some false)) = some r := H
                    have A19 := Aside0.mk A190
                    clear A190
                    by_cases c20 : (t266 == (decide ((y262.length : Int) > 0))) = true
                    · rw [if_pos c20] at H
                      have c20b0 : (t266 == (decide ((y262.length : Int) > 0))) = true := c20
                      have c20b9 : (t266 == decide (0 < y262.length)) = true := by simpa using c20b0
                      (try (have c20b1 : decide (t266 = (decide ((y262.length : Int) > 0))) = true := by simpa using c20))
                      (try (have c20b2 : (t266 == (decide ((y262.length : Int) > 0))) = true := by simpa using c20))
                      clear c20
                      replace H := Option.bind_eq_some_iff.mp H
                      obtain ⟨t267, A210, H⟩ := H
                      replace H : (if t267 = true then ((vote_Both.f k t240 t241 t242 t243 t244 t245 t246 t240 t241 t242 t243 t244 t245 y262).bind fun t268 => (some ((t268.length : Int) == (y262.length : Int)))) else (some false)) = some r := H
                      have A21 := Aside0.mk A210
                      clear A210
                      by_cases c22 : t267 = true
                      · subst c22
                        have H1 : ((vote_Both.f k t240 t241 t242 t243 t244 t245 t246 t240 t241 t242 t243 t244 t245 y262).bind fun t268 => (some ((t268.length : Int) == (y262.length : Int)))) = some r := by rw [if_pos rfl] at H; exact H
                        clear H
                        have H := H1
                        clear H1
                        replace H := Option.bind_eq_some_iff.mp H
                        obtain ⟨t268, A230, H⟩ := H
                        replace H : (some ((t268.length : Int) == (y262.length : Int))) = some r := H
                        have A23 := Aside0.mk A230
                        clear A230
                        obtain rfl := Option.some.inj H
                        go_enter Try.func8, Try.ntmps8
                        try go_wp2_with (first | ((with_reducible refine gate_dst (N := 3) rfl ?_); (try (refine gate_guard (by rfl) ?_; dsimp only)); refine box_event ?hg (N := 3) ?hd (cs := #[.slice A0_0 l0_0.length c0_0, .int .i64 a0_1, .int .i64 a0_2]) (t := 24) ?hr ?_; (case hd => rfl); (case hg => rfl); (case hr => first | (go_simp; done) | (go_simp; rfl)); intro gb231 hg w24 hbox hb; have n0_ := Aside0.mk (below_step (by repeat (first | (with_reducible first | exact HB.out | apply below_alloc | apply pw_below_drewN | apply below_drew1) | exact HB.out)) hb); have n1_ := Aside0.mk (hbox); have n2_ := Aside0.mk ((by rw [hg]; exact (below_size (by repeat (first | (with_reducible first | exact HB.out | apply below_alloc | apply pw_below_drewN | apply below_drew1) | exact HB.out))) : w.heap.size ≤ gb231)); have n3_ := Aside0.mk ((by rw [hg]; exact (below_size (by repeat (first | (with_reducible first | exact HB.out | apply below_alloc | apply pw_below_drewN | apply below_drew1) | exact HB.out))) : w.heap.size ≤ gb231)); clear HB; have HB := n0_; have BK231 := n1_; have GW231 := n2_; have GE231 := n3_; clear n0_ n1_ n2_ n3_; clear hb hbox hg) | ((with_reducible refine gate_dst (N := 4) rfl ?_); (try (refine gate_guard (by rfl) ?_; dsimp only)); refine box_event ?hg (N := 4) ?hd (cs := #[.int .i64 a1_0, .int .u64 a1_1, .int .i64 a1_2, .int .u64 a1_3, .int .i64 a1_4, .int .u64 a1_5, .slice A1_6 l1_6.length c1_6]) (t := 30) ?hr ?_; (case hd => rfl); (case hg => rfl); (case hr => first | (go_simp; done) | (go_simp; rfl)); intro gb232 hg w25 hbox hb; have n0_ := Aside0.mk (blk_below (g := gb231) (o := .cells #[.slice A0_0 l0_0.length c0_0, .int .i64 a0_1, .int .i64 a0_2] 24 (0, 0)) (by (with_reducible repeat (first | refine blk_drewN ?_ _ | refine blk_drew ?_ | refine blk_alloc ?_ _)); exact BK231.out) hb); have n1_ := Aside0.mk (below_step (by repeat (first | (with_reducible first | exact HB.out | apply below_alloc | apply pw_below_drewN | apply below_drew1 | refine below_set ?_ GE231.out) | exact HB.out)) hb); have n2_ := Aside0.mk (hbox); have n3_ := Aside0.mk ((by rw [hg]; exact (below_size (by repeat (first | (with_reducible first | exact HB.out | apply below_alloc | apply pw_below_drewN | apply below_drew1 | refine below_set ?_ GE231.out) | exact HB.out))) : w.heap.size ≤ gb232)); have n4_ := Aside0.mk ((by rw [hg]; exact (below_size (by repeat (first | (with_reducible first | exact HB.out | apply below_alloc | apply pw_below_drewN | apply below_drew1 | refine below_set ?_ GE231.out) | exact HB.out))) : w.heap.size ≤ gb232)); have n5_ := Aside0.mk ((by rw [hg]; exact Nat.ne_of_lt (blk_lt (g := gb231) (o := .cells #[.slice A0_0 l0_0.length c0_0, .int .i64 a0_1, .int .i64 a0_2] 24 (0, 0)) (by (with_reducible repeat (first | refine blk_drewN ?_ _ | refine blk_drew ?_ | refine blk_alloc ?_ _)); exact BK231.out)) : gb231 ≠ gb232)); have n6_ := Aside0.mk ((by rw [hg]; exact Nat.ne_of_gt (blk_lt (g := gb231) (o := .cells #[.slice A0_0 l0_0.length c0_0, .int .i64 a0_1, .int .i64 a0_2] 24 (0, 0)) (by (with_reducible repeat (first | refine blk_drewN ?_ _ | refine blk_drew ?_ | refine blk_alloc ?_ _)); exact BK231.out)) : gb232 ≠ gb231)); clear BK231; clear HB; have BK231 := n0_; have HB := n1_; have BK232 := n2_; have GW232 := n3_; have GE232 := n4_; have NB231_232 := n5_; have NB232_231 := n6_; clear n0_ n1_ n2_ n3_ n4_ n5_ n6_; clear hb hbox hg) | ((with_reducible refine gate_callee (f := 9) rfl ?_); refine goesL_ (some 11) rfl rfl Try.func9 (by kernel_rfl) rfl #[] rfl (by (try simp only [List.map_toArray, List.map_cons, List.map_nil]); first | done | rfl | (simp only [List.length_drop, List.length_take]; rfl)) ?_; (with_reducible refine (psephoslaw05_awake.calls k  true _ A4.out).mono ?_); rintro e w26 ⟨rfl, hb⟩; refine ⟨_, rfl, ?_⟩; have n0_ := Aside0.mk (blk_below (g := gb231) (o := .cells #[.slice A0_0 l0_0.length c0_0, .int .i64 a0_1, .int .i64 a0_2] 24 (0, 0)) (by (with_reducible repeat (first | refine blk_drewN ?_ _ | refine blk_drew ?_ | refine blk_alloc ?_ _)); exact BK231.out) hb); have n1_ := Aside0.mk (blk_below (g := gb232) (o := .cells #[.int .i64 a1_0, .int .u64 a1_1, .int .i64 a1_2, .int .u64 a1_3, .int .i64 a1_4, .int .u64 a1_5, .slice A1_6 l1_6.length c1_6] 30 (0, 0)) (by (with_reducible repeat (first | refine blk_drewN ?_ _ | refine blk_drew ?_ | refine blk_alloc ?_ _)); exact BK232.out) hb); have n2_ := Aside0.mk (below_step (by repeat (first | (with_reducible first | exact HB.out | apply below_alloc | apply pw_below_drewN | apply below_drew1 | refine below_set ?_ GE231.out | refine below_set ?_ GE232.out) | exact HB.out)) hb); clear BK231; clear BK232; clear HB; have BK231 := n0_; have BK232 := n1_; have HB := n2_; clear n0_ n1_ n2_; (try clear hb); (try clear hb2); (try clear hk); (try clear hi); have hnb27 := NB231_232.out; have hnc27 := NB232_231.out; obtain ⟨hcz28_0, hcz28_1, hcz28_2⟩ := Cells.c3 BK231.out; obtain ⟨hfz28_0, hfz28_1, hfz28_2⟩ := Cells.z3 BK231.out) | ((with_reducible refine gate_callee (f := 10) rfl ?_); refine goesL_ (some 14) rfl rfl Try.func10 (by kernel_rfl) rfl #[.agg #[.slice A0_0 l0_0.length c0_0, .int .i64 a0_1, .int .i64 a0_2]] rfl (by (try simp only [List.map_toArray, List.map_cons, List.map_nil]); first | done | rfl | (simp only [List.length_drop, List.length_take]; rfl)) ?_; (with_reducible refine (psephoslaw03_Make.calls k _ _ l0_0 a0_1 a0_2 t234 t237 t238 _ ?side1 ?side2 A6.out).mono ?_); (case side1 => repeat (first | exact (Kd.C_below HR0_0.out HB.out) | (with_reducible refine Kd.C_alloc ?_ _) | (with_reducible refine Kd.C_drewN ?_ _) | (with_reducible refine Kd.C_drew ?_))); (case side2 => exact HC0_0.out); rintro e w29 ⟨v235, rfl, ho0, hb⟩; refine ⟨_, rfl, ?_⟩; have n0_ := Aside0.mk (Kd.R_lower ho0 (below_size (by repeat (first | (with_reducible first | exact HB.out | apply below_alloc | apply pw_below_drewN | apply below_drew1 | refine below_set ?_ GE231.out | refine below_set ?_ GE232.out) | exact HB.out)))); have n1_ := Aside0.mk (blk_below (g := gb231) (o := .cells #[.slice A0_0 l0_0.length c0_0, .int .i64 a0_1, .int .i64 a0_2] 24 (0, 0)) (by (with_reducible repeat (first | refine blk_drewN ?_ _ | refine blk_drew ?_ | refine blk_alloc ?_ _)); exact BK231.out) hb); have n2_ := Aside0.mk (blk_below (g := gb232) (o := .cells #[.int .i64 a1_0, .int .u64 a1_1, .int .i64 a1_2, .int .u64 a1_3, .int .i64 a1_4, .int .u64 a1_5, .slice A1_6 l1_6.length c1_6] 30 (0, 0)) (by (with_reducible repeat (first | refine blk_drewN ?_ _ | refine blk_drew ?_ | refine blk_alloc ?_ _)); exact BK232.out) hb); have n3_ := Aside0.mk (below_step (by repeat (first | (with_reducible first | exact HB.out | apply below_alloc | apply pw_below_drewN | apply below_drew1 | refine below_set ?_ GE231.out | refine below_set ?_ GE232.out) | exact HB.out)) hb); clear BK231; clear BK232; clear HB; have HO236 := n0_; have BK231 := n1_; have BK232 := n2_; have HB := n3_; clear n0_ n1_ n2_ n3_; (try clear hb); (try clear hb2); (try clear hk); (try clear hi); (try clear ho0)) | ((with_reducible refine gate_dst (N := 7) rfl ?_); (try (refine gate_guard (by rfl) ?_; dsimp only)); refine box_event ?hg (N := 7) ?hd (cs := #[.slice none 0 0, .int .i64 0, .int .i64 0]) (t := 24) ?hr ?_; (case hd => rfl); (case hg => rfl); (case hr => first | (go_simp; done) | (go_simp; rfl)); intro gb239 hg w30 hbox hb; have n0_ := Aside0.mk (Kd.R_below (by (with_reducible repeat (first | apply Kd.R_alloc | apply Kd.R_drewN | apply Kd.R_drew)); exact HO236.out) hb); have n1_ := Aside0.mk (blk_below (g := gb231) (o := .cells #[.slice A0_0 l0_0.length c0_0, .int .i64 a0_1, .int .i64 a0_2] 24 (0, 0)) (by (with_reducible repeat (first | refine blk_drewN ?_ _ | refine blk_drew ?_ | refine blk_alloc ?_ _)); exact BK231.out) hb); have n2_ := Aside0.mk (blk_below (g := gb232) (o := .cells #[.int .i64 a1_0, .int .u64 a1_1, .int .i64 a1_2, .int .u64 a1_3, .int .i64 a1_4, .int .u64 a1_5, .slice A1_6 l1_6.length c1_6] 30 (0, 0)) (by (with_reducible repeat (first | refine blk_drewN ?_ _ | refine blk_drew ?_ | refine blk_alloc ?_ _)); exact BK232.out) hb); have n3_ := Aside0.mk (below_step (by repeat (first | (with_reducible first | exact HB.out | apply below_alloc | apply pw_below_drewN | apply below_drew1 | refine below_set ?_ GE231.out | refine below_set ?_ GE232.out) | exact HB.out)) hb); have n4_ := Aside0.mk (hbox); have n5_ := Aside0.mk ((by rw [hg]; exact (below_size (by repeat (first | (with_reducible first | exact HB.out | apply below_alloc | apply pw_below_drewN | apply below_drew1 | refine below_set ?_ GE231.out | refine below_set ?_ GE232.out) | exact HB.out))) : w.heap.size ≤ gb239)); have n6_ := Aside0.mk ((by rw [hg]; exact (below_size (by repeat (first | (with_reducible first | exact HB.out | apply below_alloc | apply pw_below_drewN | apply below_drew1 | refine below_set ?_ GE231.out | refine below_set ?_ GE232.out) | exact HB.out))) : w.heap.size ≤ gb239)); have n7_ := Aside0.mk ((by rw [hg]; exact Nat.ne_of_lt (blk_lt (g := gb231) (o := .cells #[.slice A0_0 l0_0.length c0_0, .int .i64 a0_1, .int .i64 a0_2] 24 (0, 0)) (by (with_reducible repeat (first | refine blk_drewN ?_ _ | refine blk_drew ?_ | refine blk_alloc ?_ _)); exact BK231.out)) : gb231 ≠ gb239)); have n8_ := Aside0.mk ((by rw [hg]; exact Nat.ne_of_gt (blk_lt (g := gb231) (o := .cells #[.slice A0_0 l0_0.length c0_0, .int .i64 a0_1, .int .i64 a0_2] 24 (0, 0)) (by (with_reducible repeat (first | refine blk_drewN ?_ _ | refine blk_drew ?_ | refine blk_alloc ?_ _)); exact BK231.out)) : gb239 ≠ gb231)); have n9_ := Aside0.mk ((by rw [hg]; exact Nat.ne_of_lt (blk_lt (g := gb232) (o := .cells #[.int .i64 a1_0, .int .u64 a1_1, .int .i64 a1_2, .int .u64 a1_3, .int .i64 a1_4, .int .u64 a1_5, .slice A1_6 l1_6.length c1_6] 30 (0, 0)) (by (with_reducible repeat (first | refine blk_drewN ?_ _ | refine blk_drew ?_ | refine blk_alloc ?_ _)); exact BK232.out)) : gb232 ≠ gb239)); have n10_ := Aside0.mk ((by rw [hg]; exact Nat.ne_of_gt (blk_lt (g := gb232) (o := .cells #[.int .i64 a1_0, .int .u64 a1_1, .int .i64 a1_2, .int .u64 a1_3, .int .i64 a1_4, .int .u64 a1_5, .slice A1_6 l1_6.length c1_6] 30 (0, 0)) (by (with_reducible repeat (first | refine blk_drewN ?_ _ | refine blk_drew ?_ | refine blk_alloc ?_ _)); exact BK232.out)) : gb239 ≠ gb232)); clear HO236; clear BK231; clear BK232; clear HB; have HO236 := n0_; have BK231 := n1_; have BK232 := n2_; have HB := n3_; have BK239 := n4_; have GW239 := n5_; have GE239 := n6_; have NB231_239 := n7_; have NB239_231 := n8_; have NB232_239 := n9_; have NB239_232 := n10_; clear n0_ n1_ n2_ n3_ n4_ n5_ n6_ n7_ n8_ n9_ n10_; clear hb hbox hg; obtain ⟨Ao31, co31, eo31⟩ := Kd.R_slice HO236.out; subst eo31; have hnb32 := NB239_231.out; have hnc32 := NB231_239.out; have hnb33 := NB239_232.out; have hnc33 := NB232_239.out; obtain ⟨hcz34_0, hcz34_1, hcz34_2⟩ := Cells.c3 BK239.out; obtain ⟨hfz34_0, hfz34_1, hfz34_2⟩ := Cells.z3 BK239.out; obtain ⟨hcz35_0, hcz35_1, hcz35_2, hcz35_3, hcz35_4, hcz35_5, hcz35_6⟩ := Cells.c7 BK232.out; obtain ⟨hfz35_0, hfz35_1, hfz35_2, hfz35_3, hfz35_4, hfz35_5, hfz35_6⟩ := Cells.z7 BK232.out) | ((with_reducible refine gate_callee (f := 12) rfl ?_); refine goesL_ (some 17) rfl rfl Try.func12 (by kernel_rfl) rfl #[.agg #[.slice Ao31 t234.length co31, .int .i64 t237, .int .i64 t238], .agg #[.int .i64 a1_0, .int .u64 a1_1, .int .i64 a1_2, .int .u64 a1_3, .int .i64 a1_4, .int .u64 a1_5, .slice A1_6 l1_6.length c1_6]] rfl (by (try simp only [List.map_toArray, List.map_cons, List.map_nil]); first | done | rfl | (simp only [List.length_drop, List.length_take]; rfl)) ?_; (with_reducible refine (psephoslaw05_Make.calls k _ _ t234 t237 t238 a1_0 a1_1 a1_2 a1_3 a1_4 a1_5 _ _ l1_6 t240 t241 t242 t243 t244 t245 t246 _ ?side1 ?side2 ?side3 ?side4 A7.out).mono ?_); (case side1 => refine (Kd.R_reads' (e := 25) (base := w.heap.size) (ok := fun k_ => True) (n := t234.length) (c := co31) ?_).2.2; exact (by (with_reducible repeat (first | apply Kd.R_alloc | apply Kd.R_drewN | apply Kd.R_drew)); exact (Kd.R_mono (Kd.R_far (p := ⟨gb239, 2, none⟩) (Kd.R_far (p := ⟨gb239, 1, none⟩) (Kd.R_far (p := ⟨gb239, 0, none⟩) (Kd.R_types HO236.out BK239.out (by decide)) (fun _ hk => hk.2) (.slice Ao31 t234.length co31)) (fun _ hk => hk.2) (.int .i64 t237)) (fun _ hk => hk.2) (.int .i64 t238)) (fun _ h_ => h_.1)))); (case side2 => exact (Kd.R_reads' HO236.out).2.1); (case side3 => exact Kd.C_below HR1_6.out (by repeat (first | (with_reducible first | exact HB.out | apply below_alloc | apply pw_below_drewN | apply below_drew1 | refine below_set ?_ GE231.out | refine below_set ?_ GE232.out | refine below_set ?_ GE239.out) | exact HB.out))); (case side4 => exact HC1_6.out); rintro e w36 ⟨v247, rfl, ho0, hb⟩; refine ⟨_, rfl, ?_⟩; have n0_ := Aside0.mk (Kd.R_below (by (with_reducible repeat (first | apply Kd.R_alloc | apply Kd.R_drewN | apply Kd.R_drew)); exact (Kd.R_mono (Kd.R_far (p := ⟨gb239, 2, none⟩) (Kd.R_far (p := ⟨gb239, 1, none⟩) (Kd.R_far (p := ⟨gb239, 0, none⟩) (Kd.R_types HO236.out BK239.out (by decide)) (fun _ hk => hk.2) (.slice Ao31 t234.length co31)) (fun _ hk => hk.2) (.int .i64 t237)) (fun _ hk => hk.2) (.int .i64 t238)) (fun _ h_ => h_.1))) hb); have n1_ := Aside0.mk (Kd.R_lower ho0 (below_size (by repeat (first | (with_reducible first | exact HB.out | apply below_alloc | apply pw_below_drewN | apply below_drew1 | refine below_set ?_ GE231.out | refine below_set ?_ GE232.out | refine below_set ?_ GE239.out) | exact HB.out)))); have n2_ := Aside0.mk (blk_below (g := gb231) (o := .cells #[.slice A0_0 l0_0.length c0_0, .int .i64 a0_1, .int .i64 a0_2] 24 (0, 0)) (by (with_reducible repeat (first | refine blk_drewN ?_ _ | refine blk_drew ?_ | refine blk_alloc ?_ _)); refine blk_far ?_ NB231_239.out _; (with_reducible repeat (first | refine blk_drewN ?_ _ | refine blk_drew ?_ | refine blk_alloc ?_ _)); refine blk_far ?_ NB231_239.out _; (with_reducible repeat (first | refine blk_drewN ?_ _ | refine blk_drew ?_ | refine blk_alloc ?_ _)); refine blk_far ?_ NB231_239.out _; (with_reducible repeat (first | refine blk_drewN ?_ _ | refine blk_drew ?_ | refine blk_alloc ?_ _)); exact BK231.out) hb); have n3_ := Aside0.mk (blk_below (g := gb232) (o := .cells #[.int .i64 a1_0, .int .u64 a1_1, .int .i64 a1_2, .int .u64 a1_3, .int .i64 a1_4, .int .u64 a1_5, .slice A1_6 l1_6.length c1_6] 30 (0, 0)) (by (with_reducible repeat (first | refine blk_drewN ?_ _ | refine blk_drew ?_ | refine blk_alloc ?_ _)); refine blk_far ?_ NB232_239.out _; (with_reducible repeat (first | refine blk_drewN ?_ _ | refine blk_drew ?_ | refine blk_alloc ?_ _)); refine blk_far ?_ NB232_239.out _; (with_reducible repeat (first | refine blk_drewN ?_ _ | refine blk_drew ?_ | refine blk_alloc ?_ _)); refine blk_far ?_ NB232_239.out _; (with_reducible repeat (first | refine blk_drewN ?_ _ | refine blk_drew ?_ | refine blk_alloc ?_ _)); exact BK232.out) hb); have n4_ := Aside0.mk (blk_below (g := gb239) (o := .cells #[.slice Ao31 t234.length co31, .int .i64 t237, .int .i64 t238] 24 (0, 0)) (by (with_reducible repeat (first | refine blk_drewN ?_ _ | refine blk_drew ?_ | refine blk_alloc ?_ _)); refine blk_put (cs := #[.slice Ao31 t234.length co31, .int .i64 t237, .int .i64 0]) ?_ 2 _ rfl; (with_reducible repeat (first | refine blk_drewN ?_ _ | refine blk_drew ?_ | refine blk_alloc ?_ _)); refine blk_put (cs := #[.slice Ao31 t234.length co31, .int .i64 0, .int .i64 0]) ?_ 1 _ rfl; (with_reducible repeat (first | refine blk_drewN ?_ _ | refine blk_drew ?_ | refine blk_alloc ?_ _)); refine blk_put (cs := #[.slice none 0 0, .int .i64 0, .int .i64 0]) ?_ 0 _ rfl; (with_reducible repeat (first | refine blk_drewN ?_ _ | refine blk_drew ?_ | refine blk_alloc ?_ _)); exact BK239.out) hb); have n5_ := Aside0.mk (below_step (by repeat (first | (with_reducible first | exact HB.out | apply below_alloc | apply pw_below_drewN | apply below_drew1 | refine below_set ?_ GE231.out | refine below_set ?_ GE232.out | refine below_set ?_ GE239.out) | exact HB.out)) hb); clear HO236; clear BK231; clear BK232; clear BK239; clear HB; have HO236 := n0_; have HO248 := n1_; have BK231 := n2_; have BK232 := n3_; have BK239 := n4_; have HB := n5_; clear n0_ n1_ n2_ n3_ n4_ n5_; (try clear hb); (try clear hb2); (try clear hk); (try clear hi); (try clear ho0)) | ((with_reducible refine gate_dst (N := 8) rfl ?_); (try (refine gate_guard (by rfl) ?_; dsimp only)); refine box_event ?hg (N := 8) ?hd (cs := #[.int .i64 0, .int .u64 0, .int .i64 0, .int .u64 0, .int .i64 0, .int .u64 0, .slice none 0 0]) (t := 30) ?hr ?_; (case hd => rfl); (case hg => rfl); (case hr => first | (go_simp; done) | (go_simp; rfl)); intro gb249 hg w37 hbox hb; have n0_ := Aside0.mk (Kd.R_below (by (with_reducible repeat (first | apply Kd.R_alloc | apply Kd.R_drewN | apply Kd.R_drew)); exact HO236.out) hb); have n1_ := Aside0.mk (Kd.R_below (by (with_reducible repeat (first | apply Kd.R_alloc | apply Kd.R_drewN | apply Kd.R_drew)); exact HO248.out) hb); have n2_ := Aside0.mk (blk_below (g := gb231) (o := .cells #[.slice A0_0 l0_0.length c0_0, .int .i64 a0_1, .int .i64 a0_2] 24 (0, 0)) (by (with_reducible repeat (first | refine blk_drewN ?_ _ | refine blk_drew ?_ | refine blk_alloc ?_ _)); exact BK231.out) hb); have n3_ := Aside0.mk (blk_below (g := gb232) (o := .cells #[.int .i64 a1_0, .int .u64 a1_1, .int .i64 a1_2, .int .u64 a1_3, .int .i64 a1_4, .int .u64 a1_5, .slice A1_6 l1_6.length c1_6] 30 (0, 0)) (by (with_reducible repeat (first | refine blk_drewN ?_ _ | refine blk_drew ?_ | refine blk_alloc ?_ _)); exact BK232.out) hb); have n4_ := Aside0.mk (blk_below (g := gb239) (o := .cells #[.slice Ao31 t234.length co31, .int .i64 t237, .int .i64 t238] 24 (0, 0)) (by (with_reducible repeat (first | refine blk_drewN ?_ _ | refine blk_drew ?_ | refine blk_alloc ?_ _)); exact BK239.out) hb); have n5_ := Aside0.mk (below_step (by repeat (first | (with_reducible first | exact HB.out | apply below_alloc | apply pw_below_drewN | apply below_drew1 | refine below_set ?_ GE231.out | refine below_set ?_ GE232.out | refine below_set ?_ GE239.out) | exact HB.out)) hb); have n6_ := Aside0.mk (hbox); have n7_ := Aside0.mk ((by rw [hg]; exact (below_size (by repeat (first | (with_reducible first | exact HB.out | apply below_alloc | apply pw_below_drewN | apply below_drew1 | refine below_set ?_ GE231.out | refine below_set ?_ GE232.out | refine below_set ?_ GE239.out) | exact HB.out))) : w.heap.size ≤ gb249)); have n8_ := Aside0.mk ((by rw [hg]; exact (below_size (by repeat (first | (with_reducible first | exact HB.out | apply below_alloc | apply pw_below_drewN | apply below_drew1 | refine below_set ?_ GE231.out | refine below_set ?_ GE232.out | refine below_set ?_ GE239.out) | exact HB.out))) : w.heap.size ≤ gb249)); have n9_ := Aside0.mk ((by rw [hg]; exact Nat.ne_of_lt (blk_lt (g := gb231) (o := .cells #[.slice A0_0 l0_0.length c0_0, .int .i64 a0_1, .int .i64 a0_2] 24 (0, 0)) (by (with_reducible repeat (first | refine blk_drewN ?_ _ | refine blk_drew ?_ | refine blk_alloc ?_ _)); exact BK231.out)) : gb231 ≠ gb249)); have n10_ := Aside0.mk ((by rw [hg]; exact Nat.ne_of_gt (blk_lt (g := gb231) (o := .cells #[.slice A0_0 l0_0.length c0_0, .int .i64 a0_1, .int .i64 a0_2] 24 (0, 0)) (by (with_reducible repeat (first | refine blk_drewN ?_ _ | refine blk_drew ?_ | refine blk_alloc ?_ _)); exact BK231.out)) : gb249 ≠ gb231)); have n11_ := Aside0.mk ((by rw [hg]; exact Nat.ne_of_lt (blk_lt (g := gb232) (o := .cells #[.int .i64 a1_0, .int .u64 a1_1, .int .i64 a1_2, .int .u64 a1_3, .int .i64 a1_4, .int .u64 a1_5, .slice A1_6 l1_6.length c1_6] 30 (0, 0)) (by (with_reducible repeat (first | refine blk_drewN ?_ _ | refine blk_drew ?_ | refine blk_alloc ?_ _)); exact BK232.out)) : gb232 ≠ gb249)); have n12_ := Aside0.mk ((by rw [hg]; exact Nat.ne_of_gt (blk_lt (g := gb232) (o := .cells #[.int .i64 a1_0, .int .u64 a1_1, .int .i64 a1_2, .int .u64 a1_3, .int .i64 a1_4, .int .u64 a1_5, .slice A1_6 l1_6.length c1_6] 30 (0, 0)) (by (with_reducible repeat (first | refine blk_drewN ?_ _ | refine blk_drew ?_ | refine blk_alloc ?_ _)); exact BK232.out)) : gb249 ≠ gb232)); have n13_ := Aside0.mk ((by rw [hg]; exact Nat.ne_of_lt (blk_lt (g := gb239) (o := .cells #[.slice Ao31 t234.length co31, .int .i64 t237, .int .i64 t238] 24 (0, 0)) (by (with_reducible repeat (first | refine blk_drewN ?_ _ | refine blk_drew ?_ | refine blk_alloc ?_ _)); exact BK239.out)) : gb239 ≠ gb249)); have n14_ := Aside0.mk ((by rw [hg]; exact Nat.ne_of_gt (blk_lt (g := gb239) (o := .cells #[.slice Ao31 t234.length co31, .int .i64 t237, .int .i64 t238] 24 (0, 0)) (by (with_reducible repeat (first | refine blk_drewN ?_ _ | refine blk_drew ?_ | refine blk_alloc ?_ _)); exact BK239.out)) : gb249 ≠ gb239)); clear HO236; clear HO248; clear BK231; clear BK232; clear BK239; clear HB; have HO236 := n0_; have HO248 := n1_; have BK231 := n2_; have BK232 := n3_; have BK239 := n4_; have HB := n5_; have BK249 := n6_; have GW249 := n7_; have GE249 := n8_; have NB231_249 := n9_; have NB249_231 := n10_; have NB232_249 := n11_; have NB249_232 := n12_; have NB239_249 := n13_; have NB249_239 := n14_; clear n0_ n1_ n2_ n3_ n4_ n5_ n6_ n7_ n8_ n9_ n10_ n11_ n12_ n13_ n14_; clear hb hbox hg; have hnb38 := NB249_231.out; have hnc38 := NB231_249.out; have hnb39 := NB249_232.out; have hnc39 := NB232_249.out; have hnb40 := NB249_239.out; have hnc40 := NB239_249.out; obtain ⟨hcz41_0, hcz41_1, hcz41_2, hcz41_3, hcz41_4, hcz41_5, hcz41_6⟩ := Cells.c7 BK249.out; obtain ⟨hfz41_0, hfz41_1, hfz41_2, hfz41_3, hfz41_4, hfz41_5, hfz41_6⟩ := Cells.z7 BK249.out; obtain ⟨Ao42, co42, eo42⟩ := Kd.R_slice HO248.out; subst eo42) | ((with_reducible refine gate_dst (N := 10) rfl ?_); (try (refine gate_guard (by rfl) ?_; dsimp only)); refine box_event ?hg (N := 10) ?hd (cs := #[.int .i64 0, .int .u64 0, .int .i64 0, .int .u64 0, .int .i64 0, .int .u64 0, .slice none 0 0]) (t := 30) ?hr ?_; (case hd => rfl); (case hg => rfl); (case hr => first | (go_simp; done) | (go_simp; rfl)); intro gb250 hg w43 hbox hb; have n0_ := Aside0.mk (Kd.R_below (by (with_reducible repeat (first | apply Kd.R_alloc | apply Kd.R_drewN | apply Kd.R_drew)); exact (Kd.R_mono (Kd.R_far (p := ⟨gb249, 6, none⟩) (Kd.R_far (p := ⟨gb249, 5, none⟩) (Kd.R_far (p := ⟨gb249, 4, none⟩) (Kd.R_far (p := ⟨gb249, 3, none⟩) (Kd.R_far (p := ⟨gb249, 2, none⟩) (Kd.R_far (p := ⟨gb249, 1, none⟩) (Kd.R_far (p := ⟨gb249, 0, none⟩) (Kd.R_types HO236.out BK249.out (by decide)) (fun _ hk => hk.2) (.int .i64 t240)) (fun _ hk => hk.2) (.int .u64 t241)) (fun _ hk => hk.2) (.int .i64 t242)) (fun _ hk => hk.2) (.int .u64 t243)) (fun _ hk => hk.2) (.int .i64 t244)) (fun _ hk => hk.2) (.int .u64 t245)) (fun _ hk => hk.2) (.slice Ao42 t246.length co42)) (fun _ h_ => h_.1))) hb); have n1_ := Aside0.mk (Kd.R_below (by (with_reducible repeat (first | apply Kd.R_alloc | apply Kd.R_drewN | apply Kd.R_drew)); exact (Kd.R_mono (Kd.R_far (p := ⟨gb249, 6, none⟩) (Kd.R_far (p := ⟨gb249, 5, none⟩) (Kd.R_far (p := ⟨gb249, 4, none⟩) (Kd.R_far (p := ⟨gb249, 3, none⟩) (Kd.R_far (p := ⟨gb249, 2, none⟩) (Kd.R_far (p := ⟨gb249, 1, none⟩) (Kd.R_far (p := ⟨gb249, 0, none⟩) (Kd.R_types HO248.out BK249.out (by decide)) (fun _ hk => hk.2) (.int .i64 t240)) (fun _ hk => hk.2) (.int .u64 t241)) (fun _ hk => hk.2) (.int .i64 t242)) (fun _ hk => hk.2) (.int .u64 t243)) (fun _ hk => hk.2) (.int .i64 t244)) (fun _ hk => hk.2) (.int .u64 t245)) (fun _ hk => hk.2) (.slice Ao42 t246.length co42)) (fun _ h_ => h_.1))) hb); have n2_ := Aside0.mk (blk_below (g := gb231) (o := .cells #[.slice A0_0 l0_0.length c0_0, .int .i64 a0_1, .int .i64 a0_2] 24 (0, 0)) (by (with_reducible repeat (first | refine blk_drewN ?_ _ | refine blk_drew ?_ | refine blk_alloc ?_ _)); refine blk_far ?_ NB231_249.out _; (with_reducible repeat (first | refine blk_drewN ?_ _ | refine blk_drew ?_ | refine blk_alloc ?_ _)); refine blk_far ?_ NB231_249.out _; (with_reducible repeat (first | refine blk_drewN ?_ _ | refine blk_drew ?_ | refine blk_alloc ?_ _)); refine blk_far ?_ NB231_249.out _; (with_reducible repeat (first | refine blk_drewN ?_ _ | refine blk_drew ?_ | refine blk_alloc ?_ _)); refine blk_far ?_ NB231_249.out _; (with_reducible repeat (first | refine blk_drewN ?_ _ | refine blk_drew ?_ | refine blk_alloc ?_ _)); refine blk_far ?_ NB231_249.out _; (with_reducible repeat (first | refine blk_drewN ?_ _ | refine blk_drew ?_ | refine blk_alloc ?_ _)); refine blk_far ?_ NB231_249.out _; (with_reducible repeat (first | refine blk_drewN ?_ _ | refine blk_drew ?_ | refine blk_alloc ?_ _)); refine blk_far ?_ NB231_249.out _; (with_reducible repeat (first | refine blk_drewN ?_ _ | refine blk_drew ?_ | refine blk_alloc ?_ _)); exact BK231.out) hb); have n3_ := Aside0.mk (blk_below (g := gb232) (o := .cells #[.int .i64 a1_0, .int .u64 a1_1, .int .i64 a1_2, .int .u64 a1_3, .int .i64 a1_4, .int .u64 a1_5, .slice A1_6 l1_6.length c1_6] 30 (0, 0)) (by (with_reducible repeat (first | refine blk_drewN ?_ _ | refine blk_drew ?_ | refine blk_alloc ?_ _)); refine blk_far ?_ NB232_249.out _; (with_reducible repeat (first | refine blk_drewN ?_ _ | refine blk_drew ?_ | refine blk_alloc ?_ _)); refine blk_far ?_ NB232_249.out _; (with_reducible repeat (first | refine blk_drewN ?_ _ | refine blk_drew ?_ | refine blk_alloc ?_ _)); refine blk_far ?_ NB232_249.out _; (with_reducible repeat (first | refine blk_drewN ?_ _ | refine blk_drew ?_ | refine blk_alloc ?_ _)); refine blk_far ?_ NB232_249.out _; (with_reducible repeat (first | refine blk_drewN ?_ _ | refine blk_drew ?_ | refine blk_alloc ?_ _)); refine blk_far ?_ NB232_249.out _; (with_reducible repeat (first | refine blk_drewN ?_ _ | refine blk_drew ?_ | refine blk_alloc ?_ _)); refine blk_far ?_ NB232_249.out _; (with_reducible repeat (first | refine blk_drewN ?_ _ | refine blk_drew ?_ | refine blk_alloc ?_ _)); refine blk_far ?_ NB232_249.out _; (with_reducible repeat (first | refine blk_drewN ?_ _ | refine blk_drew ?_ | refine blk_alloc ?_ _)); exact BK232.out) hb); have n4_ := Aside0.mk (blk_below (g := gb239) (o := .cells #[.slice Ao31 t234.length co31, .int .i64 t237, .int .i64 t238] 24 (0, 0)) (by (with_reducible repeat (first | refine blk_drewN ?_ _ | refine blk_drew ?_ | refine blk_alloc ?_ _)); refine blk_far ?_ NB239_249.out _; (with_reducible repeat (first | refine blk_drewN ?_ _ | refine blk_drew ?_ | refine blk_alloc ?_ _)); refine blk_far ?_ NB239_249.out _; (with_reducible repeat (first | refine blk_drewN ?_ _ | refine blk_drew ?_ | refine blk_alloc ?_ _)); refine blk_far ?_ NB239_249.out _; (with_reducible repeat (first | refine blk_drewN ?_ _ | refine blk_drew ?_ | refine blk_alloc ?_ _)); refine blk_far ?_ NB239_249.out _; (with_reducible repeat (first | refine blk_drewN ?_ _ | refine blk_drew ?_ | refine blk_alloc ?_ _)); refine blk_far ?_ NB239_249.out _; (with_reducible repeat (first | refine blk_drewN ?_ _ | refine blk_drew ?_ | refine blk_alloc ?_ _)); refine blk_far ?_ NB239_249.out _; (with_reducible repeat (first | refine blk_drewN ?_ _ | refine blk_drew ?_ | refine blk_alloc ?_ _)); refine blk_far ?_ NB239_249.out _; (with_reducible repeat (first | refine blk_drewN ?_ _ | refine blk_drew ?_ | refine blk_alloc ?_ _)); exact BK239.out) hb); have n5_ := Aside0.mk (blk_below (g := gb249) (o := .cells #[.int .i64 t240, .int .u64 t241, .int .i64 t242, .int .u64 t243, .int .i64 t244, .int .u64 t245, .slice Ao42 t246.length co42] 30 (0, 0)) (by (with_reducible repeat (first | refine blk_drewN ?_ _ | refine blk_drew ?_ | refine blk_alloc ?_ _)); refine blk_put (cs := #[.int .i64 t240, .int .u64 t241, .int .i64 t242, .int .u64 t243, .int .i64 t244, .int .u64 t245, .slice none 0 0]) ?_ 6 _ rfl; (with_reducible repeat (first | refine blk_drewN ?_ _ | refine blk_drew ?_ | refine blk_alloc ?_ _)); refine blk_put (cs := #[.int .i64 t240, .int .u64 t241, .int .i64 t242, .int .u64 t243, .int .i64 t244, .int .u64 0, .slice none 0 0]) ?_ 5 _ rfl; (with_reducible repeat (first | refine blk_drewN ?_ _ | refine blk_drew ?_ | refine blk_alloc ?_ _)); refine blk_put (cs := #[.int .i64 t240, .int .u64 t241, .int .i64 t242, .int .u64 t243, .int .i64 0, .int .u64 0, .slice none 0 0]) ?_ 4 _ rfl; (with_reducible repeat (first | refine blk_drewN ?_ _ | refine blk_drew ?_ | refine blk_alloc ?_ _)); refine blk_put (cs := #[.int .i64 t240, .int .u64 t241, .int .i64 t242, .int .u64 0, .int .i64 0, .int .u64 0, .slice none 0 0]) ?_ 3 _ rfl; (with_reducible repeat (first | refine blk_drewN ?_ _ | refine blk_drew ?_ | refine blk_alloc ?_ _)); refine blk_put (cs := #[.int .i64 t240, .int .u64 t241, .int .i64 0, .int .u64 0, .int .i64 0, .int .u64 0, .slice none 0 0]) ?_ 2 _ rfl; (with_reducible repeat (first | refine blk_drewN ?_ _ | refine blk_drew ?_ | refine blk_alloc ?_ _)); refine blk_put (cs := #[.int .i64 t240, .int .u64 0, .int .i64 0, .int .u64 0, .int .i64 0, .int .u64 0, .slice none 0 0]) ?_ 1 _ rfl; (with_reducible repeat (first | refine blk_drewN ?_ _ | refine blk_drew ?_ | refine blk_alloc ?_ _)); refine blk_put (cs := #[.int .i64 0, .int .u64 0, .int .i64 0, .int .u64 0, .int .i64 0, .int .u64 0, .slice none 0 0]) ?_ 0 _ rfl; (with_reducible repeat (first | refine blk_drewN ?_ _ | refine blk_drew ?_ | refine blk_alloc ?_ _)); exact BK249.out) hb); have n6_ := Aside0.mk (below_step (by repeat (first | (with_reducible first | exact HB.out | apply below_alloc | apply pw_below_drewN | apply below_drew1 | refine below_set ?_ GE231.out | refine below_set ?_ GE232.out | refine below_set ?_ GE239.out | refine below_set ?_ GE249.out) | exact HB.out)) hb); have n7_ := Aside0.mk (hbox); have n8_ := Aside0.mk ((by rw [hg]; exact (below_size (by repeat (first | (with_reducible first | exact HB.out | apply below_alloc | apply pw_below_drewN | apply below_drew1 | refine below_set ?_ GE231.out | refine below_set ?_ GE232.out | refine below_set ?_ GE239.out | refine below_set ?_ GE249.out) | exact HB.out))) : w.heap.size ≤ gb250)); have n9_ := Aside0.mk ((by rw [hg]; exact (below_size (by repeat (first | (with_reducible first | exact HB.out | apply below_alloc | apply pw_below_drewN | apply below_drew1 | refine below_set ?_ GE231.out | refine below_set ?_ GE232.out | refine below_set ?_ GE239.out | refine below_set ?_ GE249.out) | exact HB.out))) : w.heap.size ≤ gb250)); have n10_ := Aside0.mk ((by rw [hg]; exact Nat.ne_of_lt (blk_lt (g := gb231) (o := .cells #[.slice A0_0 l0_0.length c0_0, .int .i64 a0_1, .int .i64 a0_2] 24 (0, 0)) (by (with_reducible repeat (first | refine blk_drewN ?_ _ | refine blk_drew ?_ | refine blk_alloc ?_ _)); refine blk_far ?_ NB231_249.out _; (with_reducible repeat (first | refine blk_drewN ?_ _ | refine blk_drew ?_ | refine blk_alloc ?_ _)); refine blk_far ?_ NB231_249.out _; (with_reducible repeat (first | refine blk_drewN ?_ _ | refine blk_drew ?_ | refine blk_alloc ?_ _)); refine blk_far ?_ NB231_249.out _; (with_reducible repeat (first | refine blk_drewN ?_ _ | refine blk_drew ?_ | refine blk_alloc ?_ _)); refine blk_far ?_ NB231_249.out _; (with_reducible repeat (first | refine blk_drewN ?_ _ | refine blk_drew ?_ | refine blk_alloc ?_ _)); refine blk_far ?_ NB231_249.out _; (with_reducible repeat (first | refine blk_drewN ?_ _ | refine blk_drew ?_ | refine blk_alloc ?_ _)); refine blk_far ?_ NB231_249.out _; (with_reducible repeat (first | refine blk_drewN ?_ _ | refine blk_drew ?_ | refine blk_alloc ?_ _)); refine blk_far ?_ NB231_249.out _; (with_reducible repeat (first | refine blk_drewN ?_ _ | refine blk_drew ?_ | refine blk_alloc ?_ _)); exact BK231.out)) : gb231 ≠ gb250)); have n11_ := Aside0.mk ((by rw [hg]; exact Nat.ne_of_gt (blk_lt (g := gb231) (o := .cells #[.slice A0_0 l0_0.length c0_0, .int .i64 a0_1, .int .i64 a0_2] 24 (0, 0)) (by (with_reducible repeat (first | refine blk_drewN ?_ _ | refine blk_drew ?_ | refine blk_alloc ?_ _)); refine blk_far ?_ NB231_249.out _; (with_reducible repeat (first | refine blk_drewN ?_ _ | refine blk_drew ?_ | refine blk_alloc ?_ _)); refine blk_far ?_ NB231_249.out _; (with_reducible repeat (first | refine blk_drewN ?_ _ | refine blk_drew ?_ | refine blk_alloc ?_ _)); refine blk_far ?_ NB231_249.out _; (with_reducible repeat (first | refine blk_drewN ?_ _ | refine blk_drew ?_ | refine blk_alloc ?_ _)); refine blk_far ?_ NB231_249.out _; (with_reducible repeat (first | refine blk_drewN ?_ _ | refine blk_drew ?_ | refine blk_alloc ?_ _)); refine blk_far ?_ NB231_249.out _; (with_reducible repeat (first | refine blk_drewN ?_ _ | refine blk_drew ?_ | refine blk_alloc ?_ _)); refine blk_far ?_ NB231_249.out _; (with_reducible repeat (first | refine blk_drewN ?_ _ | refine blk_drew ?_ | refine blk_alloc ?_ _)); refine blk_far ?_ NB231_249.out _; (with_reducible repeat (first | refine blk_drewN ?_ _ | refine blk_drew ?_ | refine blk_alloc ?_ _)); exact BK231.out)) : gb250 ≠ gb231)); have n12_ := Aside0.mk ((by rw [hg]; exact Nat.ne_of_lt (blk_lt (g := gb232) (o := .cells #[.int .i64 a1_0, .int .u64 a1_1, .int .i64 a1_2, .int .u64 a1_3, .int .i64 a1_4, .int .u64 a1_5, .slice A1_6 l1_6.length c1_6] 30 (0, 0)) (by (with_reducible repeat (first | refine blk_drewN ?_ _ | refine blk_drew ?_ | refine blk_alloc ?_ _)); refine blk_far ?_ NB232_249.out _; (with_reducible repeat (first | refine blk_drewN ?_ _ | refine blk_drew ?_ | refine blk_alloc ?_ _)); refine blk_far ?_ NB232_249.out _; (with_reducible repeat (first | refine blk_drewN ?_ _ | refine blk_drew ?_ | refine blk_alloc ?_ _)); refine blk_far ?_ NB232_249.out _; (with_reducible repeat (first | refine blk_drewN ?_ _ | refine blk_drew ?_ | refine blk_alloc ?_ _)); refine blk_far ?_ NB232_249.out _; (with_reducible repeat (first | refine blk_drewN ?_ _ | refine blk_drew ?_ | refine blk_alloc ?_ _)); refine blk_far ?_ NB232_249.out _; (with_reducible repeat (first | refine blk_drewN ?_ _ | refine blk_drew ?_ | refine blk_alloc ?_ _)); refine blk_far ?_ NB232_249.out _; (with_reducible repeat (first | refine blk_drewN ?_ _ | refine blk_drew ?_ | refine blk_alloc ?_ _)); refine blk_far ?_ NB232_249.out _; (with_reducible repeat (first | refine blk_drewN ?_ _ | refine blk_drew ?_ | refine blk_alloc ?_ _)); exact BK232.out)) : gb232 ≠ gb250)); have n13_ := Aside0.mk ((by rw [hg]; exact Nat.ne_of_gt (blk_lt (g := gb232) (o := .cells #[.int .i64 a1_0, .int .u64 a1_1, .int .i64 a1_2, .int .u64 a1_3, .int .i64 a1_4, .int .u64 a1_5, .slice A1_6 l1_6.length c1_6] 30 (0, 0)) (by (with_reducible repeat (first | refine blk_drewN ?_ _ | refine blk_drew ?_ | refine blk_alloc ?_ _)); refine blk_far ?_ NB232_249.out _; (with_reducible repeat (first | refine blk_drewN ?_ _ | refine blk_drew ?_ | refine blk_alloc ?_ _)); refine blk_far ?_ NB232_249.out _; (with_reducible repeat (first | refine blk_drewN ?_ _ | refine blk_drew ?_ | refine blk_alloc ?_ _)); refine blk_far ?_ NB232_249.out _; (with_reducible repeat (first | refine blk_drewN ?_ _ | refine blk_drew ?_ | refine blk_alloc ?_ _)); refine blk_far ?_ NB232_249.out _; (with_reducible repeat (first | refine blk_drewN ?_ _ | refine blk_drew ?_ | refine blk_alloc ?_ _)); refine blk_far ?_ NB232_249.out _; (with_reducible repeat (first | refine blk_drewN ?_ _ | refine blk_drew ?_ | refine blk_alloc ?_ _)); refine blk_far ?_ NB232_249.out _; (with_reducible repeat (first | refine blk_drewN ?_ _ | refine blk_drew ?_ | refine blk_alloc ?_ _)); refine blk_far ?_ NB232_249.out _; (with_reducible repeat (first | refine blk_drewN ?_ _ | refine blk_drew ?_ | refine blk_alloc ?_ _)); exact BK232.out)) : gb250 ≠ gb232)); have n14_ := Aside0.mk ((by rw [hg]; exact Nat.ne_of_lt (blk_lt (g := gb239) (o := .cells #[.slice Ao31 t234.length co31, .int .i64 t237, .int .i64 t238] 24 (0, 0)) (by (with_reducible repeat (first | refine blk_drewN ?_ _ | refine blk_drew ?_ | refine blk_alloc ?_ _)); refine blk_far ?_ NB239_249.out _; (with_reducible repeat (first | refine blk_drewN ?_ _ | refine blk_drew ?_ | refine blk_alloc ?_ _)); refine blk_far ?_ NB239_249.out _; (with_reducible repeat (first | refine blk_drewN ?_ _ | refine blk_drew ?_ | refine blk_alloc ?_ _)); refine blk_far ?_ NB239_249.out _; (with_reducible repeat (first | refine blk_drewN ?_ _ | refine blk_drew ?_ | refine blk_alloc ?_ _)); refine blk_far ?_ NB239_249.out _; (with_reducible repeat (first | refine blk_drewN ?_ _ | refine blk_drew ?_ | refine blk_alloc ?_ _)); refine blk_far ?_ NB239_249.out _; (with_reducible repeat (first | refine blk_drewN ?_ _ | refine blk_drew ?_ | refine blk_alloc ?_ _)); refine blk_far ?_ NB239_249.out _; (with_reducible repeat (first | refine blk_drewN ?_ _ | refine blk_drew ?_ | refine blk_alloc ?_ _)); refine blk_far ?_ NB239_249.out _; (with_reducible repeat (first | refine blk_drewN ?_ _ | refine blk_drew ?_ | refine blk_alloc ?_ _)); exact BK239.out)) : gb239 ≠ gb250)); have n15_ := Aside0.mk ((by rw [hg]; exact Nat.ne_of_gt (blk_lt (g := gb239) (o := .cells #[.slice Ao31 t234.length co31, .int .i64 t237, .int .i64 t238] 24 (0, 0)) (by (with_reducible repeat (first | refine blk_drewN ?_ _ | refine blk_drew ?_ | refine blk_alloc ?_ _)); refine blk_far ?_ NB239_249.out _; (with_reducible repeat (first | refine blk_drewN ?_ _ | refine blk_drew ?_ | refine blk_alloc ?_ _)); refine blk_far ?_ NB239_249.out _; (with_reducible repeat (first | refine blk_drewN ?_ _ | refine blk_drew ?_ | refine blk_alloc ?_ _)); refine blk_far ?_ NB239_249.out _; (with_reducible repeat (first | refine blk_drewN ?_ _ | refine blk_drew ?_ | refine blk_alloc ?_ _)); refine blk_far ?_ NB239_249.out _; (with_reducible repeat (first | refine blk_drewN ?_ _ | refine blk_drew ?_ | refine blk_alloc ?_ _)); refine blk_far ?_ NB239_249.out _; (with_reducible repeat (first | refine blk_drewN ?_ _ | refine blk_drew ?_ | refine blk_alloc ?_ _)); refine blk_far ?_ NB239_249.out _; (with_reducible repeat (first | refine blk_drewN ?_ _ | refine blk_drew ?_ | refine blk_alloc ?_ _)); refine blk_far ?_ NB239_249.out _; (with_reducible repeat (first | refine blk_drewN ?_ _ | refine blk_drew ?_ | refine blk_alloc ?_ _)); exact BK239.out)) : gb250 ≠ gb239)); have n16_ := Aside0.mk ((by rw [hg]; exact Nat.ne_of_lt (blk_lt (g := gb249) (o := .cells #[.int .i64 t240, .int .u64 t241, .int .i64 t242, .int .u64 t243, .int .i64 t244, .int .u64 t245, .slice Ao42 t246.length co42] 30 (0, 0)) (by (with_reducible repeat (first | refine blk_drewN ?_ _ | refine blk_drew ?_ | refine blk_alloc ?_ _)); refine blk_put (cs := #[.int .i64 t240, .int .u64 t241, .int .i64 t242, .int .u64 t243, .int .i64 t244, .int .u64 t245, .slice none 0 0]) ?_ 6 _ rfl; (with_reducible repeat (first | refine blk_drewN ?_ _ | refine blk_drew ?_ | refine blk_alloc ?_ _)); refine blk_put (cs := #[.int .i64 t240, .int .u64 t241, .int .i64 t242, .int .u64 t243, .int .i64 t244, .int .u64 0, .slice none 0 0]) ?_ 5 _ rfl; (with_reducible repeat (first | refine blk_drewN ?_ _ | refine blk_drew ?_ | refine blk_alloc ?_ _)); refine blk_put (cs := #[.int .i64 t240, .int .u64 t241, .int .i64 t242, .int .u64 t243, .int .i64 0, .int .u64 0, .slice none 0 0]) ?_ 4 _ rfl; (with_reducible repeat (first | refine blk_drewN ?_ _ | refine blk_drew ?_ | refine blk_alloc ?_ _)); refine blk_put (cs := #[.int .i64 t240, .int .u64 t241, .int .i64 t242, .int .u64 0, .int .i64 0, .int .u64 0, .slice none 0 0]) ?_ 3 _ rfl; (with_reducible repeat (first | refine blk_drewN ?_ _ | refine blk_drew ?_ | refine blk_alloc ?_ _)); refine blk_put (cs := #[.int .i64 t240, .int .u64 t241, .int .i64 0, .int .u64 0, .int .i64 0, .int .u64 0, .slice none 0 0]) ?_ 2 _ rfl; (with_reducible repeat (first | refine blk_drewN ?_ _ | refine blk_drew ?_ | refine blk_alloc ?_ _)); refine blk_put (cs := #[.int .i64 t240, .int .u64 0, .int .i64 0, .int .u64 0, .int .i64 0, .int .u64 0, .slice none 0 0]) ?_ 1 _ rfl; (with_reducible repeat (first | refine blk_drewN ?_ _ | refine blk_drew ?_ | refine blk_alloc ?_ _)); refine blk_put (cs := #[.int .i64 0, .int .u64 0, .int .i64 0, .int .u64 0, .int .i64 0, .int .u64 0, .slice none 0 0]) ?_ 0 _ rfl; (with_reducible repeat (first | refine blk_drewN ?_ _ | refine blk_drew ?_ | refine blk_alloc ?_ _)); exact BK249.out)) : gb249 ≠ gb250)); have n17_ := Aside0.mk ((by rw [hg]; exact Nat.ne_of_gt (blk_lt (g := gb249) (o := .cells #[.int .i64 t240, .int .u64 t241, .int .i64 t242, .int .u64 t243, .int .i64 t244, .int .u64 t245, .slice Ao42 t246.length co42] 30 (0, 0)) (by (with_reducible repeat (first | refine blk_drewN ?_ _ | refine blk_drew ?_ | refine blk_alloc ?_ _)); refine blk_put (cs := #[.int .i64 t240, .int .u64 t241, .int .i64 t242, .int .u64 t243, .int .i64 t244, .int .u64 t245, .slice none 0 0]) ?_ 6 _ rfl; (with_reducible repeat (first | refine blk_drewN ?_ _ | refine blk_drew ?_ | refine blk_alloc ?_ _)); refine blk_put (cs := #[.int .i64 t240, .int .u64 t241, .int .i64 t242, .int .u64 t243, .int .i64 t244, .int .u64 0, .slice none 0 0]) ?_ 5 _ rfl; (with_reducible repeat (first | refine blk_drewN ?_ _ | refine blk_drew ?_ | refine blk_alloc ?_ _)); refine blk_put (cs := #[.int .i64 t240, .int .u64 t241, .int .i64 t242, .int .u64 t243, .int .i64 0, .int .u64 0, .slice none 0 0]) ?_ 4 _ rfl; (with_reducible repeat (first | refine blk_drewN ?_ _ | refine blk_drew ?_ | refine blk_alloc ?_ _)); refine blk_put (cs := #[.int .i64 t240, .int .u64 t241, .int .i64 t242, .int .u64 0, .int .i64 0, .int .u64 0, .slice none 0 0]) ?_ 3 _ rfl; (with_reducible repeat (first | refine blk_drewN ?_ _ | refine blk_drew ?_ | refine blk_alloc ?_ _)); refine blk_put (cs := #[.int .i64 t240, .int .u64 t241, .int .i64 0, .int .u64 0, .int .i64 0, .int .u64 0, .slice none 0 0]) ?_ 2 _ rfl; (with_reducible repeat (first | refine blk_drewN ?_ _ | refine blk_drew ?_ | refine blk_alloc ?_ _)); refine blk_put (cs := #[.int .i64 t240, .int .u64 0, .int .i64 0, .int .u64 0, .int .i64 0, .int .u64 0, .slice none 0 0]) ?_ 1 _ rfl; (with_reducible repeat (first | refine blk_drewN ?_ _ | refine blk_drew ?_ | refine blk_alloc ?_ _)); refine blk_put (cs := #[.int .i64 0, .int .u64 0, .int .i64 0, .int .u64 0, .int .i64 0, .int .u64 0, .slice none 0 0]) ?_ 0 _ rfl; (with_reducible repeat (first | refine blk_drewN ?_ _ | refine blk_drew ?_ | refine blk_alloc ?_ _)); exact BK249.out)) : gb250 ≠ gb249)); clear HO236; clear HO248; clear BK231; clear BK232; clear BK239; clear BK249; clear HB; have HO236 := n0_; have HO248 := n1_; have BK231 := n2_; have BK232 := n3_; have BK239 := n4_; have BK249 := n5_; have HB := n6_; have BK250 := n7_; have GW250 := n8_; have GE250 := n9_; have NB231_250 := n10_; have NB250_231 := n11_; have NB232_250 := n12_; have NB250_232 := n13_; have NB239_250 := n14_; have NB250_239 := n15_; have NB249_250 := n16_; have NB250_249 := n17_; clear n0_ n1_ n2_ n3_ n4_ n5_ n6_ n7_ n8_ n9_ n10_ n11_ n12_ n13_ n14_ n15_ n16_ n17_; clear hb hbox hg; have hnb44 := NB250_231.out; have hnc44 := NB231_250.out; have hnb45 := NB250_232.out; have hnc45 := NB232_250.out; have hnb46 := NB250_239.out; have hnc46 := NB239_250.out; have hnb47 := NB250_249.out; have hnc47 := NB249_250.out; obtain ⟨hcz48_0, hcz48_1, hcz48_2, hcz48_3, hcz48_4, hcz48_5, hcz48_6⟩ := Cells.c7 BK250.out; obtain ⟨hfz48_0, hfz48_1, hfz48_2, hfz48_3, hfz48_4, hfz48_5, hfz48_6⟩ := Cells.z7 BK250.out))
                        have n0_ : Aside0 (Kd.R (Kd.int .u64) 25 (((((((w43.setCell ⟨gb250, 0, none⟩ (.int .i64 t240)).setCell ⟨gb250, 1, none⟩ (.int .u64 t241)).setCell ⟨gb250, 2, none⟩ (.int .i64 t242)).setCell ⟨gb250, 3, none⟩ (.int .u64 t243)).setCell ⟨gb250, 4, none⟩ (.int .i64 t244)).setCell ⟨gb250, 5, none⟩ (.int .u64 t245)).setCell ⟨gb250, 6, none⟩ (.slice Ao42 t246.length co42)) w.heap.size (fun _ => True) (.slice Ao31 t234.length co31) t234) := ⟨by (with_reducible repeat (first | apply Kd.R_alloc | apply Kd.R_drewN | apply Kd.R_drew)); exact Kd.R_mono (Kd.R_far (p := ⟨gb250, 6, none⟩) (Kd.R_far (p := ⟨gb250, 5, none⟩) (Kd.R_far (p := ⟨gb250, 4, none⟩) (Kd.R_far (p := ⟨gb250, 3, none⟩) (Kd.R_far (p := ⟨gb250, 2, none⟩) (Kd.R_far (p := ⟨gb250, 1, none⟩) (Kd.R_far (p := ⟨gb250, 0, none⟩) (Kd.R_types HO236.out BK250.out (by decide)) (fun _ hk => hk.2) (.int .i64 t240)) (fun _ hk => hk.2) (.int .u64 t241)) (fun _ hk => hk.2) (.int .i64 t242)) (fun _ hk => hk.2) (.int .u64 t243)) (fun _ hk => hk.2) (.int .i64 t244)) (fun _ hk => hk.2) (.int .u64 t245)) (fun _ hk => hk.2) (.slice Ao42 t246.length co42)) (fun _ hk => trivial)⟩
                        have n1_ : Aside0 (Kd.R (Kd.int .i64) 3 (((((((w43.setCell ⟨gb250, 0, none⟩ (.int .i64 t240)).setCell ⟨gb250, 1, none⟩ (.int .u64 t241)).setCell ⟨gb250, 2, none⟩ (.int .i64 t242)).setCell ⟨gb250, 3, none⟩ (.int .u64 t243)).setCell ⟨gb250, 4, none⟩ (.int .i64 t244)).setCell ⟨gb250, 5, none⟩ (.int .u64 t245)).setCell ⟨gb250, 6, none⟩ (.slice Ao42 t246.length co42)) w.heap.size (fun _ => True) (.slice Ao42 t246.length co42) t246) := ⟨by (with_reducible repeat (first | apply Kd.R_alloc | apply Kd.R_drewN | apply Kd.R_drew)); exact Kd.R_mono (Kd.R_far (p := ⟨gb250, 6, none⟩) (Kd.R_far (p := ⟨gb250, 5, none⟩) (Kd.R_far (p := ⟨gb250, 4, none⟩) (Kd.R_far (p := ⟨gb250, 3, none⟩) (Kd.R_far (p := ⟨gb250, 2, none⟩) (Kd.R_far (p := ⟨gb250, 1, none⟩) (Kd.R_far (p := ⟨gb250, 0, none⟩) (Kd.R_types HO248.out BK250.out (by decide)) (fun _ hk => hk.2) (.int .i64 t240)) (fun _ hk => hk.2) (.int .u64 t241)) (fun _ hk => hk.2) (.int .i64 t242)) (fun _ hk => hk.2) (.int .u64 t243)) (fun _ hk => hk.2) (.int .i64 t244)) (fun _ hk => hk.2) (.int .u64 t245)) (fun _ hk => hk.2) (.slice Ao42 t246.length co42)) (fun _ hk => trivial)⟩
                        have n2_ : Aside0 ((((((((w43.setCell ⟨gb250, 0, none⟩ (.int .i64 t240)).setCell ⟨gb250, 1, none⟩ (.int .u64 t241)).setCell ⟨gb250, 2, none⟩ (.int .i64 t242)).setCell ⟨gb250, 3, none⟩ (.int .u64 t243)).setCell ⟨gb250, 4, none⟩ (.int .i64 t244)).setCell ⟨gb250, 5, none⟩ (.int .u64 t245)).setCell ⟨gb250, 6, none⟩ (.slice Ao42 t246.length co42)).heap[gb231]? = some (.cells #[.slice A0_0 l0_0.length c0_0, .int .i64 a0_1, .int .i64 a0_2] 24 (0, 0))) := ⟨by (with_reducible repeat (first | refine blk_drewN ?_ _ | refine blk_drew ?_ | refine blk_alloc ?_ _)); refine blk_far ?_ NB231_250.out _; (with_reducible repeat (first | refine blk_drewN ?_ _ | refine blk_drew ?_ | refine blk_alloc ?_ _)); refine blk_far ?_ NB231_250.out _; (with_reducible repeat (first | refine blk_drewN ?_ _ | refine blk_drew ?_ | refine blk_alloc ?_ _)); refine blk_far ?_ NB231_250.out _; (with_reducible repeat (first | refine blk_drewN ?_ _ | refine blk_drew ?_ | refine blk_alloc ?_ _)); refine blk_far ?_ NB231_250.out _; (with_reducible repeat (first | refine blk_drewN ?_ _ | refine blk_drew ?_ | refine blk_alloc ?_ _)); refine blk_far ?_ NB231_250.out _; (with_reducible repeat (first | refine blk_drewN ?_ _ | refine blk_drew ?_ | refine blk_alloc ?_ _)); refine blk_far ?_ NB231_250.out _; (with_reducible repeat (first | refine blk_drewN ?_ _ | refine blk_drew ?_ | refine blk_alloc ?_ _)); refine blk_far ?_ NB231_250.out _; (with_reducible repeat (first | refine blk_drewN ?_ _ | refine blk_drew ?_ | refine blk_alloc ?_ _)); exact BK231.out⟩
                        have n3_ : Aside0 ((((((((w43.setCell ⟨gb250, 0, none⟩ (.int .i64 t240)).setCell ⟨gb250, 1, none⟩ (.int .u64 t241)).setCell ⟨gb250, 2, none⟩ (.int .i64 t242)).setCell ⟨gb250, 3, none⟩ (.int .u64 t243)).setCell ⟨gb250, 4, none⟩ (.int .i64 t244)).setCell ⟨gb250, 5, none⟩ (.int .u64 t245)).setCell ⟨gb250, 6, none⟩ (.slice Ao42 t246.length co42)).heap[gb232]? = some (.cells #[.int .i64 a1_0, .int .u64 a1_1, .int .i64 a1_2, .int .u64 a1_3, .int .i64 a1_4, .int .u64 a1_5, .slice A1_6 l1_6.length c1_6] 30 (0, 0))) := ⟨by (with_reducible repeat (first | refine blk_drewN ?_ _ | refine blk_drew ?_ | refine blk_alloc ?_ _)); refine blk_far ?_ NB232_250.out _; (with_reducible repeat (first | refine blk_drewN ?_ _ | refine blk_drew ?_ | refine blk_alloc ?_ _)); refine blk_far ?_ NB232_250.out _; (with_reducible repeat (first | refine blk_drewN ?_ _ | refine blk_drew ?_ | refine blk_alloc ?_ _)); refine blk_far ?_ NB232_250.out _; (with_reducible repeat (first | refine blk_drewN ?_ _ | refine blk_drew ?_ | refine blk_alloc ?_ _)); refine blk_far ?_ NB232_250.out _; (with_reducible repeat (first | refine blk_drewN ?_ _ | refine blk_drew ?_ | refine blk_alloc ?_ _)); refine blk_far ?_ NB232_250.out _; (with_reducible repeat (first | refine blk_drewN ?_ _ | refine blk_drew ?_ | refine blk_alloc ?_ _)); refine blk_far ?_ NB232_250.out _; (with_reducible repeat (first | refine blk_drewN ?_ _ | refine blk_drew ?_ | refine blk_alloc ?_ _)); refine blk_far ?_ NB232_250.out _; (with_reducible repeat (first | refine blk_drewN ?_ _ | refine blk_drew ?_ | refine blk_alloc ?_ _)); exact BK232.out⟩
                        have n4_ : Aside0 ((((((((w43.setCell ⟨gb250, 0, none⟩ (.int .i64 t240)).setCell ⟨gb250, 1, none⟩ (.int .u64 t241)).setCell ⟨gb250, 2, none⟩ (.int .i64 t242)).setCell ⟨gb250, 3, none⟩ (.int .u64 t243)).setCell ⟨gb250, 4, none⟩ (.int .i64 t244)).setCell ⟨gb250, 5, none⟩ (.int .u64 t245)).setCell ⟨gb250, 6, none⟩ (.slice Ao42 t246.length co42)).heap[gb239]? = some (.cells #[.slice Ao31 t234.length co31, .int .i64 t237, .int .i64 t238] 24 (0, 0))) := ⟨by (with_reducible repeat (first | refine blk_drewN ?_ _ | refine blk_drew ?_ | refine blk_alloc ?_ _)); refine blk_far ?_ NB239_250.out _; (with_reducible repeat (first | refine blk_drewN ?_ _ | refine blk_drew ?_ | refine blk_alloc ?_ _)); refine blk_far ?_ NB239_250.out _; (with_reducible repeat (first | refine blk_drewN ?_ _ | refine blk_drew ?_ | refine blk_alloc ?_ _)); refine blk_far ?_ NB239_250.out _; (with_reducible repeat (first | refine blk_drewN ?_ _ | refine blk_drew ?_ | refine blk_alloc ?_ _)); refine blk_far ?_ NB239_250.out _; (with_reducible repeat (first | refine blk_drewN ?_ _ | refine blk_drew ?_ | refine blk_alloc ?_ _)); refine blk_far ?_ NB239_250.out _; (with_reducible repeat (first | refine blk_drewN ?_ _ | refine blk_drew ?_ | refine blk_alloc ?_ _)); refine blk_far ?_ NB239_250.out _; (with_reducible repeat (first | refine blk_drewN ?_ _ | refine blk_drew ?_ | refine blk_alloc ?_ _)); refine blk_far ?_ NB239_250.out _; (with_reducible repeat (first | refine blk_drewN ?_ _ | refine blk_drew ?_ | refine blk_alloc ?_ _)); exact BK239.out⟩
                        have n5_ : Aside0 ((((((((w43.setCell ⟨gb250, 0, none⟩ (.int .i64 t240)).setCell ⟨gb250, 1, none⟩ (.int .u64 t241)).setCell ⟨gb250, 2, none⟩ (.int .i64 t242)).setCell ⟨gb250, 3, none⟩ (.int .u64 t243)).setCell ⟨gb250, 4, none⟩ (.int .i64 t244)).setCell ⟨gb250, 5, none⟩ (.int .u64 t245)).setCell ⟨gb250, 6, none⟩ (.slice Ao42 t246.length co42)).heap[gb249]? = some (.cells #[.int .i64 t240, .int .u64 t241, .int .i64 t242, .int .u64 t243, .int .i64 t244, .int .u64 t245, .slice Ao42 t246.length co42] 30 (0, 0))) := ⟨by (with_reducible repeat (first | refine blk_drewN ?_ _ | refine blk_drew ?_ | refine blk_alloc ?_ _)); refine blk_far ?_ NB249_250.out _; (with_reducible repeat (first | refine blk_drewN ?_ _ | refine blk_drew ?_ | refine blk_alloc ?_ _)); refine blk_far ?_ NB249_250.out _; (with_reducible repeat (first | refine blk_drewN ?_ _ | refine blk_drew ?_ | refine blk_alloc ?_ _)); refine blk_far ?_ NB249_250.out _; (with_reducible repeat (first | refine blk_drewN ?_ _ | refine blk_drew ?_ | refine blk_alloc ?_ _)); refine blk_far ?_ NB249_250.out _; (with_reducible repeat (first | refine blk_drewN ?_ _ | refine blk_drew ?_ | refine blk_alloc ?_ _)); refine blk_far ?_ NB249_250.out _; (with_reducible repeat (first | refine blk_drewN ?_ _ | refine blk_drew ?_ | refine blk_alloc ?_ _)); refine blk_far ?_ NB249_250.out _; (with_reducible repeat (first | refine blk_drewN ?_ _ | refine blk_drew ?_ | refine blk_alloc ?_ _)); refine blk_far ?_ NB249_250.out _; (with_reducible repeat (first | refine blk_drewN ?_ _ | refine blk_drew ?_ | refine blk_alloc ?_ _)); exact BK249.out⟩
                        have n6_ : Aside0 ((((((((w43.setCell ⟨gb250, 0, none⟩ (.int .i64 t240)).setCell ⟨gb250, 1, none⟩ (.int .u64 t241)).setCell ⟨gb250, 2, none⟩ (.int .i64 t242)).setCell ⟨gb250, 3, none⟩ (.int .u64 t243)).setCell ⟨gb250, 4, none⟩ (.int .i64 t244)).setCell ⟨gb250, 5, none⟩ (.int .u64 t245)).setCell ⟨gb250, 6, none⟩ (.slice Ao42 t246.length co42)).heap[gb250]? = some (.cells #[.int .i64 t240, .int .u64 t241, .int .i64 t242, .int .u64 t243, .int .i64 t244, .int .u64 t245, .slice Ao42 t246.length co42] 30 (0, 0))) := ⟨by (with_reducible repeat (first | refine blk_drewN ?_ _ | refine blk_drew ?_ | refine blk_alloc ?_ _)); refine blk_put (cs := #[.int .i64 t240, .int .u64 t241, .int .i64 t242, .int .u64 t243, .int .i64 t244, .int .u64 t245, .slice none 0 0]) ?_ 6 _ rfl; (with_reducible repeat (first | refine blk_drewN ?_ _ | refine blk_drew ?_ | refine blk_alloc ?_ _)); refine blk_put (cs := #[.int .i64 t240, .int .u64 t241, .int .i64 t242, .int .u64 t243, .int .i64 t244, .int .u64 0, .slice none 0 0]) ?_ 5 _ rfl; (with_reducible repeat (first | refine blk_drewN ?_ _ | refine blk_drew ?_ | refine blk_alloc ?_ _)); refine blk_put (cs := #[.int .i64 t240, .int .u64 t241, .int .i64 t242, .int .u64 t243, .int .i64 0, .int .u64 0, .slice none 0 0]) ?_ 4 _ rfl; (with_reducible repeat (first | refine blk_drewN ?_ _ | refine blk_drew ?_ | refine blk_alloc ?_ _)); refine blk_put (cs := #[.int .i64 t240, .int .u64 t241, .int .i64 t242, .int .u64 0, .int .i64 0, .int .u64 0, .slice none 0 0]) ?_ 3 _ rfl; (with_reducible repeat (first | refine blk_drewN ?_ _ | refine blk_drew ?_ | refine blk_alloc ?_ _)); refine blk_put (cs := #[.int .i64 t240, .int .u64 t241, .int .i64 0, .int .u64 0, .int .i64 0, .int .u64 0, .slice none 0 0]) ?_ 2 _ rfl; (with_reducible repeat (first | refine blk_drewN ?_ _ | refine blk_drew ?_ | refine blk_alloc ?_ _)); refine blk_put (cs := #[.int .i64 t240, .int .u64 0, .int .i64 0, .int .u64 0, .int .i64 0, .int .u64 0, .slice none 0 0]) ?_ 1 _ rfl; (with_reducible repeat (first | refine blk_drewN ?_ _ | refine blk_drew ?_ | refine blk_alloc ?_ _)); refine blk_put (cs := #[.int .i64 0, .int .u64 0, .int .i64 0, .int .u64 0, .int .i64 0, .int .u64 0, .slice none 0 0]) ?_ 0 _ rfl; (with_reducible repeat (first | refine blk_drewN ?_ _ | refine blk_drew ?_ | refine blk_alloc ?_ _)); exact BK250.out⟩
                        have n7_ : Aside0 (Below w.heap.size w (((((((w43.setCell ⟨gb250, 0, none⟩ (.int .i64 t240)).setCell ⟨gb250, 1, none⟩ (.int .u64 t241)).setCell ⟨gb250, 2, none⟩ (.int .i64 t242)).setCell ⟨gb250, 3, none⟩ (.int .u64 t243)).setCell ⟨gb250, 4, none⟩ (.int .i64 t244)).setCell ⟨gb250, 5, none⟩ (.int .u64 t245)).setCell ⟨gb250, 6, none⟩ (.slice Ao42 t246.length co42))) := ⟨by repeat (first | (with_reducible first | exact HB.out | apply below_alloc | apply pw_below_drewN | apply below_drew1 | refine below_set ?_ GE231.out | refine below_set ?_ GE232.out | refine below_set ?_ GE239.out | refine below_set ?_ GE249.out | refine below_set ?_ GE250.out) | exact HB.out)⟩
                        (try clear HO236)
                        (try clear HO248)
                        (try clear BK231)
                        (try clear BK232)
                        (try clear BK239)
                        (try clear BK249)
                        (try clear BK250)
                        (try clear HB)
                        generalize (((((((w43.setCell ⟨gb250, 0, none⟩ (.int .i64 t240)).setCell ⟨gb250, 1, none⟩ (.int .u64 t241)).setCell ⟨gb250, 2, none⟩ (.int .i64 t242)).setCell ⟨gb250, 3, none⟩ (.int .u64 t243)).setCell ⟨gb250, 4, none⟩ (.int .i64 t244)).setCell ⟨gb250, 5, none⟩ (.int .u64 t245)).setCell ⟨gb250, 6, none⟩ (.slice Ao42 t246.length co42)) = w49 at n0_ n1_ n2_ n3_ n4_ n5_ n6_ n7_ ⊢
                        have HO236 := n0_
                        have HO248 := n1_
                        have BK231 := n2_
                        have BK232 := n3_
                        have BK239 := n4_
                        have BK249 := n5_
                        have BK250 := n6_
                        have HB := n7_
                        clear n0_ n1_ n2_ n3_ n4_ n5_ n6_ n7_
                        have n0_ := Aside0.mk (Kd.R_drew HO236.out)
                        have n1_ := Aside0.mk (Kd.R_drew HO248.out)
                        have n2_ := Aside0.mk (blk_drew BK231.out)
                        have n3_ := Aside0.mk (blk_drew BK232.out)
                        have n4_ := Aside0.mk (blk_drew BK239.out)
                        have n5_ := Aside0.mk (blk_drew BK249.out)
                        have n6_ := Aside0.mk (blk_drew BK250.out)
                        have n7_ := Aside0.mk (below_drew1 HB.out)
                        clear HO236
                        clear HO248
                        clear BK231
                        clear BK232
                        clear BK239
                        clear BK249
                        clear BK250
                        clear HB
                        have HO236 := n0_
                        have HO248 := n1_
                        have BK231 := n2_
                        have BK232 := n3_
                        have BK239 := n4_
                        have BK249 := n5_
                        have BK250 := n6_
                        have HB := n7_
                        clear n0_ n1_ n2_ n3_ n4_ n5_ n6_ n7_
                        have q51 : ((ji9) : Int) ≤ ((t246.length : Int) : Int) := of_decide_eq_true (by first | (with_reducible assumption) | assumption)
                        obtain ⟨i051, hi051, _, hsz51, _⟩ := info_parts info3
                        have hroom51 : t246.length ≤ co42 := (Kd.R_reads' HO248.out).2.1
                        have hC51 : Kd.C (Kd.int .i64) _ Ao42 t246.length t246 := (Kd.R_reads' HO248.out).2.2
                        have hcut51 := cut_to (P := Try.prog) 28 3 .i64 Try.underlying28 hi051 Ao42 t246.length co42 (ji9) (of_decide_eq_true (by first | (with_reducible assumption) | assumption)) q51 hroom51
                        have hr51 := Kd.C_take (m := ((ji9) : Int).toNat) hC51 (by omega)
                        have hy51 : y251.length = ((ji9) : Int).toNat := (by rw [Ny251.out, List.length_take]; omega)
                        rw [← Ny251.out] at hr51
                        rw [← hy51] at hcut51
                        have HR254 := Aside0.mk hr51
                        have HC254 := Aside0.mk (show y251.length ≤ co42 from by omega)
                        clear hr51 hC51 hroom51 hi051 hsz51
                        have KY51 := Aside0.mk hy51
                        clear hy51
                        have KL51 := Aside0.mk (show ((ji9) : Int).toNat ≤ t246.length from by omega)
                        replace q51 := eq_true q51
                        have q52 : ((ji13) : Int) ≤ ((t246.length : Int) : Int) := of_decide_eq_true (by first | (with_reducible assumption) | assumption)
                        obtain ⟨i052, hi052, _, hsz52, _⟩ := info_parts info3
                        have hroom52 : t246.length ≤ co42 := (Kd.R_reads' HO248.out).2.1
                        have hC52 : Kd.C (Kd.int .i64) _ Ao42 t246.length t246 := (Kd.R_reads' HO248.out).2.2
                        have q052 : (0 : Int) ≤ ((ji13) : Int) := of_decide_eq_true (by first | (with_reducible assumption) | assumption)
                        have hcut52 := cut_from (P := Try.prog) 28 3 .i64 Try.underlying28 hi052 1 hsz52 Ao42 t246.length co42 (ji13) q052 q52
                        have hr52 := Kd.C_drop (m := ((ji13) : Int).toNat) (c := co42) hC52 (by omega) hroom52
                        obtain ⟨A52, hA52⟩ : ∃ A1, A1 = (if co42 = ((ji13) : Int).toNat then Ao42 else (Ao42 : Option Addr).map (·.add (((ji13) : Int).toNat * 1))) := ⟨_, rfl⟩
                        obtain ⟨c52, hc52⟩ : ∃ c1, c1 = co42 - ((ji13) : Int).toNat := ⟨_, rfl⟩
                        have hy52 : y258.length = t246.length - ((ji13) : Int).toNat := (by rw [Ny258.out, List.length_drop] <;> omega)
                        rw [show (t246).drop ((ji13) : Int).toNat = y258 from Ny258.out.symm] at hr52
                        replace hr52 : Kd.C (Kd.int .i64) _ A52 y258.length y258 := (by rw [hA52]; exact hr52)
                        rw [← hy52, ← hA52, ← hc52] at hcut52
                        have HR261 := Aside0.mk hr52
                        have HC261 := Aside0.mk (show y258.length ≤ c52 from by rw [hy52, hc52]; exact Nat.sub_le_sub_right hroom52 _)
                        clear hr52 hC52 hroom52 hi052 hsz52 hc52
                        have KY52 := Aside0.mk hy52
                        have KA52 := Aside0.mk hA52
                        clear hy52 hA52
                        have KL52 := Aside0.mk (show ((ji13) : Int).toNat ≤ t246.length from by omega)
                        replace q52 := eq_true q52
                        refine start_ (n := 13) (S := fun w' => w'.cell? ⟨gb249, 0, none⟩ = some (.int .i64 t240) ∧ w'.cell? ⟨gb249, 1, none⟩ = some (.int .u64 t241) ∧ w'.cell? ⟨gb249, 2, none⟩ = some (.int .i64 t242) ∧ w'.cell? ⟨gb249, 3, none⟩ = some (.int .u64 t243) ∧ w'.cell? ⟨gb249, 4, none⟩ = some (.int .i64 t244) ∧ w'.cell? ⟨gb249, 5, none⟩ = some (.int .u64 t245) ∧ w'.cell? ⟨gb249, 6, none⟩ = some (.slice Ao42 t246.length co42)) (ds := []) #[false, false, false, false, false, false, false, false, false, false, false, false, false] (by kernel_rfl) rfl rfl ⟨(blk_cell BK249.out 0).trans rfl, (blk_cell BK249.out 1).trans rfl, (blk_cell BK249.out 2).trans rfl, (blk_cell BK249.out 3).trans rfl, (blk_cell BK249.out 4).trans rfl, (blk_cell BK249.out 5).trans rfl, (blk_cell BK249.out 6).trans rfl⟩ (fun hHeld => ?_); refine with_tabW psephoslaw05_VoteFewer.tab7 psephoslaw05_VoteFewer.bits7 (fun HT_ HW_ => ?_)
                        generalize w49.drew = w50 at HO236 HO248 BK231 BK232 BK239 BK249 BK250 HB HR254 HR261 hHeld ⊢
                        refine pure_ (i := 0) (N := some 25) (v := ?_) (a' := ?_) #[true, false, false, false, false, false, false, false, false, false, false, false, false] rfl rfl (any_of HT_.out (by kernel_rfl)) (fun _ _ _ h => h) (Or.inl ⟨by first | rfl | (have hq_ := ‹(_ == decide ((_ : Int) > 0)) = true›; simp only [gt_iff_lt, Int.natCast_pos] at hq_; rw [hq_]; rfl) | (have hq_ := ‹(_ == decide ((_ : Int) > 0)) = true›; simp only [gt_iff_lt, Int.natCast_pos] at hq_; simp only [hq_]; rfl), ?_⟩) ?_ ?_
                        rotate_left
                        · intro w'
                          go_simp
                          with_reducible rfl
                        rotate_left
                        · simp only [Act.put, List.setIfInBounds_toArray, List.set_cons_zero, List.set_cons_succ, i64_w, i32_w]
                          rfl
                        refine pure_ (i := 2) (N := some 27) (v := ?_) (a' := ?_) #[true, false, true, false, false, false, false, false, false, false, false, false, false] rfl rfl (any_of HT_.out (by kernel_rfl)) (fun _ _ _ h => h) (Or.inl ⟨by first | rfl | (have hq_ := ‹(_ == decide ((_ : Int) > 0)) = true›; simp only [gt_iff_lt, Int.natCast_pos] at hq_; rw [hq_]; rfl) | (have hq_ := ‹(_ == decide ((_ : Int) > 0)) = true›; simp only [gt_iff_lt, Int.natCast_pos] at hq_; simp only [hq_]; rfl), ?_⟩) ?_ ?_
                        rotate_left
                        · intro w'
                          go_simp
                          with_reducible rfl
                        rotate_left
                        · simp only [Act.put, List.setIfInBounds_toArray, List.set_cons_zero, List.set_cons_succ, i64_w, i32_w]
                          rfl
                        refine pure_ (i := 5) (N := some 30) (v := ?_) (a' := ?_) #[true, false, true, false, false, true, false, false, false, false, false, false, false] rfl rfl (any_of HT_.out (by kernel_rfl)) (fun _ _ _ h => h) (Or.inl ⟨by first | rfl | (have hq_ := ‹(_ == decide ((_ : Int) > 0)) = true›; simp only [gt_iff_lt, Int.natCast_pos] at hq_; rw [hq_]; rfl) | (have hq_ := ‹(_ == decide ((_ : Int) > 0)) = true›; simp only [gt_iff_lt, Int.natCast_pos] at hq_; simp only [hq_]; rfl), ?_⟩) ?_ ?_
                        rotate_left
                        · intro w'
                          go_simp
                          with_reducible rfl
                        rotate_left
                        · simp only [Act.put, List.setIfInBounds_toArray, List.set_cons_zero, List.set_cons_succ, i64_w, i32_w]
                          rfl
                        refine pure_ (i := 7) (N := some 32) (v := ?_) (a' := ?_) #[true, false, true, false, false, true, false, true, false, false, false, false, false] rfl rfl (any_of HT_.out (by kernel_rfl)) (fun _ _ _ h => h) (Or.inl ⟨by first | rfl | (have hq_ := ‹(_ == decide ((_ : Int) > 0)) = true›; simp only [gt_iff_lt, Int.natCast_pos] at hq_; rw [hq_]; rfl) | (have hq_ := ‹(_ == decide ((_ : Int) > 0)) = true›; simp only [gt_iff_lt, Int.natCast_pos] at hq_; simp only [hq_]; rfl), ?_⟩) ?_ ?_
                        rotate_left
                        · intro w'
                          go_simp
                          with_reducible rfl
                        rotate_left
                        · simp only [Act.put, List.setIfInBounds_toArray, List.set_cons_zero, List.set_cons_succ, i64_w, i32_w]
                          rfl
                        refine pure_ (i := 8) (N := some 33) (v := ?_) (a' := ?_) #[true, false, true, false, false, true, false, true, true, false, false, false, false] rfl rfl (any_of HT_.out (by kernel_rfl)) (fun _ _ _ h => h) (Or.inl ⟨by first | rfl | (have hq_ := ‹(_ == decide ((_ : Int) > 0)) = true›; simp only [gt_iff_lt, Int.natCast_pos] at hq_; rw [hq_]; rfl) | (have hq_ := ‹(_ == decide ((_ : Int) > 0)) = true›; simp only [gt_iff_lt, Int.natCast_pos] at hq_; simp only [hq_]; rfl), ?_⟩) ?_ ?_
                        rotate_left
                        · intro w'
                          go_simp
                          with_reducible rfl
                        rotate_left
                        · simp only [Act.put, List.setIfInBounds_toArray, List.set_cons_zero, List.set_cons_succ, i64_w, i32_w]
                          rfl
                        refine take_ (i := 1) (N := some 26) (v := ?_) (a' := ?_) #[true, true, true, false, false, true, false, true, true, false, false, false, false] rfl rfl (take_ofW HT_.out HW_.out (by kernel_rfl)) (fun _ _ _ h => h) (Or.inl ⟨by first | rfl | (have hq_ := ‹(_ == decide ((_ : Int) > 0)) = true›; simp only [gt_iff_lt, Int.natCast_pos] at hq_; rw [hq_]; rfl) | (have hq_ := ‹(_ == decide ((_ : Int) > 0)) = true›; simp only [gt_iff_lt, Int.natCast_pos] at hq_; simp only [hq_]; rfl), ?_⟩) hHeld ?_ ?_
                        rotate_left
                        · rintro w' ⟨s0, s1, s2, s3, s4, s5, s6⟩
                          go_simp
                          with_reducible rfl
                        rotate_left
                        · simp only [Act.put, List.setIfInBounds_toArray, List.set_cons_zero, List.set_cons_succ, i64_w, i32_w]
                          rfl
                        refine pure_ (i := 3) (N := some 28) (v := ?_) (a' := ?_) #[true, true, true, true, false, true, false, true, true, false, false, false, false] rfl rfl (any_of HT_.out (by kernel_rfl)) (fun _ _ _ h => h) (Or.inl ⟨by first | rfl | (have hq_ := ‹(_ == decide ((_ : Int) > 0)) = true›; simp only [gt_iff_lt, Int.natCast_pos] at hq_; rw [hq_]; rfl) | (have hq_ := ‹(_ == decide ((_ : Int) > 0)) = true›; simp only [gt_iff_lt, Int.natCast_pos] at hq_; simp only [hq_]; rfl), ?_⟩) ?_ ?_
                        rotate_left
                        · intro w'
                          go_simp
                          with_reducible rfl
                        rotate_left
                        · simp only [Act.put, List.setIfInBounds_toArray, List.set_cons_zero, List.set_cons_succ, i64_w, i32_w]
                          rfl
                        refine take_ (i := 6) (N := some 31) (v := ?_) (a' := ?_) #[true, true, true, true, false, true, true, true, true, false, false, false, false] rfl rfl (take_ofW HT_.out HW_.out (by kernel_rfl)) (fun _ _ _ h => h) (Or.inl ⟨by first | rfl | (have hq_ := ‹(_ == decide ((_ : Int) > 0)) = true›; simp only [gt_iff_lt, Int.natCast_pos] at hq_; rw [hq_]; rfl) | (have hq_ := ‹(_ == decide ((_ : Int) > 0)) = true›; simp only [gt_iff_lt, Int.natCast_pos] at hq_; simp only [hq_]; rfl), ?_⟩) hHeld ?_ ?_
                        rotate_left
                        · rintro w' ⟨s0, s1, s2, s3, s4, s5, s6⟩
                          go_simp
                          with_reducible rfl
                        rotate_left
                        · simp only [Act.put, List.setIfInBounds_toArray, List.set_cons_zero, List.set_cons_succ, i64_w, i32_w]
                          rfl
                        refine pure_ (i := 9) (N := some 34) (v := ?_) (a' := ?_) #[true, true, true, true, false, true, true, true, true, true, false, false, false] rfl rfl (any_of HT_.out (by kernel_rfl)) (fun _ _ _ h => h) (Or.inl ⟨by first | rfl | (have hq_ := ‹(_ == decide ((_ : Int) > 0)) = true›; simp only [gt_iff_lt, Int.natCast_pos] at hq_; rw [hq_]; rfl) | (have hq_ := ‹(_ == decide ((_ : Int) > 0)) = true›; simp only [gt_iff_lt, Int.natCast_pos] at hq_; simp only [hq_]; rfl), ?_⟩) ?_ ?_
                        rotate_left
                        · intro w'
                          go_simp
                          with_reducible rfl
                        rotate_left
                        · simp only [Act.put, List.setIfInBounds_toArray, List.set_cons_zero, List.set_cons_succ, i64_w, i32_w]
                          rfl
                        refine one_ (i := 4) (N := some 29) #[true, true, true, true, true, true, true, true, true, true, false, false, false] rfl rfl (one_of HT_.out (by kernel_rfl)) (by decide) (fun K hK => ?_)
                        refine Kd.R_append_rows_step (Kd.int .i64) (w0 := w) w.heap.size rfl (.const (.slice none 0 0)) (.tmp 28) 28 3 (.int .i64 0) 8 rfl Try.underlying28 info3 rfl (by decide) (by omega) (.slice none 0 0) ([] : List Int) y251 _ _ _ (fun k_ => some k_ ≠ (.slice Ao42 t246.length co42 : Value).ownBlock) (fun _ => False) rfl rfl ?aO ?aR (fun _ _ h => h) (fun _ h => h.elim) ?aF ?aB ?aS ?aL ?_
                        (case aR => repeat (first | exact (by repeat (first | (with_reducible exact HR254.out) | (with_reducible refine Kd.C_alloc ?_ _) | (with_reducible refine Kd.C_drewN ?_ _) | (with_reducible refine Kd.C_drew ?_) | exact HR254.out)) | (with_reducible refine Kd.C_alloc ?_ _) | (with_reducible refine Kd.C_drewN ?_ _) | (with_reducible refine Kd.C_drew ?_)))
                        (case aB => exact (by repeat (first | (with_reducible first | exact HB.out | apply below_alloc | apply pw_below_drewN | apply below_drew1 | refine below_set ?_ GE231.out | refine below_set ?_ GE232.out | refine below_set ?_ GE239.out | refine below_set ?_ GE249.out | refine below_set ?_ GE250.out) | exact HB.out)))
                        (case aF => exact (fun k_ hk => Kd.fresh' (Kd.R_lt (by (with_reducible repeat (first | apply Kd.R_alloc | apply Kd.R_drewN | apply Kd.R_drew)); exact HO248.out)) k_ hk))
                        (case aO => exact ((Kd.R_nil _ _ _ _ (fun k_ => some k_ ≠ (.slice Ao42 t246.length co42 : Value).ownBlock))))
                        (case aS => exact (below_size (by repeat (first | (with_reducible first | exact HB.out | apply below_alloc | apply pw_below_drewN | apply below_drew1 | refine below_set ?_ GE231.out | refine below_set ?_ GE232.out | refine below_set ?_ GE239.out | refine below_set ?_ GE249.out | refine below_set ?_ GE250.out) | exact HB.out))))
                        (case aL => have := LMc12.out; omega)
                        intro v256 w53 ho hb hg hat
                        rw [← Ny255.out] at ho
                        have n0_ := Aside0.mk (blk_grown (g := gb231) (o := .cells #[.slice A0_0 l0_0.length c0_0, .int .i64 a0_1, .int .i64 a0_2] 24 (0, 0)) (by (with_reducible repeat (first | refine blk_drewN ?_ _ | refine blk_drew ?_ | refine blk_alloc ?_ _)); exact BK231.out) hg (by simp [Value.ownBlock]))
                        have n1_ := Aside0.mk (blk_grown (g := gb232) (o := .cells #[.int .i64 a1_0, .int .u64 a1_1, .int .i64 a1_2, .int .u64 a1_3, .int .i64 a1_4, .int .u64 a1_5, .slice A1_6 l1_6.length c1_6] 30 (0, 0)) (by (with_reducible repeat (first | refine blk_drewN ?_ _ | refine blk_drew ?_ | refine blk_alloc ?_ _)); exact BK232.out) hg (by simp [Value.ownBlock]))
                        have n2_ := Aside0.mk (Kd.R_grown (by (with_reducible repeat (first | apply Kd.R_alloc | apply Kd.R_drewN | apply Kd.R_drew)); exact HO236.out) hg (fun _ _ => by simp [Value.ownBlock]))
                        have n3_ := Aside0.mk (blk_grown (g := gb239) (o := .cells #[.slice Ao31 t234.length co31, .int .i64 t237, .int .i64 t238] 24 (0, 0)) (by (with_reducible repeat (first | refine blk_drewN ?_ _ | refine blk_drew ?_ | refine blk_alloc ?_ _)); exact BK239.out) hg (by simp [Value.ownBlock]))
                        have n4_ := Aside0.mk (Kd.R_after (Kd.R_apart_nil (by (with_reducible repeat (first | apply Kd.R_alloc | apply Kd.R_drewN | apply Kd.R_drew)); exact HO248.out)) hg hat)
                        have n5_ := Aside0.mk (blk_grown (g := gb249) (o := .cells #[.int .i64 t240, .int .u64 t241, .int .i64 t242, .int .u64 t243, .int .i64 t244, .int .u64 t245, .slice Ao42 t246.length co42] 30 (0, 0)) (by (with_reducible repeat (first | refine blk_drewN ?_ _ | refine blk_drew ?_ | refine blk_alloc ?_ _)); exact BK249.out) hg (by simp [Value.ownBlock]))
                        have n6_ := Aside0.mk (blk_grown (g := gb250) (o := .cells #[.int .i64 t240, .int .u64 t241, .int .i64 t242, .int .u64 t243, .int .i64 t244, .int .u64 t245, .slice Ao42 t246.length co42] 30 (0, 0)) (by (with_reducible repeat (first | refine blk_drewN ?_ _ | refine blk_drew ?_ | refine blk_alloc ?_ _)); exact BK250.out) hg (by simp [Value.ownBlock]))
                        have n7_ := Aside0.mk (hb)
                        have n8_ := Aside0.mk ((show Kd.C (Kd.int .i64) w53 Ao42 y251.length y251 from by rw [Ny251.out]; exact Kd.C_take (m := ((ji9) : Int).toNat) ((Kd.R_reads' (Kd.R_after (Kd.R_apart_nil (by (with_reducible repeat (first | apply Kd.R_alloc | apply Kd.R_drewN | apply Kd.R_drew)); exact HO248.out)) hg hat)).2.2) KL51.out))
                        have n9_ := Aside0.mk ((show Kd.C (Kd.int .i64) w53 A52 y258.length y258 from by rw [Ny258.out, KA52.out]; exact Kd.C_drop (m := ((ji13) : Int).toNat) (c := co42) ((Kd.R_reads' (Kd.R_after (Kd.R_apart_nil (by (with_reducible repeat (first | apply Kd.R_alloc | apply Kd.R_drewN | apply Kd.R_drew)); exact HO248.out)) hg hat)).2.2) KL52.out ((Kd.R_reads' (Kd.R_after (Kd.R_apart_nil (by (with_reducible repeat (first | apply Kd.R_alloc | apply Kd.R_drewN | apply Kd.R_drew)); exact HO248.out)) hg hat)).2.1)))
                        have n10_ := Aside0.mk (ho)
                        clear BK231
                        clear BK232
                        clear HO236
                        clear BK239
                        clear HO248
                        clear BK249
                        clear BK250
                        clear HB
                        clear HR254
                        clear HR261
                        have BK231 := n0_
                        have BK232 := n1_
                        have HO236 := n2_
                        have BK239 := n3_
                        have HO248 := n4_
                        have BK249 := n5_
                        have BK250 := n6_
                        have HB := n7_
                        have HR254 := n8_
                        have HR261 := n9_
                        have HO257 := n10_
                        clear n0_ n1_ n2_ n3_ n4_ n5_ n6_ n7_ n8_ n9_ n10_
                        clear ho hb hg hat
                        refine hK.out _ _ ⟨(blk_cell BK249.out 0).trans rfl, (blk_cell BK249.out 1).trans rfl, (blk_cell BK249.out 2).trans rfl, (blk_cell BK249.out 3).trans rfl, (blk_cell BK249.out 4).trans rfl, (blk_cell BK249.out 5).trans rfl, (blk_cell BK249.out 6).trans rfl⟩ (fun hHeld => ?_)
                        clear hK K
                        refine norm_ (a' := ?_) ?_ ?_
                        rotate_left
                        · show Act.put _ (some 29) _ = _
                          simp only [Act.put, List.setIfInBounds_toArray, List.set_cons_zero, List.set_cons_succ, i64_w, i32_w]
                          rfl
                        refine one_ (i := 10) (N := some 35) #[true, true, true, true, true, true, true, true, true, true, true, false, false] rfl rfl (one_of HT_.out (by kernel_rfl)) (by decide) (fun K hK => ?_)
                        refine Kd.R_append_rows_step (Kd.int .i64) (w0 := w) w.heap.size (by rfl) (.tmp 29) (.tmp 34) 28 3 (.int .i64 0) 8 rfl Try.underlying28 info3 rfl (by decide) (by omega) v256 y255 y258 _ _ _ (fun k_ => some k_ ≠ (.slice Ao42 t246.length co42 : Value).ownBlock) (fun _ => False) rfl rfl ?aO ?aR (fun _ _ h => h) (fun _ h => h.elim) ?aF ?aB ?aS ?aL ?_
                        (case aR => repeat (first | exact (by repeat (first | (with_reducible exact HR261.out) | (with_reducible refine Kd.C_alloc ?_ _) | (with_reducible refine Kd.C_drewN ?_ _) | (with_reducible refine Kd.C_drew ?_) | exact HR261.out)) | (with_reducible refine Kd.C_alloc ?_ _) | (with_reducible refine Kd.C_drewN ?_ _) | (with_reducible refine Kd.C_drew ?_)))
                        (case aB => exact (by repeat (first | (with_reducible first | exact HB.out | apply below_alloc | apply pw_below_drewN | apply below_drew1 | refine below_set ?_ GE231.out | refine below_set ?_ GE232.out | refine below_set ?_ GE239.out | refine below_set ?_ GE249.out | refine below_set ?_ GE250.out) | exact HB.out)))
                        (case aF => exact (fun k_ hk => Kd.fresh' (Kd.R_lt (by (with_reducible repeat (first | apply Kd.R_alloc | apply Kd.R_drewN | apply Kd.R_drew)); exact HO248.out)) k_ hk))
                        (case aO => exact (by (with_reducible repeat (first | apply Kd.R_alloc | apply Kd.R_drewN | apply Kd.R_drew)); exact HO257.out))
                        (case aS => exact (below_size (by repeat (first | (with_reducible first | exact HB.out | apply below_alloc | apply pw_below_drewN | apply below_drew1 | refine below_set ?_ GE231.out | refine below_set ?_ GE232.out | refine below_set ?_ GE239.out | refine below_set ?_ GE249.out | refine below_set ?_ GE250.out) | exact HB.out))))
                        (case aL => have := LMc16.out; omega)
                        intro v263 w54 ho hb hg hat
                        rw [← Ny262.out] at ho
                        have n0_ := Aside0.mk (blk_grown (g := gb231) (o := .cells #[.slice A0_0 l0_0.length c0_0, .int .i64 a0_1, .int .i64 a0_2] 24 (0, 0)) (by (with_reducible repeat (first | refine blk_drewN ?_ _ | refine blk_drew ?_ | refine blk_alloc ?_ _)); exact BK231.out) hg (Kd.R_ne HO257.out BK231.out (by decide)))
                        have n1_ := Aside0.mk (blk_grown (g := gb232) (o := .cells #[.int .i64 a1_0, .int .u64 a1_1, .int .i64 a1_2, .int .u64 a1_3, .int .i64 a1_4, .int .u64 a1_5, .slice A1_6 l1_6.length c1_6] 30 (0, 0)) (by (with_reducible repeat (first | refine blk_drewN ?_ _ | refine blk_drew ?_ | refine blk_alloc ?_ _)); exact BK232.out) hg (Kd.R_ne HO257.out BK232.out (by decide)))
                        have n2_ := Aside0.mk (Kd.R_over' (by (with_reducible repeat (first | apply Kd.R_alloc | apply Kd.R_drewN | apply Kd.R_drew)); exact HO236.out) (Kd.R_typed (by (with_reducible repeat (first | apply Kd.R_alloc | apply Kd.R_drewN | apply Kd.R_drew)); exact HO257.out)) (by decide) hg)
                        have n3_ := Aside0.mk (blk_grown (g := gb239) (o := .cells #[.slice Ao31 t234.length co31, .int .i64 t237, .int .i64 t238] 24 (0, 0)) (by (with_reducible repeat (first | refine blk_drewN ?_ _ | refine blk_drew ?_ | refine blk_alloc ?_ _)); exact BK239.out) hg (Kd.R_ne HO257.out BK239.out (by decide)))
                        have n4_ := Aside0.mk (Kd.R_after (ok := (fun _ => True)) (by (with_reducible repeat (first | apply Kd.R_alloc | apply Kd.R_drewN | apply Kd.R_drew)); exact HO248.out) hg hat)
                        have n5_ := Aside0.mk (blk_grown (g := gb249) (o := .cells #[.int .i64 t240, .int .u64 t241, .int .i64 t242, .int .u64 t243, .int .i64 t244, .int .u64 t245, .slice Ao42 t246.length co42] 30 (0, 0)) (by (with_reducible repeat (first | refine blk_drewN ?_ _ | refine blk_drew ?_ | refine blk_alloc ?_ _)); exact BK249.out) hg (Kd.R_ne HO257.out BK249.out (by decide)))
                        have n6_ := Aside0.mk (blk_grown (g := gb250) (o := .cells #[.int .i64 t240, .int .u64 t241, .int .i64 t242, .int .u64 t243, .int .i64 t244, .int .u64 t245, .slice Ao42 t246.length co42] 30 (0, 0)) (by (with_reducible repeat (first | refine blk_drewN ?_ _ | refine blk_drew ?_ | refine blk_alloc ?_ _)); exact BK250.out) hg (Kd.R_ne HO257.out BK250.out (by decide)))
                        have n7_ := Aside0.mk (hb)
                        have n8_ := Aside0.mk ((show Kd.C (Kd.int .i64) w54 Ao42 y251.length y251 from by rw [Ny251.out]; exact Kd.C_take (m := ((ji9) : Int).toNat) ((Kd.R_reads' (Kd.R_after (ok := (fun _ => True)) (by (with_reducible repeat (first | apply Kd.R_alloc | apply Kd.R_drewN | apply Kd.R_drew)); exact HO248.out) hg hat)).2.2) KL51.out))
                        have n9_ := Aside0.mk ((show Kd.C (Kd.int .i64) w54 A52 y258.length y258 from by rw [Ny258.out, KA52.out]; exact Kd.C_drop (m := ((ji13) : Int).toNat) (c := co42) ((Kd.R_reads' (Kd.R_after (ok := (fun _ => True)) (by (with_reducible repeat (first | apply Kd.R_alloc | apply Kd.R_drewN | apply Kd.R_drew)); exact HO248.out) hg hat)).2.2) KL52.out ((Kd.R_reads' (Kd.R_after (ok := (fun _ => True)) (by (with_reducible repeat (first | apply Kd.R_alloc | apply Kd.R_drewN | apply Kd.R_drew)); exact HO248.out) hg hat)).2.1)))
                        have n10_ := Aside0.mk (ho)
                        clear BK231
                        clear BK232
                        clear HO236
                        clear BK239
                        clear HO248
                        clear BK249
                        clear BK250
                        clear HB
                        clear HR254
                        clear HR261
                        clear HO257
                        have BK231 := n0_
                        have BK232 := n1_
                        have HO236 := n2_
                        have BK239 := n3_
                        have HO248 := n4_
                        have BK249 := n5_
                        have BK250 := n6_
                        have HB := n7_
                        have HR254 := n8_
                        have HR261 := n9_
                        have HO264 := n10_
                        clear n0_ n1_ n2_ n3_ n4_ n5_ n6_ n7_ n8_ n9_ n10_
                        clear ho hb hg hat
                        obtain ⟨Ao55, co55, eo55⟩ := Kd.R_slice HO264.out
                        (first | subst eo55 | (injection eo55 with f1_ f2_ f3_; have f4_ := f1_.symm; have f5_ := f3_.symm; clear f1_ f2_ f3_; subst f4_; subst f5_))
                        refine hK.out _ _ ⟨(blk_cell BK249.out 0).trans rfl, (blk_cell BK249.out 1).trans rfl, (blk_cell BK249.out 2).trans rfl, (blk_cell BK249.out 3).trans rfl, (blk_cell BK249.out 4).trans rfl, (blk_cell BK249.out 5).trans rfl, (blk_cell BK249.out 6).trans rfl⟩ (fun hHeld => ?_)
                        clear hK K
                        refine norm_ (a' := ?_) ?_ ?_
                        rotate_left
                        · show Act.put _ (some 35) _ = _
                          simp only [Act.put, List.setIfInBounds_toArray, List.set_cons_zero, List.set_cons_succ, i64_w, i32_w]
                          rfl
                        refine pure_ (i := 11) (N := some 36) (v := ?_) (a' := ?_) #[true, true, true, true, true, true, true, true, true, true, true, true, false] rfl rfl (any_of HT_.out (by kernel_rfl)) (fun _ _ _ h => h) (Or.inl ⟨by first | rfl | (have hq_ := ‹(_ == decide ((_ : Int) > 0)) = true›; simp only [gt_iff_lt, Int.natCast_pos] at hq_; rw [hq_]; rfl) | (have hq_ := ‹(_ == decide ((_ : Int) > 0)) = true›; simp only [gt_iff_lt, Int.natCast_pos] at hq_; simp only [hq_]; rfl), ?_⟩) ?_ ?_
                        rotate_left
                        · intro w'
                          go_simp
                          with_reducible rfl
                        rotate_left
                        · simp only [Act.put, List.setIfInBounds_toArray, List.set_cons_zero, List.set_cons_succ, i64_w, i32_w]
                          rfl
                        refine one_ (i := 12) (N := none) #[true, true, true, true, true, true, true, true, true, true, true, true, true] rfl rfl (one_of HT_.out (by kernel_rfl)) (by decide) (fun K hK => ?_)
                        have hs56 : w54.cell? ⟨gb250, 6, none⟩ = some (.slice Ao42 t246.length co42) := (blk_cell BK250.out 6).trans rfl
                        have hfs56 := blk_frozen BK250.out 6
                        have hns56_0 := NB231_250.out
                        have hns56_1 := NB232_250.out
                        have hns56_2 := NB239_250.out
                        have hns56_3 := NB249_250.out
                        have hms56_0 := NB250_231.out
                        have hms56_1 := NB250_232.out
                        have hms56_2 := NB250_239.out
                        have hms56_3 := NB250_249.out
                        refine skip_ (w1 := ?_) (by first | rfl | (have hq_ := ‹(_ == decide ((_ : Int) > 0)) = true›; simp only [gt_iff_lt, Int.natCast_pos] at hq_; rw [hq_]; rfl) | (have hq_ := ‹(_ == decide ((_ : Int) > 0)) = true›; simp only [gt_iff_lt, Int.natCast_pos] at hq_; simp only [hq_]; rfl)) rfl ?_ ?_
                        rotate_left
                        · go_simp
                          rfl
                        refine hK.out _ _ ⟨((cell_far (p := ⟨gb250, _, none⟩) NB249_250.out _).trans (hHeld.1)), ((cell_far (p := ⟨gb250, _, none⟩) NB249_250.out _).trans (hHeld.2.1)), ((cell_far (p := ⟨gb250, _, none⟩) NB249_250.out _).trans (hHeld.2.2.1)), ((cell_far (p := ⟨gb250, _, none⟩) NB249_250.out _).trans (hHeld.2.2.2.1)), ((cell_far (p := ⟨gb250, _, none⟩) NB249_250.out _).trans (hHeld.2.2.2.2.1)), ((cell_far (p := ⟨gb250, _, none⟩) NB249_250.out _).trans (hHeld.2.2.2.2.2.1)), ((cell_far (p := ⟨gb250, _, none⟩) NB249_250.out _).trans (hHeld.2.2.2.2.2.2))⟩ (fun hHeld => ?_)
                        clear hK K
                        refine done_ (done_of HT_.out (by kernel_rfl)) ?_
                        try go_wp2
                        have n0_ : Aside0 (Kd.R (Kd.int .u64) 25 (w54.setCell ⟨gb250, 6, none⟩ (.slice Ao55 y262.length co55)) w.heap.size (fun _ => True) (.slice Ao31 t234.length co31) t234) := ⟨by (with_reducible repeat (first | apply Kd.R_alloc | apply Kd.R_drewN | apply Kd.R_drew)); exact Kd.R_mono (Kd.R_far (p := ⟨gb250, 6, none⟩) (Kd.R_types HO236.out BK250.out (by decide)) (fun _ hk => hk.2) (.slice Ao55 y262.length co55)) (fun _ hk => trivial)⟩
                        have n1_ : Aside0 (Kd.R (Kd.int .i64) 3 (w54.setCell ⟨gb250, 6, none⟩ (.slice Ao55 y262.length co55)) w.heap.size (fun k_ => some k_ ≠ (.slice Ao55 y262.length co55 : Value).ownBlock) (.slice Ao42 t246.length co42) t246) := ⟨by (with_reducible repeat (first | apply Kd.R_alloc | apply Kd.R_drewN | apply Kd.R_drew)); exact Kd.R_mono (Kd.R_far (p := ⟨gb250, 6, none⟩) (Kd.R_types HO248.out BK250.out (by decide)) (fun _ hk => hk.2) (.slice Ao55 y262.length co55)) (fun _ hk => hk.1.2)⟩
                        have n2_ : Aside0 (Kd.R (Kd.int .i64) 3 (w54.setCell ⟨gb250, 6, none⟩ (.slice Ao55 y262.length co55)) w.heap.size (fun k_ => some k_ ≠ (.slice Ao42 t246.length co42 : Value).ownBlock) (.slice Ao55 y262.length co55) y262) := ⟨by (with_reducible repeat (first | apply Kd.R_alloc | apply Kd.R_drewN | apply Kd.R_drew)); exact Kd.R_mono (Kd.R_far (p := ⟨gb250, 6, none⟩) (Kd.R_types HO264.out BK250.out (by decide)) (fun _ hk => hk.2) (.slice Ao55 y262.length co55)) (fun _ hk => hk.1)⟩
                        have n3_ : Aside0 ((w54.setCell ⟨gb250, 6, none⟩ (.slice Ao55 y262.length co55)).heap[gb231]? = some (.cells #[.slice A0_0 l0_0.length c0_0, .int .i64 a0_1, .int .i64 a0_2] 24 (0, 0))) := ⟨by (with_reducible repeat (first | refine blk_drewN ?_ _ | refine blk_drew ?_ | refine blk_alloc ?_ _)); refine blk_far ?_ NB231_250.out _; (with_reducible repeat (first | refine blk_drewN ?_ _ | refine blk_drew ?_ | refine blk_alloc ?_ _)); exact BK231.out⟩
                        have n4_ : Aside0 ((w54.setCell ⟨gb250, 6, none⟩ (.slice Ao55 y262.length co55)).heap[gb232]? = some (.cells #[.int .i64 a1_0, .int .u64 a1_1, .int .i64 a1_2, .int .u64 a1_3, .int .i64 a1_4, .int .u64 a1_5, .slice A1_6 l1_6.length c1_6] 30 (0, 0))) := ⟨by (with_reducible repeat (first | refine blk_drewN ?_ _ | refine blk_drew ?_ | refine blk_alloc ?_ _)); refine blk_far ?_ NB232_250.out _; (with_reducible repeat (first | refine blk_drewN ?_ _ | refine blk_drew ?_ | refine blk_alloc ?_ _)); exact BK232.out⟩
                        have n5_ : Aside0 ((w54.setCell ⟨gb250, 6, none⟩ (.slice Ao55 y262.length co55)).heap[gb239]? = some (.cells #[.slice Ao31 t234.length co31, .int .i64 t237, .int .i64 t238] 24 (0, 0))) := ⟨by (with_reducible repeat (first | refine blk_drewN ?_ _ | refine blk_drew ?_ | refine blk_alloc ?_ _)); refine blk_far ?_ NB239_250.out _; (with_reducible repeat (first | refine blk_drewN ?_ _ | refine blk_drew ?_ | refine blk_alloc ?_ _)); exact BK239.out⟩
                        have n6_ : Aside0 ((w54.setCell ⟨gb250, 6, none⟩ (.slice Ao55 y262.length co55)).heap[gb249]? = some (.cells #[.int .i64 t240, .int .u64 t241, .int .i64 t242, .int .u64 t243, .int .i64 t244, .int .u64 t245, .slice Ao42 t246.length co42] 30 (0, 0))) := ⟨by (with_reducible repeat (first | refine blk_drewN ?_ _ | refine blk_drew ?_ | refine blk_alloc ?_ _)); refine blk_far ?_ NB249_250.out _; (with_reducible repeat (first | refine blk_drewN ?_ _ | refine blk_drew ?_ | refine blk_alloc ?_ _)); exact BK249.out⟩
                        have n7_ : Aside0 ((w54.setCell ⟨gb250, 6, none⟩ (.slice Ao55 y262.length co55)).heap[gb250]? = some (.cells #[.int .i64 t240, .int .u64 t241, .int .i64 t242, .int .u64 t243, .int .i64 t244, .int .u64 t245, .slice Ao55 y262.length co55] 30 (0, 0))) := ⟨by (with_reducible repeat (first | refine blk_drewN ?_ _ | refine blk_drew ?_ | refine blk_alloc ?_ _)); refine blk_put (cs := #[.int .i64 t240, .int .u64 t241, .int .i64 t242, .int .u64 t243, .int .i64 t244, .int .u64 t245, .slice Ao42 t246.length co42]) ?_ 6 _ rfl; (with_reducible repeat (first | refine blk_drewN ?_ _ | refine blk_drew ?_ | refine blk_alloc ?_ _)); exact BK250.out⟩
                        have n8_ : Aside0 (Below w.heap.size w (w54.setCell ⟨gb250, 6, none⟩ (.slice Ao55 y262.length co55))) := ⟨by repeat (first | (with_reducible first | exact HB.out | apply below_alloc | apply pw_below_drewN | apply below_drew1 | refine below_set ?_ GE231.out | refine below_set ?_ GE232.out | refine below_set ?_ GE239.out | refine below_set ?_ GE249.out | refine below_set ?_ GE250.out) | exact HB.out)⟩
                        (try clear HO236)
                        (try clear HO248)
                        (try clear HO264)
                        (try clear BK231)
                        (try clear BK232)
                        (try clear BK239)
                        (try clear BK249)
                        (try clear BK250)
                        (try clear HB)
                        generalize (w54.setCell ⟨gb250, 6, none⟩ (.slice Ao55 y262.length co55)) = w57 at n0_ n1_ n2_ n3_ n4_ n5_ n6_ n7_ n8_ ⊢
                        have HO236 := n0_
                        have HO248 := n1_
                        have HO264 := n2_
                        have BK231 := n3_
                        have BK232 := n4_
                        have BK239 := n5_
                        have BK249 := n6_
                        have BK250 := n7_
                        have HB := n8_
                        clear n0_ n1_ n2_ n3_ n4_ n5_ n6_ n7_ n8_
                        have n0_ := Aside0.mk (Kd.R_drew HO236.out)
                        have n1_ := Aside0.mk (Kd.R_drew HO248.out)
                        have n2_ := Aside0.mk (Kd.R_drew HO264.out)
                        have n3_ := Aside0.mk (blk_drew BK231.out)
                        have n4_ := Aside0.mk (blk_drew BK232.out)
                        have n5_ := Aside0.mk (blk_drew BK239.out)
                        have n6_ := Aside0.mk (blk_drew BK249.out)
                        have n7_ := Aside0.mk (blk_drew BK250.out)
                        have n8_ := Aside0.mk (below_drew1 HB.out)
                        clear HO236
                        clear HO248
                        clear HO264
                        clear BK231
                        clear BK232
                        clear BK239
                        clear BK249
                        clear BK250
                        clear HB
                        have HO236 := n0_
                        have HO248 := n1_
                        have HO264 := n2_
                        have BK231 := n3_
                        have BK232 := n4_
                        have BK239 := n5_
                        have BK249 := n6_
                        have BK250 := n7_
                        have HB := n8_
                        clear n0_ n1_ n2_ n3_ n4_ n5_ n6_ n7_ n8_
                        refine start_ (n := 29) (S := fun w' => w'.cell? ⟨gb239, 0, none⟩ = some (.slice Ao31 t234.length co31) ∧ w'.cell? ⟨gb239, 1, none⟩ = some (.int .i64 t237) ∧ w'.cell? ⟨gb239, 2, none⟩ = some (.int .i64 t238) ∧ w'.cell? ⟨gb249, 0, none⟩ = some (.int .i64 t240) ∧ w'.cell? ⟨gb249, 1, none⟩ = some (.int .u64 t241) ∧ w'.cell? ⟨gb249, 2, none⟩ = some (.int .i64 t242) ∧ w'.cell? ⟨gb249, 3, none⟩ = some (.int .u64 t243) ∧ w'.cell? ⟨gb249, 4, none⟩ = some (.int .i64 t244) ∧ w'.cell? ⟨gb249, 5, none⟩ = some (.int .u64 t245) ∧ w'.cell? ⟨gb249, 6, none⟩ = some (.slice Ao42 t246.length co42) ∧ w'.cell? ⟨gb250, 0, none⟩ = some (.int .i64 t240) ∧ w'.cell? ⟨gb250, 1, none⟩ = some (.int .u64 t241) ∧ w'.cell? ⟨gb250, 2, none⟩ = some (.int .i64 t242) ∧ w'.cell? ⟨gb250, 3, none⟩ = some (.int .u64 t243) ∧ w'.cell? ⟨gb250, 4, none⟩ = some (.int .i64 t244) ∧ w'.cell? ⟨gb250, 5, none⟩ = some (.int .u64 t245) ∧ w'.cell? ⟨gb250, 6, none⟩ = some (.slice Ao55 y262.length co55)) (ds := []) #[false, false, false, false, false, false, false, false, false, false, false, false, false, false, false, false, false, false, false, false, false, false, false, false, false, false, false, false, false] (by kernel_rfl) rfl rfl ⟨(blk_cell BK239.out 0).trans rfl, (blk_cell BK239.out 1).trans rfl, (blk_cell BK239.out 2).trans rfl, (blk_cell BK249.out 0).trans rfl, (blk_cell BK249.out 1).trans rfl, (blk_cell BK249.out 2).trans rfl, (blk_cell BK249.out 3).trans rfl, (blk_cell BK249.out 4).trans rfl, (blk_cell BK249.out 5).trans rfl, (blk_cell BK249.out 6).trans rfl, (blk_cell BK250.out 0).trans rfl, (blk_cell BK250.out 1).trans rfl, (blk_cell BK250.out 2).trans rfl, (blk_cell BK250.out 3).trans rfl, (blk_cell BK250.out 4).trans rfl, (blk_cell BK250.out 5).trans rfl, (blk_cell BK250.out 6).trans rfl⟩ (fun hHeld => ?_); refine with_tabW psephoslaw05_VoteFewer.tab8 psephoslaw05_VoteFewer.bits8 (fun HT_ HW_ => ?_)
                        generalize w57.drew = w58 at HO236 HO248 HO264 BK231 BK232 BK239 BK249 BK250 HB hHeld ⊢
                        refine take_ (i := 0) (N := some 37) (v := ?_) (a' := ?_) #[true, false, false, false, false, false, false, false, false, false, false, false, false, false, false, false, false, false, false, false, false, false, false, false, false, false, false, false, false] rfl rfl (take_ofW HT_.out HW_.out (by kernel_rfl)) (fun _ _ _ h => h) (Or.inl ⟨by first | rfl | (have hq_ := ‹(_ == decide ((_ : Int) > 0)) = true›; simp only [gt_iff_lt, Int.natCast_pos] at hq_; rw [hq_]; rfl) | (have hq_ := ‹(_ == decide ((_ : Int) > 0)) = true›; simp only [gt_iff_lt, Int.natCast_pos] at hq_; simp only [hq_]; rfl), ?_⟩) hHeld ?_ ?_
                        rotate_left
                        · rintro w' ⟨s0, s1, s2, s3, s4, s5, s6, s7, s8, s9, s10, s11, s12, s13, s14, s15, s16⟩
                          go_simp
                          with_reducible rfl
                        rotate_left
                        · simp only [Act.put, List.setIfInBounds_toArray, List.set_cons_zero, List.set_cons_succ, i64_w, i32_w]
                          rfl
                        refine take_ (i := 1) (N := some 38) (v := ?_) (a' := ?_) #[true, true, false, false, false, false, false, false, false, false, false, false, false, false, false, false, false, false, false, false, false, false, false, false, false, false, false, false, false] rfl rfl (take_ofW HT_.out HW_.out (by kernel_rfl)) (fun _ _ _ h => h) (Or.inl ⟨by first | rfl | (have hq_ := ‹(_ == decide ((_ : Int) > 0)) = true›; simp only [gt_iff_lt, Int.natCast_pos] at hq_; rw [hq_]; rfl) | (have hq_ := ‹(_ == decide ((_ : Int) > 0)) = true›; simp only [gt_iff_lt, Int.natCast_pos] at hq_; simp only [hq_]; rfl), ?_⟩) hHeld ?_ ?_
                        rotate_left
                        · rintro w' ⟨s0, s1, s2, s3, s4, s5, s6, s7, s8, s9, s10, s11, s12, s13, s14, s15, s16⟩
                          go_simp
                          with_reducible rfl
                        rotate_left
                        · simp only [Act.put, List.setIfInBounds_toArray, List.set_cons_zero, List.set_cons_succ, i64_w, i32_w]
                          rfl
                        refine one_ (i := 2) (N := some 39) #[true, true, true, false, false, false, false, false, false, false, false, false, false, false, false, false, false, false, false, false, false, false, false, false, false, false, false, false, false] rfl rfl (one_of HT_.out (by kernel_rfl)) (by decide) (fun K hK => ?_)
                        refine goes_ Try.func11 (by kernel_rfl) rfl #[.agg #[.slice Ao31 t234.length co31, .int .i64 t237, .int .i64 t238], .agg #[.int .i64 t240, .int .u64 t241, .int .i64 t242, .int .u64 t243, .int .i64 t244, .int .u64 t245, .slice Ao42 t246.length co42]] (by first | rfl | (have hq_ := ‹(_ == decide ((_ : Int) > 0)) = true›; simp only [gt_iff_lt, Int.natCast_pos] at hq_; rw [hq_]; rfl) | (have hq_ := ‹(_ == decide ((_ : Int) > 0)) = true›; simp only [gt_iff_lt, Int.natCast_pos] at hq_; simp only [hq_]; rfl)) rfl rfl (by (try simp only [List.map_toArray, List.map_cons, List.map_nil]); first | done | rfl | (simp only [List.length_drop, List.length_take]; rfl)) ?_
                        with_reducible refine (vote_Right.calls k _ _ t234 t237 t238 t240 t241 t242 t243 t244 t245 _ _ t246 true _ ?side1 ?side2 ?side3 ?side4 A17.out).mono ?_
                        (case side1 => repeat (first | exact (Kd.R_reads' HO236.out).2.2 | (with_reducible refine Kd.C_alloc ?_ _) | (with_reducible refine Kd.C_drewN ?_ _) | (with_reducible refine Kd.C_drew ?_)))
                        (case side2 => exact (Kd.R_reads' HO236.out).2.1)
                        (case side3 => repeat (first | exact (Kd.R_reads' HO248.out).2.2 | (with_reducible refine Kd.C_alloc ?_ _) | (with_reducible refine Kd.C_drewN ?_ _) | (with_reducible refine Kd.C_drew ?_)))
                        (case side4 => exact (Kd.R_reads' HO248.out).2.1)
                        rintro e w59 ⟨rfl, hb⟩
                        refine ⟨_, rfl, ?_⟩
                        have n0_ := Aside0.mk (Kd.R_below (by (with_reducible repeat (first | apply Kd.R_alloc | apply Kd.R_drewN | apply Kd.R_drew)); exact HO236.out) hb)
                        have n1_ := Aside0.mk (Kd.R_below (by (with_reducible repeat (first | apply Kd.R_alloc | apply Kd.R_drewN | apply Kd.R_drew)); exact HO248.out) hb)
                        have n2_ := Aside0.mk (Kd.R_below (by (with_reducible repeat (first | apply Kd.R_alloc | apply Kd.R_drewN | apply Kd.R_drew)); exact HO264.out) hb)
                        have n3_ := Aside0.mk (blk_below (g := gb231) (o := .cells #[.slice A0_0 l0_0.length c0_0, .int .i64 a0_1, .int .i64 a0_2] 24 (0, 0)) (by (with_reducible repeat (first | refine blk_drewN ?_ _ | refine blk_drew ?_ | refine blk_alloc ?_ _)); exact BK231.out) hb)
                        have n4_ := Aside0.mk (blk_below (g := gb232) (o := .cells #[.int .i64 a1_0, .int .u64 a1_1, .int .i64 a1_2, .int .u64 a1_3, .int .i64 a1_4, .int .u64 a1_5, .slice A1_6 l1_6.length c1_6] 30 (0, 0)) (by (with_reducible repeat (first | refine blk_drewN ?_ _ | refine blk_drew ?_ | refine blk_alloc ?_ _)); exact BK232.out) hb)
                        have n5_ := Aside0.mk (blk_below (g := gb239) (o := .cells #[.slice Ao31 t234.length co31, .int .i64 t237, .int .i64 t238] 24 (0, 0)) (by (with_reducible repeat (first | refine blk_drewN ?_ _ | refine blk_drew ?_ | refine blk_alloc ?_ _)); exact BK239.out) hb)
                        have n6_ := Aside0.mk (blk_below (g := gb249) (o := .cells #[.int .i64 t240, .int .u64 t241, .int .i64 t242, .int .u64 t243, .int .i64 t244, .int .u64 t245, .slice Ao42 t246.length co42] 30 (0, 0)) (by (with_reducible repeat (first | refine blk_drewN ?_ _ | refine blk_drew ?_ | refine blk_alloc ?_ _)); exact BK249.out) hb)
                        have n7_ := Aside0.mk (blk_below (g := gb250) (o := .cells #[.int .i64 t240, .int .u64 t241, .int .i64 t242, .int .u64 t243, .int .i64 t244, .int .u64 t245, .slice Ao55 y262.length co55] 30 (0, 0)) (by (with_reducible repeat (first | refine blk_drewN ?_ _ | refine blk_drew ?_ | refine blk_alloc ?_ _)); exact BK250.out) hb)
                        have n8_ := Aside0.mk (below_step (by repeat (first | (with_reducible first | exact HB.out | apply below_alloc | apply pw_below_drewN | apply below_drew1 | refine below_set ?_ GE231.out | refine below_set ?_ GE232.out | refine below_set ?_ GE239.out | refine below_set ?_ GE249.out | refine below_set ?_ GE250.out) | exact HB.out)) hb)
                        clear HO236
                        clear HO248
                        clear HO264
                        clear BK231
                        clear BK232
                        clear BK239
                        clear BK249
                        clear BK250
                        clear HB
                        have HO236 := n0_
                        have HO248 := n1_
                        have HO264 := n2_
                        have BK231 := n3_
                        have BK232 := n4_
                        have BK239 := n5_
                        have BK249 := n6_
                        have BK250 := n7_
                        have HB := n8_
                        clear n0_ n1_ n2_ n3_ n4_ n5_ n6_ n7_ n8_
                        (try clear hb)
                        (try clear hb2)
                        (try clear hk)
                        (try clear hi)
                        refine hK.out _ _ ⟨(blk_cell BK239.out 0).trans rfl, (blk_cell BK239.out 1).trans rfl, (blk_cell BK239.out 2).trans rfl, (blk_cell BK249.out 0).trans rfl, (blk_cell BK249.out 1).trans rfl, (blk_cell BK249.out 2).trans rfl, (blk_cell BK249.out 3).trans rfl, (blk_cell BK249.out 4).trans rfl, (blk_cell BK249.out 5).trans rfl, (blk_cell BK249.out 6).trans rfl, (blk_cell BK250.out 0).trans rfl, (blk_cell BK250.out 1).trans rfl, (blk_cell BK250.out 2).trans rfl, (blk_cell BK250.out 3).trans rfl, (blk_cell BK250.out 4).trans rfl, (blk_cell BK250.out 5).trans rfl, (blk_cell BK250.out 6).trans rfl⟩ (fun hHeld => ?_)
                        clear hK K
                        refine norm_ (a' := ?_) ?_ ?_
                        rotate_left
                        · show Act.put _ (some 39) _ = _
                          simp only [Act.put, List.setIfInBounds_toArray, List.set_cons_zero, List.set_cons_succ, i64_w, i32_w]
                          rfl
                        refine pure_ (i := 3) (N := some 40) (v := ?_) (a' := ?_) #[true, true, true, true, false, false, false, false, false, false, false, false, false, false, false, false, false, false, false, false, false, false, false, false, false, false, false, false, false] rfl rfl (any_of HT_.out (by kernel_rfl)) (fun _ _ _ h => h) (Or.inl ⟨by first | rfl | (have hq_ := ‹(_ == decide ((_ : Int) > 0)) = true›; simp only [gt_iff_lt, Int.natCast_pos] at hq_; rw [hq_]; rfl) | (have hq_ := ‹(_ == decide ((_ : Int) > 0)) = true›; simp only [gt_iff_lt, Int.natCast_pos] at hq_; simp only [hq_]; rfl), ?_⟩) ?_ ?_
                        rotate_left
                        · intro w'
                          go_simp
                          with_reducible rfl
                        rotate_left
                        · simp only [Act.put, List.setIfInBounds_toArray, List.set_cons_zero, List.set_cons_succ, i64_w, i32_w]
                          rfl
                        refine pure_ (i := 7) (N := some 44) (v := ?_) (a' := ?_) #[true, true, true, true, false, false, false, true, false, false, false, false, false, false, false, false, false, false, false, false, false, false, false, false, false, false, false, false, false] rfl rfl (any_of HT_.out (by kernel_rfl)) (fun _ _ _ h => h) (Or.inl ⟨by first | rfl | (have hq_ := ‹(_ == decide ((_ : Int) > 0)) = true›; simp only [gt_iff_lt, Int.natCast_pos] at hq_; rw [hq_]; rfl) | (have hq_ := ‹(_ == decide ((_ : Int) > 0)) = true›; simp only [gt_iff_lt, Int.natCast_pos] at hq_; simp only [hq_]; rfl), ?_⟩) ?_ ?_
                        rotate_left
                        · intro w'
                          go_simp
                          with_reducible rfl
                        rotate_left
                        · simp only [Act.put, List.setIfInBounds_toArray, List.set_cons_zero, List.set_cons_succ, i64_w, i32_w]
                          rfl
                        refine take_ (i := 4) (N := some 41) (v := ?_) (a' := ?_) #[true, true, true, true, true, false, false, true, false, false, false, false, false, false, false, false, false, false, false, false, false, false, false, false, false, false, false, false, false] rfl rfl (take_ofW HT_.out HW_.out (by kernel_rfl)) (fun _ _ _ h => h) (Or.inl ⟨by first | rfl | (have hq_ := ‹(_ == decide ((_ : Int) > 0)) = true›; simp only [gt_iff_lt, Int.natCast_pos] at hq_; rw [hq_]; rfl) | (have hq_ := ‹(_ == decide ((_ : Int) > 0)) = true›; simp only [gt_iff_lt, Int.natCast_pos] at hq_; simp only [hq_]; rfl), ?_⟩) hHeld ?_ ?_
                        rotate_left
                        · rintro w' ⟨s0, s1, s2, s3, s4, s5, s6, s7, s8, s9, s10, s11, s12, s13, s14, s15, s16⟩
                          go_simp
                          with_reducible rfl
                        rotate_left
                        · simp only [Act.put, List.setIfInBounds_toArray, List.set_cons_zero, List.set_cons_succ, i64_w, i32_w]
                          rfl
                        refine take_ (i := 5) (N := some 42) (v := ?_) (a' := ?_) #[true, true, true, true, true, true, false, true, false, false, false, false, false, false, false, false, false, false, false, false, false, false, false, false, false, false, false, false, false] rfl rfl (take_ofW HT_.out HW_.out (by kernel_rfl)) (fun _ _ _ h => h) (Or.inl ⟨by first | rfl | (have hq_ := ‹(_ == decide ((_ : Int) > 0)) = true›; simp only [gt_iff_lt, Int.natCast_pos] at hq_; rw [hq_]; rfl) | (have hq_ := ‹(_ == decide ((_ : Int) > 0)) = true›; simp only [gt_iff_lt, Int.natCast_pos] at hq_; simp only [hq_]; rfl), ?_⟩) hHeld ?_ ?_
                        rotate_left
                        · rintro w' ⟨s0, s1, s2, s3, s4, s5, s6, s7, s8, s9, s10, s11, s12, s13, s14, s15, s16⟩
                          go_simp
                          with_reducible rfl
                        rotate_left
                        · simp only [Act.put, List.setIfInBounds_toArray, List.set_cons_zero, List.set_cons_succ, i64_w, i32_w]
                          rfl
                        refine take_ (i := 8) (N := some 45) (v := ?_) (a' := ?_) #[true, true, true, true, true, true, false, true, true, false, false, false, false, false, false, false, false, false, false, false, false, false, false, false, false, false, false, false, false] rfl rfl (take_ofW HT_.out HW_.out (by kernel_rfl)) (fun _ _ _ h => h) (Or.inl ⟨by first | rfl | (have hq_ := ‹(_ == decide ((_ : Int) > 0)) = true›; simp only [gt_iff_lt, Int.natCast_pos] at hq_; rw [hq_]; rfl) | (have hq_ := ‹(_ == decide ((_ : Int) > 0)) = true›; simp only [gt_iff_lt, Int.natCast_pos] at hq_; simp only [hq_]; rfl), ?_⟩) hHeld ?_ ?_
                        rotate_left
                        · rintro w' ⟨s0, s1, s2, s3, s4, s5, s6, s7, s8, s9, s10, s11, s12, s13, s14, s15, s16⟩
                          go_simp
                          with_reducible rfl
                        rotate_left
                        · simp only [Act.put, List.setIfInBounds_toArray, List.set_cons_zero, List.set_cons_succ, i64_w, i32_w]
                          rfl
                        refine pure_ (i := 9) (N := some 46) (v := ?_) (a' := ?_) #[true, true, true, true, true, true, false, true, true, true, false, false, false, false, false, false, false, false, false, false, false, false, false, false, false, false, false, false, false] rfl rfl (any_of HT_.out (by kernel_rfl)) (fun _ _ _ h => h) (Or.inl ⟨by first | rfl | (have hq_ := ‹(_ == decide ((_ : Int) > 0)) = true›; simp only [gt_iff_lt, Int.natCast_pos] at hq_; rw [hq_]; rfl) | (have hq_ := ‹(_ == decide ((_ : Int) > 0)) = true›; simp only [gt_iff_lt, Int.natCast_pos] at hq_; simp only [hq_]; rfl), ?_⟩) ?_ ?_
                        rotate_left
                        · intro w'
                          go_simp
                          with_reducible rfl
                        rotate_left
                        · simp only [Act.put, List.setIfInBounds_toArray, List.set_cons_zero, List.set_cons_succ, i64_w, i32_w]
                          rfl
                        refine pure_ (i := 10) (N := some 47) (v := ?_) (a' := ?_) #[true, true, true, true, true, true, false, true, true, true, true, false, false, false, false, false, false, false, false, false, false, false, false, false, false, false, false, false, false] rfl rfl (any_of HT_.out (by kernel_rfl)) (fun _ _ _ h => h) (Or.inl ⟨by first | rfl | (have hq_ := ‹(_ == decide ((_ : Int) > 0)) = true›; simp only [gt_iff_lt, Int.natCast_pos] at hq_; rw [hq_]; rfl) | (have hq_ := ‹(_ == decide ((_ : Int) > 0)) = true›; simp only [gt_iff_lt, Int.natCast_pos] at hq_; simp only [hq_]; rfl), ?_⟩) ?_ ?_
                        rotate_left
                        · intro w'
                          go_simp
                          with_reducible rfl
                        rotate_left
                        · simp only [Act.put, List.setIfInBounds_toArray, List.set_cons_zero, List.set_cons_succ, i64_w, i32_w]
                          rfl
                        refine one_ (i := 6) (N := some 43) #[true, true, true, true, true, true, true, true, true, true, true, false, false, false, false, false, false, false, false, false, false, false, false, false, false, false, false, false, false] rfl rfl (one_of HT_.out (by kernel_rfl)) (by decide) (fun K hK => ?_)
                        refine goes_ Try.func11 (by kernel_rfl) rfl #[.agg #[.slice Ao31 t234.length co31, .int .i64 t237, .int .i64 t238], .agg #[.int .i64 t240, .int .u64 t241, .int .i64 t242, .int .u64 t243, .int .i64 t244, .int .u64 t245, .slice Ao55 y262.length co55]] (by first | rfl | (have hq_ := ‹(_ == decide ((_ : Int) > 0)) = true›; simp only [gt_iff_lt, Int.natCast_pos] at hq_; rw [hq_]; rfl) | (have hq_ := ‹(_ == decide ((_ : Int) > 0)) = true›; simp only [gt_iff_lt, Int.natCast_pos] at hq_; simp only [hq_]; rfl)) rfl rfl (by (try simp only [List.map_toArray, List.map_cons, List.map_nil]); first | done | rfl | (simp only [List.length_drop, List.length_take]; rfl)) ?_
                        with_reducible refine (vote_Right.calls k _ _ t234 t237 t238 t240 t241 t242 t243 t244 t245 _ _ y262 t266 _ ?side1 ?side2 ?side3 ?side4 A19.out).mono ?_
                        (case side1 => repeat (first | exact (Kd.R_reads' HO236.out).2.2 | (with_reducible refine Kd.C_alloc ?_ _) | (with_reducible refine Kd.C_drewN ?_ _) | (with_reducible refine Kd.C_drew ?_)))
                        (case side2 => exact (Kd.R_reads' HO236.out).2.1)
                        (case side3 => repeat (first | exact (Kd.R_reads' HO264.out).2.2 | (with_reducible refine Kd.C_alloc ?_ _) | (with_reducible refine Kd.C_drewN ?_ _) | (with_reducible refine Kd.C_drew ?_)))
                        (case side4 => exact (Kd.R_reads' HO264.out).2.1)
                        rintro e w60 ⟨rfl, hb⟩
                        refine ⟨_, rfl, ?_⟩
                        have n0_ := Aside0.mk (Kd.R_below (by (with_reducible repeat (first | apply Kd.R_alloc | apply Kd.R_drewN | apply Kd.R_drew)); exact HO236.out) hb)
                        have n1_ := Aside0.mk (Kd.R_below (by (with_reducible repeat (first | apply Kd.R_alloc | apply Kd.R_drewN | apply Kd.R_drew)); exact HO248.out) hb)
                        have n2_ := Aside0.mk (Kd.R_below (by (with_reducible repeat (first | apply Kd.R_alloc | apply Kd.R_drewN | apply Kd.R_drew)); exact HO264.out) hb)
                        have n3_ := Aside0.mk (blk_below (g := gb231) (o := .cells #[.slice A0_0 l0_0.length c0_0, .int .i64 a0_1, .int .i64 a0_2] 24 (0, 0)) (by (with_reducible repeat (first | refine blk_drewN ?_ _ | refine blk_drew ?_ | refine blk_alloc ?_ _)); exact BK231.out) hb)
                        have n4_ := Aside0.mk (blk_below (g := gb232) (o := .cells #[.int .i64 a1_0, .int .u64 a1_1, .int .i64 a1_2, .int .u64 a1_3, .int .i64 a1_4, .int .u64 a1_5, .slice A1_6 l1_6.length c1_6] 30 (0, 0)) (by (with_reducible repeat (first | refine blk_drewN ?_ _ | refine blk_drew ?_ | refine blk_alloc ?_ _)); exact BK232.out) hb)
                        have n5_ := Aside0.mk (blk_below (g := gb239) (o := .cells #[.slice Ao31 t234.length co31, .int .i64 t237, .int .i64 t238] 24 (0, 0)) (by (with_reducible repeat (first | refine blk_drewN ?_ _ | refine blk_drew ?_ | refine blk_alloc ?_ _)); exact BK239.out) hb)
                        have n6_ := Aside0.mk (blk_below (g := gb249) (o := .cells #[.int .i64 t240, .int .u64 t241, .int .i64 t242, .int .u64 t243, .int .i64 t244, .int .u64 t245, .slice Ao42 t246.length co42] 30 (0, 0)) (by (with_reducible repeat (first | refine blk_drewN ?_ _ | refine blk_drew ?_ | refine blk_alloc ?_ _)); exact BK249.out) hb)
                        have n7_ := Aside0.mk (blk_below (g := gb250) (o := .cells #[.int .i64 t240, .int .u64 t241, .int .i64 t242, .int .u64 t243, .int .i64 t244, .int .u64 t245, .slice Ao55 y262.length co55] 30 (0, 0)) (by (with_reducible repeat (first | refine blk_drewN ?_ _ | refine blk_drew ?_ | refine blk_alloc ?_ _)); exact BK250.out) hb)
                        have n8_ := Aside0.mk (below_step (by repeat (first | (with_reducible first | exact HB.out | apply below_alloc | apply pw_below_drewN | apply below_drew1 | refine below_set ?_ GE231.out | refine below_set ?_ GE232.out | refine below_set ?_ GE239.out | refine below_set ?_ GE249.out | refine below_set ?_ GE250.out) | exact HB.out)) hb)
                        clear HO236
                        clear HO248
                        clear HO264
                        clear BK231
                        clear BK232
                        clear BK239
                        clear BK249
                        clear BK250
                        clear HB
                        have HO236 := n0_
                        have HO248 := n1_
                        have HO264 := n2_
                        have BK231 := n3_
                        have BK232 := n4_
                        have BK239 := n5_
                        have BK249 := n6_
                        have BK250 := n7_
                        have HB := n8_
                        clear n0_ n1_ n2_ n3_ n4_ n5_ n6_ n7_ n8_
                        (try clear hb)
                        (try clear hb2)
                        (try clear hk)
                        (try clear hi)
                        refine hK.out _ _ ⟨(blk_cell BK239.out 0).trans rfl, (blk_cell BK239.out 1).trans rfl, (blk_cell BK239.out 2).trans rfl, (blk_cell BK249.out 0).trans rfl, (blk_cell BK249.out 1).trans rfl, (blk_cell BK249.out 2).trans rfl, (blk_cell BK249.out 3).trans rfl, (blk_cell BK249.out 4).trans rfl, (blk_cell BK249.out 5).trans rfl, (blk_cell BK249.out 6).trans rfl, (blk_cell BK250.out 0).trans rfl, (blk_cell BK250.out 1).trans rfl, (blk_cell BK250.out 2).trans rfl, (blk_cell BK250.out 3).trans rfl, (blk_cell BK250.out 4).trans rfl, (blk_cell BK250.out 5).trans rfl, (blk_cell BK250.out 6).trans rfl⟩ (fun hHeld => ?_)
                        clear hK K
                        refine norm_ (a' := ?_) ?_ ?_
                        rotate_left
                        · show Act.put _ (some 43) _ = _
                          simp only [Act.put, List.setIfInBounds_toArray, List.set_cons_zero, List.set_cons_succ, i64_w, i32_w]
                          rfl
                        refine pure_ (i := 11) (N := some 48) (v := ?_) (a' := ?_) #[true, true, true, true, true, true, true, true, true, true, true, true, false, false, false, false, false, false, false, false, false, false, false, false, false, false, false, false, false] rfl rfl (any_of HT_.out (by kernel_rfl)) (fun _ _ _ h => h) (Or.inl ⟨by first | rfl | (have hq_ := ‹(_ == decide ((_ : Int) > 0)) = true›; simp only [gt_iff_lt, Int.natCast_pos] at hq_; rw [hq_]; rfl) | (have hq_ := ‹(_ == decide ((_ : Int) > 0)) = true›; simp only [gt_iff_lt, Int.natCast_pos] at hq_; simp only [hq_]; rfl), ?_⟩) ?_ ?_
                        rotate_left
                        · intro w'
                          go_simp
                          with_reducible rfl
                        rotate_left
                        · simp only [Act.put, List.setIfInBounds_toArray, List.set_cons_zero, List.set_cons_succ, i64_w, i32_w]
                          rfl
                        refine pure_ (i := 12) (N := some 49) (v := ?_) (a' := ?_) #[true, true, true, true, true, true, true, true, true, true, true, true, true, false, false, false, false, false, false, false, false, false, false, false, false, false, false, false, false] rfl rfl (any_of HT_.out (by kernel_rfl)) (fun _ _ _ h => h) (Or.inl ⟨by first | rfl | (have hq_ := ‹(_ == decide ((_ : Int) > 0)) = true›; simp only [gt_iff_lt, Int.natCast_pos] at hq_; rw [hq_]; rfl) | (have hq_ := ‹(_ == decide ((_ : Int) > 0)) = true›; simp only [gt_iff_lt, Int.natCast_pos] at hq_; simp only [hq_]; rfl), ?_⟩) ?_ ?_
                        rotate_left
                        · intro w'
                          go_simp
                          with_reducible rfl
                        rotate_left
                        · simp only [Act.put, List.setIfInBounds_toArray, List.set_cons_zero, List.set_cons_succ, i64_w, i32_w]
                          rfl
                        refine pure_ (i := 13) (N := some 50) (v := ?_) (a' := ?_) #[true, true, true, true, true, true, true, true, true, true, true, true, true, true, false, false, false, false, false, false, false, false, false, false, false, false, false, false, false] rfl rfl (any_of HT_.out (by kernel_rfl)) (fun _ _ _ h => h) (Or.inl ⟨by first | rfl | (have hq_ := ‹(_ == decide ((_ : Int) > 0)) = true›; simp only [gt_iff_lt, Int.natCast_pos] at hq_; rw [hq_]; rfl) | (have hq_ := ‹(_ == decide ((_ : Int) > 0)) = true›; simp only [gt_iff_lt, Int.natCast_pos] at hq_; simp only [hq_]; rfl), ?_⟩) ?_ ?_
                        rotate_left
                        · intro w'
                          go_simp
                          with_reducible rfl
                        rotate_left
                        · simp only [Act.put, List.setIfInBounds_toArray, List.set_cons_zero, List.set_cons_succ, i64_w, i32_w]
                          rfl
                        refine take_ (i := 14) (N := some 51) (v := ?_) (a' := ?_) #[true, true, true, true, true, true, true, true, true, true, true, true, true, true, true, false, false, false, false, false, false, false, false, false, false, false, false, false, false] rfl rfl (take_ofW HT_.out HW_.out (by kernel_rfl)) (fun _ _ _ h => h) (Or.inl ⟨by first | rfl | (have hq_ := ‹(_ == decide ((_ : Int) > 0)) = true›; simp only [gt_iff_lt, Int.natCast_pos] at hq_; rw [hq_]; rfl) | (have hq_ := ‹(_ == decide ((_ : Int) > 0)) = true›; simp only [gt_iff_lt, Int.natCast_pos] at hq_; simp only [hq_]; rfl), ?_⟩) hHeld ?_ ?_
                        rotate_left
                        · rintro w' ⟨s0, s1, s2, s3, s4, s5, s6, s7, s8, s9, s10, s11, s12, s13, s14, s15, s16⟩
                          go_simp
                          with_reducible rfl
                        rotate_left
                        · simp only [Act.put, List.setIfInBounds_toArray, List.set_cons_zero, List.set_cons_succ, i64_w, i32_w]
                          rfl
                        refine take_ (i := 15) (N := some 52) (v := ?_) (a' := ?_) #[true, true, true, true, true, true, true, true, true, true, true, true, true, true, true, true, false, false, false, false, false, false, false, false, false, false, false, false, false] rfl rfl (take_ofW HT_.out HW_.out (by kernel_rfl)) (fun _ _ _ h => h) (Or.inl ⟨by first | rfl | (have hq_ := ‹(_ == decide ((_ : Int) > 0)) = true›; simp only [gt_iff_lt, Int.natCast_pos] at hq_; rw [hq_]; rfl) | (have hq_ := ‹(_ == decide ((_ : Int) > 0)) = true›; simp only [gt_iff_lt, Int.natCast_pos] at hq_; simp only [hq_]; rfl), ?_⟩) hHeld ?_ ?_
                        rotate_left
                        · rintro w' ⟨s0, s1, s2, s3, s4, s5, s6, s7, s8, s9, s10, s11, s12, s13, s14, s15, s16⟩
                          go_simp
                          with_reducible rfl
                        rotate_left
                        · simp only [Act.put, List.setIfInBounds_toArray, List.set_cons_zero, List.set_cons_succ, i64_w, i32_w]
                          rfl
                        refine one_ (i := 16) (N := some 53) #[true, true, true, true, true, true, true, true, true, true, true, true, true, true, true, true, true, false, false, false, false, false, false, false, false, false, false, false, false] rfl rfl (one_of HT_.out (by kernel_rfl)) (by decide) (fun K hK => ?_)
                        refine goes_ Try.func15 (by kernel_rfl) rfl #[.agg #[.int .i64 t240, .int .u64 t241, .int .i64 t242, .int .u64 t243, .int .i64 t244, .int .u64 t245, .slice Ao42 t246.length co42], .agg #[.int .i64 t240, .int .u64 t241, .int .i64 t242, .int .u64 t243, .int .i64 t244, .int .u64 t245, .slice Ao55 y262.length co55]] (by first | rfl | (have hq_ := ‹(_ == decide ((_ : Int) > 0)) = true›; simp only [gt_iff_lt, Int.natCast_pos] at hq_; rw [hq_]; rfl) | (have hq_ := ‹(_ == decide ((_ : Int) > 0)) = true›; simp only [gt_iff_lt, Int.natCast_pos] at hq_; simp only [hq_]; rfl)) rfl rfl (by (try simp only [List.map_toArray, List.map_cons, List.map_nil]); first | done | rfl | (simp only [List.length_drop, List.length_take]; rfl)) ?_
                        with_reducible refine (vote_Same.calls t240 t241 t242 t243 t244 t245 _ _ t246 t240 t241 t242 t243 t244 t245 _ _ y262 true _ ?side1 ?side2 ?side3 ?side4 A21.out).mono ?_
                        (case side1 => repeat (first | exact (Kd.R_reads' HO248.out).2.2 | (with_reducible refine Kd.C_alloc ?_ _) | (with_reducible refine Kd.C_drewN ?_ _) | (with_reducible refine Kd.C_drew ?_)))
                        (case side2 => exact (Kd.R_reads' HO248.out).2.1)
                        (case side3 => repeat (first | exact (Kd.R_reads' HO264.out).2.2 | (with_reducible refine Kd.C_alloc ?_ _) | (with_reducible refine Kd.C_drewN ?_ _) | (with_reducible refine Kd.C_drew ?_)))
                        (case side4 => exact (Kd.R_reads' HO264.out).2.1)
                        rintro e w61 ⟨rfl, hb⟩
                        refine ⟨_, rfl, ?_⟩
                        have n0_ := Aside0.mk (Kd.R_below (by (with_reducible repeat (first | apply Kd.R_alloc | apply Kd.R_drewN | apply Kd.R_drew)); exact HO236.out) hb)
                        have n1_ := Aside0.mk (Kd.R_below (by (with_reducible repeat (first | apply Kd.R_alloc | apply Kd.R_drewN | apply Kd.R_drew)); exact HO248.out) hb)
                        have n2_ := Aside0.mk (Kd.R_below (by (with_reducible repeat (first | apply Kd.R_alloc | apply Kd.R_drewN | apply Kd.R_drew)); exact HO264.out) hb)
                        have n3_ := Aside0.mk (blk_below (g := gb231) (o := .cells #[.slice A0_0 l0_0.length c0_0, .int .i64 a0_1, .int .i64 a0_2] 24 (0, 0)) (by (with_reducible repeat (first | refine blk_drewN ?_ _ | refine blk_drew ?_ | refine blk_alloc ?_ _)); exact BK231.out) hb)
                        have n4_ := Aside0.mk (blk_below (g := gb232) (o := .cells #[.int .i64 a1_0, .int .u64 a1_1, .int .i64 a1_2, .int .u64 a1_3, .int .i64 a1_4, .int .u64 a1_5, .slice A1_6 l1_6.length c1_6] 30 (0, 0)) (by (with_reducible repeat (first | refine blk_drewN ?_ _ | refine blk_drew ?_ | refine blk_alloc ?_ _)); exact BK232.out) hb)
                        have n5_ := Aside0.mk (blk_below (g := gb239) (o := .cells #[.slice Ao31 t234.length co31, .int .i64 t237, .int .i64 t238] 24 (0, 0)) (by (with_reducible repeat (first | refine blk_drewN ?_ _ | refine blk_drew ?_ | refine blk_alloc ?_ _)); exact BK239.out) hb)
                        have n6_ := Aside0.mk (blk_below (g := gb249) (o := .cells #[.int .i64 t240, .int .u64 t241, .int .i64 t242, .int .u64 t243, .int .i64 t244, .int .u64 t245, .slice Ao42 t246.length co42] 30 (0, 0)) (by (with_reducible repeat (first | refine blk_drewN ?_ _ | refine blk_drew ?_ | refine blk_alloc ?_ _)); exact BK249.out) hb)
                        have n7_ := Aside0.mk (blk_below (g := gb250) (o := .cells #[.int .i64 t240, .int .u64 t241, .int .i64 t242, .int .u64 t243, .int .i64 t244, .int .u64 t245, .slice Ao55 y262.length co55] 30 (0, 0)) (by (with_reducible repeat (first | refine blk_drewN ?_ _ | refine blk_drew ?_ | refine blk_alloc ?_ _)); exact BK250.out) hb)
                        have n8_ := Aside0.mk (below_step (by repeat (first | (with_reducible first | exact HB.out | apply below_alloc | apply pw_below_drewN | apply below_drew1 | refine below_set ?_ GE231.out | refine below_set ?_ GE232.out | refine below_set ?_ GE239.out | refine below_set ?_ GE249.out | refine below_set ?_ GE250.out) | exact HB.out)) hb)
                        clear HO236
                        clear HO248
                        clear HO264
                        clear BK231
                        clear BK232
                        clear BK239
                        clear BK249
                        clear BK250
                        clear HB
                        have HO236 := n0_
                        have HO248 := n1_
                        have HO264 := n2_
                        have BK231 := n3_
                        have BK232 := n4_
                        have BK239 := n5_
                        have BK249 := n6_
                        have BK250 := n7_
                        have HB := n8_
                        clear n0_ n1_ n2_ n3_ n4_ n5_ n6_ n7_ n8_
                        (try clear hb)
                        (try clear hb2)
                        (try clear hk)
                        (try clear hi)
                        refine hK.out _ _ ⟨(blk_cell BK239.out 0).trans rfl, (blk_cell BK239.out 1).trans rfl, (blk_cell BK239.out 2).trans rfl, (blk_cell BK249.out 0).trans rfl, (blk_cell BK249.out 1).trans rfl, (blk_cell BK249.out 2).trans rfl, (blk_cell BK249.out 3).trans rfl, (blk_cell BK249.out 4).trans rfl, (blk_cell BK249.out 5).trans rfl, (blk_cell BK249.out 6).trans rfl, (blk_cell BK250.out 0).trans rfl, (blk_cell BK250.out 1).trans rfl, (blk_cell BK250.out 2).trans rfl, (blk_cell BK250.out 3).trans rfl, (blk_cell BK250.out 4).trans rfl, (blk_cell BK250.out 5).trans rfl, (blk_cell BK250.out 6).trans rfl⟩ (fun hHeld => ?_)
                        clear hK K
                        refine norm_ (a' := ?_) ?_ ?_
                        rotate_left
                        · show Act.put _ (some 53) _ = _
                          simp only [Act.put, List.setIfInBounds_toArray, List.set_cons_zero, List.set_cons_succ, i64_w, i32_w]
                          rfl
                        refine pure_ (i := 17) (N := some 54) (v := ?_) (a' := ?_) #[true, true, true, true, true, true, true, true, true, true, true, true, true, true, true, true, true, true, false, false, false, false, false, false, false, false, false, false, false] rfl rfl (any_of HT_.out (by kernel_rfl)) (fun _ _ _ h => h) (Or.inl ⟨by first | rfl | (have hq_ := ‹(_ == decide ((_ : Int) > 0)) = true›; simp only [gt_iff_lt, Int.natCast_pos] at hq_; rw [hq_]; rfl) | (have hq_ := ‹(_ == decide ((_ : Int) > 0)) = true›; simp only [gt_iff_lt, Int.natCast_pos] at hq_; simp only [hq_]; rfl), ?_⟩) ?_ ?_
                        rotate_left
                        · intro w'
                          go_simp
                          with_reducible rfl
                        rotate_left
                        · simp only [Act.put, List.setIfInBounds_toArray, List.set_cons_zero, List.set_cons_succ, i64_w, i32_w]
                          rfl
                        refine pure_ (i := 18) (N := some 55) (v := ?_) (a' := ?_) #[true, true, true, true, true, true, true, true, true, true, true, true, true, true, true, true, true, true, true, false, false, false, false, false, false, false, false, false, false] rfl rfl (any_of HT_.out (by kernel_rfl)) (fun _ _ _ h => h) (Or.inl ⟨by first | rfl | (have hq_ := ‹(_ == decide ((_ : Int) > 0)) = true›; simp only [gt_iff_lt, Int.natCast_pos] at hq_; rw [hq_]; rfl) | (have hq_ := ‹(_ == decide ((_ : Int) > 0)) = true›; simp only [gt_iff_lt, Int.natCast_pos] at hq_; simp only [hq_]; rfl), ?_⟩) ?_ ?_
                        rotate_left
                        · intro w'
                          go_simp
                          with_reducible rfl
                        rotate_left
                        · simp only [Act.put, List.setIfInBounds_toArray, List.set_cons_zero, List.set_cons_succ, i64_w, i32_w]
                          rfl
                        refine pure_ (i := 23) (N := some 60) (v := ?_) (a' := ?_) #[true, true, true, true, true, true, true, true, true, true, true, true, true, true, true, true, true, true, true, false, false, false, false, true, false, false, false, false, false] rfl rfl (any_of HT_.out (by kernel_rfl)) (fun _ _ _ h => h) (Or.inl ⟨by first | rfl | (have hq_ := ‹(_ == decide ((_ : Int) > 0)) = true›; simp only [gt_iff_lt, Int.natCast_pos] at hq_; rw [hq_]; rfl) | (have hq_ := ‹(_ == decide ((_ : Int) > 0)) = true›; simp only [gt_iff_lt, Int.natCast_pos] at hq_; simp only [hq_]; rfl), ?_⟩) ?_ ?_
                        rotate_left
                        · intro w'
                          go_simp
                          with_reducible rfl
                        rotate_left
                        · simp only [Act.put, List.setIfInBounds_toArray, List.set_cons_zero, List.set_cons_succ, i64_w, i32_w]
                          rfl
                        refine take_ (i := 19) (N := some 56) (v := ?_) (a' := ?_) #[true, true, true, true, true, true, true, true, true, true, true, true, true, true, true, true, true, true, true, true, false, false, false, true, false, false, false, false, false] rfl rfl (take_ofW HT_.out HW_.out (by kernel_rfl)) (fun _ _ _ h => h) (Or.inl ⟨by first | rfl | (have hq_ := ‹(_ == decide ((_ : Int) > 0)) = true›; simp only [gt_iff_lt, Int.natCast_pos] at hq_; rw [hq_]; rfl) | (have hq_ := ‹(_ == decide ((_ : Int) > 0)) = true›; simp only [gt_iff_lt, Int.natCast_pos] at hq_; simp only [hq_]; rfl), ?_⟩) hHeld ?_ ?_
                        rotate_left
                        · rintro w' ⟨s0, s1, s2, s3, s4, s5, s6, s7, s8, s9, s10, s11, s12, s13, s14, s15, s16⟩
                          go_simp
                          with_reducible rfl
                        rotate_left
                        · simp only [Act.put, List.setIfInBounds_toArray, List.set_cons_zero, List.set_cons_succ, i64_w, i32_w]
                          rfl
                        refine take_ (i := 20) (N := some 57) (v := ?_) (a' := ?_) #[true, true, true, true, true, true, true, true, true, true, true, true, true, true, true, true, true, true, true, true, true, false, false, true, false, false, false, false, false] rfl rfl (take_ofW HT_.out HW_.out (by kernel_rfl)) (fun _ _ _ h => h) (Or.inl ⟨by first | rfl | (have hq_ := ‹(_ == decide ((_ : Int) > 0)) = true›; simp only [gt_iff_lt, Int.natCast_pos] at hq_; rw [hq_]; rfl) | (have hq_ := ‹(_ == decide ((_ : Int) > 0)) = true›; simp only [gt_iff_lt, Int.natCast_pos] at hq_; simp only [hq_]; rfl), ?_⟩) hHeld ?_ ?_
                        rotate_left
                        · rintro w' ⟨s0, s1, s2, s3, s4, s5, s6, s7, s8, s9, s10, s11, s12, s13, s14, s15, s16⟩
                          go_simp
                          with_reducible rfl
                        rotate_left
                        · simp only [Act.put, List.setIfInBounds_toArray, List.set_cons_zero, List.set_cons_succ, i64_w, i32_w]
                          rfl
                        refine take_ (i := 24) (N := some 61) (v := ?_) (a' := ?_) #[true, true, true, true, true, true, true, true, true, true, true, true, true, true, true, true, true, true, true, true, true, false, false, true, true, false, false, false, false] rfl rfl (take_ofW HT_.out HW_.out (by kernel_rfl)) (fun _ _ _ h => h) (Or.inl ⟨by first | rfl | (have hq_ := ‹(_ == decide ((_ : Int) > 0)) = true›; simp only [gt_iff_lt, Int.natCast_pos] at hq_; rw [hq_]; rfl) | (have hq_ := ‹(_ == decide ((_ : Int) > 0)) = true›; simp only [gt_iff_lt, Int.natCast_pos] at hq_; simp only [hq_]; rfl), ?_⟩) hHeld ?_ ?_
                        rotate_left
                        · rintro w' ⟨s0, s1, s2, s3, s4, s5, s6, s7, s8, s9, s10, s11, s12, s13, s14, s15, s16⟩
                          go_simp
                          with_reducible rfl
                        rotate_left
                        · simp only [Act.put, List.setIfInBounds_toArray, List.set_cons_zero, List.set_cons_succ, i64_w, i32_w]
                          rfl
                        refine pure_ (i := 25) (N := some 62) (v := ?_) (a' := ?_) #[true, true, true, true, true, true, true, true, true, true, true, true, true, true, true, true, true, true, true, true, true, false, false, true, true, true, false, false, false] rfl rfl (any_of HT_.out (by kernel_rfl)) (fun _ _ _ h => h) (Or.inl ⟨by first | rfl | (have hq_ := ‹(_ == decide ((_ : Int) > 0)) = true›; simp only [gt_iff_lt, Int.natCast_pos] at hq_; rw [hq_]; rfl) | (have hq_ := ‹(_ == decide ((_ : Int) > 0)) = true›; simp only [gt_iff_lt, Int.natCast_pos] at hq_; simp only [hq_]; rfl), ?_⟩) ?_ ?_
                        rotate_left
                        · intro w'
                          go_simp
                          with_reducible rfl
                        rotate_left
                        · simp only [Act.put, List.setIfInBounds_toArray, List.set_cons_zero, List.set_cons_succ, i64_w, i32_w]
                          rfl
                        refine one_ (i := 21) (N := some 58) #[true, true, true, true, true, true, true, true, true, true, true, true, true, true, true, true, true, true, true, true, true, true, false, true, true, true, false, false, false] rfl rfl (one_of HT_.out (by kernel_rfl)) (by decide) (fun K hK => ?_)
                        refine goes_ Try.func13 (by kernel_rfl) rfl #[.agg #[.int .i64 t240, .int .u64 t241, .int .i64 t242, .int .u64 t243, .int .i64 t244, .int .u64 t245, .slice Ao42 t246.length co42], .agg #[.int .i64 t240, .int .u64 t241, .int .i64 t242, .int .u64 t243, .int .i64 t244, .int .u64 t245, .slice Ao55 y262.length co55]] (by first | rfl | (have hq_ := ‹(_ == decide ((_ : Int) > 0)) = true›; simp only [gt_iff_lt, Int.natCast_pos] at hq_; rw [hq_]; rfl) | (have hq_ := ‹(_ == decide ((_ : Int) > 0)) = true›; simp only [gt_iff_lt, Int.natCast_pos] at hq_; simp only [hq_]; rfl)) rfl rfl (by (try simp only [List.map_toArray, List.map_cons, List.map_nil]); first | done | rfl | (simp only [List.length_drop, List.length_take]; rfl)) ?_
                        with_reducible refine (vote_Both.calls k t240 t241 t242 t243 t244 t245 _ _ t246 t240 t241 t242 t243 t244 t245 _ _ y262 t268 _ ?side1 ?side2 ?side3 ?side4 A23.out).mono ?_
                        (case side1 => repeat (first | exact (Kd.R_reads' HO248.out).2.2 | (with_reducible refine Kd.C_alloc ?_ _) | (with_reducible refine Kd.C_drewN ?_ _) | (with_reducible refine Kd.C_drew ?_)))
                        (case side2 => exact (Kd.R_reads' HO248.out).2.1)
                        (case side3 => repeat (first | exact (Kd.R_reads' HO264.out).2.2 | (with_reducible refine Kd.C_alloc ?_ _) | (with_reducible refine Kd.C_drewN ?_ _) | (with_reducible refine Kd.C_drew ?_)))
                        (case side4 => exact (Kd.R_reads' HO264.out).2.1)
                        rintro e w62 ⟨v269, rfl, ho0, hb⟩
                        refine ⟨_, rfl, ?_⟩
                        have n0_ := Aside0.mk (Kd.R_below (by (with_reducible repeat (first | apply Kd.R_alloc | apply Kd.R_drewN | apply Kd.R_drew)); exact HO236.out) hb)
                        have n1_ := Aside0.mk (Kd.R_elder' (by (with_reducible repeat (first | apply Kd.R_alloc | apply Kd.R_drewN | apply Kd.R_drew)); exact HO248.out) (Kd.R_base ho0) hb)
                        have n2_ := Aside0.mk (Kd.R_elder' (by (with_reducible repeat (first | apply Kd.R_alloc | apply Kd.R_drewN | apply Kd.R_drew)); exact HO264.out) (Kd.R_base ho0) hb)
                        have n3_ := Aside0.mk (Kd.R_lower (Kd.R_new' (Kd.R_new' ho0 (Kd.R_lt (by (with_reducible repeat (first | apply Kd.R_alloc | apply Kd.R_drewN | apply Kd.R_drew)); exact HO248.out))) (Kd.R_lt (by (with_reducible repeat (first | apply Kd.R_alloc | apply Kd.R_drewN | apply Kd.R_drew)); exact HO264.out))) (below_size (by repeat (first | (with_reducible first | exact HB.out | apply below_alloc | apply pw_below_drewN | apply below_drew1 | refine below_set ?_ GE231.out | refine below_set ?_ GE232.out | refine below_set ?_ GE239.out | refine below_set ?_ GE249.out | refine below_set ?_ GE250.out) | exact HB.out))))
                        have n4_ := Aside0.mk (blk_below (g := gb231) (o := .cells #[.slice A0_0 l0_0.length c0_0, .int .i64 a0_1, .int .i64 a0_2] 24 (0, 0)) (by (with_reducible repeat (first | refine blk_drewN ?_ _ | refine blk_drew ?_ | refine blk_alloc ?_ _)); exact BK231.out) hb)
                        have n5_ := Aside0.mk (blk_below (g := gb232) (o := .cells #[.int .i64 a1_0, .int .u64 a1_1, .int .i64 a1_2, .int .u64 a1_3, .int .i64 a1_4, .int .u64 a1_5, .slice A1_6 l1_6.length c1_6] 30 (0, 0)) (by (with_reducible repeat (first | refine blk_drewN ?_ _ | refine blk_drew ?_ | refine blk_alloc ?_ _)); exact BK232.out) hb)
                        have n6_ := Aside0.mk (blk_below (g := gb239) (o := .cells #[.slice Ao31 t234.length co31, .int .i64 t237, .int .i64 t238] 24 (0, 0)) (by (with_reducible repeat (first | refine blk_drewN ?_ _ | refine blk_drew ?_ | refine blk_alloc ?_ _)); exact BK239.out) hb)
                        have n7_ := Aside0.mk (blk_below (g := gb249) (o := .cells #[.int .i64 t240, .int .u64 t241, .int .i64 t242, .int .u64 t243, .int .i64 t244, .int .u64 t245, .slice Ao42 t246.length co42] 30 (0, 0)) (by (with_reducible repeat (first | refine blk_drewN ?_ _ | refine blk_drew ?_ | refine blk_alloc ?_ _)); exact BK249.out) hb)
                        have n8_ := Aside0.mk (blk_below (g := gb250) (o := .cells #[.int .i64 t240, .int .u64 t241, .int .i64 t242, .int .u64 t243, .int .i64 t244, .int .u64 t245, .slice Ao55 y262.length co55] 30 (0, 0)) (by (with_reducible repeat (first | refine blk_drewN ?_ _ | refine blk_drew ?_ | refine blk_alloc ?_ _)); exact BK250.out) hb)
                        have n9_ := Aside0.mk (below_step (by repeat (first | (with_reducible first | exact HB.out | apply below_alloc | apply pw_below_drewN | apply below_drew1 | refine below_set ?_ GE231.out | refine below_set ?_ GE232.out | refine below_set ?_ GE239.out | refine below_set ?_ GE249.out | refine below_set ?_ GE250.out) | exact HB.out)) hb)
                        clear HO236
                        clear HO248
                        clear HO264
                        clear BK231
                        clear BK232
                        clear BK239
                        clear BK249
                        clear BK250
                        clear HB
                        have HO236 := n0_
                        have HO248 := n1_
                        have HO264 := n2_
                        have HO270 := n3_
                        have BK231 := n4_
                        have BK232 := n5_
                        have BK239 := n6_
                        have BK249 := n7_
                        have BK250 := n8_
                        have HB := n9_
                        clear n0_ n1_ n2_ n3_ n4_ n5_ n6_ n7_ n8_ n9_
                        (try clear hb)
                        (try clear hb2)
                        (try clear hk)
                        (try clear hi)
                        (try clear ho0)
                        obtain ⟨Ao63, co63, eo63⟩ := Kd.R_slice HO270.out
                        (first | subst eo63 | (injection eo63 with f1_ f2_ f3_; have f4_ := f1_.symm; have f5_ := f3_.symm; clear f1_ f2_ f3_; subst f4_; subst f5_))
                        refine hK.out _ _ ⟨(blk_cell BK239.out 0).trans rfl, (blk_cell BK239.out 1).trans rfl, (blk_cell BK239.out 2).trans rfl, (blk_cell BK249.out 0).trans rfl, (blk_cell BK249.out 1).trans rfl, (blk_cell BK249.out 2).trans rfl, (blk_cell BK249.out 3).trans rfl, (blk_cell BK249.out 4).trans rfl, (blk_cell BK249.out 5).trans rfl, (blk_cell BK249.out 6).trans rfl, (blk_cell BK250.out 0).trans rfl, (blk_cell BK250.out 1).trans rfl, (blk_cell BK250.out 2).trans rfl, (blk_cell BK250.out 3).trans rfl, (blk_cell BK250.out 4).trans rfl, (blk_cell BK250.out 5).trans rfl, (blk_cell BK250.out 6).trans rfl⟩ (fun hHeld => ?_)
                        clear hK K
                        refine norm_ (a' := ?_) ?_ ?_
                        rotate_left
                        · show Act.put _ (some 58) _ = _
                          simp only [Act.put, List.setIfInBounds_toArray, List.set_cons_zero, List.set_cons_succ, i64_w, i32_w]
                          rfl
                        refine pure_ (i := 22) (N := some 59) (v := ?_) (a' := ?_) #[true, true, true, true, true, true, true, true, true, true, true, true, true, true, true, true, true, true, true, true, true, true, true, true, true, true, false, false, false] rfl rfl (any_of HT_.out (by kernel_rfl)) (fun _ _ _ h => h) (Or.inl ⟨by first | rfl | (have hq_ := ‹(_ == decide ((_ : Int) > 0)) = true›; simp only [gt_iff_lt, Int.natCast_pos] at hq_; rw [hq_]; rfl) | (have hq_ := ‹(_ == decide ((_ : Int) > 0)) = true›; simp only [gt_iff_lt, Int.natCast_pos] at hq_; simp only [hq_]; rfl), ?_⟩) ?_ ?_
                        rotate_left
                        · intro w'
                          go_simp
                          with_reducible rfl
                        rotate_left
                        · simp only [Act.put, List.setIfInBounds_toArray, List.set_cons_zero, List.set_cons_succ, i64_w, i32_w]
                          rfl
                        refine pure_ (i := 26) (N := some 63) (v := ?_) (a' := ?_) #[true, true, true, true, true, true, true, true, true, true, true, true, true, true, true, true, true, true, true, true, true, true, true, true, true, true, true, false, false] rfl rfl (any_of HT_.out (by kernel_rfl)) (fun _ _ _ h => h) (Or.inl ⟨by first | rfl | (have hq_ := ‹(_ == decide ((_ : Int) > 0)) = true›; simp only [gt_iff_lt, Int.natCast_pos] at hq_; rw [hq_]; rfl) | (have hq_ := ‹(_ == decide ((_ : Int) > 0)) = true›; simp only [gt_iff_lt, Int.natCast_pos] at hq_; simp only [hq_]; rfl), ?_⟩) ?_ ?_
                        rotate_left
                        · intro w'
                          go_simp
                          with_reducible rfl
                        rotate_left
                        · simp only [Act.put, List.setIfInBounds_toArray, List.set_cons_zero, List.set_cons_succ, i64_w, i32_w]
                          rfl
                        refine pure_ (i := 27) (N := some 64) (v := ?_) (a' := ?_) #[true, true, true, true, true, true, true, true, true, true, true, true, true, true, true, true, true, true, true, true, true, true, true, true, true, true, true, true, false] rfl rfl (any_of HT_.out (by kernel_rfl)) (fun _ _ _ h => h) (Or.inl ⟨by first | rfl | (have hq_ := ‹(_ == decide ((_ : Int) > 0)) = true›; simp only [gt_iff_lt, Int.natCast_pos] at hq_; rw [hq_]; rfl) | (have hq_ := ‹(_ == decide ((_ : Int) > 0)) = true›; simp only [gt_iff_lt, Int.natCast_pos] at hq_; simp only [hq_]; rfl), ?_⟩) ?_ ?_
                        rotate_left
                        · intro w'
                          go_simp
                          with_reducible rfl
                        rotate_left
                        · simp only [Act.put, List.setIfInBounds_toArray, List.set_cons_zero, List.set_cons_succ, i64_w, i32_w]
                          rfl
                        refine pure_ (i := 28) (N := some 6) (v := ?_) (a' := ?_) #[true, true, true, true, true, true, true, true, true, true, true, true, true, true, true, true, true, true, true, true, true, true, true, true, true, true, true, true, true] rfl rfl (any_of HT_.out (by kernel_rfl)) (fun _ _ _ h => h) (Or.inl ⟨by first | rfl | (have hq_ := ‹(_ == decide ((_ : Int) > 0)) = true›; simp only [gt_iff_lt, Int.natCast_pos] at hq_; rw [hq_]; rfl) | (have hq_ := ‹(_ == decide ((_ : Int) > 0)) = true›; simp only [gt_iff_lt, Int.natCast_pos] at hq_; simp only [hq_]; rfl), ?_⟩) ?_ ?_
                        rotate_left
                        · intro w'
                          go_simp
                          with_reducible rfl
                        rotate_left
                        · simp only [Act.put, List.setIfInBounds_toArray, List.set_cons_zero, List.set_cons_succ, i64_w, i32_w]
                          rfl
                        refine done_ (done_of HT_.out (by kernel_rfl)) ?_
                        try go_wp2
                        go_ret
                        exact ⟨by first | rfl | (have hq_ := ‹(_ == decide ((_ : Int) > 0)) = true›; simp only [gt_iff_lt, Int.natCast_pos] at hq_; rw [hq_]; rfl) | (have hq_ := ‹(_ == decide ((_ : Int) > 0)) = true›; simp only [gt_iff_lt, Int.natCast_pos] at hq_; simp [hq_]; done) | (simp [*, errW_none, errW_some]; simpa using ‹(_ == decide ((_ : Int) > 0)) = true›) | (simp [errW_none, errW_some] <;> rfl) | (simp only [← hji9, ← hji13]; first | rfl | (simp [errW_none, errW_some] <;> rfl)) | (simp [*, errW_none, errW_some] <;> rfl), by repeat (first | (with_reducible first | exact HB.out | apply below_alloc | apply pw_below_drewN | apply below_drew1 | refine below_set ?_ GE231.out | refine below_set ?_ GE232.out | refine below_set ?_ GE239.out | refine below_set ?_ GE249.out | refine below_set ?_ GE250.out) | exact HB.out)⟩
                      · replace c22 := Bool.eq_false_iff.mpr c22
                        subst c22
                        have H1 : (some false) = some r := by rw [if_neg (show ¬ (false = true) by decide)] at H; exact H
                        clear H
                        have H := H1
                        clear H1
                        exact absurd ((Option.some.inj H).trans hr_) Bool.false_ne_true
                    · rw [if_neg c20] at H
                      have c20b0 : (t266 == (decide ((y262.length : Int) > 0))) = false := by simpa using c20
                      (try (have c20b1 : decide (t266 = (decide ((y262.length : Int) > 0))) = false := by simpa using c20))
                      (try (have c20b2 : (t266 == (decide ((y262.length : Int) > 0))) = false := by simpa using c20))
                      (try (have c20b3 : ¬ (t266 = (decide ((y262.length : Int) > 0))) := by simpa using c20))
                      clear c20
                      exact absurd ((Option.some.inj H).trans hr_) Bool.false_ne_true
                  · replace c18 := Bool.eq_false_iff.mpr c18
                    subst c18
                    have H1 : (some false) = some r := by rw [if_neg (show ¬ (false = true) by decide)] at H; exact H
                    clear H
                    have H := H1
                    clear H1
                    exact absurd ((Option.some.inj H).trans hr_) Bool.false_ne_true
                · rw [if_neg c16] at H
                  exact absurd H (by simp)
              · rw [if_neg c15] at H
                exact absurd H (by simp)
            · rw [if_neg c14] at H
              exact absurd H (by simp)
          · rw [if_neg c12] at H
            exact absurd H (by simp)
        · rw [if_neg c11] at H
          exact absurd H (by simp)
      · rw [if_neg c10] at H
        exact absurd H (by simp)
  · replace c5 := Bool.eq_false_iff.mpr c5
    subst c5
    have H1 : (some false) = some r := by rw [if_neg (show ¬ (false = true) by decide)] at H; exact H
    clear H
    have H := H1
    clear H1
    exact absurd ((Option.some.inj H).trans hr_) Bool.false_ne_true

end Go.Proofs.Ytegegnpjdpjgmaa.QV
