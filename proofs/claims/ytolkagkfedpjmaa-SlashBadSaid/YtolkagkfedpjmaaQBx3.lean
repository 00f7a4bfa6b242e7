-- Laid by this work's own turn of the print (gprint.py); not the print's own text.
import Derived.Test.YtolkagkfedpjmaaQBx0
import Derived.Test.YtolkagkfedpjmaaQBx1
import Derived.Test.YtolkagkfedpjmaaQBx2
namespace Go.Proofs.Ytolkagkfedpjmaa.QB
open Go.RowKit Go.Proofs.YtolkagkfedpjmaaW.PrintWords Go.Proofs.YtolkagkfedpjmaaW.PrintLast Go.Proofs.YtolkagkfedpjmaaW.PrintMore
attribute [local go_sem] max2_int min2_int max_two min_two max_three min_three max_four min_four   -- for this text's walks alone
set_option linter.unusedVariables false
set_option linter.unusedSimpArgs false

attribute [local go_sem high] eqA24
/-! ### psephoslaw06_SlashBad: function 3 -/
mutual
def psephoslaw06_SlashBad.j0 : Nat → Bool → Int → Int → Int → Int → Int → Int → List Int → Int → Int → Int → Int → Int → Int → List Int → Option (Bool)
  | 0, _, _, _, _, _, _, _, _, _, _, _, _, _, _, _ => none
  | k + 1, x5, x120000, x120001, x120002, x120003, x120004, x120005, x120006, x121000, x121001, x121002, x121003, x121004, x121005, x121006 => if x120002 < x121002 then (psephoslaw06_SlashBad.j1 k x5 (decide (x120004 > x121004)) x120000 x120001 x120002 x120003 x120004 x120005 x120006 x121000 x121001 x121002 x121003 x121004 x121005 x121006) else (psephoslaw06_SlashBad.j1 k x5 false x120000 x120001 x120002 x120003 x120004 x120005 x120006 x121000 x121001 x121002 x121003 x121004 x121005 x121006)
def psephoslaw06_SlashBad.j1 : Nat → Bool → Bool → Int → Int → Int → Int → Int → Int → List Int → Int → Int → Int → Int → Int → Int → List Int → Option (Bool)
  | 0, _, _, _, _, _, _, _, _, _, _, _, _, _, _, _, _ => none
  | k + 1, x5, x6, x120000, x120001, x120002, x120003, x120004, x120005, x120006, x121000, x121001, x121002, x121003, x121004, x121005, x121006 => if x121002 < x120002 then (psephoslaw06_SlashBad.j2 k x5 x6 (decide (x121004 > x120004)) x120000 x120001 x120002 x120003 x120004 x120005 x120006 x121000 x121001 x121002 x121003 x121004 x121005 x121006) else (psephoslaw06_SlashBad.j2 k x5 x6 false x120000 x120001 x120002 x120003 x120004 x120005 x120006 x121000 x121001 x121002 x121003 x121004 x121005 x121006)
def psephoslaw06_SlashBad.j2 : Nat → Bool → Bool → Bool → Int → Int → Int → Int → Int → Int → List Int → Int → Int → Int → Int → Int → Int → List Int → Option (Bool)
  | 0, _, _, _, _, _, _, _, _, _, _, _, _, _, _, _, _, _ => none
  | k + 1, x5, x6, x7, x120000, x120001, x120002, x120003, x120004, x120005, x120006, x121000, x121001, x121002, x121003, x121004, x121005, x121006 => (slash_Double.f x120000 x120001 x120002 x120003 x120004 x120005 x120006 x121000 x121001 x121002 x121003 x121004 x121005 x121006).bind fun t122 => (if (t122 == x5) = true then ((slash_Around.f x120000 x120001 x120002 x120003 x120004 x120005 x120006 x121000 x121001 x121002 x121003 x121004 x121005 x121006).bind fun t123 => (if (t123 == x6) = true then ((slash_Bad.f x120000 x120001 x120002 x120003 x120004 x120005 x120006 x121000 x121001 x121002 x121003 x121004 x121005 x121006).bind fun t124 => (if x5 = true then (if (t124 == true) = true then ((slash_Bad.f x121000 x121001 x121002 x121003 x121004 x121005 x121006 x120000 x120001 x120002 x120003 x120004 x120005 x120006).bind fun t125 => ((slash_Bad.f x120000 x120001 x120002 x120003 x120004 x120005 x120006 x121000 x121001 x121002 x121003 x121004 x121005 x121006).bind fun t126 => (if (t125 == t126) = true then ((slash_Bad.f x120000 x120001 x120002 x120003 x120004 x120005 x120006 x120000 x120001 x120002 x120003 x120004 x120005 x120006).bind fun t127 => (some (!t127))) else (some false)))) else (some false)) else (if x6 = true then (if (t124 == true) = true then ((slash_Bad.f x121000 x121001 x121002 x121003 x121004 x121005 x121006 x120000 x120001 x120002 x120003 x120004 x120005 x120006).bind fun t128 => ((slash_Bad.f x120000 x120001 x120002 x120003 x120004 x120005 x120006 x121000 x121001 x121002 x121003 x121004 x121005 x121006).bind fun t129 => (if (t128 == t129) = true then ((slash_Bad.f x120000 x120001 x120002 x120003 x120004 x120005 x120006 x120000 x120001 x120002 x120003 x120004 x120005 x120006).bind fun t130 => (some (!t130))) else (some false)))) else (some false)) else (if (t124 == x7) = true then ((slash_Bad.f x121000 x121001 x121002 x121003 x121004 x121005 x121006 x120000 x120001 x120002 x120003 x120004 x120005 x120006).bind fun t131 => ((slash_Bad.f x120000 x120001 x120002 x120003 x120004 x120005 x120006 x121000 x121001 x121002 x121003 x121004 x121005 x121006).bind fun t132 => (if (t131 == t132) = true then ((slash_Bad.f x120000 x120001 x120002 x120003 x120004 x120005 x120006 x120000 x120001 x120002 x120003 x120004 x120005 x120006).bind fun t133 => (some (!t133))) else (some false)))) else (some false))))) else (some false))) else (some false))
end
def psephoslaw06_SlashBad.f (k : Nat) (a0_0 : Int) (a0_1 : Int) (a0_2 : Int) (a0_3 : Int) (a0_4 : Int) (a0_5 : Int) (l0_6 : List Int) (a1_0 : Int) (a1_1 : Int) (a1_2 : Int) (a1_3 : Int) (a1_4 : Int) (a1_5 : Int) (l1_6 : List Int) : Option (Bool) := (psephoslaw06_awake.f).bind fun t121 => (if t121 = true then (if a0_4 = a1_4 then (if a0_0 = a1_0 then (if a0_1 = a1_1 then (if (!(a0_2 == a1_2) || (!(a0_3 == a1_3))) = true then (psephoslaw06_SlashBad.j0 k true a0_0 a0_1 a0_2 a0_3 a0_4 a0_5 l0_6 a1_0 a1_1 a1_2 a1_3 a1_4 a1_5 l1_6) else (psephoslaw06_SlashBad.j0 k (!(a0_4 == a1_4) || (!(a0_5 == a1_5))) a0_0 a0_1 a0_2 a0_3 a0_4 a0_5 l0_6 a1_0 a1_1 a1_2 a1_3 a1_4 a1_5 l1_6)) else (psephoslaw06_SlashBad.j0 k true a0_0 a0_1 a0_2 a0_3 a0_4 a0_5 l0_6 a1_0 a1_1 a1_2 a1_3 a1_4 a1_5 l1_6)) else (psephoslaw06_SlashBad.j0 k true a0_0 a0_1 a0_2 a0_3 a0_4 a0_5 l0_6 a1_0 a1_1 a1_2 a1_3 a1_4 a1_5 l1_6)) else (psephoslaw06_SlashBad.j0 k false a0_0 a0_1 a0_2 a0_3 a0_4 a0_5 l0_6 a1_0 a1_1 a1_2 a1_3 a1_4 a1_5 l1_6)) else (some false))
theorem psephoslaw06_SlashBad.mono_l : ∀ k, (∀ y0 y1 y2 y3 y4 y5 y6 y7 y8 y9 y10 y11 y12 y13 y14, LeO (psephoslaw06_SlashBad.j0 k y0 y1 y2 y3 y4 y5 y6 y7 y8 y9 y10 y11 y12 y13 y14) (psephoslaw06_SlashBad.j0 (k + 1) y0 y1 y2 y3 y4 y5 y6 y7 y8 y9 y10 y11 y12 y13 y14)) ∧ (∀ y0 y1 y2 y3 y4 y5 y6 y7 y8 y9 y10 y11 y12 y13 y14 y15, LeO (psephoslaw06_SlashBad.j1 k y0 y1 y2 y3 y4 y5 y6 y7 y8 y9 y10 y11 y12 y13 y14 y15) (psephoslaw06_SlashBad.j1 (k + 1) y0 y1 y2 y3 y4 y5 y6 y7 y8 y9 y10 y11 y12 y13 y14 y15)) ∧ (∀ y0 y1 y2 y3 y4 y5 y6 y7 y8 y9 y10 y11 y12 y13 y14 y15 y16, LeO (psephoslaw06_SlashBad.j2 k y0 y1 y2 y3 y4 y5 y6 y7 y8 y9 y10 y11 y12 y13 y14 y15 y16) (psephoslaw06_SlashBad.j2 (k + 1) y0 y1 y2 y3 y4 y5 y6 y7 y8 y9 y10 y11 y12 y13 y14 y15 y16))
  | 0 => ⟨fun _ _ _ _ _ _ _ _ _ _ _ _ _ _ _ r h => by simp [psephoslaw06_SlashBad.j0] at h, fun _ _ _ _ _ _ _ _ _ _ _ _ _ _ _ _ r h => by simp [psephoslaw06_SlashBad.j1] at h, fun _ _ _ _ _ _ _ _ _ _ _ _ _ _ _ _ _ r h => by simp [psephoslaw06_SlashBad.j2] at h⟩
  | k + 1 => by
    obtain ⟨ih0, ih1, ih2⟩ := psephoslaw06_SlashBad.mono_l k
    refine ⟨?_, ?_, ?_⟩
    · intro y0 y1 y2 y3 y4 y5 y6 y7 y8 y9 y10 y11 y12 y13 y14
      unfold psephoslaw06_SlashBad.j0
      repeat' first
      | (with_reducible exact ih0 _ _ _ _ _ _ _ _ _ _ _ _ _ _ _)
      | (with_reducible exact ih1 _ _ _ _ _ _ _ _ _ _ _ _ _ _ _ _)
      | (with_reducible exact ih2 _ _ _ _ _ _ _ _ _ _ _ _ _ _ _ _ _)
      | (with_reducible exact LeO.refl _)
      | (with_reducible exact LeO.none _)
      | (with_reducible refine LeO.ite ?_ ?_)
      | (with_reducible refine LeO.bind ?_ (fun _ => ?_))
      | exact ih0 _ _ _ _ _ _ _ _ _ _ _ _ _ _ _
      | exact ih1 _ _ _ _ _ _ _ _ _ _ _ _ _ _ _ _
      | exact ih2 _ _ _ _ _ _ _ _ _ _ _ _ _ _ _ _ _
      | exact LeO.none _
      | refine LeO.ite ?_ ?_
      | refine LeO.bind ?_ (fun _ => ?_)
    · intro y0 y1 y2 y3 y4 y5 y6 y7 y8 y9 y10 y11 y12 y13 y14 y15
      unfold psephoslaw06_SlashBad.j1
      repeat' first
      | (with_reducible exact ih0 _ _ _ _ _ _ _ _ _ _ _ _ _ _ _)
      | (with_reducible exact ih1 _ _ _ _ _ _ _ _ _ _ _ _ _ _ _ _)
      | (with_reducible exact ih2 _ _ _ _ _ _ _ _ _ _ _ _ _ _ _ _ _)
      | (with_reducible exact LeO.refl _)
      | (with_reducible exact LeO.none _)
      | (with_reducible refine LeO.ite ?_ ?_)
      | (with_reducible refine LeO.bind ?_ (fun _ => ?_))
      | exact ih0 _ _ _ _ _ _ _ _ _ _ _ _ _ _ _
      | exact ih1 _ _ _ _ _ _ _ _ _ _ _ _ _ _ _ _
      | exact ih2 _ _ _ _ _ _ _ _ _ _ _ _ _ _ _ _ _
      | exact LeO.none _
      | refine LeO.ite ?_ ?_
      | refine LeO.bind ?_ (fun _ => ?_)
    · intro y0 y1 y2 y3 y4 y5 y6 y7 y8 y9 y10 y11 y12 y13 y14 y15 y16
      unfold psephoslaw06_SlashBad.j2
      repeat' first
      | (with_reducible exact ih0 _ _ _ _ _ _ _ _ _ _ _ _ _ _ _)
      | (with_reducible exact ih1 _ _ _ _ _ _ _ _ _ _ _ _ _ _ _ _)
      | (with_reducible exact ih2 _ _ _ _ _ _ _ _ _ _ _ _ _ _ _ _ _)
      | (with_reducible exact LeO.refl _)
      | (with_reducible exact LeO.none _)
      | (with_reducible refine LeO.ite ?_ ?_)
      | (with_reducible refine LeO.bind ?_ (fun _ => ?_))
      | exact ih0 _ _ _ _ _ _ _ _ _ _ _ _ _ _ _
      | exact ih1 _ _ _ _ _ _ _ _ _ _ _ _ _ _ _ _
      | exact ih2 _ _ _ _ _ _ _ _ _ _ _ _ _ _ _ _ _
      | exact LeO.none _
      | refine LeO.ite ?_ ?_
      | refine LeO.bind ?_ (fun _ => ?_)
theorem psephoslaw06_SlashBad.mono : ∀ a0 a1 a2 a3 a4 a5 a6 a7 a8 a9 a10 a11 a12 a13 k, LeO (psephoslaw06_SlashBad.f k a0 a1 a2 a3 a4 a5 a6 a7 a8 a9 a10 a11 a12 a13) (psephoslaw06_SlashBad.f (k + 1) a0 a1 a2 a3 a4 a5 a6 a7 a8 a9 a10 a11 a12 a13) := by
  intro a0 a1 a2 a3 a4 a5 a6 a7 a8 a9 a10 a11 a12 a13 k
  obtain ⟨ih0, ih1, ih2⟩ := psephoslaw06_SlashBad.mono_l k
  unfold psephoslaw06_SlashBad.f
  repeat' first
      | (with_reducible exact ih0 _ _ _ _ _ _ _ _ _ _ _ _ _ _ _)
      | (with_reducible exact ih1 _ _ _ _ _ _ _ _ _ _ _ _ _ _ _ _)
      | (with_reducible exact ih2 _ _ _ _ _ _ _ _ _ _ _ _ _ _ _ _ _)
      | (with_reducible exact LeO.refl _)
      | (with_reducible exact LeO.none _)
      | (with_reducible refine LeO.ite ?_ ?_)
      | (with_reducible refine LeO.bind ?_ (fun _ => ?_))
      | exact ih0 _ _ _ _ _ _ _ _ _ _ _ _ _ _ _
      | exact ih1 _ _ _ _ _ _ _ _ _ _ _ _ _ _ _ _
      | exact ih2 _ _ _ _ _ _ _ _ _ _ _ _ _ _ _ _ _
      | exact LeO.none _
      | refine LeO.ite ?_ ?_
      | refine LeO.bind ?_ (fun _ => ?_)
def psephoslaw06_SlashBad.T6 : Bool × List (List Nat × List Nat) := (true, [([], []), ([], []), ([0, 1], [0, 1]), ([], []), ([2, 3], [2, 3]), ([4, 2], [4]), ([5], [5]), ([5], [5]), ([6, 7, 5, 5], [5, 6, 7]), ([5], [5]), ([8, 9, 5], [5, 8, 9]), ([5, 10], [5, 10]), ([11, 8], [11]), ([12], [12]), ([12], [12]), ([13, 14, 12, 12], [12, 13, 14]), ([12], [12]), ([16, 15, 12], [12, 16]), ([17], [17]), ([17, 18, 12], [12, 17, 18]), ([19, 17, 12], [12, 19]), ([20], [20]), ([20, 21, 12], [12, 20, 21]), ([15, 22, 12], [12, 15, 22]), ([12, 23], [12, 23]), ([24, 20], [24]), ([25], [25]), ([25], [25]), ([26, 27, 25, 25], [25, 26, 27]), ([25], [25]), ([25], [25]), ([29, 30, 28, 25], [25, 29, 30]), ([28, 31, 25], [25, 28, 31]), ([25, 32], [25, 32]), ([33, 31], [33]), ([34], [34]), ([34], [34]), ([35, 36, 34, 34], [34, 35, 36]), ([37, 34], [34, 37]), ([34, 38], [34, 38]), ([39, 37, 0, 1, 2, 3, 4, 5, 6, 7, 8, 9, 10, 11, 12, 13, 14, 15, 16, 17, 18, 19, 20, 21, 22, 23, 24, 25, 26, 27, 28, 29, 30, 31, 32, 33, 34, 35, 36, 37, 38, 39], [39])])
def psephoslaw06_SlashBad.B6 : List Nat := [0, 0, 3, 0, 15, 31, 63, 63, 255, 63, 1023, 2047, 4095, 8191, 8191, 32767, 8191, 131071, 262143, 524287, 1048575, 2097151, 4194303, 8388607, 16777215, 33554431, 67108863, 67108863, 268435455, 67108863, 67108863, 2147483647, 4294967295, 8589934591, 17179869183, 34359738367, 34359738367, 137438953471, 274877906943, 549755813887, 1099511627775]
theorem psephoslaw06_SlashBad.tab6 : rtab .any (opsOf Try.f3 6) = psephoslaw06_SlashBad.T6 := by kernel_rfl
theorem psephoslaw06_SlashBad.bits6 : waitsOk psephoslaw06_SlashBad.T6.2 psephoslaw06_SlashBad.B6 = true := by kernel_rfl
set_option maxHeartbeats 8000000 in
set_option maxRecDepth 100000 in
theorem psephoslaw06_SlashBad.calls (k : Nat) (a0_0 : Int) (a0_1 : Int) (a0_2 : Int) (a0_3 : Int) (a0_4 : Int) (a0_5 : Int) (A0_6 : Option Addr) (c0_6 : Nat) (l0_6 : List Int) (a1_0 : Int) (a1_1 : Int) (a1_2 : Int) (a1_3 : Int) (a1_4 : Int) (a1_5 : Int) (A1_6 : Option Addr) (c1_6 : Nat) (l1_6 : List Int) (r : Bool) (w : World) (hr0_6 : Kd.C (Kd.int .i64) w A0_6 l0_6.length l0_6) (hc0_6 : l0_6.length ≤ c0_6) (hr1_6 : Kd.C (Kd.int .i64) w A1_6 l1_6.length l1_6) (hc1_6 : l1_6.length ≤ c1_6) (h : psephoslaw06_SlashBad.f k a0_0 a0_1 a0_2 a0_3 a0_4 a0_5 l0_6 a1_0 a1_1 a1_2 a1_3 a1_4 a1_5 l1_6 = some r) (hr_ : r = true) :
    Calls Try.prog 3 #[.agg #[.int .i64 a0_0, .int .u64 a0_1, .int .i64 a0_2, .int .u64 a0_3, .int .i64 a0_4, .int .u64 a0_5, .slice A0_6 l0_6.length c0_6], .agg #[.int .i64 a1_0, .int .u64 a1_1, .int .i64 a1_2, .int .u64 a1_3, .int .i64 a1_4, .int .u64 a1_5, .slice A1_6 l1_6.length c1_6]] w fun e w' => e = .returned (.bool r) ∧ Below w.heap.size w w' := by
  have hu27 := Try.underlying27
  have hu24 := Try.underlying24
  have HR0_6 := Aside0.mk hr0_6
  have HC0_6 := Aside0.mk hc0_6
  clear hr0_6 hc0_6
  have HR1_6 := Aside0.mk hr1_6
  have HC1_6 := Aside0.mk hc1_6
  clear hr1_6 hc1_6
  have HB := Aside0.mk (Below.refl w.heap.size w)
  have H : ((psephoslaw06_awake.f).bind fun t121 => (if t121 = true then (if a0_4 = a1_4 then (if a0_0 = a1_0 then (if a0_1 = a1_1 then (if (!(a0_2 == a1_2) || (!(a0_3 == a1_3))) = true then (psephoslaw06_SlashBad.j0 k true a0_0 a0_1 a0_2 a0_3 a0_4 a0_5 l0_6 a1_0 a1_1 a1_2 a1_3 a1_4 a1_5 l1_6) else (psephoslaw06_SlashBad.j0 k (!(a0_4 == a1_4) || (!(a0_5 == a1_5))) a0_0 a0_1 a0_2 a0_3 a0_4 a0_5 l0_6 a1_0 a1_1 a1_2 a1_3 a1_4 a1_5 l1_6)) else (psephoslaw06_SlashBad.j0 k true a0_0 a0_1 a0_2 a0_3 a0_4 a0_5 l0_6 a1_0 a1_1 a1_2 a1_3 a1_4 a1_5 l1_6)) else (psephoslaw06_SlashBad.j0 k true a0_0 a0_1 a0_2 a0_3 a0_4 a0_5 l0_6 a1_0 a1_1 a1_2 a1_3 a1_4 a1_5 l1_6)) else (psephoslaw06_SlashBad.j0 k false a0_0 a0_1 a0_2 a0_3 a0_4 a0_5 l0_6 a1_0 a1_1 a1_2 a1_3 a1_4 a1_5 l1_6)) else (some false))) = some r := h
  clear h
  replace H := Option.bind_eq_some_iff.mp H
  obtain ⟨t121, A30, H⟩ := H
  replace H : (if t121 = true then (if a0_4 = a1_4 then (if a0_0 = a1_0 then (if a0_1 = a1_1 then (if (!(a0_2 == a1_2) || (!(a0_3 == a1_3))) = true then (psephoslaw06_SlashBad.j0 k true a0_0 a0_1 a0_2 a0_3 a0_4 a0_5 l0_6 a1_0 a1_1 a1_2 a1_3 a1_4 a1_5 l1_6) else (psephoslaw06_SlashBad.j0 k (!(a0_4 == a1_4) || (!(a0_5 == a1_5))) a0_0 a0_1 a0_2 a0_3 a0_4 a0_5 l0_6 a1_0 a1_1 a1_2 a1_3 a1_4 a1_5 l1_6)) else (psephoslaw06_SlashBad.j0 k true a0_0 a0_1 a0_2 a0_3 a0_4 a0_5 l0_6 a1_0 a1_1 a1_2 a1_3 a1_4 a1_5 l1_6)) else (psephoslaw06_SlashBad.j0 k true a0_0 a0_1 a0_2 a0_3 a0_4 a0_5 l0_6 a1_0 a1_1 a1_2 a1_3 a1_4 a1_5 l1_6)) else (psephoslaw06_SlashBad.j0 k false a0_0 a0_1 a0_2 a0_3 a0_4 a0_5 l0_6 a1_0 a1_1 a1_2 a1_3 a1_4 a1_5 l1_6)) else (some false)) = some r := H
  have A3 := Aside0.mk A30
  clear A30
  by_cases c4 : t121 = true
  · subst c4
    have H1 : (if a0_4 = a1_4 then (if a0_0 = a1_0 then (if a0_1 = a1_1 then (if (!(a0_2 == a1_2) || (!(a0_3 == a1_3))) = true then (psephoslaw06_SlashBad.j0 k true a0_0 a0_1 a0_2 a0_3 a0_4 a0_5 l0_6 a1_0 a1_1 a1_2 a1_3 a1_4 a1_5 l1_6) else (psephoslaw06_SlashBad.j0 k (!(a0_4 == a1_4) || (!(a0_5 == a1_5))) a0_0 a0_1 a0_2 a0_3 a0_4 a0_5 l0_6 a1_0 a1_1 a1_2 a1_3 a1_4 a1_5 l1_6)) else (psephoslaw06_SlashBad.j0 k true a0_0 a0_1 a0_2 a0_3 a0_4 a0_5 l0_6 a1_0 a1_1 a1_2 a1_3 a1_4 a1_5 l1_6)) else (psephoslaw06_SlashBad.j0 k true a0_0 a0_1 a0_2 a0_3 a0_4 a0_5 l0_6 a1_0 a1_1 a1_2 a1_3 a1_4 a1_5 l1_6)) else (psephoslaw06_SlashBad.j0 k false a0_0 a0_1 a0_2 a0_3 a0_4 a0_5 l0_6 a1_0 a1_1 a1_2 a1_3 a1_4 a1_5 l1_6)) = some r := by rw [if_pos rfl] at H; exact H
    clear H
    have H := H1
    clear H1
    have HC5 := Aside0.mk H
    clear H
    go_enter Try.func3, Try.ntmps3
    go_upto_region 3 with (first | ((with_reducible refine gate_dst (N := 2) rfl ?_); refine box_event ?hg (N := 2) ?hd (cs := #[.int .i64 a0_0, .int .u64 a0_1, .int .i64 a0_2, .int .u64 a0_3, .int .i64 a0_4, .int .u64 a0_5, .slice A0_6 l0_6.length c0_6]) (t := 27) ?hr ?_; (case hd => rfl); (case hg => rfl); (case hr => first | (go_simp; done) | (go_simp; rfl)); intro gb119 hg w6 hbox hb; have n0_ := Aside0.mk (below_step (by repeat (first | (with_reducible first | exact HB.out | apply below_alloc | apply pw_below_drewN | apply below_drew1) | exact HB.out)) hb); have n1_ := Aside0.mk (hbox); have n2_ := Aside0.mk ((by rw [hg]; exact (below_size (by repeat (first | (with_reducible first | exact HB.out | apply below_alloc | apply pw_below_drewN | apply below_drew1) | exact HB.out))) : w.heap.size ≤ gb119)); have n3_ := Aside0.mk ((by rw [hg]; exact (below_size (by repeat (first | (with_reducible first | exact HB.out | apply below_alloc | apply pw_below_drewN | apply below_drew1) | exact HB.out))) : w.heap.size ≤ gb119)); clear HB; have HB := n0_; have BK119 := n1_; have GW119 := n2_; have GE119 := n3_; clear n0_ n1_ n2_ n3_; clear hb hbox hg) | ((with_reducible refine gate_dst (N := 3) rfl ?_); refine box_event ?hg (N := 3) ?hd (cs := #[.int .i64 a1_0, .int .u64 a1_1, .int .i64 a1_2, .int .u64 a1_3, .int .i64 a1_4, .int .u64 a1_5, .slice A1_6 l1_6.length c1_6]) (t := 27) ?hr ?_; (case hd => rfl); (case hg => rfl); (case hr => first | (go_simp; done) | (go_simp; rfl)); intro gb120 hg w7 hbox hb; have n0_ := Aside0.mk (blk_below (g := gb119) (o := .cells #[.int .i64 a0_0, .int .u64 a0_1, .int .i64 a0_2, .int .u64 a0_3, .int .i64 a0_4, .int .u64 a0_5, .slice A0_6 l0_6.length c0_6] 27 (0, 0)) (by (with_reducible repeat (first | refine blk_drewN ?_ _ | refine blk_drew ?_ | refine blk_alloc ?_ _)); exact BK119.out) hb); have n1_ := Aside0.mk (below_step (by repeat (first | (with_reducible first | exact HB.out | apply below_alloc | apply pw_below_drewN | apply below_drew1 | refine below_set ?_ GE119.out) | exact HB.out)) hb); have n2_ := Aside0.mk (hbox); have n3_ := Aside0.mk ((by rw [hg]; exact (below_size (by repeat (first | (with_reducible first | exact HB.out | apply below_alloc | apply pw_below_drewN | apply below_drew1 | refine below_set ?_ GE119.out) | exact HB.out))) : w.heap.size ≤ gb120)); have n4_ := Aside0.mk ((by rw [hg]; exact (below_size (by repeat (first | (with_reducible first | exact HB.out | apply below_alloc | apply pw_below_drewN | apply below_drew1 | refine below_set ?_ GE119.out) | exact HB.out))) : w.heap.size ≤ gb120)); have n5_ := Aside0.mk ((by rw [hg]; exact Nat.ne_of_lt (blk_lt (g := gb119) (o := .cells #[.int .i64 a0_0, .int .u64 a0_1, .int .i64 a0_2, .int .u64 a0_3, .int .i64 a0_4, .int .u64 a0_5, .slice A0_6 l0_6.length c0_6] 27 (0, 0)) (by (with_reducible repeat (first | refine blk_drewN ?_ _ | refine blk_drew ?_ | refine blk_alloc ?_ _)); exact BK119.out)) : gb119 ≠ gb120)); have n6_ := Aside0.mk ((by rw [hg]; exact Nat.ne_of_gt (blk_lt (g := gb119) (o := .cells #[.int .i64 a0_0, .int .u64 a0_1, .int .i64 a0_2, .int .u64 a0_3, .int .i64 a0_4, .int .u64 a0_5, .slice A0_6 l0_6.length c0_6] 27 (0, 0)) (by (with_reducible repeat (first | refine blk_drewN ?_ _ | refine blk_drew ?_ | refine blk_alloc ?_ _)); exact BK119.out)) : gb120 ≠ gb119)); clear BK119; clear HB; have BK119 := n0_; have HB := n1_; have BK120 := n2_; have GW120 := n3_; have GE120 := n4_; have NB119_120 := n5_; have NB120_119 := n6_; clear n0_ n1_ n2_ n3_ n4_ n5_ n6_; clear hb hbox hg) | ((with_reducible refine gate_callee (f := 6) rfl ?_); refine goesL_ (some 8) rfl rfl Try.func6 (by kernel_rfl) rfl #[] rfl (by (try simp only [List.map_toArray, List.map_cons, List.map_nil]); first | done | rfl | (simp only [List.length_drop, List.length_take]; rfl)) ?_; (with_reducible refine (psephoslaw06_awake.calls  true _ A3.out).mono ?_); rintro e w8 ⟨rfl, hb⟩; refine ⟨_, rfl, ?_⟩; have n0_ := Aside0.mk (blk_below (g := gb119) (o := .cells #[.int .i64 a0_0, .int .u64 a0_1, .int .i64 a0_2, .int .u64 a0_3, .int .i64 a0_4, .int .u64 a0_5, .slice A0_6 l0_6.length c0_6] 27 (0, 0)) (by (with_reducible repeat (first | refine blk_drewN ?_ _ | refine blk_drew ?_ | refine blk_alloc ?_ _)); exact BK119.out) hb); have n1_ := Aside0.mk (blk_below (g := gb120) (o := .cells #[.int .i64 a1_0, .int .u64 a1_1, .int .i64 a1_2, .int .u64 a1_3, .int .i64 a1_4, .int .u64 a1_5, .slice A1_6 l1_6.length c1_6] 27 (0, 0)) (by (with_reducible repeat (first | refine blk_drewN ?_ _ | refine blk_drew ?_ | refine blk_alloc ?_ _)); exact BK120.out) hb); have n2_ := Aside0.mk (below_step (by repeat (first | (with_reducible first | exact HB.out | apply below_alloc | apply pw_below_drewN | apply below_drew1 | refine below_set ?_ GE119.out | refine below_set ?_ GE120.out) | exact HB.out)) hb); clear BK119; clear BK120; clear HB; have BK119 := n0_; have BK120 := n1_; have HB := n2_; clear n0_ n1_ n2_; (try clear hb); (try clear hb2); (try clear hk); (try clear hi)))
    (try simp only [Act.put, List.setIfInBounds_toArray, List.set_cons_zero, List.set_cons_succ])
    go_cut [5] (fun v5 wc => ∃ (kq : Nat) (x5_4 : Bool), v5 = .bool x5_4 ∧ Aside0 (psephoslaw06_SlashBad.j0 kq x5_4 a0_0 a0_1 a0_2 a0_3 a0_4 a0_5 l0_6 a1_0 a1_1 a1_2 a1_3 a1_4 a1_5 l1_6 = some r) ∧ Aside0 (kq ≤ k) ∧ Aside0 (wc.heap[gb119]? = some (.cells #[.int .i64 a0_0, .int .u64 a0_1, .int .i64 a0_2, .int .u64 a0_3, .int .i64 a0_4, .int .u64 a0_5, (.slice A0_6 l0_6.length c0_6)] 27 (0, 0))) ∧ Aside0 (wc.heap[gb120]? = some (.cells #[.int .i64 a1_0, .int .u64 a1_1, .int .i64 a1_2, .int .u64 a1_3, .int .i64 a1_4, .int .u64 a1_5, (.slice A1_6 l1_6.length c1_6)] 27 (0, 0))) ∧ Aside0 (Below w.heap.size w wc))
    case first =>
      have H := HC5.out
      clear HC5
      by_cases c9 : a0_4 = a1_4
      · rw [if_pos c9] at H
        have c9b0 : (a0_4 == a1_4) = true := beq_iff_eq.mpr c9
        have c9b1 : (a0_4 != a1_4) = false := bne_eq_false_iff_eq.mpr c9
        clear c9
        (first | rw [c9b0] | (simp only [i64_w, i32_w]; rw [c9b0]) | skip)
        by_cases c10 : a0_0 = a1_0
        · rw [if_pos c10] at H
          have c10b0 : (a0_0 == a1_0) = true := beq_iff_eq.mpr c10
          have c10b1 : (a0_0 != a1_0) = false := bne_eq_false_iff_eq.mpr c10
          clear c10
          by_cases c11 : a0_1 = a1_1
          · rw [if_pos c11] at H
            have c11b0 : (a0_1 == a1_1) = true := beq_iff_eq.mpr c11
            have c11b1 : (a0_1 != a1_1) = false := bne_eq_false_iff_eq.mpr c11
            clear c11
            by_cases c12 : (!(a0_2 == a1_2) || (!(a0_3 == a1_3))) = true
            · rw [if_pos c12] at H
              have c12b0 : (!(a0_2 == a1_2) || (!(a0_3 == a1_3))) = true := c12
              clear c12
              have H' := Aside0.mk H
              clear H
              have hnb13 := NB119_120.out
              have hnc13 := NB120_119.out
              have hcz14_0 : w8.cell? ⟨gb119, 0, none⟩ = some (.int .i64 a0_0) := (blk_cell BK119.out 0).trans rfl
              have hcz14_1 : w8.cell? ⟨gb119, 1, none⟩ = some (.int .u64 a0_1) := (blk_cell BK119.out 1).trans rfl
              have hcz14_2 : w8.cell? ⟨gb119, 2, none⟩ = some (.int .i64 a0_2) := (blk_cell BK119.out 2).trans rfl
              have hcz14_3 : w8.cell? ⟨gb119, 3, none⟩ = some (.int .u64 a0_3) := (blk_cell BK119.out 3).trans rfl
              have hcz14_4 : w8.cell? ⟨gb119, 4, none⟩ = some (.int .i64 a0_4) := (blk_cell BK119.out 4).trans rfl
              have hcz14_5 : w8.cell? ⟨gb119, 5, none⟩ = some (.int .u64 a0_5) := (blk_cell BK119.out 5).trans rfl
              have hcz14_6 : w8.cell? ⟨gb119, 6, none⟩ = some (.slice A0_6 l0_6.length c0_6) := (blk_cell BK119.out 6).trans rfl
              have hfz14_0 := blk_frozen BK119.out 0
              have hfz14_1 := blk_frozen BK119.out 1
              have hfz14_2 := blk_frozen BK119.out 2
              have hfz14_3 := blk_frozen BK119.out 3
              have hfz14_4 := blk_frozen BK119.out 4
              have hfz14_5 := blk_frozen BK119.out 5
              have hfz14_6 := blk_frozen BK119.out 6
              have hcz15_0 : w8.cell? ⟨gb120, 0, none⟩ = some (.int .i64 a1_0) := (blk_cell BK120.out 0).trans rfl
              have hcz15_1 : w8.cell? ⟨gb120, 1, none⟩ = some (.int .u64 a1_1) := (blk_cell BK120.out 1).trans rfl
              have hcz15_2 : w8.cell? ⟨gb120, 2, none⟩ = some (.int .i64 a1_2) := (blk_cell BK120.out 2).trans rfl
              have hcz15_3 : w8.cell? ⟨gb120, 3, none⟩ = some (.int .u64 a1_3) := (blk_cell BK120.out 3).trans rfl
              have hcz15_4 : w8.cell? ⟨gb120, 4, none⟩ = some (.int .i64 a1_4) := (blk_cell BK120.out 4).trans rfl
              have hcz15_5 : w8.cell? ⟨gb120, 5, none⟩ = some (.int .u64 a1_5) := (blk_cell BK120.out 5).trans rfl
              have hcz15_6 : w8.cell? ⟨gb120, 6, none⟩ = some (.slice A1_6 l1_6.length c1_6) := (blk_cell BK120.out 6).trans rfl
              have hfz15_0 := blk_frozen BK120.out 0
              have hfz15_1 := blk_frozen BK120.out 1
              have hfz15_2 := blk_frozen BK120.out 2
              have hfz15_3 := blk_frozen BK120.out 3
              have hfz15_4 := blk_frozen BK120.out 4
              have hfz15_5 := blk_frozen BK120.out 5
              have hfz15_6 := blk_frozen BK120.out 6
              go_wp2
              go_meet
              case rel => exact ⟨_, (true), (by first | rfl | (simp; done) | (simp [*]; done)), H', ⟨by first | omega | exact Nat.le_refl _⟩, ⟨by (with_reducible repeat (first | refine blk_drewN ?_ _ | refine blk_drew ?_ | refine blk_alloc ?_ _)); exact BK119.out⟩, ⟨by (with_reducible repeat (first | refine blk_drewN ?_ _ | refine blk_drew ?_ | refine blk_alloc ?_ _)); exact BK120.out⟩, ⟨by repeat (first | (with_reducible first | exact HB.out | apply below_alloc | apply pw_below_drewN | apply below_drew1 | refine below_set ?_ GE119.out | refine below_set ?_ GE120.out) | exact HB.out)⟩⟩
            · rw [if_neg c12] at H
              have c12b0 : (!(a0_2 == a1_2) || (!(a0_3 == a1_3))) = false := by simpa using c12
              clear c12
              have H' := Aside0.mk H
              clear H
              have hnb16 := NB119_120.out
              have hnc16 := NB120_119.out
              have hcz17_0 : w8.cell? ⟨gb119, 0, none⟩ = some (.int .i64 a0_0) := (blk_cell BK119.out 0).trans rfl
              have hcz17_1 : w8.cell? ⟨gb119, 1, none⟩ = some (.int .u64 a0_1) := (blk_cell BK119.out 1).trans rfl
              have hcz17_2 : w8.cell? ⟨gb119, 2, none⟩ = some (.int .i64 a0_2) := (blk_cell BK119.out 2).trans rfl
              have hcz17_3 : w8.cell? ⟨gb119, 3, none⟩ = some (.int .u64 a0_3) := (blk_cell BK119.out 3).trans rfl
              have hcz17_4 : w8.cell? ⟨gb119, 4, none⟩ = some (.int .i64 a0_4) := (blk_cell BK119.out 4).trans rfl
              have hcz17_5 : w8.cell? ⟨gb119, 5, none⟩ = some (.int .u64 a0_5) := (blk_cell BK119.out 5).trans rfl
              have hcz17_6 : w8.cell? ⟨gb119, 6, none⟩ = some (.slice A0_6 l0_6.length c0_6) := (blk_cell BK119.out 6).trans rfl
              have hfz17_0 := blk_frozen BK119.out 0
              have hfz17_1 := blk_frozen BK119.out 1
              have hfz17_2 := blk_frozen BK119.out 2
              have hfz17_3 := blk_frozen BK119.out 3
              have hfz17_4 := blk_frozen BK119.out 4
              have hfz17_5 := blk_frozen BK119.out 5
              have hfz17_6 := blk_frozen BK119.out 6
              have hcz18_0 : w8.cell? ⟨gb120, 0, none⟩ = some (.int .i64 a1_0) := (blk_cell BK120.out 0).trans rfl
              have hcz18_1 : w8.cell? ⟨gb120, 1, none⟩ = some (.int .u64 a1_1) := (blk_cell BK120.out 1).trans rfl
              have hcz18_2 : w8.cell? ⟨gb120, 2, none⟩ = some (.int .i64 a1_2) := (blk_cell BK120.out 2).trans rfl
              have hcz18_3 : w8.cell? ⟨gb120, 3, none⟩ = some (.int .u64 a1_3) := (blk_cell BK120.out 3).trans rfl
              have hcz18_4 : w8.cell? ⟨gb120, 4, none⟩ = some (.int .i64 a1_4) := (blk_cell BK120.out 4).trans rfl
              have hcz18_5 : w8.cell? ⟨gb120, 5, none⟩ = some (.int .u64 a1_5) := (blk_cell BK120.out 5).trans rfl
              have hcz18_6 : w8.cell? ⟨gb120, 6, none⟩ = some (.slice A1_6 l1_6.length c1_6) := (blk_cell BK120.out 6).trans rfl
              have hfz18_0 := blk_frozen BK120.out 0
              have hfz18_1 := blk_frozen BK120.out 1
              have hfz18_2 := blk_frozen BK120.out 2
              have hfz18_3 := blk_frozen BK120.out 3
              have hfz18_4 := blk_frozen BK120.out 4
              have hfz18_5 := blk_frozen BK120.out 5
              have hfz18_6 := blk_frozen BK120.out 6
              go_wp2
              go_meet
              case rel => exact ⟨_, ((!(a0_4 == a1_4) || (!(a0_5 == a1_5)))), (by first | rfl | (simp; done) | (simp [*]; done)), H', ⟨by first | omega | exact Nat.le_refl _⟩, ⟨by (with_reducible repeat (first | refine blk_drewN ?_ _ | refine blk_drew ?_ | refine blk_alloc ?_ _)); exact BK119.out⟩, ⟨by (with_reducible repeat (first | refine blk_drewN ?_ _ | refine blk_drew ?_ | refine blk_alloc ?_ _)); exact BK120.out⟩, ⟨by repeat (first | (with_reducible first | exact HB.out | apply below_alloc | apply pw_below_drewN | apply below_drew1 | refine below_set ?_ GE119.out | refine below_set ?_ GE120.out) | exact HB.out)⟩⟩
          · rw [if_neg c11] at H
            have c11b0 : (a0_1 == a1_1) = false := beq_eq_false_iff_ne.mpr c11
            have c11b1 : (a0_1 != a1_1) = true := bne_iff_ne.mpr c11
            have H' := Aside0.mk H
            clear H
            have hnb19 := NB119_120.out
            have hnc19 := NB120_119.out
            have hcz20_0 : w8.cell? ⟨gb119, 0, none⟩ = some (.int .i64 a0_0) := (blk_cell BK119.out 0).trans rfl
            have hcz20_1 : w8.cell? ⟨gb119, 1, none⟩ = some (.int .u64 a0_1) := (blk_cell BK119.out 1).trans rfl
            have hcz20_2 : w8.cell? ⟨gb119, 2, none⟩ = some (.int .i64 a0_2) := (blk_cell BK119.out 2).trans rfl
            have hcz20_3 : w8.cell? ⟨gb119, 3, none⟩ = some (.int .u64 a0_3) := (blk_cell BK119.out 3).trans rfl
            have hcz20_4 : w8.cell? ⟨gb119, 4, none⟩ = some (.int .i64 a0_4) := (blk_cell BK119.out 4).trans rfl
            have hcz20_5 : w8.cell? ⟨gb119, 5, none⟩ = some (.int .u64 a0_5) := (blk_cell BK119.out 5).trans rfl
            have hcz20_6 : w8.cell? ⟨gb119, 6, none⟩ = some (.slice A0_6 l0_6.length c0_6) := (blk_cell BK119.out 6).trans rfl
            have hfz20_0 := blk_frozen BK119.out 0
            have hfz20_1 := blk_frozen BK119.out 1
            have hfz20_2 := blk_frozen BK119.out 2
            have hfz20_3 := blk_frozen BK119.out 3
            have hfz20_4 := blk_frozen BK119.out 4
            have hfz20_5 := blk_frozen BK119.out 5
            have hfz20_6 := blk_frozen BK119.out 6
            have hcz21_0 : w8.cell? ⟨gb120, 0, none⟩ = some (.int .i64 a1_0) := (blk_cell BK120.out 0).trans rfl
            have hcz21_1 : w8.cell? ⟨gb120, 1, none⟩ = some (.int .u64 a1_1) := (blk_cell BK120.out 1).trans rfl
            have hcz21_2 : w8.cell? ⟨gb120, 2, none⟩ = some (.int .i64 a1_2) := (blk_cell BK120.out 2).trans rfl
            have hcz21_3 : w8.cell? ⟨gb120, 3, none⟩ = some (.int .u64 a1_3) := (blk_cell BK120.out 3).trans rfl
            have hcz21_4 : w8.cell? ⟨gb120, 4, none⟩ = some (.int .i64 a1_4) := (blk_cell BK120.out 4).trans rfl
            have hcz21_5 : w8.cell? ⟨gb120, 5, none⟩ = some (.int .u64 a1_5) := (blk_cell BK120.out 5).trans rfl
            have hcz21_6 : w8.cell? ⟨gb120, 6, none⟩ = some (.slice A1_6 l1_6.length c1_6) := (blk_cell BK120.out 6).trans rfl
            have hfz21_0 := blk_frozen BK120.out 0
            have hfz21_1 := blk_frozen BK120.out 1
            have hfz21_2 := blk_frozen BK120.out 2
            have hfz21_3 := blk_frozen BK120.out 3
            have hfz21_4 := blk_frozen BK120.out 4
            have hfz21_5 := blk_frozen BK120.out 5
            have hfz21_6 := blk_frozen BK120.out 6
            go_wp2
            go_meet
            case rel => exact ⟨_, (true), (by first | rfl | (simp; done) | (simp [*]; done)), H', ⟨by first | omega | exact Nat.le_refl _⟩, ⟨by (with_reducible repeat (first | refine blk_drewN ?_ _ | refine blk_drew ?_ | refine blk_alloc ?_ _)); exact BK119.out⟩, ⟨by (with_reducible repeat (first | refine blk_drewN ?_ _ | refine blk_drew ?_ | refine blk_alloc ?_ _)); exact BK120.out⟩, ⟨by repeat (first | (with_reducible first | exact HB.out | apply below_alloc | apply pw_below_drewN | apply below_drew1 | refine below_set ?_ GE119.out | refine below_set ?_ GE120.out) | exact HB.out)⟩⟩
        · rw [if_neg c10] at H
          have c10b0 : (a0_0 == a1_0) = false := beq_eq_false_iff_ne.mpr c10
          have c10b1 : (a0_0 != a1_0) = true := bne_iff_ne.mpr c10
          have H' := Aside0.mk H
          clear H
          have hnb22 := NB119_120.out
          have hnc22 := NB120_119.out
          have hcz23_0 : w8.cell? ⟨gb119, 0, none⟩ = some (.int .i64 a0_0) := (blk_cell BK119.out 0).trans rfl
          have hcz23_1 : w8.cell? ⟨gb119, 1, none⟩ = some (.int .u64 a0_1) := (blk_cell BK119.out 1).trans rfl
          have hcz23_2 : w8.cell? ⟨gb119, 2, none⟩ = some (.int .i64 a0_2) := (blk_cell BK119.out 2).trans rfl
          have hcz23_3 : w8.cell? ⟨gb119, 3, none⟩ = some (.int .u64 a0_3) := (blk_cell BK119.out 3).trans rfl
          have hcz23_4 : w8.cell? ⟨gb119, 4, none⟩ = some (.int .i64 a0_4) := (blk_cell BK119.out 4).trans rfl
          have hcz23_5 : w8.cell? ⟨gb119, 5, none⟩ = some (.int .u64 a0_5) := (blk_cell BK119.out 5).trans rfl
          have hcz23_6 : w8.cell? ⟨gb119, 6, none⟩ = some (.slice A0_6 l0_6.length c0_6) := (blk_cell BK119.out 6).trans rfl
          have hfz23_0 := blk_frozen BK119.out 0
          have hfz23_1 := blk_frozen BK119.out 1
          have hfz23_2 := blk_frozen BK119.out 2
          have hfz23_3 := blk_frozen BK119.out 3
          have hfz23_4 := blk_frozen BK119.out 4
          have hfz23_5 := blk_frozen BK119.out 5
          have hfz23_6 := blk_frozen BK119.out 6
          have hcz24_0 : w8.cell? ⟨gb120, 0, none⟩ = some (.int .i64 a1_0) := (blk_cell BK120.out 0).trans rfl
          have hcz24_1 : w8.cell? ⟨gb120, 1, none⟩ = some (.int .u64 a1_1) := (blk_cell BK120.out 1).trans rfl
          have hcz24_2 : w8.cell? ⟨gb120, 2, none⟩ = some (.int .i64 a1_2) := (blk_cell BK120.out 2).trans rfl
          have hcz24_3 : w8.cell? ⟨gb120, 3, none⟩ = some (.int .u64 a1_3) := (blk_cell BK120.out 3).trans rfl
          have hcz24_4 : w8.cell? ⟨gb120, 4, none⟩ = some (.int .i64 a1_4) := (blk_cell BK120.out 4).trans rfl
          have hcz24_5 : w8.cell? ⟨gb120, 5, none⟩ = some (.int .u64 a1_5) := (blk_cell BK120.out 5).trans rfl
          have hcz24_6 : w8.cell? ⟨gb120, 6, none⟩ = some (.slice A1_6 l1_6.length c1_6) := (blk_cell BK120.out 6).trans rfl
          have hfz24_0 := blk_frozen BK120.out 0
          have hfz24_1 := blk_frozen BK120.out 1
          have hfz24_2 := blk_frozen BK120.out 2
          have hfz24_3 := blk_frozen BK120.out 3
          have hfz24_4 := blk_frozen BK120.out 4
          have hfz24_5 := blk_frozen BK120.out 5
          have hfz24_6 := blk_frozen BK120.out 6
          go_wp2
          go_meet
          case rel => exact ⟨_, (true), (by first | rfl | (simp; done) | (simp [*]; done)), H', ⟨by first | omega | exact Nat.le_refl _⟩, ⟨by (with_reducible repeat (first | refine blk_drewN ?_ _ | refine blk_drew ?_ | refine blk_alloc ?_ _)); exact BK119.out⟩, ⟨by (with_reducible repeat (first | refine blk_drewN ?_ _ | refine blk_drew ?_ | refine blk_alloc ?_ _)); exact BK120.out⟩, ⟨by repeat (first | (with_reducible first | exact HB.out | apply below_alloc | apply pw_below_drewN | apply below_drew1 | refine below_set ?_ GE119.out | refine below_set ?_ GE120.out) | exact HB.out)⟩⟩
      · rw [if_neg c9] at H
        have c9b0 : (a0_4 == a1_4) = false := beq_eq_false_iff_ne.mpr c9
        have c9b1 : (a0_4 != a1_4) = true := bne_iff_ne.mpr c9
        (first | rw [c9b0] | (simp only [i64_w, i32_w]; rw [c9b0]) | skip)
        have H' := Aside0.mk H
        clear H
        have hnb25 := NB119_120.out
        have hnc25 := NB120_119.out
        have hcz26_0 : w8.cell? ⟨gb119, 0, none⟩ = some (.int .i64 a0_0) := (blk_cell BK119.out 0).trans rfl
        have hcz26_1 : w8.cell? ⟨gb119, 1, none⟩ = some (.int .u64 a0_1) := (blk_cell BK119.out 1).trans rfl
        have hcz26_2 : w8.cell? ⟨gb119, 2, none⟩ = some (.int .i64 a0_2) := (blk_cell BK119.out 2).trans rfl
        have hcz26_3 : w8.cell? ⟨gb119, 3, none⟩ = some (.int .u64 a0_3) := (blk_cell BK119.out 3).trans rfl
        have hcz26_4 : w8.cell? ⟨gb119, 4, none⟩ = some (.int .i64 a0_4) := (blk_cell BK119.out 4).trans rfl
        have hcz26_5 : w8.cell? ⟨gb119, 5, none⟩ = some (.int .u64 a0_5) := (blk_cell BK119.out 5).trans rfl
        have hcz26_6 : w8.cell? ⟨gb119, 6, none⟩ = some (.slice A0_6 l0_6.length c0_6) := (blk_cell BK119.out 6).trans rfl
        have hfz26_0 := blk_frozen BK119.out 0
        have hfz26_1 := blk_frozen BK119.out 1
        have hfz26_2 := blk_frozen BK119.out 2
        have hfz26_3 := blk_frozen BK119.out 3
        have hfz26_4 := blk_frozen BK119.out 4
        have hfz26_5 := blk_frozen BK119.out 5
        have hfz26_6 := blk_frozen BK119.out 6
        have hcz27_0 : w8.cell? ⟨gb120, 0, none⟩ = some (.int .i64 a1_0) := (blk_cell BK120.out 0).trans rfl
        have hcz27_1 : w8.cell? ⟨gb120, 1, none⟩ = some (.int .u64 a1_1) := (blk_cell BK120.out 1).trans rfl
        have hcz27_2 : w8.cell? ⟨gb120, 2, none⟩ = some (.int .i64 a1_2) := (blk_cell BK120.out 2).trans rfl
        have hcz27_3 : w8.cell? ⟨gb120, 3, none⟩ = some (.int .u64 a1_3) := (blk_cell BK120.out 3).trans rfl
        have hcz27_4 : w8.cell? ⟨gb120, 4, none⟩ = some (.int .i64 a1_4) := (blk_cell BK120.out 4).trans rfl
        have hcz27_5 : w8.cell? ⟨gb120, 5, none⟩ = some (.int .u64 a1_5) := (blk_cell BK120.out 5).trans rfl
        have hcz27_6 : w8.cell? ⟨gb120, 6, none⟩ = some (.slice A1_6 l1_6.length c1_6) := (blk_cell BK120.out 6).trans rfl
        have hfz27_0 := blk_frozen BK120.out 0
        have hfz27_1 := blk_frozen BK120.out 1
        have hfz27_2 := blk_frozen BK120.out 2
        have hfz27_3 := blk_frozen BK120.out 3
        have hfz27_4 := blk_frozen BK120.out 4
        have hfz27_5 := blk_frozen BK120.out 5
        have hfz27_6 := blk_frozen BK120.out 6
        go_wp2
        go_meet
        case rel => exact ⟨_, (false), (by first | rfl | (simp; done) | (simp [*]; done)), H', ⟨by first | omega | exact Nat.le_refl _⟩, ⟨by (with_reducible repeat (first | refine blk_drewN ?_ _ | refine blk_drew ?_ | refine blk_alloc ?_ _)); exact BK119.out⟩, ⟨by (with_reducible repeat (first | refine blk_drewN ?_ _ | refine blk_drew ?_ | refine blk_alloc ?_ _)); exact BK120.out⟩, ⟨by repeat (first | (with_reducible first | exact HB.out | apply below_alloc | apply pw_below_drewN | apply below_drew1 | refine below_set ?_ GE119.out | refine below_set ?_ GE120.out) | exact HB.out)⟩⟩
    case rest =>
      clear HC5
      try clear c1
      try clear c2
      try clear p2
      try clear c3
      try clear c4
      try clear c6
      try clear c9
      try clear c9b0
      try clear c9b1
      try clear c10
      try clear c10b0
      try clear c10b1
      try clear c11
      try clear c11b0
      try clear c11b1
      try clear c12
      try clear c12b0
      try clear c13
      try clear c16
      try clear c19
      try clear c22
      try clear c25
      try clear hcz14_0
      try clear hcz14_1
      try clear hcz14_2
      try clear hcz14_3
      try clear hcz14_4
      try clear hcz14_5
      try clear hcz14_6
      try clear hcz15_0
      try clear hcz15_1
      try clear hcz15_2
      try clear hcz15_3
      try clear hcz15_4
      try clear hcz15_5
      try clear hcz15_6
      try clear hcz17_0
      try clear hcz17_1
      try clear hcz17_2
      try clear hcz17_3
      try clear hcz17_4
      try clear hcz17_5
      try clear hcz17_6
      try clear hcz18_0
      try clear hcz18_1
      try clear hcz18_2
      try clear hcz18_3
      try clear hcz18_4
      try clear hcz18_5
      try clear hcz18_6
      try clear hcz20_0
      try clear hcz20_1
      try clear hcz20_2
      try clear hcz20_3
      try clear hcz20_4
      try clear hcz20_5
      try clear hcz20_6
      try clear hcz21_0
      try clear hcz21_1
      try clear hcz21_2
      try clear hcz21_3
      try clear hcz21_4
      try clear hcz21_5
      try clear hcz21_6
      try clear hcz23_0
      try clear hcz23_1
      try clear hcz23_2
      try clear hcz23_3
      try clear hcz23_4
      try clear hcz23_5
      try clear hcz23_6
      try clear hcz24_0
      try clear hcz24_1
      try clear hcz24_2
      try clear hcz24_3
      try clear hcz24_4
      try clear hcz24_5
      try clear hcz24_6
      try clear hcz26_0
      try clear hcz26_1
      try clear hcz26_2
      try clear hcz26_3
      try clear hcz26_4
      try clear hcz26_5
      try clear hcz26_6
      try clear hcz27_0
      try clear hcz27_1
      try clear hcz27_2
      try clear hcz27_3
      try clear hcz27_4
      try clear hcz27_5
      try clear hcz27_6
      try clear hfz14_0
      try clear hfz14_1
      try clear hfz14_2
      try clear hfz14_3
      try clear hfz14_4
      try clear hfz14_5
      try clear hfz14_6
      try clear hfz15_0
      try clear hfz15_1
      try clear hfz15_2
      try clear hfz15_3
      try clear hfz15_4
      try clear hfz15_5
      try clear hfz15_6
      try clear hfz17_0
      try clear hfz17_1
      try clear hfz17_2
      try clear hfz17_3
      try clear hfz17_4
      try clear hfz17_5
      try clear hfz17_6
      try clear hfz18_0
      try clear hfz18_1
      try clear hfz18_2
      try clear hfz18_3
      try clear hfz18_4
      try clear hfz18_5
      try clear hfz18_6
      try clear hfz20_0
      try clear hfz20_1
      try clear hfz20_2
      try clear hfz20_3
      try clear hfz20_4
      try clear hfz20_5
      try clear hfz20_6
      try clear hfz21_0
      try clear hfz21_1
      try clear hfz21_2
      try clear hfz21_3
      try clear hfz21_4
      try clear hfz21_5
      try clear hfz21_6
      try clear hfz23_0
      try clear hfz23_1
      try clear hfz23_2
      try clear hfz23_3
      try clear hfz23_4
      try clear hfz23_5
      try clear hfz23_6
      try clear hfz24_0
      try clear hfz24_1
      try clear hfz24_2
      try clear hfz24_3
      try clear hfz24_4
      try clear hfz24_5
      try clear hfz24_6
      try clear hfz26_0
      try clear hfz26_1
      try clear hfz26_2
      try clear hfz26_3
      try clear hfz26_4
      try clear hfz26_5
      try clear hfz26_6
      try clear hfz27_0
      try clear hfz27_1
      try clear hfz27_2
      try clear hfz27_3
      try clear hfz27_4
      try clear hfz27_5
      try clear hfz27_6
      obtain ⟨kq, x5_4, rfl, HA, HJ4, BK119, BK120, HB⟩ := hcut
      cases kq with
      | zero => exact absurd HA.out (by simp [psephoslaw06_SlashBad.j0])
      | succ kj4 =>
        have H := HA.out
        clear HA
        simp only [psephoslaw06_SlashBad.j0] at H
        have HC28 := Aside0.mk H
        clear H
        go_upto_region 4 with (fail)
        go_cut [6] (fun v6 wc => ∃ (kq : Nat) (x6_27 : Bool), v6 = .bool x6_27 ∧ Aside0 (psephoslaw06_SlashBad.j1 kq x5_4 x6_27 a0_0 a0_1 a0_2 a0_3 a0_4 a0_5 l0_6 a1_0 a1_1 a1_2 a1_3 a1_4 a1_5 l1_6 = some r) ∧ Aside0 (kq ≤ kj4) ∧ Aside0 (wc.heap[gb119]? = some (.cells #[.int .i64 a0_0, .int .u64 a0_1, .int .i64 a0_2, .int .u64 a0_3, .int .i64 a0_4, .int .u64 a0_5, (.slice A0_6 l0_6.length c0_6)] 27 (0, 0))) ∧ Aside0 (wc.heap[gb120]? = some (.cells #[.int .i64 a1_0, .int .u64 a1_1, .int .i64 a1_2, .int .u64 a1_3, .int .i64 a1_4, .int .u64 a1_5, (.slice A1_6 l1_6.length c1_6)] 27 (0, 0))) ∧ Aside0 (Below w.heap.size w wc))
        case first =>
          have H := HC28.out
          clear HC28
          by_cases c29 : a0_2 < a1_2
          · rw [if_pos c29] at H
            have c29b0 : decide (a0_2 < a1_2) = true := decide_eq_true c29
            clear c29
            (first | rw [c29b0] | (simp only [i64_w, i32_w]; rw [c29b0]) | skip)
            have H' := Aside0.mk H
            clear H
            have hnb30 := NB119_120.out
            have hnc30 := NB120_119.out
            have hcz31_0 : wc.cell? ⟨gb119, 0, none⟩ = some (.int .i64 a0_0) := (blk_cell BK119.out 0).trans rfl
            have hcz31_1 : wc.cell? ⟨gb119, 1, none⟩ = some (.int .u64 a0_1) := (blk_cell BK119.out 1).trans rfl
            have hcz31_2 : wc.cell? ⟨gb119, 2, none⟩ = some (.int .i64 a0_2) := (blk_cell BK119.out 2).trans rfl
            have hcz31_3 : wc.cell? ⟨gb119, 3, none⟩ = some (.int .u64 a0_3) := (blk_cell BK119.out 3).trans rfl
            have hcz31_4 : wc.cell? ⟨gb119, 4, none⟩ = some (.int .i64 a0_4) := (blk_cell BK119.out 4).trans rfl
            have hcz31_5 : wc.cell? ⟨gb119, 5, none⟩ = some (.int .u64 a0_5) := (blk_cell BK119.out 5).trans rfl
            have hcz31_6 : wc.cell? ⟨gb119, 6, none⟩ = some (.slice A0_6 l0_6.length c0_6) := (blk_cell BK119.out 6).trans rfl
            have hfz31_0 := blk_frozen BK119.out 0
            have hfz31_1 := blk_frozen BK119.out 1
            have hfz31_2 := blk_frozen BK119.out 2
            have hfz31_3 := blk_frozen BK119.out 3
            have hfz31_4 := blk_frozen BK119.out 4
            have hfz31_5 := blk_frozen BK119.out 5
            have hfz31_6 := blk_frozen BK119.out 6
            have hcz32_0 : wc.cell? ⟨gb120, 0, none⟩ = some (.int .i64 a1_0) := (blk_cell BK120.out 0).trans rfl
            have hcz32_1 : wc.cell? ⟨gb120, 1, none⟩ = some (.int .u64 a1_1) := (blk_cell BK120.out 1).trans rfl
            have hcz32_2 : wc.cell? ⟨gb120, 2, none⟩ = some (.int .i64 a1_2) := (blk_cell BK120.out 2).trans rfl
            have hcz32_3 : wc.cell? ⟨gb120, 3, none⟩ = some (.int .u64 a1_3) := (blk_cell BK120.out 3).trans rfl
            have hcz32_4 : wc.cell? ⟨gb120, 4, none⟩ = some (.int .i64 a1_4) := (blk_cell BK120.out 4).trans rfl
            have hcz32_5 : wc.cell? ⟨gb120, 5, none⟩ = some (.int .u64 a1_5) := (blk_cell BK120.out 5).trans rfl
            have hcz32_6 : wc.cell? ⟨gb120, 6, none⟩ = some (.slice A1_6 l1_6.length c1_6) := (blk_cell BK120.out 6).trans rfl
            have hfz32_0 := blk_frozen BK120.out 0
            have hfz32_1 := blk_frozen BK120.out 1
            have hfz32_2 := blk_frozen BK120.out 2
            have hfz32_3 := blk_frozen BK120.out 3
            have hfz32_4 := blk_frozen BK120.out 4
            have hfz32_5 := blk_frozen BK120.out 5
            have hfz32_6 := blk_frozen BK120.out 6
            go_wp2
            go_meet
            case rel => exact ⟨_, (decide (a0_4 > a1_4)), (by first | rfl | (simp; done) | (simp [*]; done)), H', ⟨by have := HJ4.out; first | omega | exact Nat.le_refl _⟩, ⟨by (with_reducible repeat (first | refine blk_drewN ?_ _ | refine blk_drew ?_ | refine blk_alloc ?_ _)); exact BK119.out⟩, ⟨by (with_reducible repeat (first | refine blk_drewN ?_ _ | refine blk_drew ?_ | refine blk_alloc ?_ _)); exact BK120.out⟩, ⟨by repeat (first | (with_reducible first | exact HB.out | apply below_alloc | apply pw_below_drewN | apply below_drew1 | refine below_set ?_ GE119.out | refine below_set ?_ GE120.out) | exact HB.out)⟩⟩
          · rw [if_neg c29] at H
            have c29b0 : decide (a0_2 < a1_2) = false := decide_eq_false c29
            clear c29
            (first | rw [c29b0] | (simp only [i64_w, i32_w]; rw [c29b0]) | skip)
            have H' := Aside0.mk H
            clear H
            have hnb33 := NB119_120.out
            have hnc33 := NB120_119.out
            have hcz34_0 : wc.cell? ⟨gb119, 0, none⟩ = some (.int .i64 a0_0) := (blk_cell BK119.out 0).trans rfl
            have hcz34_1 : wc.cell? ⟨gb119, 1, none⟩ = some (.int .u64 a0_1) := (blk_cell BK119.out 1).trans rfl
            have hcz34_2 : wc.cell? ⟨gb119, 2, none⟩ = some (.int .i64 a0_2) := (blk_cell BK119.out 2).trans rfl
            have hcz34_3 : wc.cell? ⟨gb119, 3, none⟩ = some (.int .u64 a0_3) := (blk_cell BK119.out 3).trans rfl
            have hcz34_4 : wc.cell? ⟨gb119, 4, none⟩ = some (.int .i64 a0_4) := (blk_cell BK119.out 4).trans rfl
            have hcz34_5 : wc.cell? ⟨gb119, 5, none⟩ = some (.int .u64 a0_5) := (blk_cell BK119.out 5).trans rfl
            have hcz34_6 : wc.cell? ⟨gb119, 6, none⟩ = some (.slice A0_6 l0_6.length c0_6) := (blk_cell BK119.out 6).trans rfl
            have hfz34_0 := blk_frozen BK119.out 0
            have hfz34_1 := blk_frozen BK119.out 1
            have hfz34_2 := blk_frozen BK119.out 2
            have hfz34_3 := blk_frozen BK119.out 3
            have hfz34_4 := blk_frozen BK119.out 4
            have hfz34_5 := blk_frozen BK119.out 5
            have hfz34_6 := blk_frozen BK119.out 6
            have hcz35_0 : wc.cell? ⟨gb120, 0, none⟩ = some (.int .i64 a1_0) := (blk_cell BK120.out 0).trans rfl
            have hcz35_1 : wc.cell? ⟨gb120, 1, none⟩ = some (.int .u64 a1_1) := (blk_cell BK120.out 1).trans rfl
            have hcz35_2 : wc.cell? ⟨gb120, 2, none⟩ = some (.int .i64 a1_2) := (blk_cell BK120.out 2).trans rfl
            have hcz35_3 : wc.cell? ⟨gb120, 3, none⟩ = some (.int .u64 a1_3) := (blk_cell BK120.out 3).trans rfl
            have hcz35_4 : wc.cell? ⟨gb120, 4, none⟩ = some (.int .i64 a1_4) := (blk_cell BK120.out 4).trans rfl
            have hcz35_5 : wc.cell? ⟨gb120, 5, none⟩ = some (.int .u64 a1_5) := (blk_cell BK120.out 5).trans rfl
            have hcz35_6 : wc.cell? ⟨gb120, 6, none⟩ = some (.slice A1_6 l1_6.length c1_6) := (blk_cell BK120.out 6).trans rfl
            have hfz35_0 := blk_frozen BK120.out 0
            have hfz35_1 := blk_frozen BK120.out 1
            have hfz35_2 := blk_frozen BK120.out 2
            have hfz35_3 := blk_frozen BK120.out 3
            have hfz35_4 := blk_frozen BK120.out 4
            have hfz35_5 := blk_frozen BK120.out 5
            have hfz35_6 := blk_frozen BK120.out 6
            go_wp2
            go_meet
            case rel => exact ⟨_, (false), (by first | rfl | (simp; done) | (simp [*]; done)), H', ⟨by have := HJ4.out; first | omega | exact Nat.le_refl _⟩, ⟨by (with_reducible repeat (first | refine blk_drewN ?_ _ | refine blk_drew ?_ | refine blk_alloc ?_ _)); exact BK119.out⟩, ⟨by (with_reducible repeat (first | refine blk_drewN ?_ _ | refine blk_drew ?_ | refine blk_alloc ?_ _)); exact BK120.out⟩, ⟨by repeat (first | (with_reducible first | exact HB.out | apply below_alloc | apply pw_below_drewN | apply below_drew1 | refine below_set ?_ GE119.out | refine below_set ?_ GE120.out) | exact HB.out)⟩⟩
        case rest =>
          clear HC28
          try clear c1
          try clear c2
          try clear p2
          try clear c3
          try clear c4
          try clear c6
          try clear c9
          try clear c9b0
          try clear c9b1
          try clear c10
          try clear c10b0
          try clear c10b1
          try clear c11
          try clear c11b0
          try clear c11b1
          try clear c12
          try clear c12b0
          try clear c13
          try clear c16
          try clear c19
          try clear c22
          try clear c25
          try clear c29
          try clear c29b0
          try clear c30
          try clear c33
          try clear hcz14_0
          try clear hcz14_1
          try clear hcz14_2
          try clear hcz14_3
          try clear hcz14_4
          try clear hcz14_5
          try clear hcz14_6
          try clear hcz15_0
          try clear hcz15_1
          try clear hcz15_2
          try clear hcz15_3
          try clear hcz15_4
          try clear hcz15_5
          try clear hcz15_6
          try clear hcz17_0
          try clear hcz17_1
          try clear hcz17_2
          try clear hcz17_3
          try clear hcz17_4
          try clear hcz17_5
          try clear hcz17_6
          try clear hcz18_0
          try clear hcz18_1
          try clear hcz18_2
          try clear hcz18_3
          try clear hcz18_4
          try clear hcz18_5
          try clear hcz18_6
          try clear hcz20_0
          try clear hcz20_1
          try clear hcz20_2
          try clear hcz20_3
          try clear hcz20_4
          try clear hcz20_5
          try clear hcz20_6
          try clear hcz21_0
          try clear hcz21_1
          try clear hcz21_2
          try clear hcz21_3
          try clear hcz21_4
          try clear hcz21_5
          try clear hcz21_6
          try clear hcz23_0
          try clear hcz23_1
          try clear hcz23_2
          try clear hcz23_3
          try clear hcz23_4
          try clear hcz23_5
          try clear hcz23_6
          try clear hcz24_0
          try clear hcz24_1
          try clear hcz24_2
          try clear hcz24_3
          try clear hcz24_4
          try clear hcz24_5
          try clear hcz24_6
          try clear hcz26_0
          try clear hcz26_1
          try clear hcz26_2
          try clear hcz26_3
          try clear hcz26_4
          try clear hcz26_5
          try clear hcz26_6
          try clear hcz27_0
          try clear hcz27_1
          try clear hcz27_2
          try clear hcz27_3
          try clear hcz27_4
          try clear hcz27_5
          try clear hcz27_6
          try clear hcz31_0
          try clear hcz31_1
          try clear hcz31_2
          try clear hcz31_3
          try clear hcz31_4
          try clear hcz31_5
          try clear hcz31_6
          try clear hcz32_0
          try clear hcz32_1
          try clear hcz32_2
          try clear hcz32_3
          try clear hcz32_4
          try clear hcz32_5
          try clear hcz32_6
          try clear hcz34_0
          try clear hcz34_1
          try clear hcz34_2
          try clear hcz34_3
          try clear hcz34_4
          try clear hcz34_5
          try clear hcz34_6
          try clear hcz35_0
          try clear hcz35_1
          try clear hcz35_2
          try clear hcz35_3
          try clear hcz35_4
          try clear hcz35_5
          try clear hcz35_6
          try clear hfz14_0
          try clear hfz14_1
          try clear hfz14_2
          try clear hfz14_3
          try clear hfz14_4
          try clear hfz14_5
          try clear hfz14_6
          try clear hfz15_0
          try clear hfz15_1
          try clear hfz15_2
          try clear hfz15_3
          try clear hfz15_4
          try clear hfz15_5
          try clear hfz15_6
          try clear hfz17_0
          try clear hfz17_1
          try clear hfz17_2
          try clear hfz17_3
          try clear hfz17_4
          try clear hfz17_5
          try clear hfz17_6
          try clear hfz18_0
          try clear hfz18_1
          try clear hfz18_2
          try clear hfz18_3
          try clear hfz18_4
          try clear hfz18_5
          try clear hfz18_6
          try clear hfz20_0
          try clear hfz20_1
          try clear hfz20_2
          try clear hfz20_3
          try clear hfz20_4
          try clear hfz20_5
          try clear hfz20_6
          try clear hfz21_0
          try clear hfz21_1
          try clear hfz21_2
          try clear hfz21_3
          try clear hfz21_4
          try clear hfz21_5
          try clear hfz21_6
          try clear hfz23_0
          try clear hfz23_1
          try clear hfz23_2
          try clear hfz23_3
          try clear hfz23_4
          try clear hfz23_5
          try clear hfz23_6
          try clear hfz24_0
          try clear hfz24_1
          try clear hfz24_2
          try clear hfz24_3
          try clear hfz24_4
          try clear hfz24_5
          try clear hfz24_6
          try clear hfz26_0
          try clear hfz26_1
          try clear hfz26_2
          try clear hfz26_3
          try clear hfz26_4
          try clear hfz26_5
          try clear hfz26_6
          try clear hfz27_0
          try clear hfz27_1
          try clear hfz27_2
          try clear hfz27_3
          try clear hfz27_4
          try clear hfz27_5
          try clear hfz27_6
          try clear hfz31_0
          try clear hfz31_1
          try clear hfz31_2
          try clear hfz31_3
          try clear hfz31_4
          try clear hfz31_5
          try clear hfz31_6
          try clear hfz32_0
          try clear hfz32_1
          try clear hfz32_2
          try clear hfz32_3
          try clear hfz32_4
          try clear hfz32_5
          try clear hfz32_6
          try clear hfz34_0
          try clear hfz34_1
          try clear hfz34_2
          try clear hfz34_3
          try clear hfz34_4
          try clear hfz34_5
          try clear hfz34_6
          try clear hfz35_0
          try clear hfz35_1
          try clear hfz35_2
          try clear hfz35_3
          try clear hfz35_4
          try clear hfz35_5
          try clear hfz35_6
          try clear p2
          obtain ⟨kq, x6_27, rfl, HA, HJ27, BK119, BK120, HB⟩ := hcut
          cases kq with
          | zero => exact absurd HA.out (by simp [psephoslaw06_SlashBad.j1])
          | succ kj27 =>
            have H := HA.out
            clear HA
            simp only [psephoslaw06_SlashBad.j1] at H
            have HC36 := Aside0.mk H
            clear H
            go_upto_region 5 with (fail)
            go_cut [7] (fun v7 wc => ∃ (kq : Nat) (x7_35 : Bool), v7 = .bool x7_35 ∧ Aside0 (psephoslaw06_SlashBad.j2 kq x5_4 x6_27 x7_35 a0_0 a0_1 a0_2 a0_3 a0_4 a0_5 l0_6 a1_0 a1_1 a1_2 a1_3 a1_4 a1_5 l1_6 = some r) ∧ Aside0 (kq ≤ kj27) ∧ Aside0 (wc.heap[gb119]? = some (.cells #[.int .i64 a0_0, .int .u64 a0_1, .int .i64 a0_2, .int .u64 a0_3, .int .i64 a0_4, .int .u64 a0_5, (.slice A0_6 l0_6.length c0_6)] 27 (0, 0))) ∧ Aside0 (wc.heap[gb120]? = some (.cells #[.int .i64 a1_0, .int .u64 a1_1, .int .i64 a1_2, .int .u64 a1_3, .int .i64 a1_4, .int .u64 a1_5, (.slice A1_6 l1_6.length c1_6)] 27 (0, 0))) ∧ Aside0 (Below w.heap.size w wc))
            case first =>
              have H := HC36.out
              clear HC36
              by_cases c37 : a1_2 < a0_2
              · rw [if_pos c37] at H
                have c37b0 : decide (a1_2 < a0_2) = true := decide_eq_true c37
                clear c37
                (first | rw [c37b0] | (simp only [i64_w, i32_w]; rw [c37b0]) | skip)
                have H' := Aside0.mk H
                clear H
                have hnb38 := NB120_119.out
                have hnc38 := NB119_120.out
                have hcz39_0 : wc.cell? ⟨gb120, 0, none⟩ = some (.int .i64 a1_0) := (blk_cell BK120.out 0).trans rfl
                have hcz39_1 : wc.cell? ⟨gb120, 1, none⟩ = some (.int .u64 a1_1) := (blk_cell BK120.out 1).trans rfl
                have hcz39_2 : wc.cell? ⟨gb120, 2, none⟩ = some (.int .i64 a1_2) := (blk_cell BK120.out 2).trans rfl
                have hcz39_3 : wc.cell? ⟨gb120, 3, none⟩ = some (.int .u64 a1_3) := (blk_cell BK120.out 3).trans rfl
                have hcz39_4 : wc.cell? ⟨gb120, 4, none⟩ = some (.int .i64 a1_4) := (blk_cell BK120.out 4).trans rfl
                have hcz39_5 : wc.cell? ⟨gb120, 5, none⟩ = some (.int .u64 a1_5) := (blk_cell BK120.out 5).trans rfl
                have hcz39_6 : wc.cell? ⟨gb120, 6, none⟩ = some (.slice A1_6 l1_6.length c1_6) := (blk_cell BK120.out 6).trans rfl
                have hfz39_0 := blk_frozen BK120.out 0
                have hfz39_1 := blk_frozen BK120.out 1
                have hfz39_2 := blk_frozen BK120.out 2
                have hfz39_3 := blk_frozen BK120.out 3
                have hfz39_4 := blk_frozen BK120.out 4
                have hfz39_5 := blk_frozen BK120.out 5
                have hfz39_6 := blk_frozen BK120.out 6
                have hcz40_0 : wc.cell? ⟨gb119, 0, none⟩ = some (.int .i64 a0_0) := (blk_cell BK119.out 0).trans rfl
                have hcz40_1 : wc.cell? ⟨gb119, 1, none⟩ = some (.int .u64 a0_1) := (blk_cell BK119.out 1).trans rfl
                have hcz40_2 : wc.cell? ⟨gb119, 2, none⟩ = some (.int .i64 a0_2) := (blk_cell BK119.out 2).trans rfl
                have hcz40_3 : wc.cell? ⟨gb119, 3, none⟩ = some (.int .u64 a0_3) := (blk_cell BK119.out 3).trans rfl
                have hcz40_4 : wc.cell? ⟨gb119, 4, none⟩ = some (.int .i64 a0_4) := (blk_cell BK119.out 4).trans rfl
                have hcz40_5 : wc.cell? ⟨gb119, 5, none⟩ = some (.int .u64 a0_5) := (blk_cell BK119.out 5).trans rfl
                have hcz40_6 : wc.cell? ⟨gb119, 6, none⟩ = some (.slice A0_6 l0_6.length c0_6) := (blk_cell BK119.out 6).trans rfl
                have hfz40_0 := blk_frozen BK119.out 0
                have hfz40_1 := blk_frozen BK119.out 1
                have hfz40_2 := blk_frozen BK119.out 2
                have hfz40_3 := blk_frozen BK119.out 3
                have hfz40_4 := blk_frozen BK119.out 4
                have hfz40_5 := blk_frozen BK119.out 5
                have hfz40_6 := blk_frozen BK119.out 6
                go_wp2
                go_meet
                case rel => exact ⟨_, (decide (a1_4 > a0_4)), (by first | rfl | (simp; done) | (simp [*]; done)), H', ⟨by have := HJ4.out; have := HJ27.out; first | omega | exact Nat.le_refl _⟩, ⟨by (with_reducible repeat (first | refine blk_drewN ?_ _ | refine blk_drew ?_ | refine blk_alloc ?_ _)); exact BK119.out⟩, ⟨by (with_reducible repeat (first | refine blk_drewN ?_ _ | refine blk_drew ?_ | refine blk_alloc ?_ _)); exact BK120.out⟩, ⟨by repeat (first | (with_reducible first | exact HB.out | apply below_alloc | apply pw_below_drewN | apply below_drew1 | refine below_set ?_ GE119.out | refine below_set ?_ GE120.out) | exact HB.out)⟩⟩
              · rw [if_neg c37] at H
                have c37b0 : decide (a1_2 < a0_2) = false := decide_eq_false c37
                clear c37
                (first | rw [c37b0] | (simp only [i64_w, i32_w]; rw [c37b0]) | skip)
                have H' := Aside0.mk H
                clear H
                have hnb41 := NB120_119.out
                have hnc41 := NB119_120.out
                have hcz42_0 : wc.cell? ⟨gb120, 0, none⟩ = some (.int .i64 a1_0) := (blk_cell BK120.out 0).trans rfl
                have hcz42_1 : wc.cell? ⟨gb120, 1, none⟩ = some (.int .u64 a1_1) := (blk_cell BK120.out 1).trans rfl
                have hcz42_2 : wc.cell? ⟨gb120, 2, none⟩ = some (.int .i64 a1_2) := (blk_cell BK120.out 2).trans rfl
                have hcz42_3 : wc.cell? ⟨gb120, 3, none⟩ = some (.int .u64 a1_3) := (blk_cell BK120.out 3).trans rfl
                have hcz42_4 : wc.cell? ⟨gb120, 4, none⟩ = some (.int .i64 a1_4) := (blk_cell BK120.out 4).trans rfl
                have hcz42_5 : wc.cell? ⟨gb120, 5, none⟩ = some (.int .u64 a1_5) := (blk_cell BK120.out 5).trans rfl
                have hcz42_6 : wc.cell? ⟨gb120, 6, none⟩ = some (.slice A1_6 l1_6.length c1_6) := (blk_cell BK120.out 6).trans rfl
                have hfz42_0 := blk_frozen BK120.out 0
                have hfz42_1 := blk_frozen BK120.out 1
                have hfz42_2 := blk_frozen BK120.out 2
                have hfz42_3 := blk_frozen BK120.out 3
                have hfz42_4 := blk_frozen BK120.out 4
                have hfz42_5 := blk_frozen BK120.out 5
                have hfz42_6 := blk_frozen BK120.out 6
                have hcz43_0 : wc.cell? ⟨gb119, 0, none⟩ = some (.int .i64 a0_0) := (blk_cell BK119.out 0).trans rfl
                have hcz43_1 : wc.cell? ⟨gb119, 1, none⟩ = some (.int .u64 a0_1) := (blk_cell BK119.out 1).trans rfl
                have hcz43_2 : wc.cell? ⟨gb119, 2, none⟩ = some (.int .i64 a0_2) := (blk_cell BK119.out 2).trans rfl
                have hcz43_3 : wc.cell? ⟨gb119, 3, none⟩ = some (.int .u64 a0_3) := (blk_cell BK119.out 3).trans rfl
                have hcz43_4 : wc.cell? ⟨gb119, 4, none⟩ = some (.int .i64 a0_4) := (blk_cell BK119.out 4).trans rfl
                have hcz43_5 : wc.cell? ⟨gb119, 5, none⟩ = some (.int .u64 a0_5) := (blk_cell BK119.out 5).trans rfl
                have hcz43_6 : wc.cell? ⟨gb119, 6, none⟩ = some (.slice A0_6 l0_6.length c0_6) := (blk_cell BK119.out 6).trans rfl
                have hfz43_0 := blk_frozen BK119.out 0
                have hfz43_1 := blk_frozen BK119.out 1
                have hfz43_2 := blk_frozen BK119.out 2
                have hfz43_3 := blk_frozen BK119.out 3
                have hfz43_4 := blk_frozen BK119.out 4
                have hfz43_5 := blk_frozen BK119.out 5
                have hfz43_6 := blk_frozen BK119.out 6
                go_wp2
                go_meet
                case rel => exact ⟨_, (false), (by first | rfl | (simp; done) | (simp [*]; done)), H', ⟨by have := HJ4.out; have := HJ27.out; first | omega | exact Nat.le_refl _⟩, ⟨by (with_reducible repeat (first | refine blk_drewN ?_ _ | refine blk_drew ?_ | refine blk_alloc ?_ _)); exact BK119.out⟩, ⟨by (with_reducible repeat (first | refine blk_drewN ?_ _ | refine blk_drew ?_ | refine blk_alloc ?_ _)); exact BK120.out⟩, ⟨by repeat (first | (with_reducible first | exact HB.out | apply below_alloc | apply pw_below_drewN | apply below_drew1 | refine below_set ?_ GE119.out | refine below_set ?_ GE120.out) | exact HB.out)⟩⟩
            case rest =>
              clear HC36
              try clear c1
              try clear c2
              try clear p2
              try clear c3
              try clear c4
              try clear c6
              try clear c9
              try clear c9b0
              try clear c9b1
              try clear c10
              try clear c10b0
              try clear c10b1
              try clear c11
              try clear c11b0
              try clear c11b1
              try clear c12
              try clear c12b0
              try clear c13
              try clear c16
              try clear c19
              try clear c22
              try clear c25
              try clear c29
              try clear c29b0
              try clear c30
              try clear c33
              try clear c37
              try clear c37b0
              try clear c38
              try clear c41
              try clear hcz14_0
              try clear hcz14_1
              try clear hcz14_2
              try clear hcz14_3
              try clear hcz14_4
              try clear hcz14_5
              try clear hcz14_6
              try clear hcz15_0
              try clear hcz15_1
              try clear hcz15_2
              try clear hcz15_3
              try clear hcz15_4
              try clear hcz15_5
              try clear hcz15_6
              try clear hcz17_0
              try clear hcz17_1
              try clear hcz17_2
              try clear hcz17_3
              try clear hcz17_4
              try clear hcz17_5
              try clear hcz17_6
              try clear hcz18_0
              try clear hcz18_1
              try clear hcz18_2
              try clear hcz18_3
              try clear hcz18_4
              try clear hcz18_5
              try clear hcz18_6
              try clear hcz20_0
              try clear hcz20_1
              try clear hcz20_2
              try clear hcz20_3
              try clear hcz20_4
              try clear hcz20_5
              try clear hcz20_6
              try clear hcz21_0
              try clear hcz21_1
              try clear hcz21_2
              try clear hcz21_3
              try clear hcz21_4
              try clear hcz21_5
              try clear hcz21_6
              try clear hcz23_0
              try clear hcz23_1
              try clear hcz23_2
              try clear hcz23_3
              try clear hcz23_4
              try clear hcz23_5
              try clear hcz23_6
              try clear hcz24_0
              try clear hcz24_1
              try clear hcz24_2
              try clear hcz24_3
              try clear hcz24_4
              try clear hcz24_5
              try clear hcz24_6
              try clear hcz26_0
              try clear hcz26_1
              try clear hcz26_2
              try clear hcz26_3
              try clear hcz26_4
              try clear hcz26_5
              try clear hcz26_6
              try clear hcz27_0
              try clear hcz27_1
              try clear hcz27_2
              try clear hcz27_3
              try clear hcz27_4
              try clear hcz27_5
              try clear hcz27_6
              try clear hcz31_0
              try clear hcz31_1
              try clear hcz31_2
              try clear hcz31_3
              try clear hcz31_4
              try clear hcz31_5
              try clear hcz31_6
              try clear hcz32_0
              try clear hcz32_1
              try clear hcz32_2
              try clear hcz32_3
              try clear hcz32_4
              try clear hcz32_5
              try clear hcz32_6
              try clear hcz34_0
              try clear hcz34_1
              try clear hcz34_2
              try clear hcz34_3
              try clear hcz34_4
              try clear hcz34_5
              try clear hcz34_6
              try clear hcz35_0
              try clear hcz35_1
              try clear hcz35_2
              try clear hcz35_3
              try clear hcz35_4
              try clear hcz35_5
              try clear hcz35_6
              try clear hcz39_0
              try clear hcz39_1
              try clear hcz39_2
              try clear hcz39_3
              try clear hcz39_4
              try clear hcz39_5
              try clear hcz39_6
              try clear hcz40_0
              try clear hcz40_1
              try clear hcz40_2
              try clear hcz40_3
              try clear hcz40_4
              try clear hcz40_5
              try clear hcz40_6
              try clear hcz42_0
              try clear hcz42_1
              try clear hcz42_2
              try clear hcz42_3
              try clear hcz42_4
              try clear hcz42_5
              try clear hcz42_6
              try clear hcz43_0
              try clear hcz43_1
              try clear hcz43_2
              try clear hcz43_3
              try clear hcz43_4
              try clear hcz43_5
              try clear hcz43_6
              try clear hfz14_0
              try clear hfz14_1
              try clear hfz14_2
              try clear hfz14_3
              try clear hfz14_4
              try clear hfz14_5
              try clear hfz14_6
              try clear hfz15_0
              try clear hfz15_1
              try clear hfz15_2
              try clear hfz15_3
              try clear hfz15_4
              try clear hfz15_5
              try clear hfz15_6
              try clear hfz17_0
              try clear hfz17_1
              try clear hfz17_2
              try clear hfz17_3
              try clear hfz17_4
              try clear hfz17_5
              try clear hfz17_6
              try clear hfz18_0
              try clear hfz18_1
              try clear hfz18_2
              try clear hfz18_3
              try clear hfz18_4
              try clear hfz18_5
              try clear hfz18_6
              try clear hfz20_0
              try clear hfz20_1
              try clear hfz20_2
              try clear hfz20_3
              try clear hfz20_4
              try clear hfz20_5
              try clear hfz20_6
              try clear hfz21_0
              try clear hfz21_1
              try clear hfz21_2
              try clear hfz21_3
              try clear hfz21_4
              try clear hfz21_5
              try clear hfz21_6
              try clear hfz23_0
              try clear hfz23_1
              try clear hfz23_2
              try clear hfz23_3
              try clear hfz23_4
              try clear hfz23_5
              try clear hfz23_6
              try clear hfz24_0
              try clear hfz24_1
              try clear hfz24_2
              try clear hfz24_3
              try clear hfz24_4
              try clear hfz24_5
              try clear hfz24_6
              try clear hfz26_0
              try clear hfz26_1
              try clear hfz26_2
              try clear hfz26_3
              try clear hfz26_4
              try clear hfz26_5
              try clear hfz26_6
              try clear hfz27_0
              try clear hfz27_1
              try clear hfz27_2
              try clear hfz27_3
              try clear hfz27_4
              try clear hfz27_5
              try clear hfz27_6
              try clear hfz31_0
              try clear hfz31_1
              try clear hfz31_2
              try clear hfz31_3
              try clear hfz31_4
              try clear hfz31_5
              try clear hfz31_6
              try clear hfz32_0
              try clear hfz32_1
              try clear hfz32_2
              try clear hfz32_3
              try clear hfz32_4
              try clear hfz32_5
              try clear hfz32_6
              try clear hfz34_0
              try clear hfz34_1
              try clear hfz34_2
              try clear hfz34_3
              try clear hfz34_4
              try clear hfz34_5
              try clear hfz34_6
              try clear hfz35_0
              try clear hfz35_1
              try clear hfz35_2
              try clear hfz35_3
              try clear hfz35_4
              try clear hfz35_5
              try clear hfz35_6
              try clear hfz39_0
              try clear hfz39_1
              try clear hfz39_2
              try clear hfz39_3
              try clear hfz39_4
              try clear hfz39_5
              try clear hfz39_6
              try clear hfz40_0
              try clear hfz40_1
              try clear hfz40_2
              try clear hfz40_3
              try clear hfz40_4
              try clear hfz40_5
              try clear hfz40_6
              try clear hfz42_0
              try clear hfz42_1
              try clear hfz42_2
              try clear hfz42_3
              try clear hfz42_4
              try clear hfz42_5
              try clear hfz42_6
              try clear hfz43_0
              try clear hfz43_1
              try clear hfz43_2
              try clear hfz43_3
              try clear hfz43_4
              try clear hfz43_5
              try clear hfz43_6
              try clear p2
              obtain ⟨kq, x7_35, rfl, HA, HJ35, BK119, BK120, HB⟩ := hcut
              cases kq with
              | zero => exact absurd HA.out (by simp [psephoslaw06_SlashBad.j2])
              | succ kj35 =>
                have H := HA.out
                clear HA
                simp only [psephoslaw06_SlashBad.j2] at H
                replace H := Option.bind_eq_some_iff.mp H
                obtain ⟨t122, A440, H⟩ := H
                replace H : (if (t122 == x5_4) = true then ((slash_Around.f a0_0 a0_1 a0_2 a0_3 a0_4 a0_5 l0_6 a1_0 a1_1 a1_2 a1_3 a1_4 a1_5 l1_6).bind fun t123 => (if (t123 == x6_27) = true then ((slash_Bad.f a0_0 a0_1 a0_2 a0_3 a0_4 a0_5 l0_6 a1_0 a1_1 a1_2 a1_3 a1_4 a1_5 l1_6).bind fun t124 => (if x5_4 = true then (if (t124 == true) = true then ((slash_Bad.f a1_0 a1_1 a1_2 a1_3 a1_4 a1_5 l1_6 a0_0 a0_1 a0_2 a0_3 a0_4 a0_5 l0_6).bind fun t125 => ((slash_Bad.f a0_0 a0_1 a0_2 a0_3 a0_4 a0_5 l0_6 a1_0 a1_1 a1_2 a1_3 a1_4 a1_5 l1_6).bind fun t126 => (if (t125 == t126) = true then ((slash_Bad.f a0_0 a0_1 a0_2 a0_3 a0_4 a0_5 l0_6 a0_0 a0_1 a0_2 a0_3 a0_4 a0_5 l0_6).bind fun t127 => (some (!t127))) else (some false)))) else (some false)) else (if x6_27 = true then (if (t124 == true) = true then ((slash_Bad.f a1_0 a1_1 a1_2 a1_3 a1_4 a1_5 l1_6 a0_0 a0_1 a0_2 a0_3 a0_4 a0_5 l0_6).bind fun t128 => ((slash_Bad.f a0_0 a0_1 a0_2 a0_3 a0_4 a0_5 l0_6 a1_0 a1_1 a1_2 a1_3 a1_4 a1_5 l1_6).bind fun t129 => (if (t128 == t129) = true then ((slash_Bad.f a0_0 a0_1 a0_2 a0_3 a0_4 a0_5 l0_6 a0_0 a0_1 a0_2 a0_3 a0_4 a0_5 l0_6).bind fun t130 => (some (!t130))) else (some false)))) else (some false)) else (if (t124 == x7_35) = true then ((slash_Bad.f a1_0 a1_1 a1_2 a1_3 a1_4 a1_5 l1_6 a0_0 a0_1 a0_2 a0_3 a0_4 a0_5 l0_6).bind fun t131 => ((slash_Bad.f a0_0 a0_1 a0_2 a0_3 a0_4 a0_5 l0_6 a1_0 a1_1 a1_2 a1_3 a1_4 a1_5 l1_6).bind fun t132 => (if (t131 == t132) = true then ((slash_Bad.f a0_0 a0_1 a0_2 a0_3 a0_4 a0_5 l0_6 a0_0 a0_1 a0_2 a0_3 a0_4 a0_5 l0_6).bind fun t133 => (some (!t133))) else (some false)))) else (some false))))) else (some false))) else (some false)) = some r := H
                have A44 := Aside0.mk A440
                clear A440
                by_cases c45 : (t122 == x5_4) = true
                · rw [if_pos c45] at H
                  have c45b0 : (t122 == x5_4) = true := c45
                  (try (have c45b1 : decide (t122 = x5_4) = true := by simpa using c45))
                  (try (have c45b2 : (t122 == x5_4) = true := by simpa using c45))
                  clear c45
                  replace H := Option.bind_eq_some_iff.mp H
                  obtain ⟨t123, A460, H⟩ := H
                  replace H : (if (t123 == x6_27) = true then ((slash_Bad.f a0_0 a0_1 a0_2 a0_3 a0_4 a0_5 l0_6 a1_0 a1_1 a1_2 a1_3 a1_4 a1_5 l1_6).bind fun t124 => (if x5_4 = true then (if (t124 == true) = true then ((slash_Bad.f a1_0 a1_1 a1_2 a1_3 a1_4 a1_5 l1_6 a0_0 a0_1 a0_2 a0_3 a0_4 a0_5 l0_6).bind fun t125 => ((slash_Bad.f a0_0 a0_1 a0_2 a0_3 a0_4 a0_5 l0_6 a1_0 a1_1 a1_2 a1_3 a1_4 a1_5 l1_6).bind fun t126 => (if (t125 == t126) = true then ((slash_Bad.f a0_0 a0_1 a0_2 a0_3 a0_4 a0_5 l0_6 a0_0 a0_1 a0_2 a0_3 a0_4 a0_5 l0_6).bind fun t127 => (some (!t127))) else (some false)))) else (some false)) else (if x6_27 = true then (if (t124 == true) = true then ((slash_Bad.f a1_0 a1_1 a1_2 a1_3 a1_4 a1_5 l1_6 a0_0 a0_1 a0_2 a0_3 a0_4 a0_5 l0_6).bind fun t128 => ((slash_Bad.f a0_0 a0_1 a0_2 a0_3 a0_4 a0_5 l0_6 a1_0 a1_1 a1_2 a1_3 a1_4 a1_5 l1_6).bind fun t129 => (if (t128 == t129) = true then ((slash_Bad.f a0_0 a0_1 a0_2 a0_3 a0_4 a0_5 l0_6 a0_0 a0_1 a0_2 a0_3 a0_4 a0_5 l0_6).bind fun t130 => (some (!t130))) else (some false)))) else (some false)) else (if (t124 == x7_35) = true then ((slash_Bad.f a1_0 a1_1 a1_2 a1_3 a1_4 a1_5 l1_6 a0_0 a0_1 a0_2 a0_3 a0_4 a0_5 l0_6).bind fun t131 => ((slash_Bad.f a0_0 a0_1 a0_2 a0_3 a0_4 a0_5 l0_6 a1_0 a1_1 a1_2 a1_3 a1_4 a1_5 l1_6).bind fun t132 => (if (t131 == t132) = true then ((slash_Bad.f a0_0 a0_1 a0_2 a0_3 a0_4 a0_5 l0_6 a0_0 a0_1 a0_2 a0_3 a0_4 a0_5 l0_6).bind fun t133 => (some (!t133))) else (some false)))) else (some false))))) else (some false)) = some r := H
                  have A46 := Aside0.mk A460
                  clear A460
                  by_cases c47 : (t123 == x6_27) = true
                  · rw [if_pos c47] at H
                    have c47b0 : (t123 == x6_27) = true := c47
                    (try (have c47b1 : decide (t123 = x6_27) = true := by simpa using c47))
                    (try (have c47b2 : (t123 == x6_27) = true := by simpa using c47))
                    clear c47
                    replace H := Option.bind_eq_some_iff.mp H
                    obtain ⟨t124, A480, H⟩ := H
                    replace H : (if x5_4 = true then (if (t124 == true) = true then ((slash_Bad.f a1_0 a1_1 a1_2 a1_3 a1_4 a1_5 l1_6 a0_0 a0_1 a0_2 a0_3 a0_4 a0_5 l0_6).bind fun t125 => ((slash_Bad.f a0_0 a0_1 a0_2 a0_3 a0_4 a0_5 l0_6 a1_0 a1_1 a1_2 a1_3 a1_4 a1_5 l1_6).bind fun t126 => (if (t125 == t126) = true then ((slash_Bad.f a0_0 a0_1 a0_2 a0_3 a0_4 a0_5 l0_6 a0_0 a0_1 a0_2 a0_3 a0_4 a0_5 l0_6).bind fun t127 => (some (!t127))) else (some false)))) else (some false)) else (if x6_27 = true then (if (t124 == true) = true then ((slash_Bad.f a1_0 a1_1 a1_2 a1_3 a1_4 a1_5 l1_6 a0_0 a0_1 a0_2 a0_3 a0_4 a0_5 l0_6).bind fun t128 => ((slash_Bad.f a0_0 a0_1 a0_2 a0_3 a0_4 a0_5 l0_6 a1_0 a1_1 a1_2 a1_3 a1_4 a1_5 l1_6).bind fun t129 => (if (t128 == t129) = true then ((slash_Bad.f a0_0 a0_1 a0_2 a0_3 a0_4 a0_5 l0_6 a0_0 a0_1 a0_2 a0_3 a0_4 a0_5 l0_6).bind fun t130 => (some (!t130))) else (some false)))) else (some false)) else (if (t124 == x7_35) = true then ((slash_Bad.f a1_0 a1_1 a1_2 a1_3 a1_4 a1_5 l1_6 a0_0 a0_1 a0_2 a0_3 a0_4 a0_5 l0_6).bind fun t131 => ((slash_Bad.f a0_0 a0_1 a0_2 a0_3 a0_4 a0_5 l0_6 a1_0 a1_1 a1_2 a1_3 a1_4 a1_5 l1_6).bind fun t132 => (if (t131 == t132) = true then ((slash_Bad.f a0_0 a0_1 a0_2 a0_3 a0_4 a0_5 l0_6 a0_0 a0_1 a0_2 a0_3 a0_4 a0_5 l0_6).bind fun t133 => (some (!t133))) else (some false)))) else (some false)))) = some r := H
                    have A48 := Aside0.mk A480
                    clear A480
                    by_cases c49 : x5_4 = true
                    · subst c49
                      have H1 : (if (t124 == true) = true then ((slash_Bad.f a1_0 a1_1 a1_2 a1_3 a1_4 a1_5 l1_6 a0_0 a0_1 a0_2 a0_3 a0_4 a0_5 l0_6).bind fun t125 => ((slash_Bad.f a0_0 a0_1 a0_2 a0_3 a0_4 a0_5 l0_6 a1_0 a1_1 a1_2 a1_3 a1_4 a1_5 l1_6).bind fun t126 => (if (t125 == t126) = true then ((slash_Bad.f a0_0 a0_1 a0_2 a0_3 a0_4 a0_5 l0_6 a0_0 a0_1 a0_2 a0_3 a0_4 a0_5 l0_6).bind fun t127 => (some (!t127))) else (some false)))) else (some false)) = some r := by rw [if_pos rfl] at H; exact H
                      clear H
                      have H := H1
                      clear H1
                      by_cases c50 : (t124 == true) = true
                      · rw [if_pos c50] at H
                        have c50b0 : (t124 == true) = true := c50
                        (try (have c50b1 : decide (t124 = true) = true := by simpa using c50))
                        (try (have c50b2 : (t124 == true) = true := by simpa using c50))
                        clear c50
                        replace H := Option.bind_eq_some_iff.mp H
                        obtain ⟨t125, A510, H⟩ := H
                        replace H : ((slash_Bad.f a0_0 a0_1 a0_2 a0_3 a0_4 a0_5 l0_6 a1_0 a1_1 a1_2 a1_3 a1_4 a1_5 l1_6).bind fun t126 => (if (t125 == t126) = true then ((slash_Bad.f a0_0 a0_1 a0_2 a0_3 a0_4 a0_5 l0_6 a0_0 a0_1 a0_2 a0_3 a0_4 a0_5 l0_6).bind fun t127 => (some (!t127))) else (some false))) = some r := H
                        have A51 := Aside0.mk A510
                        clear A510
                        replace H := Option.bind_eq_some_iff.mp H
                        obtain ⟨t126, A520, H⟩ := H
                        replace H : (if (t125 == t126) = true then ((slash_Bad.f a0_0 a0_1 a0_2 a0_3 a0_4 a0_5 l0_6 a0_0 a0_1 a0_2 a0_3 a0_4 a0_5 l0_6).bind fun t127 => (some (!t127))) else (some false)) = some r := H
                        have A52 := Aside0.mk A520
                        clear A520
                        by_cases c53 : (t125 == t126) = true
                        · rw [if_pos c53] at H
                          have c53b0 : (t125 == t126) = true := c53
                          (try (have c53b1 : decide (t125 = t126) = true := by simpa using c53))
                          (try (have c53b2 : (t125 == t126) = true := by simpa using c53))
                          clear c53
                          replace H := Option.bind_eq_some_iff.mp H
                          obtain ⟨t127, A540, H⟩ := H
                          replace H : (some (!t127)) = some r := H
                          have A54 := Aside0.mk A540
                          clear A540
                          obtain rfl := Option.some.inj H
                          try go_wp2
                          have n0_ := Aside0.mk (blk_drew BK119.out)
                          have n1_ := Aside0.mk (blk_drew BK120.out)
                          have n2_ := Aside0.mk (below_drew1 HB.out)
                          clear BK119
                          clear BK120
                          clear HB
                          have BK119 := n0_
                          have BK120 := n1_
                          have HB := n2_
                          clear n0_ n1_ n2_
                          refine start_ (n := 41) (S := fun w' => w'.cell? ⟨gb119, 0, none⟩ = some (.int .i64 a0_0) ∧ w'.cell? ⟨gb119, 1, none⟩ = some (.int .u64 a0_1) ∧ w'.cell? ⟨gb119, 2, none⟩ = some (.int .i64 a0_2) ∧ w'.cell? ⟨gb119, 3, none⟩ = some (.int .u64 a0_3) ∧ w'.cell? ⟨gb119, 4, none⟩ = some (.int .i64 a0_4) ∧ w'.cell? ⟨gb119, 5, none⟩ = some (.int .u64 a0_5) ∧ w'.cell? ⟨gb119, 6, none⟩ = some (.slice A0_6 l0_6.length c0_6) ∧ w'.cell? ⟨gb120, 0, none⟩ = some (.int .i64 a1_0) ∧ w'.cell? ⟨gb120, 1, none⟩ = some (.int .u64 a1_1) ∧ w'.cell? ⟨gb120, 2, none⟩ = some (.int .i64 a1_2) ∧ w'.cell? ⟨gb120, 3, none⟩ = some (.int .u64 a1_3) ∧ w'.cell? ⟨gb120, 4, none⟩ = some (.int .i64 a1_4) ∧ w'.cell? ⟨gb120, 5, none⟩ = some (.int .u64 a1_5) ∧ w'.cell? ⟨gb120, 6, none⟩ = some (.slice A1_6 l1_6.length c1_6)) (ds := []) #[false, false, false, false, false, false, false, false, false, false, false, false, false, false, false, false, false, false, false, false, false, false, false, false, false, false, false, false, false, false, false, false, false, false, false, false, false, false, false, false, false] (by kernel_rfl) rfl rfl ⟨(blk_cell BK119.out 0).trans rfl, (blk_cell BK119.out 1).trans rfl, (blk_cell BK119.out 2).trans rfl, (blk_cell BK119.out 3).trans rfl, (blk_cell BK119.out 4).trans rfl, (blk_cell BK119.out 5).trans rfl, (blk_cell BK119.out 6).trans rfl, (blk_cell BK120.out 0).trans rfl, (blk_cell BK120.out 1).trans rfl, (blk_cell BK120.out 2).trans rfl, (blk_cell BK120.out 3).trans rfl, (blk_cell BK120.out 4).trans rfl, (blk_cell BK120.out 5).trans rfl, (blk_cell BK120.out 6).trans rfl⟩ (fun hHeld => ?_); refine with_tabW psephoslaw06_SlashBad.tab6 psephoslaw06_SlashBad.bits6 (fun HT_ HW_ => ?_)
                          generalize wc.drew = w55 at BK119 BK120 HB hHeld ⊢
                          refine pure_ (i := 3) (N := some 80) (v := ?_) (a' := ?_) #[false, false, false, true, false, false, false, false, false, false, false, false, false, false, false, false, false, false, false, false, false, false, false, false, false, false, false, false, false, false, false, false, false, false, false, false, false, false, false, false, false] rfl rfl (any_of HT_.out (by kernel_rfl)) (fun _ _ _ h => h) (Or.inl ⟨by rfl, ?_⟩) ?_ ?_
                          rotate_left
                          · intro w'
                            go_simp
                            with_reducible rfl
                          rotate_left
                          · simp only [Act.put, List.setIfInBounds_toArray, List.set_cons_zero, List.set_cons_succ, i64_w, i32_w]
                            rfl
                          refine take_ (i := 0) (N := some 77) (v := ?_) (a' := ?_) #[true, false, false, true, false, false, false, false, false, false, false, false, false, false, false, false, false, false, false, false, false, false, false, false, false, false, false, false, false, false, false, false, false, false, false, false, false, false, false, false, false] rfl rfl (take_ofW HT_.out HW_.out (by kernel_rfl)) (fun _ _ _ h => h) (Or.inl ⟨by rfl, ?_⟩) hHeld ?_ ?_
                          rotate_left
                          · rintro w' ⟨s0, s1, s2, s3, s4, s5, s6, s7, s8, s9, s10, s11, s12, s13⟩
                            go_simp
                            with_reducible rfl
                          rotate_left
                          · simp only [Act.put, List.setIfInBounds_toArray, List.set_cons_zero, List.set_cons_succ, i64_w, i32_w]
                            rfl
                          refine take_ (i := 1) (N := some 78) (v := ?_) (a' := ?_) #[true, true, false, true, false, false, false, false, false, false, false, false, false, false, false, false, false, false, false, false, false, false, false, false, false, false, false, false, false, false, false, false, false, false, false, false, false, false, false, false, false] rfl rfl (take_ofW HT_.out HW_.out (by kernel_rfl)) (fun _ _ _ h => h) (Or.inl ⟨by rfl, ?_⟩) hHeld ?_ ?_
                          rotate_left
                          · rintro w' ⟨s0, s1, s2, s3, s4, s5, s6, s7, s8, s9, s10, s11, s12, s13⟩
                            go_simp
                            with_reducible rfl
                          rotate_left
                          · simp only [Act.put, List.setIfInBounds_toArray, List.set_cons_zero, List.set_cons_succ, i64_w, i32_w]
                            rfl
                          refine one_ (i := 2) (N := some 79) #[true, true, true, true, false, false, false, false, false, false, false, false, false, false, false, false, false, false, false, false, false, false, false, false, false, false, false, false, false, false, false, false, false, false, false, false, false, false, false, false, false] rfl rfl (one_of HT_.out (by kernel_rfl)) (by decide) (fun K hK => ?_)
                          refine goes_ Try.func7 (by kernel_rfl) rfl #[.agg #[.int .i64 a0_0, .int .u64 a0_1, .int .i64 a0_2, .int .u64 a0_3, .int .i64 a0_4, .int .u64 a0_5, .slice A0_6 l0_6.length c0_6], .agg #[.int .i64 a1_0, .int .u64 a1_1, .int .i64 a1_2, .int .u64 a1_3, .int .i64 a1_4, .int .u64 a1_5, .slice A1_6 l1_6.length c1_6]] (by rfl) rfl rfl (by (try simp only [List.map_toArray, List.map_cons, List.map_nil]); first | done | rfl | (simp only [List.length_drop, List.length_take]; rfl)) ?_
                          with_reducible refine (slash_Double.calls a0_0 a0_1 a0_2 a0_3 a0_4 a0_5 _ _ l0_6 a1_0 a1_1 a1_2 a1_3 a1_4 a1_5 _ _ l1_6 t122 _ ?side1 ?side2 ?side3 ?side4 A44.out).mono ?_
                          (case side1 => repeat (first | exact (Kd.C_below HR0_6.out HB.out) | (with_reducible refine Kd.C_alloc ?_ _) | (with_reducible refine Kd.C_drewN ?_ _) | (with_reducible refine Kd.C_drew ?_)))
                          (case side2 => exact HC0_6.out)
                          (case side3 => repeat (first | exact (Kd.C_below HR1_6.out HB.out) | (with_reducible refine Kd.C_alloc ?_ _) | (with_reducible refine Kd.C_drewN ?_ _) | (with_reducible refine Kd.C_drew ?_)))
                          (case side4 => exact HC1_6.out)
                          rintro e w56 ⟨rfl, hb⟩
                          refine ⟨_, rfl, ?_⟩
                          have n0_ := Aside0.mk (blk_below (g := gb119) (o := .cells #[.int .i64 a0_0, .int .u64 a0_1, .int .i64 a0_2, .int .u64 a0_3, .int .i64 a0_4, .int .u64 a0_5, .slice A0_6 l0_6.length c0_6] 27 (0, 0)) (by (with_reducible repeat (first | refine blk_drewN ?_ _ | refine blk_drew ?_ | refine blk_alloc ?_ _)); exact BK119.out) hb)
                          have n1_ := Aside0.mk (blk_below (g := gb120) (o := .cells #[.int .i64 a1_0, .int .u64 a1_1, .int .i64 a1_2, .int .u64 a1_3, .int .i64 a1_4, .int .u64 a1_5, .slice A1_6 l1_6.length c1_6] 27 (0, 0)) (by (with_reducible repeat (first | refine blk_drewN ?_ _ | refine blk_drew ?_ | refine blk_alloc ?_ _)); exact BK120.out) hb)
                          have n2_ := Aside0.mk (below_step (by repeat (first | (with_reducible first | exact HB.out | apply below_alloc | apply pw_below_drewN | apply below_drew1 | refine below_set ?_ GE119.out | refine below_set ?_ GE120.out) | exact HB.out)) hb)
                          clear BK119
                          clear BK120
                          clear HB
                          have BK119 := n0_
                          have BK120 := n1_
                          have HB := n2_
                          clear n0_ n1_ n2_
                          (try clear hb)
                          (try clear hb2)
                          (try clear hk)
                          (try clear hi)
                          refine hK.out _ _ ⟨(blk_cell BK119.out 0).trans rfl, (blk_cell BK119.out 1).trans rfl, (blk_cell BK119.out 2).trans rfl, (blk_cell BK119.out 3).trans rfl, (blk_cell BK119.out 4).trans rfl, (blk_cell BK119.out 5).trans rfl, (blk_cell BK119.out 6).trans rfl, (blk_cell BK120.out 0).trans rfl, (blk_cell BK120.out 1).trans rfl, (blk_cell BK120.out 2).trans rfl, (blk_cell BK120.out 3).trans rfl, (blk_cell BK120.out 4).trans rfl, (blk_cell BK120.out 5).trans rfl, (blk_cell BK120.out 6).trans rfl⟩ (fun hHeld => ?_)
                          clear hK K
                          refine norm_ (a' := ?_) ?_ ?_
                          rotate_left
                          · show Act.put _ (some 79) _ = _
                            simp only [Act.put, List.setIfInBounds_toArray, List.set_cons_zero, List.set_cons_succ, i64_w, i32_w]
                            rfl
                          refine pure_ (i := 4) (N := some 81) (v := ?_) (a' := ?_) #[true, true, true, true, true, false, false, false, false, false, false, false, false, false, false, false, false, false, false, false, false, false, false, false, false, false, false, false, false, false, false, false, false, false, false, false, false, false, false, false, false] rfl rfl (any_of HT_.out (by kernel_rfl)) (fun _ _ _ h => h) (Or.inl ⟨by rfl, ?_⟩) ?_ ?_
                          rotate_left
                          · intro w'
                            go_simp
                            with_reducible rfl
                          rotate_left
                          · simp only [Act.put, List.setIfInBounds_toArray, List.set_cons_zero, List.set_cons_succ, i64_w, i32_w]
                            rfl
                          refine pure_ (i := 5) (N := some 82) (v := ?_) (a' := ?_) #[true, true, true, true, true, true, false, false, false, false, false, false, false, false, false, false, false, false, false, false, false, false, false, false, false, false, false, false, false, false, false, false, false, false, false, false, false, false, false, false, false] rfl rfl (any_of HT_.out (by kernel_rfl)) (fun _ _ _ h => h) (Or.inl ⟨by rfl, ?_⟩) ?_ ?_
                          rotate_left
                          · intro w'
                            go_simp
                            with_reducible rfl
                          rotate_left
                          · simp only [Act.put, List.setIfInBounds_toArray, List.set_cons_zero, List.set_cons_succ, i64_w, i32_w]
                            rfl
                          refine pure_ (i := 9) (N := some 86) (v := ?_) (a' := ?_) #[true, true, true, true, true, true, false, false, false, true, false, false, false, false, false, false, false, false, false, false, false, false, false, false, false, false, false, false, false, false, false, false, false, false, false, false, false, false, false, false, false] rfl rfl (any_of HT_.out (by kernel_rfl)) (fun _ _ _ h => h) (Or.inl ⟨by rfl, ?_⟩) ?_ ?_
                          rotate_left
                          · intro w'
                            go_simp
                            with_reducible rfl
                          rotate_left
                          · simp only [Act.put, List.setIfInBounds_toArray, List.set_cons_zero, List.set_cons_succ, i64_w, i32_w]
                            rfl
                          refine take_ (i := 6) (N := some 83) (v := ?_) (a' := ?_) #[true, true, true, true, true, true, true, false, false, true, false, false, false, false, false, false, false, false, false, false, false, false, false, false, false, false, false, false, false, false, false, false, false, false, false, false, false, false, false, false, false] rfl rfl (take_ofW HT_.out HW_.out (by kernel_rfl)) (fun _ _ _ h => h) (Or.inl ⟨by rfl, ?_⟩) hHeld ?_ ?_
                          rotate_left
                          · rintro w' ⟨s0, s1, s2, s3, s4, s5, s6, s7, s8, s9, s10, s11, s12, s13⟩
                            go_simp
                            with_reducible rfl
                          rotate_left
                          · simp only [Act.put, List.setIfInBounds_toArray, List.set_cons_zero, List.set_cons_succ, i64_w, i32_w]
                            rfl
                          refine take_ (i := 7) (N := some 84) (v := ?_) (a' := ?_) #[true, true, true, true, true, true, true, true, false, true, false, false, false, false, false, false, false, false, false, false, false, false, false, false, false, false, false, false, false, false, false, false, false, false, false, false, false, false, false, false, false] rfl rfl (take_ofW HT_.out HW_.out (by kernel_rfl)) (fun _ _ _ h => h) (Or.inl ⟨by rfl, ?_⟩) hHeld ?_ ?_
                          rotate_left
                          · rintro w' ⟨s0, s1, s2, s3, s4, s5, s6, s7, s8, s9, s10, s11, s12, s13⟩
                            go_simp
                            with_reducible rfl
                          rotate_left
                          · simp only [Act.put, List.setIfInBounds_toArray, List.set_cons_zero, List.set_cons_succ, i64_w, i32_w]
                            rfl
                          refine one_ (i := 8) (N := some 85) #[true, true, true, true, true, true, true, true, true, true, false, false, false, false, false, false, false, false, false, false, false, false, false, false, false, false, false, false, false, false, false, false, false, false, false, false, false, false, false, false, false] rfl rfl (one_of HT_.out (by kernel_rfl)) (by decide) (fun K hK => ?_)
                          refine goes_ Try.func8 (by kernel_rfl) rfl #[.agg #[.int .i64 a0_0, .int .u64 a0_1, .int .i64 a0_2, .int .u64 a0_3, .int .i64 a0_4, .int .u64 a0_5, .slice A0_6 l0_6.length c0_6], .agg #[.int .i64 a1_0, .int .u64 a1_1, .int .i64 a1_2, .int .u64 a1_3, .int .i64 a1_4, .int .u64 a1_5, .slice A1_6 l1_6.length c1_6]] (by rfl) rfl rfl (by (try simp only [List.map_toArray, List.map_cons, List.map_nil]); first | done | rfl | (simp only [List.length_drop, List.length_take]; rfl)) ?_
                          with_reducible refine (slash_Around.calls a0_0 a0_1 a0_2 a0_3 a0_4 a0_5 _ _ l0_6 a1_0 a1_1 a1_2 a1_3 a1_4 a1_5 _ _ l1_6 t123 _ ?side1 ?side2 ?side3 ?side4 A46.out).mono ?_
                          (case side1 => repeat (first | exact (Kd.C_below HR0_6.out HB.out) | (with_reducible refine Kd.C_alloc ?_ _) | (with_reducible refine Kd.C_drewN ?_ _) | (with_reducible refine Kd.C_drew ?_)))
                          (case side2 => exact HC0_6.out)
                          (case side3 => repeat (first | exact (Kd.C_below HR1_6.out HB.out) | (with_reducible refine Kd.C_alloc ?_ _) | (with_reducible refine Kd.C_drewN ?_ _) | (with_reducible refine Kd.C_drew ?_)))
                          (case side4 => exact HC1_6.out)
                          rintro e w57 ⟨rfl, hb⟩
                          refine ⟨_, rfl, ?_⟩
                          have n0_ := Aside0.mk (blk_below (g := gb119) (o := .cells #[.int .i64 a0_0, .int .u64 a0_1, .int .i64 a0_2, .int .u64 a0_3, .int .i64 a0_4, .int .u64 a0_5, .slice A0_6 l0_6.length c0_6] 27 (0, 0)) (by (with_reducible repeat (first | refine blk_drewN ?_ _ | refine blk_drew ?_ | refine blk_alloc ?_ _)); exact BK119.out) hb)
                          have n1_ := Aside0.mk (blk_below (g := gb120) (o := .cells #[.int .i64 a1_0, .int .u64 a1_1, .int .i64 a1_2, .int .u64 a1_3, .int .i64 a1_4, .int .u64 a1_5, .slice A1_6 l1_6.length c1_6] 27 (0, 0)) (by (with_reducible repeat (first | refine blk_drewN ?_ _ | refine blk_drew ?_ | refine blk_alloc ?_ _)); exact BK120.out) hb)
                          have n2_ := Aside0.mk (below_step (by repeat (first | (with_reducible first | exact HB.out | apply below_alloc | apply pw_below_drewN | apply below_drew1 | refine below_set ?_ GE119.out | refine below_set ?_ GE120.out) | exact HB.out)) hb)
                          clear BK119
                          clear BK120
                          clear HB
                          have BK119 := n0_
                          have BK120 := n1_
                          have HB := n2_
                          clear n0_ n1_ n2_
                          (try clear hb)
                          (try clear hb2)
                          (try clear hk)
                          (try clear hi)
                          refine hK.out _ _ ⟨(blk_cell BK119.out 0).trans rfl, (blk_cell BK119.out 1).trans rfl, (blk_cell BK119.out 2).trans rfl, (blk_cell BK119.out 3).trans rfl, (blk_cell BK119.out 4).trans rfl, (blk_cell BK119.out 5).trans rfl, (blk_cell BK119.out 6).trans rfl, (blk_cell BK120.out 0).trans rfl, (blk_cell BK120.out 1).trans rfl, (blk_cell BK120.out 2).trans rfl, (blk_cell BK120.out 3).trans rfl, (blk_cell BK120.out 4).trans rfl, (blk_cell BK120.out 5).trans rfl, (blk_cell BK120.out 6).trans rfl⟩ (fun hHeld => ?_)
                          clear hK K
                          refine norm_ (a' := ?_) ?_ ?_
                          rotate_left
                          · show Act.put _ (some 85) _ = _
                            simp only [Act.put, List.setIfInBounds_toArray, List.set_cons_zero, List.set_cons_succ, i64_w, i32_w]
                            rfl
                          refine pure_ (i := 10) (N := some 87) (v := ?_) (a' := ?_) #[true, true, true, true, true, true, true, true, true, true, true, false, false, false, false, false, false, false, false, false, false, false, false, false, false, false, false, false, false, false, false, false, false, false, false, false, false, false, false, false, false] rfl rfl (any_of HT_.out (by kernel_rfl)) (fun _ _ _ h => h) (Or.inl ⟨by rfl, ?_⟩) ?_ ?_
                          rotate_left
                          · intro w'
                            go_simp
                            with_reducible rfl
                          rotate_left
                          · simp only [Act.put, List.setIfInBounds_toArray, List.set_cons_zero, List.set_cons_succ, i64_w, i32_w]
                            rfl
                          refine pure_ (i := 11) (N := some 88) (v := ?_) (a' := ?_) #[true, true, true, true, true, true, true, true, true, true, true, true, false, false, false, false, false, false, false, false, false, false, false, false, false, false, false, false, false, false, false, false, false, false, false, false, false, false, false, false, false] rfl rfl (any_of HT_.out (by kernel_rfl)) (fun _ _ _ h => h) (Or.inl ⟨by rfl, ?_⟩) ?_ ?_
                          rotate_left
                          · intro w'
                            go_simp
                            with_reducible rfl
                          rotate_left
                          · simp only [Act.put, List.setIfInBounds_toArray, List.set_cons_zero, List.set_cons_succ, i64_w, i32_w]
                            rfl
                          refine pure_ (i := 12) (N := some 89) (v := ?_) (a' := ?_) #[true, true, true, true, true, true, true, true, true, true, true, true, true, false, false, false, false, false, false, false, false, false, false, false, false, false, false, false, false, false, false, false, false, false, false, false, false, false, false, false, false] rfl rfl (any_of HT_.out (by kernel_rfl)) (fun _ _ _ h => h) (Or.inl ⟨by rfl, ?_⟩) ?_ ?_
                          rotate_left
                          · intro w'
                            go_simp
                            with_reducible rfl
                          rotate_left
                          · simp only [Act.put, List.setIfInBounds_toArray, List.set_cons_zero, List.set_cons_succ, i64_w, i32_w]
                            rfl
                          refine pure_ (i := 16) (N := some 93) (v := ?_) (a' := ?_) #[true, true, true, true, true, true, true, true, true, true, true, true, true, false, false, false, true, false, false, false, false, false, false, false, false, false, false, false, false, false, false, false, false, false, false, false, false, false, false, false, false] rfl rfl (any_of HT_.out (by kernel_rfl)) (fun _ _ _ h => h) (Or.inl ⟨by rfl, ?_⟩) ?_ ?_
                          rotate_left
                          · intro w'
                            go_simp
                            with_reducible rfl
                          rotate_left
                          · simp only [Act.put, List.setIfInBounds_toArray, List.set_cons_zero, List.set_cons_succ, i64_w, i32_w]
                            rfl
                          refine take_ (i := 13) (N := some 90) (v := ?_) (a' := ?_) #[true, true, true, true, true, true, true, true, true, true, true, true, true, true, false, false, true, false, false, false, false, false, false, false, false, false, false, false, false, false, false, false, false, false, false, false, false, false, false, false, false] rfl rfl (take_ofW HT_.out HW_.out (by kernel_rfl)) (fun _ _ _ h => h) (Or.inl ⟨by rfl, ?_⟩) hHeld ?_ ?_
                          rotate_left
                          · rintro w' ⟨s0, s1, s2, s3, s4, s5, s6, s7, s8, s9, s10, s11, s12, s13⟩
                            go_simp
                            with_reducible rfl
                          rotate_left
                          · simp only [Act.put, List.setIfInBounds_toArray, List.set_cons_zero, List.set_cons_succ, i64_w, i32_w]
                            rfl
                          refine take_ (i := 14) (N := some 91) (v := ?_) (a' := ?_) #[true, true, true, true, true, true, true, true, true, true, true, true, true, true, true, false, true, false, false, false, false, false, false, false, false, false, false, false, false, false, false, false, false, false, false, false, false, false, false, false, false] rfl rfl (take_ofW HT_.out HW_.out (by kernel_rfl)) (fun _ _ _ h => h) (Or.inl ⟨by rfl, ?_⟩) hHeld ?_ ?_
                          rotate_left
                          · rintro w' ⟨s0, s1, s2, s3, s4, s5, s6, s7, s8, s9, s10, s11, s12, s13⟩
                            go_simp
                            with_reducible rfl
                          rotate_left
                          · simp only [Act.put, List.setIfInBounds_toArray, List.set_cons_zero, List.set_cons_succ, i64_w, i32_w]
                            rfl
                          refine one_ (i := 15) (N := some 92) #[true, true, true, true, true, true, true, true, true, true, true, true, true, true, true, true, true, false, false, false, false, false, false, false, false, false, false, false, false, false, false, false, false, false, false, false, false, false, false, false, false] rfl rfl (one_of HT_.out (by kernel_rfl)) (by decide) (fun K hK => ?_)
                          refine goes_ Try.func9 (by kernel_rfl) rfl #[.agg #[.int .i64 a0_0, .int .u64 a0_1, .int .i64 a0_2, .int .u64 a0_3, .int .i64 a0_4, .int .u64 a0_5, .slice A0_6 l0_6.length c0_6], .agg #[.int .i64 a1_0, .int .u64 a1_1, .int .i64 a1_2, .int .u64 a1_3, .int .i64 a1_4, .int .u64 a1_5, .slice A1_6 l1_6.length c1_6]] (by rfl) rfl rfl (by (try simp only [List.map_toArray, List.map_cons, List.map_nil]); first | done | rfl | (simp only [List.length_drop, List.length_take]; rfl)) ?_
                          with_reducible refine (slash_Bad.calls a0_0 a0_1 a0_2 a0_3 a0_4 a0_5 _ _ l0_6 a1_0 a1_1 a1_2 a1_3 a1_4 a1_5 _ _ l1_6 t124 _ ?side1 ?side2 ?side3 ?side4 A48.out).mono ?_
                          (case side1 => repeat (first | exact (Kd.C_below HR0_6.out HB.out) | (with_reducible refine Kd.C_alloc ?_ _) | (with_reducible refine Kd.C_drewN ?_ _) | (with_reducible refine Kd.C_drew ?_)))
                          (case side2 => exact HC0_6.out)
                          (case side3 => repeat (first | exact (Kd.C_below HR1_6.out HB.out) | (with_reducible refine Kd.C_alloc ?_ _) | (with_reducible refine Kd.C_drewN ?_ _) | (with_reducible refine Kd.C_drew ?_)))
                          (case side4 => exact HC1_6.out)
                          rintro e w58 ⟨rfl, hb⟩
                          refine ⟨_, rfl, ?_⟩
                          have n0_ := Aside0.mk (blk_below (g := gb119) (o := .cells #[.int .i64 a0_0, .int .u64 a0_1, .int .i64 a0_2, .int .u64 a0_3, .int .i64 a0_4, .int .u64 a0_5, .slice A0_6 l0_6.length c0_6] 27 (0, 0)) (by (with_reducible repeat (first | refine blk_drewN ?_ _ | refine blk_drew ?_ | refine blk_alloc ?_ _)); exact BK119.out) hb)
                          have n1_ := Aside0.mk (blk_below (g := gb120) (o := .cells #[.int .i64 a1_0, .int .u64 a1_1, .int .i64 a1_2, .int .u64 a1_3, .int .i64 a1_4, .int .u64 a1_5, .slice A1_6 l1_6.length c1_6] 27 (0, 0)) (by (with_reducible repeat (first | refine blk_drewN ?_ _ | refine blk_drew ?_ | refine blk_alloc ?_ _)); exact BK120.out) hb)
                          have n2_ := Aside0.mk (below_step (by repeat (first | (with_reducible first | exact HB.out | apply below_alloc | apply pw_below_drewN | apply below_drew1 | refine below_set ?_ GE119.out | refine below_set ?_ GE120.out) | exact HB.out)) hb)
                          clear BK119
                          clear BK120
                          clear HB
                          have BK119 := n0_
                          have BK120 := n1_
                          have HB := n2_
                          clear n0_ n1_ n2_
                          (try clear hb)
                          (try clear hb2)
                          (try clear hk)
                          (try clear hi)
                          refine hK.out _ _ ⟨(blk_cell BK119.out 0).trans rfl, (blk_cell BK119.out 1).trans rfl, (blk_cell BK119.out 2).trans rfl, (blk_cell BK119.out 3).trans rfl, (blk_cell BK119.out 4).trans rfl, (blk_cell BK119.out 5).trans rfl, (blk_cell BK119.out 6).trans rfl, (blk_cell BK120.out 0).trans rfl, (blk_cell BK120.out 1).trans rfl, (blk_cell BK120.out 2).trans rfl, (blk_cell BK120.out 3).trans rfl, (blk_cell BK120.out 4).trans rfl, (blk_cell BK120.out 5).trans rfl, (blk_cell BK120.out 6).trans rfl⟩ (fun hHeld => ?_)
                          clear hK K
                          refine norm_ (a' := ?_) ?_ ?_
                          rotate_left
                          · show Act.put _ (some 92) _ = _
                            simp only [Act.put, List.setIfInBounds_toArray, List.set_cons_zero, List.set_cons_succ, i64_w, i32_w]
                            rfl
                          refine pure_ (i := 17) (N := some 94) (v := ?_) (a' := ?_) #[true, true, true, true, true, true, true, true, true, true, true, true, true, true, true, true, true, true, false, false, false, false, false, false, false, false, false, false, false, false, false, false, false, false, false, false, false, false, false, false, false] rfl rfl (any_of HT_.out (by kernel_rfl)) (fun _ _ _ h => h) (Or.inl ⟨by rfl, ?_⟩) ?_ ?_
                          rotate_left
                          · intro w'
                            go_simp
                            with_reducible rfl
                          rotate_left
                          · simp only [Act.put, List.setIfInBounds_toArray, List.set_cons_zero, List.set_cons_succ, i64_w, i32_w]
                            rfl
                          refine pure_ (i := 18) (N := some 95) (v := undef) (a' := ?_) #[true, true, true, true, true, true, true, true, true, true, true, true, true, true, true, true, true, true, true, false, false, false, false, false, false, false, false, false, false, false, false, false, false, false, false, false, false, false, false, false, false] rfl rfl (any_of HT_.out (by kernel_rfl)) (fun _ _ _ h => h) (Or.inr ⟨by rfl, rfl⟩) ?_ ?_
                          rotate_left
                          · simp only [Act.put, List.setIfInBounds_toArray, List.set_cons_zero, List.set_cons_succ, i64_w, i32_w]
                            rfl
                          refine pure_ (i := 19) (N := some 96) (v := ?_) (a' := ?_) #[true, true, true, true, true, true, true, true, true, true, true, true, true, true, true, true, true, true, true, true, false, false, false, false, false, false, false, false, false, false, false, false, false, false, false, false, false, false, false, false, false] rfl rfl (any_of HT_.out (by kernel_rfl)) (fun _ _ _ h => h) (Or.inl ⟨by rfl, ?_⟩) ?_ ?_
                          rotate_left
                          · intro w'
                            go_simp
                            with_reducible rfl
                          rotate_left
                          · simp only [Act.put, List.setIfInBounds_toArray, List.set_cons_zero, List.set_cons_succ, i64_w, i32_w]
                            rfl
                          refine pure_ (i := 20) (N := some 97) (v := ?_) (a' := ?_) #[true, true, true, true, true, true, true, true, true, true, true, true, true, true, true, true, true, true, true, true, true, false, false, false, false, false, false, false, false, false, false, false, false, false, false, false, false, false, false, false, false] rfl rfl (any_of HT_.out (by kernel_rfl)) (fun _ _ _ h => h) (Or.inl ⟨by rfl, ?_⟩) ?_ ?_
                          rotate_left
                          · intro w'
                            go_simp
                            with_reducible rfl
                          rotate_left
                          · simp only [Act.put, List.setIfInBounds_toArray, List.set_cons_zero, List.set_cons_succ, i64_w, i32_w]
                            rfl
                          refine pure_ (i := 21) (N := some 98) (v := undef) (a' := ?_) #[true, true, true, true, true, true, true, true, true, true, true, true, true, true, true, true, true, true, true, true, true, true, false, false, false, false, false, false, false, false, false, false, false, false, false, false, false, false, false, false, false] rfl rfl (any_of HT_.out (by kernel_rfl)) (fun _ _ _ h => h) (Or.inr ⟨by rfl, rfl⟩) ?_ ?_
                          rotate_left
                          · simp only [Act.put, List.setIfInBounds_toArray, List.set_cons_zero, List.set_cons_succ, i64_w, i32_w]
                            rfl
                          refine pure_ (i := 22) (N := some 99) (v := ?_) (a' := ?_) #[true, true, true, true, true, true, true, true, true, true, true, true, true, true, true, true, true, true, true, true, true, true, true, false, false, false, false, false, false, false, false, false, false, false, false, false, false, false, false, false, false] rfl rfl (any_of HT_.out (by kernel_rfl)) (fun _ _ _ h => h) (Or.inl ⟨by rfl, ?_⟩) ?_ ?_
                          rotate_left
                          · intro w'
                            go_simp
                            with_reducible rfl
                          rotate_left
                          · simp only [Act.put, List.setIfInBounds_toArray, List.set_cons_zero, List.set_cons_succ, i64_w, i32_w]
                            rfl
                          refine pure_ (i := 23) (N := some 100) (v := ?_) (a' := ?_) #[true, true, true, true, true, true, true, true, true, true, true, true, true, true, true, true, true, true, true, true, true, true, true, true, false, false, false, false, false, false, false, false, false, false, false, false, false, false, false, false, false] rfl rfl (any_of HT_.out (by kernel_rfl)) (fun _ _ _ h => h) (Or.inl ⟨by rfl, ?_⟩) ?_ ?_
                          rotate_left
                          · intro w'
                            go_simp
                            with_reducible rfl
                          rotate_left
                          · simp only [Act.put, List.setIfInBounds_toArray, List.set_cons_zero, List.set_cons_succ, i64_w, i32_w]
                            rfl
                          refine pure_ (i := 24) (N := some 101) (v := ?_) (a' := ?_) #[true, true, true, true, true, true, true, true, true, true, true, true, true, true, true, true, true, true, true, true, true, true, true, true, true, false, false, false, false, false, false, false, false, false, false, false, false, false, false, false, false] rfl rfl (any_of HT_.out (by kernel_rfl)) (fun _ _ _ h => h) (Or.inl ⟨by rfl, ?_⟩) ?_ ?_
                          rotate_left
                          · intro w'
                            go_simp
                            with_reducible rfl
                          rotate_left
                          · simp only [Act.put, List.setIfInBounds_toArray, List.set_cons_zero, List.set_cons_succ, i64_w, i32_w]
                            rfl
                          refine pure_ (i := 25) (N := some 102) (v := ?_) (a' := ?_) #[true, true, true, true, true, true, true, true, true, true, true, true, true, true, true, true, true, true, true, true, true, true, true, true, true, true, false, false, false, false, false, false, false, false, false, false, false, false, false, false, false] rfl rfl (any_of HT_.out (by kernel_rfl)) (fun _ _ _ h => h) (Or.inl ⟨by rfl, ?_⟩) ?_ ?_
                          rotate_left
                          · intro w'
                            go_simp
                            with_reducible rfl
                          rotate_left
                          · simp only [Act.put, List.setIfInBounds_toArray, List.set_cons_zero, List.set_cons_succ, i64_w, i32_w]
                            rfl
                          refine take_ (i := 26) (N := some 103) (v := ?_) (a' := ?_) #[true, true, true, true, true, true, true, true, true, true, true, true, true, true, true, true, true, true, true, true, true, true, true, true, true, true, true, false, false, false, false, false, false, false, false, false, false, false, false, false, false] rfl rfl (take_ofW HT_.out HW_.out (by kernel_rfl)) (fun _ _ _ h => h) (Or.inl ⟨by rfl, ?_⟩) hHeld ?_ ?_
                          rotate_left
                          · rintro w' ⟨s0, s1, s2, s3, s4, s5, s6, s7, s8, s9, s10, s11, s12, s13⟩
                            go_simp
                            with_reducible rfl
                          rotate_left
                          · simp only [Act.put, List.setIfInBounds_toArray, List.set_cons_zero, List.set_cons_succ, i64_w, i32_w]
                            rfl
                          refine take_ (i := 27) (N := some 104) (v := ?_) (a' := ?_) #[true, true, true, true, true, true, true, true, true, true, true, true, true, true, true, true, true, true, true, true, true, true, true, true, true, true, true, true, false, false, false, false, false, false, false, false, false, false, false, false, false] rfl rfl (take_ofW HT_.out HW_.out (by kernel_rfl)) (fun _ _ _ h => h) (Or.inl ⟨by rfl, ?_⟩) hHeld ?_ ?_
                          rotate_left
                          · rintro w' ⟨s0, s1, s2, s3, s4, s5, s6, s7, s8, s9, s10, s11, s12, s13⟩
                            go_simp
                            with_reducible rfl
                          rotate_left
                          · simp only [Act.put, List.setIfInBounds_toArray, List.set_cons_zero, List.set_cons_succ, i64_w, i32_w]
                            rfl
                          refine take_ (i := 29) (N := some 106) (v := ?_) (a' := ?_) #[true, true, true, true, true, true, true, true, true, true, true, true, true, true, true, true, true, true, true, true, true, true, true, true, true, true, true, true, false, true, false, false, false, false, false, false, false, false, false, false, false] rfl rfl (take_ofW HT_.out HW_.out (by kernel_rfl)) (fun _ _ _ h => h) (Or.inl ⟨by rfl, ?_⟩) hHeld ?_ ?_
                          rotate_left
                          · rintro w' ⟨s0, s1, s2, s3, s4, s5, s6, s7, s8, s9, s10, s11, s12, s13⟩
                            go_simp
                            with_reducible rfl
                          rotate_left
                          · simp only [Act.put, List.setIfInBounds_toArray, List.set_cons_zero, List.set_cons_succ, i64_w, i32_w]
                            rfl
                          refine take_ (i := 30) (N := some 107) (v := ?_) (a' := ?_) #[true, true, true, true, true, true, true, true, true, true, true, true, true, true, true, true, true, true, true, true, true, true, true, true, true, true, true, true, false, true, true, false, false, false, false, false, false, false, false, false, false] rfl rfl (take_ofW HT_.out HW_.out (by kernel_rfl)) (fun _ _ _ h => h) (Or.inl ⟨by rfl, ?_⟩) hHeld ?_ ?_
                          rotate_left
                          · rintro w' ⟨s0, s1, s2, s3, s4, s5, s6, s7, s8, s9, s10, s11, s12, s13⟩
                            go_simp
                            with_reducible rfl
                          rotate_left
                          · simp only [Act.put, List.setIfInBounds_toArray, List.set_cons_zero, List.set_cons_succ, i64_w, i32_w]
                            rfl
                          refine one_ (i := 28) (N := some 105) #[true, true, true, true, true, true, true, true, true, true, true, true, true, true, true, true, true, true, true, true, true, true, true, true, true, true, true, true, true, true, true, false, false, false, false, false, false, false, false, false, false] rfl rfl (one_of HT_.out (by kernel_rfl)) (by decide) (fun K hK => ?_)
                          refine goes_ Try.func9 (by kernel_rfl) rfl #[.agg #[.int .i64 a1_0, .int .u64 a1_1, .int .i64 a1_2, .int .u64 a1_3, .int .i64 a1_4, .int .u64 a1_5, .slice A1_6 l1_6.length c1_6], .agg #[.int .i64 a0_0, .int .u64 a0_1, .int .i64 a0_2, .int .u64 a0_3, .int .i64 a0_4, .int .u64 a0_5, .slice A0_6 l0_6.length c0_6]] (by rfl) rfl rfl (by (try simp only [List.map_toArray, List.map_cons, List.map_nil]); first | done | rfl | (simp only [List.length_drop, List.length_take]; rfl)) ?_
                          with_reducible refine (slash_Bad.calls a1_0 a1_1 a1_2 a1_3 a1_4 a1_5 _ _ l1_6 a0_0 a0_1 a0_2 a0_3 a0_4 a0_5 _ _ l0_6 t125 _ ?side1 ?side2 ?side3 ?side4 A51.out).mono ?_
                          (case side1 => repeat (first | exact (Kd.C_below HR1_6.out HB.out) | (with_reducible refine Kd.C_alloc ?_ _) | (with_reducible refine Kd.C_drewN ?_ _) | (with_reducible refine Kd.C_drew ?_)))
                          (case side2 => exact HC1_6.out)
                          (case side3 => repeat (first | exact (Kd.C_below HR0_6.out HB.out) | (with_reducible refine Kd.C_alloc ?_ _) | (with_reducible refine Kd.C_drewN ?_ _) | (with_reducible refine Kd.C_drew ?_)))
                          (case side4 => exact HC0_6.out)
                          rintro e w59 ⟨rfl, hb⟩
                          refine ⟨_, rfl, ?_⟩
                          have n0_ := Aside0.mk (blk_below (g := gb119) (o := .cells #[.int .i64 a0_0, .int .u64 a0_1, .int .i64 a0_2, .int .u64 a0_3, .int .i64 a0_4, .int .u64 a0_5, .slice A0_6 l0_6.length c0_6] 27 (0, 0)) (by (with_reducible repeat (first | refine blk_drewN ?_ _ | refine blk_drew ?_ | refine blk_alloc ?_ _)); exact BK119.out) hb)
                          have n1_ := Aside0.mk (blk_below (g := gb120) (o := .cells #[.int .i64 a1_0, .int .u64 a1_1, .int .i64 a1_2, .int .u64 a1_3, .int .i64 a1_4, .int .u64 a1_5, .slice A1_6 l1_6.length c1_6] 27 (0, 0)) (by (with_reducible repeat (first | refine blk_drewN ?_ _ | refine blk_drew ?_ | refine blk_alloc ?_ _)); exact BK120.out) hb)
                          have n2_ := Aside0.mk (below_step (by repeat (first | (with_reducible first | exact HB.out | apply below_alloc | apply pw_below_drewN | apply below_drew1 | refine below_set ?_ GE119.out | refine below_set ?_ GE120.out) | exact HB.out)) hb)
                          clear BK119
                          clear BK120
                          clear HB
                          have BK119 := n0_
                          have BK120 := n1_
                          have HB := n2_
                          clear n0_ n1_ n2_
                          (try clear hb)
                          (try clear hb2)
                          (try clear hk)
                          (try clear hi)
                          refine hK.out _ _ ⟨(blk_cell BK119.out 0).trans rfl, (blk_cell BK119.out 1).trans rfl, (blk_cell BK119.out 2).trans rfl, (blk_cell BK119.out 3).trans rfl, (blk_cell BK119.out 4).trans rfl, (blk_cell BK119.out 5).trans rfl, (blk_cell BK119.out 6).trans rfl, (blk_cell BK120.out 0).trans rfl, (blk_cell BK120.out 1).trans rfl, (blk_cell BK120.out 2).trans rfl, (blk_cell BK120.out 3).trans rfl, (blk_cell BK120.out 4).trans rfl, (blk_cell BK120.out 5).trans rfl, (blk_cell BK120.out 6).trans rfl⟩ (fun hHeld => ?_)
                          clear hK K
                          refine norm_ (a' := ?_) ?_ ?_
                          rotate_left
                          · show Act.put _ (some 105) _ = _
                            simp only [Act.put, List.setIfInBounds_toArray, List.set_cons_zero, List.set_cons_succ, i64_w, i32_w]
                            rfl
                          refine one_ (i := 31) (N := some 108) #[true, true, true, true, true, true, true, true, true, true, true, true, true, true, true, true, true, true, true, true, true, true, true, true, true, true, true, true, true, true, true, true, false, false, false, false, false, false, false, false, false] rfl rfl (one_of HT_.out (by kernel_rfl)) (by decide) (fun K hK => ?_)
                          refine goes_ Try.func9 (by kernel_rfl) rfl #[.agg #[.int .i64 a0_0, .int .u64 a0_1, .int .i64 a0_2, .int .u64 a0_3, .int .i64 a0_4, .int .u64 a0_5, .slice A0_6 l0_6.length c0_6], .agg #[.int .i64 a1_0, .int .u64 a1_1, .int .i64 a1_2, .int .u64 a1_3, .int .i64 a1_4, .int .u64 a1_5, .slice A1_6 l1_6.length c1_6]] (by rfl) rfl rfl (by (try simp only [List.map_toArray, List.map_cons, List.map_nil]); first | done | rfl | (simp only [List.length_drop, List.length_take]; rfl)) ?_
                          with_reducible refine (slash_Bad.calls a0_0 a0_1 a0_2 a0_3 a0_4 a0_5 _ _ l0_6 a1_0 a1_1 a1_2 a1_3 a1_4 a1_5 _ _ l1_6 t126 _ ?side1 ?side2 ?side3 ?side4 A52.out).mono ?_
                          (case side1 => repeat (first | exact (Kd.C_below HR0_6.out HB.out) | (with_reducible refine Kd.C_alloc ?_ _) | (with_reducible refine Kd.C_drewN ?_ _) | (with_reducible refine Kd.C_drew ?_)))
                          (case side2 => exact HC0_6.out)
                          (case side3 => repeat (first | exact (Kd.C_below HR1_6.out HB.out) | (with_reducible refine Kd.C_alloc ?_ _) | (with_reducible refine Kd.C_drewN ?_ _) | (with_reducible refine Kd.C_drew ?_)))
                          (case side4 => exact HC1_6.out)
                          rintro e w60 ⟨rfl, hb⟩
                          refine ⟨_, rfl, ?_⟩
                          have n0_ := Aside0.mk (blk_below (g := gb119) (o := .cells #[.int .i64 a0_0, .int .u64 a0_1, .int .i64 a0_2, .int .u64 a0_3, .int .i64 a0_4, .int .u64 a0_5, .slice A0_6 l0_6.length c0_6] 27 (0, 0)) (by (with_reducible repeat (first | refine blk_drewN ?_ _ | refine blk_drew ?_ | refine blk_alloc ?_ _)); exact BK119.out) hb)
                          have n1_ := Aside0.mk (blk_below (g := gb120) (o := .cells #[.int .i64 a1_0, .int .u64 a1_1, .int .i64 a1_2, .int .u64 a1_3, .int .i64 a1_4, .int .u64 a1_5, .slice A1_6 l1_6.length c1_6] 27 (0, 0)) (by (with_reducible repeat (first | refine blk_drewN ?_ _ | refine blk_drew ?_ | refine blk_alloc ?_ _)); exact BK120.out) hb)
                          have n2_ := Aside0.mk (below_step (by repeat (first | (with_reducible first | exact HB.out | apply below_alloc | apply pw_below_drewN | apply below_drew1 | refine below_set ?_ GE119.out | refine below_set ?_ GE120.out) | exact HB.out)) hb)
                          clear BK119
                          clear BK120
                          clear HB
                          have BK119 := n0_
                          have BK120 := n1_
                          have HB := n2_
                          clear n0_ n1_ n2_
                          (try clear hb)
                          (try clear hb2)
                          (try clear hk)
                          (try clear hi)
                          refine hK.out _ _ ⟨(blk_cell BK119.out 0).trans rfl, (blk_cell BK119.out 1).trans rfl, (blk_cell BK119.out 2).trans rfl, (blk_cell BK119.out 3).trans rfl, (blk_cell BK119.out 4).trans rfl, (blk_cell BK119.out 5).trans rfl, (blk_cell BK119.out 6).trans rfl, (blk_cell BK120.out 0).trans rfl, (blk_cell BK120.out 1).trans rfl, (blk_cell BK120.out 2).trans rfl, (blk_cell BK120.out 3).trans rfl, (blk_cell BK120.out 4).trans rfl, (blk_cell BK120.out 5).trans rfl, (blk_cell BK120.out 6).trans rfl⟩ (fun hHeld => ?_)
                          clear hK K
                          refine norm_ (a' := ?_) ?_ ?_
                          rotate_left
                          · show Act.put _ (some 108) _ = _
                            simp only [Act.put, List.setIfInBounds_toArray, List.set_cons_zero, List.set_cons_succ, i64_w, i32_w]
                            rfl
                          refine pure_ (i := 32) (N := some 109) (v := ?_) (a' := ?_) #[true, true, true, true, true, true, true, true, true, true, true, true, true, true, true, true, true, true, true, true, true, true, true, true, true, true, true, true, true, true, true, true, true, false, false, false, false, false, false, false, false] rfl rfl (any_of HT_.out (by kernel_rfl)) (fun _ _ _ h => h) (Or.inl ⟨by rfl, ?_⟩) ?_ ?_
                          rotate_left
                          · intro w'
                            go_simp
                            with_reducible rfl
                          rotate_left
                          · simp only [Act.put, List.setIfInBounds_toArray, List.set_cons_zero, List.set_cons_succ, i64_w, i32_w]
                            rfl
                          refine pure_ (i := 33) (N := some 110) (v := ?_) (a' := ?_) #[true, true, true, true, true, true, true, true, true, true, true, true, true, true, true, true, true, true, true, true, true, true, true, true, true, true, true, true, true, true, true, true, true, true, false, false, false, false, false, false, false] rfl rfl (any_of HT_.out (by kernel_rfl)) (fun _ _ _ h => h) (Or.inl ⟨by rfl, ?_⟩) ?_ ?_
                          rotate_left
                          · intro w'
                            go_simp
                            with_reducible rfl
                          rotate_left
                          · simp only [Act.put, List.setIfInBounds_toArray, List.set_cons_zero, List.set_cons_succ, i64_w, i32_w]
                            rfl
                          refine pure_ (i := 34) (N := some 111) (v := ?_) (a' := ?_) #[true, true, true, true, true, true, true, true, true, true, true, true, true, true, true, true, true, true, true, true, true, true, true, true, true, true, true, true, true, true, true, true, true, true, true, false, false, false, false, false, false] rfl rfl (any_of HT_.out (by kernel_rfl)) (fun _ _ _ h => h) (Or.inl ⟨by rfl, ?_⟩) ?_ ?_
                          rotate_left
                          · intro w'
                            go_simp
                            with_reducible rfl
                          rotate_left
                          · simp only [Act.put, List.setIfInBounds_toArray, List.set_cons_zero, List.set_cons_succ, i64_w, i32_w]
                            rfl
                          refine take_ (i := 35) (N := some 112) (v := ?_) (a' := ?_) #[true, true, true, true, true, true, true, true, true, true, true, true, true, true, true, true, true, true, true, true, true, true, true, true, true, true, true, true, true, true, true, true, true, true, true, true, false, false, false, false, false] rfl rfl (take_ofW HT_.out HW_.out (by kernel_rfl)) (fun _ _ _ h => h) (Or.inl ⟨by rfl, ?_⟩) hHeld ?_ ?_
                          rotate_left
                          · rintro w' ⟨s0, s1, s2, s3, s4, s5, s6, s7, s8, s9, s10, s11, s12, s13⟩
                            go_simp
                            with_reducible rfl
                          rotate_left
                          · simp only [Act.put, List.setIfInBounds_toArray, List.set_cons_zero, List.set_cons_succ, i64_w, i32_w]
                            rfl
                          refine take_ (i := 36) (N := some 113) (v := ?_) (a' := ?_) #[true, true, true, true, true, true, true, true, true, true, true, true, true, true, true, true, true, true, true, true, true, true, true, true, true, true, true, true, true, true, true, true, true, true, true, true, true, false, false, false, false] rfl rfl (take_ofW HT_.out HW_.out (by kernel_rfl)) (fun _ _ _ h => h) (Or.inl ⟨by rfl, ?_⟩) hHeld ?_ ?_
                          rotate_left
                          · rintro w' ⟨s0, s1, s2, s3, s4, s5, s6, s7, s8, s9, s10, s11, s12, s13⟩
                            go_simp
                            with_reducible rfl
                          rotate_left
                          · simp only [Act.put, List.setIfInBounds_toArray, List.set_cons_zero, List.set_cons_succ, i64_w, i32_w]
                            rfl
                          refine one_ (i := 37) (N := some 114) #[true, true, true, true, true, true, true, true, true, true, true, true, true, true, true, true, true, true, true, true, true, true, true, true, true, true, true, true, true, true, true, true, true, true, true, true, true, true, false, false, false] rfl rfl (one_of HT_.out (by kernel_rfl)) (by decide) (fun K hK => ?_)
                          refine goes_ Try.func9 (by kernel_rfl) rfl #[.agg #[.int .i64 a0_0, .int .u64 a0_1, .int .i64 a0_2, .int .u64 a0_3, .int .i64 a0_4, .int .u64 a0_5, .slice A0_6 l0_6.length c0_6], .agg #[.int .i64 a0_0, .int .u64 a0_1, .int .i64 a0_2, .int .u64 a0_3, .int .i64 a0_4, .int .u64 a0_5, .slice A0_6 l0_6.length c0_6]] (by rfl) rfl rfl (by (try simp only [List.map_toArray, List.map_cons, List.map_nil]); first | done | rfl | (simp only [List.length_drop, List.length_take]; rfl)) ?_
                          with_reducible refine (slash_Bad.calls a0_0 a0_1 a0_2 a0_3 a0_4 a0_5 _ _ l0_6 a0_0 a0_1 a0_2 a0_3 a0_4 a0_5 _ _ l0_6 t127 _ ?side1 ?side2 ?side3 ?side4 A54.out).mono ?_
                          (case side1 => repeat (first | exact (Kd.C_below HR0_6.out HB.out) | (with_reducible refine Kd.C_alloc ?_ _) | (with_reducible refine Kd.C_drewN ?_ _) | (with_reducible refine Kd.C_drew ?_)))
                          (case side2 => exact HC0_6.out)
                          (case side3 => repeat (first | exact (Kd.C_below HR0_6.out HB.out) | (with_reducible refine Kd.C_alloc ?_ _) | (with_reducible refine Kd.C_drewN ?_ _) | (with_reducible refine Kd.C_drew ?_)))
                          (case side4 => exact HC0_6.out)
                          rintro e w61 ⟨rfl, hb⟩
                          refine ⟨_, rfl, ?_⟩
                          have n0_ := Aside0.mk (blk_below (g := gb119) (o := .cells #[.int .i64 a0_0, .int .u64 a0_1, .int .i64 a0_2, .int .u64 a0_3, .int .i64 a0_4, .int .u64 a0_5, .slice A0_6 l0_6.length c0_6] 27 (0, 0)) (by (with_reducible repeat (first | refine blk_drewN ?_ _ | refine blk_drew ?_ | refine blk_alloc ?_ _)); exact BK119.out) hb)
                          have n1_ := Aside0.mk (blk_below (g := gb120) (o := .cells #[.int .i64 a1_0, .int .u64 a1_1, .int .i64 a1_2, .int .u64 a1_3, .int .i64 a1_4, .int .u64 a1_5, .slice A1_6 l1_6.length c1_6] 27 (0, 0)) (by (with_reducible repeat (first | refine blk_drewN ?_ _ | refine blk_drew ?_ | refine blk_alloc ?_ _)); exact BK120.out) hb)
                          have n2_ := Aside0.mk (below_step (by repeat (first | (with_reducible first | exact HB.out | apply below_alloc | apply pw_below_drewN | apply below_drew1 | refine below_set ?_ GE119.out | refine below_set ?_ GE120.out) | exact HB.out)) hb)
                          clear BK119
                          clear BK120
                          clear HB
                          have BK119 := n0_
                          have BK120 := n1_
                          have HB := n2_
                          clear n0_ n1_ n2_
                          (try clear hb)
                          (try clear hb2)
                          (try clear hk)
                          (try clear hi)
                          refine hK.out _ _ ⟨(blk_cell BK119.out 0).trans rfl, (blk_cell BK119.out 1).trans rfl, (blk_cell BK119.out 2).trans rfl, (blk_cell BK119.out 3).trans rfl, (blk_cell BK119.out 4).trans rfl, (blk_cell BK119.out 5).trans rfl, (blk_cell BK119.out 6).trans rfl, (blk_cell BK120.out 0).trans rfl, (blk_cell BK120.out 1).trans rfl, (blk_cell BK120.out 2).trans rfl, (blk_cell BK120.out 3).trans rfl, (blk_cell BK120.out 4).trans rfl, (blk_cell BK120.out 5).trans rfl, (blk_cell BK120.out 6).trans rfl⟩ (fun hHeld => ?_)
                          clear hK K
                          refine norm_ (a' := ?_) ?_ ?_
                          rotate_left
                          · show Act.put _ (some 114) _ = _
                            simp only [Act.put, List.setIfInBounds_toArray, List.set_cons_zero, List.set_cons_succ, i64_w, i32_w]
                            rfl
                          refine pure_ (i := 38) (N := some 115) (v := ?_) (a' := ?_) #[true, true, true, true, true, true, true, true, true, true, true, true, true, true, true, true, true, true, true, true, true, true, true, true, true, true, true, true, true, true, true, true, true, true, true, true, true, true, true, false, false] rfl rfl (any_of HT_.out (by kernel_rfl)) (fun _ _ _ h => h) (Or.inl ⟨by rfl, ?_⟩) ?_ ?_
                          rotate_left
                          · intro w'
                            go_simp
                            with_reducible rfl
                          rotate_left
                          · simp only [Act.put, List.setIfInBounds_toArray, List.set_cons_zero, List.set_cons_succ, i64_w, i32_w]
                            rfl
                          refine pure_ (i := 39) (N := some 116) (v := ?_) (a' := ?_) #[true, true, true, true, true, true, true, true, true, true, true, true, true, true, true, true, true, true, true, true, true, true, true, true, true, true, true, true, true, true, true, true, true, true, true, true, true, true, true, true, false] rfl rfl (any_of HT_.out (by kernel_rfl)) (fun _ _ _ h => h) (Or.inl ⟨by rfl, ?_⟩) ?_ ?_
                          rotate_left
                          · intro w'
                            go_simp
                            with_reducible rfl
                          rotate_left
                          · simp only [Act.put, List.setIfInBounds_toArray, List.set_cons_zero, List.set_cons_succ, i64_w, i32_w]
                            rfl
                          refine pure_ (i := 40) (N := some 4) (v := ?_) (a' := ?_) #[true, true, true, true, true, true, true, true, true, true, true, true, true, true, true, true, true, true, true, true, true, true, true, true, true, true, true, true, true, true, true, true, true, true, true, true, true, true, true, true, true] rfl rfl (any_of HT_.out (by kernel_rfl)) (fun _ _ _ h => h) (Or.inl ⟨by rfl, ?_⟩) ?_ ?_
                          rotate_left
                          · intro w'
                            go_simp
                            with_reducible rfl
                          rotate_left
                          · simp only [Act.put, List.setIfInBounds_toArray, List.set_cons_zero, List.set_cons_succ, i64_w, i32_w]
                            rfl
                          refine done_ (done_of HT_.out (by kernel_rfl)) ?_
                          try go_wp2
                          go_ret
                          exact ⟨by first | rfl | (simp [errW_none, errW_some] <;> rfl) | (simp [*, errW_none, errW_some] <;> rfl), by repeat (first | (with_reducible first | exact HB.out | apply below_alloc | apply pw_below_drewN | apply below_drew1 | refine below_set ?_ GE119.out | refine below_set ?_ GE120.out) | exact HB.out)⟩
                        · rw [if_neg c53] at H
                          have c53b0 : (t125 == t126) = false := by simpa using c53
                          (try (have c53b1 : decide (t125 = t126) = false := by simpa using c53))
                          (try (have c53b2 : (t125 == t126) = false := by simpa using c53))
                          (try (have c53b3 : ¬ (t125 = t126) := by simpa using c53))
                          clear c53
                          exact absurd ((Option.some.inj H).trans hr_) Bool.false_ne_true
                      · rw [if_neg c50] at H
                        have c50b0 : (t124 == true) = false := by simpa using c50
                        (try (have c50b1 : decide (t124 = true) = false := by simpa using c50))
                        (try (have c50b2 : (t124 == true) = false := by simpa using c50))
                        (try (have c50b3 : ¬ (t124 = true) := by simpa using c50))
                        clear c50
                        exact absurd ((Option.some.inj H).trans hr_) Bool.false_ne_true
                    · replace c49 := Bool.eq_false_iff.mpr c49
                      subst c49
                      have H1 : (if x6_27 = true then (if (t124 == true) = true then ((slash_Bad.f a1_0 a1_1 a1_2 a1_3 a1_4 a1_5 l1_6 a0_0 a0_1 a0_2 a0_3 a0_4 a0_5 l0_6).bind fun t128 => ((slash_Bad.f a0_0 a0_1 a0_2 a0_3 a0_4 a0_5 l0_6 a1_0 a1_1 a1_2 a1_3 a1_4 a1_5 l1_6).bind fun t129 => (if (t128 == t129) = true then ((slash_Bad.f a0_0 a0_1 a0_2 a0_3 a0_4 a0_5 l0_6 a0_0 a0_1 a0_2 a0_3 a0_4 a0_5 l0_6).bind fun t130 => (some (!t130))) else (some false)))) else (some false)) else (if (t124 == x7_35) = true then ((slash_Bad.f a1_0 a1_1 a1_2 a1_3 a1_4 a1_5 l1_6 a0_0 a0_1 a0_2 a0_3 a0_4 a0_5 l0_6).bind fun t131 => ((slash_Bad.f a0_0 a0_1 a0_2 a0_3 a0_4 a0_5 l0_6 a1_0 a1_1 a1_2 a1_3 a1_4 a1_5 l1_6).bind fun t132 => (if (t131 == t132) = true then ((slash_Bad.f a0_0 a0_1 a0_2 a0_3 a0_4 a0_5 l0_6 a0_0 a0_1 a0_2 a0_3 a0_4 a0_5 l0_6).bind fun t133 => (some (!t133))) else (some false)))) else (some false))) = some r := by rw [if_neg (show ¬ (false = true) by decide)] at H; exact H
                      clear H
                      have H := H1
                      clear H1
                      by_cases c62 : x6_27 = true
                      · subst c62
                        have H1 : (if (t124 == true) = true then ((slash_Bad.f a1_0 a1_1 a1_2 a1_3 a1_4 a1_5 l1_6 a0_0 a0_1 a0_2 a0_3 a0_4 a0_5 l0_6).bind fun t128 => ((slash_Bad.f a0_0 a0_1 a0_2 a0_3 a0_4 a0_5 l0_6 a1_0 a1_1 a1_2 a1_3 a1_4 a1_5 l1_6).bind fun t129 => (if (t128 == t129) = true then ((slash_Bad.f a0_0 a0_1 a0_2 a0_3 a0_4 a0_5 l0_6 a0_0 a0_1 a0_2 a0_3 a0_4 a0_5 l0_6).bind fun t130 => (some (!t130))) else (some false)))) else (some false)) = some r := by rw [if_pos rfl] at H; exact H
                        clear H
                        have H := H1
                        clear H1
                        by_cases c63 : (t124 == true) = true
                        · rw [if_pos c63] at H
                          have c63b0 : (t124 == true) = true := c63
                          (try (have c63b1 : decide (t124 = true) = true := by simpa using c63))
                          (try (have c63b2 : (t124 == true) = true := by simpa using c63))
                          clear c63
                          replace H := Option.bind_eq_some_iff.mp H
                          obtain ⟨t128, A640, H⟩ := H
                          replace H : ((slash_Bad.f a0_0 a0_1 a0_2 a0_3 a0_4 a0_5 l0_6 a1_0 a1_1 a1_2 a1_3 a1_4 a1_5 l1_6).bind fun t129 => (if (t128 == t129) = true then ((slash_Bad.f a0_0 a0_1 a0_2 a0_3 a0_4 a0_5 l0_6 a0_0 a0_1 a0_2 a0_3 a0_4 a0_5 l0_6).bind fun t130 => (some (!t130))) else (some false))) = some r := H
                          have A64 := Aside0.mk A640
                          clear A640
                          replace H := Option.bind_eq_some_iff.mp H
                          obtain ⟨t129, A650, H⟩ := H
                          replace H : (if (t128 == t129) = true then ((slash_Bad.f a0_0 a0_1 a0_2 a0_3 a0_4 a0_5 l0_6 a0_0 a0_1 a0_2 a0_3 a0_4 a0_5 l0_6).bind fun t130 => (some (!t130))) else (some false)) = some r := H
                          have A65 := Aside0.mk A650
                          clear A650
                          by_cases c66 : (t128 == t129) = true
                          · rw [if_pos c66] at H
                            have c66b0 : (t128 == t129) = true := c66
                            (try (have c66b1 : decide (t128 = t129) = true := by simpa using c66))
                            (try (have c66b2 : (t128 == t129) = true := by simpa using c66))
                            clear c66
                            replace H := Option.bind_eq_some_iff.mp H
                            obtain ⟨t130, A670, H⟩ := H
                            replace H : (some (!t130)) = some r := H
                            have A67 := Aside0.mk A670
                            clear A670
                            obtain rfl := Option.some.inj H
                            try go_wp2
                            have n0_ := Aside0.mk (blk_drew BK119.out)
                            have n1_ := Aside0.mk (blk_drew BK120.out)
                            have n2_ := Aside0.mk (below_drew1 HB.out)
                            clear BK119
                            clear BK120
                            clear HB
                            have BK119 := n0_
                            have BK120 := n1_
                            have HB := n2_
                            clear n0_ n1_ n2_
                            refine start_ (n := 41) (S := fun w' => w'.cell? ⟨gb119, 0, none⟩ = some (.int .i64 a0_0) ∧ w'.cell? ⟨gb119, 1, none⟩ = some (.int .u64 a0_1) ∧ w'.cell? ⟨gb119, 2, none⟩ = some (.int .i64 a0_2) ∧ w'.cell? ⟨gb119, 3, none⟩ = some (.int .u64 a0_3) ∧ w'.cell? ⟨gb119, 4, none⟩ = some (.int .i64 a0_4) ∧ w'.cell? ⟨gb119, 5, none⟩ = some (.int .u64 a0_5) ∧ w'.cell? ⟨gb119, 6, none⟩ = some (.slice A0_6 l0_6.length c0_6) ∧ w'.cell? ⟨gb120, 0, none⟩ = some (.int .i64 a1_0) ∧ w'.cell? ⟨gb120, 1, none⟩ = some (.int .u64 a1_1) ∧ w'.cell? ⟨gb120, 2, none⟩ = some (.int .i64 a1_2) ∧ w'.cell? ⟨gb120, 3, none⟩ = some (.int .u64 a1_3) ∧ w'.cell? ⟨gb120, 4, none⟩ = some (.int .i64 a1_4) ∧ w'.cell? ⟨gb120, 5, none⟩ = some (.int .u64 a1_5) ∧ w'.cell? ⟨gb120, 6, none⟩ = some (.slice A1_6 l1_6.length c1_6)) (ds := []) #[false, false, false, false, false, false, false, false, false, false, false, false, false, false, false, false, false, false, false, false, false, false, false, false, false, false, false, false, false, false, false, false, false, false, false, false, false, false, false, false, false] (by kernel_rfl) rfl rfl ⟨(blk_cell BK119.out 0).trans rfl, (blk_cell BK119.out 1).trans rfl, (blk_cell BK119.out 2).trans rfl, (blk_cell BK119.out 3).trans rfl, (blk_cell BK119.out 4).trans rfl, (blk_cell BK119.out 5).trans rfl, (blk_cell BK119.out 6).trans rfl, (blk_cell BK120.out 0).trans rfl, (blk_cell BK120.out 1).trans rfl, (blk_cell BK120.out 2).trans rfl, (blk_cell BK120.out 3).trans rfl, (blk_cell BK120.out 4).trans rfl, (blk_cell BK120.out 5).trans rfl, (blk_cell BK120.out 6).trans rfl⟩ (fun hHeld => ?_); refine with_tabW psephoslaw06_SlashBad.tab6 psephoslaw06_SlashBad.bits6 (fun HT_ HW_ => ?_)
                            generalize wc.drew = w68 at BK119 BK120 HB hHeld ⊢
                            refine pure_ (i := 3) (N := some 80) (v := ?_) (a' := ?_) #[false, false, false, true, false, false, false, false, false, false, false, false, false, false, false, false, false, false, false, false, false, false, false, false, false, false, false, false, false, false, false, false, false, false, false, false, false, false, false, false, false] rfl rfl (any_of HT_.out (by kernel_rfl)) (fun _ _ _ h => h) (Or.inl ⟨by rfl, ?_⟩) ?_ ?_
                            rotate_left
                            · intro w'
                              go_simp
                              with_reducible rfl
                            rotate_left
                            · simp only [Act.put, List.setIfInBounds_toArray, List.set_cons_zero, List.set_cons_succ, i64_w, i32_w]
                              rfl
                            refine take_ (i := 0) (N := some 77) (v := ?_) (a' := ?_) #[true, false, false, true, false, false, false, false, false, false, false, false, false, false, false, false, false, false, false, false, false, false, false, false, false, false, false, false, false, false, false, false, false, false, false, false, false, false, false, false, false] rfl rfl (take_ofW HT_.out HW_.out (by kernel_rfl)) (fun _ _ _ h => h) (Or.inl ⟨by rfl, ?_⟩) hHeld ?_ ?_
                            rotate_left
                            · rintro w' ⟨s0, s1, s2, s3, s4, s5, s6, s7, s8, s9, s10, s11, s12, s13⟩
                              go_simp
                              with_reducible rfl
                            rotate_left
                            · simp only [Act.put, List.setIfInBounds_toArray, List.set_cons_zero, List.set_cons_succ, i64_w, i32_w]
                              rfl
                            refine take_ (i := 1) (N := some 78) (v := ?_) (a' := ?_) #[true, true, false, true, false, false, false, false, false, false, false, false, false, false, false, false, false, false, false, false, false, false, false, false, false, false, false, false, false, false, false, false, false, false, false, false, false, false, false, false, false] rfl rfl (take_ofW HT_.out HW_.out (by kernel_rfl)) (fun _ _ _ h => h) (Or.inl ⟨by rfl, ?_⟩) hHeld ?_ ?_
                            rotate_left
                            · rintro w' ⟨s0, s1, s2, s3, s4, s5, s6, s7, s8, s9, s10, s11, s12, s13⟩
                              go_simp
                              with_reducible rfl
                            rotate_left
                            · simp only [Act.put, List.setIfInBounds_toArray, List.set_cons_zero, List.set_cons_succ, i64_w, i32_w]
                              rfl
                            refine one_ (i := 2) (N := some 79) #[true, true, true, true, false, false, false, false, false, false, false, false, false, false, false, false, false, false, false, false, false, false, false, false, false, false, false, false, false, false, false, false, false, false, false, false, false, false, false, false, false] rfl rfl (one_of HT_.out (by kernel_rfl)) (by decide) (fun K hK => ?_)
                            refine goes_ Try.func7 (by kernel_rfl) rfl #[.agg #[.int .i64 a0_0, .int .u64 a0_1, .int .i64 a0_2, .int .u64 a0_3, .int .i64 a0_4, .int .u64 a0_5, .slice A0_6 l0_6.length c0_6], .agg #[.int .i64 a1_0, .int .u64 a1_1, .int .i64 a1_2, .int .u64 a1_3, .int .i64 a1_4, .int .u64 a1_5, .slice A1_6 l1_6.length c1_6]] (by rfl) rfl rfl (by (try simp only [List.map_toArray, List.map_cons, List.map_nil]); first | done | rfl | (simp only [List.length_drop, List.length_take]; rfl)) ?_
                            with_reducible refine (slash_Double.calls a0_0 a0_1 a0_2 a0_3 a0_4 a0_5 _ _ l0_6 a1_0 a1_1 a1_2 a1_3 a1_4 a1_5 _ _ l1_6 t122 _ ?side1 ?side2 ?side3 ?side4 A44.out).mono ?_
                            (case side1 => repeat (first | exact (Kd.C_below HR0_6.out HB.out) | (with_reducible refine Kd.C_alloc ?_ _) | (with_reducible refine Kd.C_drewN ?_ _) | (with_reducible refine Kd.C_drew ?_)))
                            (case side2 => exact HC0_6.out)
                            (case side3 => repeat (first | exact (Kd.C_below HR1_6.out HB.out) | (with_reducible refine Kd.C_alloc ?_ _) | (with_reducible refine Kd.C_drewN ?_ _) | (with_reducible refine Kd.C_drew ?_)))
                            (case side4 => exact HC1_6.out)
                            rintro e w69 ⟨rfl, hb⟩
                            refine ⟨_, rfl, ?_⟩
                            have n0_ := Aside0.mk (blk_below (g := gb119) (o := .cells #[.int .i64 a0_0, .int .u64 a0_1, .int .i64 a0_2, .int .u64 a0_3, .int .i64 a0_4, .int .u64 a0_5, .slice A0_6 l0_6.length c0_6] 27 (0, 0)) (by (with_reducible repeat (first | refine blk_drewN ?_ _ | refine blk_drew ?_ | refine blk_alloc ?_ _)); exact BK119.out) hb)
                            have n1_ := Aside0.mk (blk_below (g := gb120) (o := .cells #[.int .i64 a1_0, .int .u64 a1_1, .int .i64 a1_2, .int .u64 a1_3, .int .i64 a1_4, .int .u64 a1_5, .slice A1_6 l1_6.length c1_6] 27 (0, 0)) (by (with_reducible repeat (first | refine blk_drewN ?_ _ | refine blk_drew ?_ | refine blk_alloc ?_ _)); exact BK120.out) hb)
                            have n2_ := Aside0.mk (below_step (by repeat (first | (with_reducible first | exact HB.out | apply below_alloc | apply pw_below_drewN | apply below_drew1 | refine below_set ?_ GE119.out | refine below_set ?_ GE120.out) | exact HB.out)) hb)
                            clear BK119
                            clear BK120
                            clear HB
                            have BK119 := n0_
                            have BK120 := n1_
                            have HB := n2_
                            clear n0_ n1_ n2_
                            (try clear hb)
                            (try clear hb2)
                            (try clear hk)
                            (try clear hi)
                            refine hK.out _ _ ⟨(blk_cell BK119.out 0).trans rfl, (blk_cell BK119.out 1).trans rfl, (blk_cell BK119.out 2).trans rfl, (blk_cell BK119.out 3).trans rfl, (blk_cell BK119.out 4).trans rfl, (blk_cell BK119.out 5).trans rfl, (blk_cell BK119.out 6).trans rfl, (blk_cell BK120.out 0).trans rfl, (blk_cell BK120.out 1).trans rfl, (blk_cell BK120.out 2).trans rfl, (blk_cell BK120.out 3).trans rfl, (blk_cell BK120.out 4).trans rfl, (blk_cell BK120.out 5).trans rfl, (blk_cell BK120.out 6).trans rfl⟩ (fun hHeld => ?_)
                            clear hK K
                            refine norm_ (a' := ?_) ?_ ?_
                            rotate_left
                            · show Act.put _ (some 79) _ = _
                              simp only [Act.put, List.setIfInBounds_toArray, List.set_cons_zero, List.set_cons_succ, i64_w, i32_w]
                              rfl
                            refine pure_ (i := 4) (N := some 81) (v := ?_) (a' := ?_) #[true, true, true, true, true, false, false, false, false, false, false, false, false, false, false, false, false, false, false, false, false, false, false, false, false, false, false, false, false, false, false, false, false, false, false, false, false, false, false, false, false] rfl rfl (any_of HT_.out (by kernel_rfl)) (fun _ _ _ h => h) (Or.inl ⟨by rfl, ?_⟩) ?_ ?_
                            rotate_left
                            · intro w'
                              go_simp
                              with_reducible rfl
                            rotate_left
                            · simp only [Act.put, List.setIfInBounds_toArray, List.set_cons_zero, List.set_cons_succ, i64_w, i32_w]
                              rfl
                            refine pure_ (i := 5) (N := some 82) (v := ?_) (a' := ?_) #[true, true, true, true, true, true, false, false, false, false, false, false, false, false, false, false, false, false, false, false, false, false, false, false, false, false, false, false, false, false, false, false, false, false, false, false, false, false, false, false, false] rfl rfl (any_of HT_.out (by kernel_rfl)) (fun _ _ _ h => h) (Or.inl ⟨by rfl, ?_⟩) ?_ ?_
                            rotate_left
                            · intro w'
                              go_simp
                              with_reducible rfl
                            rotate_left
                            · simp only [Act.put, List.setIfInBounds_toArray, List.set_cons_zero, List.set_cons_succ, i64_w, i32_w]
                              rfl
                            refine pure_ (i := 9) (N := some 86) (v := ?_) (a' := ?_) #[true, true, true, true, true, true, false, false, false, true, false, false, false, false, false, false, false, false, false, false, false, false, false, false, false, false, false, false, false, false, false, false, false, false, false, false, false, false, false, false, false] rfl rfl (any_of HT_.out (by kernel_rfl)) (fun _ _ _ h => h) (Or.inl ⟨by rfl, ?_⟩) ?_ ?_
                            rotate_left
                            · intro w'
                              go_simp
                              with_reducible rfl
                            rotate_left
                            · simp only [Act.put, List.setIfInBounds_toArray, List.set_cons_zero, List.set_cons_succ, i64_w, i32_w]
                              rfl
                            refine take_ (i := 6) (N := some 83) (v := ?_) (a' := ?_) #[true, true, true, true, true, true, true, false, false, true, false, false, false, false, false, false, false, false, false, false, false, false, false, false, false, false, false, false, false, false, false, false, false, false, false, false, false, false, false, false, false] rfl rfl (take_ofW HT_.out HW_.out (by kernel_rfl)) (fun _ _ _ h => h) (Or.inl ⟨by rfl, ?_⟩) hHeld ?_ ?_
                            rotate_left
                            · rintro w' ⟨s0, s1, s2, s3, s4, s5, s6, s7, s8, s9, s10, s11, s12, s13⟩
                              go_simp
                              with_reducible rfl
                            rotate_left
                            · simp only [Act.put, List.setIfInBounds_toArray, List.set_cons_zero, List.set_cons_succ, i64_w, i32_w]
                              rfl
                            refine take_ (i := 7) (N := some 84) (v := ?_) (a' := ?_) #[true, true, true, true, true, true, true, true, false, true, false, false, false, false, false, false, false, false, false, false, false, false, false, false, false, false, false, false, false, false, false, false, false, false, false, false, false, false, false, false, false] rfl rfl (take_ofW HT_.out HW_.out (by kernel_rfl)) (fun _ _ _ h => h) (Or.inl ⟨by rfl, ?_⟩) hHeld ?_ ?_
                            rotate_left
                            · rintro w' ⟨s0, s1, s2, s3, s4, s5, s6, s7, s8, s9, s10, s11, s12, s13⟩
                              go_simp
                              with_reducible rfl
                            rotate_left
                            · simp only [Act.put, List.setIfInBounds_toArray, List.set_cons_zero, List.set_cons_succ, i64_w, i32_w]
                              rfl
                            refine one_ (i := 8) (N := some 85) #[true, true, true, true, true, true, true, true, true, true, false, false, false, false, false, false, false, false, false, false, false, false, false, false, false, false, false, false, false, false, false, false, false, false, false, false, false, false, false, false, false] rfl rfl (one_of HT_.out (by kernel_rfl)) (by decide) (fun K hK => ?_)
                            refine goes_ Try.func8 (by kernel_rfl) rfl #[.agg #[.int .i64 a0_0, .int .u64 a0_1, .int .i64 a0_2, .int .u64 a0_3, .int .i64 a0_4, .int .u64 a0_5, .slice A0_6 l0_6.length c0_6], .agg #[.int .i64 a1_0, .int .u64 a1_1, .int .i64 a1_2, .int .u64 a1_3, .int .i64 a1_4, .int .u64 a1_5, .slice A1_6 l1_6.length c1_6]] (by rfl) rfl rfl (by (try simp only [List.map_toArray, List.map_cons, List.map_nil]); first | done | rfl | (simp only [List.length_drop, List.length_take]; rfl)) ?_
                            with_reducible refine (slash_Around.calls a0_0 a0_1 a0_2 a0_3 a0_4 a0_5 _ _ l0_6 a1_0 a1_1 a1_2 a1_3 a1_4 a1_5 _ _ l1_6 t123 _ ?side1 ?side2 ?side3 ?side4 A46.out).mono ?_
                            (case side1 => repeat (first | exact (Kd.C_below HR0_6.out HB.out) | (with_reducible refine Kd.C_alloc ?_ _) | (with_reducible refine Kd.C_drewN ?_ _) | (with_reducible refine Kd.C_drew ?_)))
                            (case side2 => exact HC0_6.out)
                            (case side3 => repeat (first | exact (Kd.C_below HR1_6.out HB.out) | (with_reducible refine Kd.C_alloc ?_ _) | (with_reducible refine Kd.C_drewN ?_ _) | (with_reducible refine Kd.C_drew ?_)))
                            (case side4 => exact HC1_6.out)
                            rintro e w70 ⟨rfl, hb⟩
                            refine ⟨_, rfl, ?_⟩
                            have n0_ := Aside0.mk (blk_below (g := gb119) (o := .cells #[.int .i64 a0_0, .int .u64 a0_1, .int .i64 a0_2, .int .u64 a0_3, .int .i64 a0_4, .int .u64 a0_5, .slice A0_6 l0_6.length c0_6] 27 (0, 0)) (by (with_reducible repeat (first | refine blk_drewN ?_ _ | refine blk_drew ?_ | refine blk_alloc ?_ _)); exact BK119.out) hb)
                            have n1_ := Aside0.mk (blk_below (g := gb120) (o := .cells #[.int .i64 a1_0, .int .u64 a1_1, .int .i64 a1_2, .int .u64 a1_3, .int .i64 a1_4, .int .u64 a1_5, .slice A1_6 l1_6.length c1_6] 27 (0, 0)) (by (with_reducible repeat (first | refine blk_drewN ?_ _ | refine blk_drew ?_ | refine blk_alloc ?_ _)); exact BK120.out) hb)
                            have n2_ := Aside0.mk (below_step (by repeat (first | (with_reducible first | exact HB.out | apply below_alloc | apply pw_below_drewN | apply below_drew1 | refine below_set ?_ GE119.out | refine below_set ?_ GE120.out) | exact HB.out)) hb)
                            clear BK119
                            clear BK120
                            clear HB
                            have BK119 := n0_
                            have BK120 := n1_
                            have HB := n2_
                            clear n0_ n1_ n2_
                            (try clear hb)
                            (try clear hb2)
                            (try clear hk)
                            (try clear hi)
                            refine hK.out _ _ ⟨(blk_cell BK119.out 0).trans rfl, (blk_cell BK119.out 1).trans rfl, (blk_cell BK119.out 2).trans rfl, (blk_cell BK119.out 3).trans rfl, (blk_cell BK119.out 4).trans rfl, (blk_cell BK119.out 5).trans rfl, (blk_cell BK119.out 6).trans rfl, (blk_cell BK120.out 0).trans rfl, (blk_cell BK120.out 1).trans rfl, (blk_cell BK120.out 2).trans rfl, (blk_cell BK120.out 3).trans rfl, (blk_cell BK120.out 4).trans rfl, (blk_cell BK120.out 5).trans rfl, (blk_cell BK120.out 6).trans rfl⟩ (fun hHeld => ?_)
                            clear hK K
                            refine norm_ (a' := ?_) ?_ ?_
                            rotate_left
                            · show Act.put _ (some 85) _ = _
                              simp only [Act.put, List.setIfInBounds_toArray, List.set_cons_zero, List.set_cons_succ, i64_w, i32_w]
                              rfl
                            refine pure_ (i := 10) (N := some 87) (v := ?_) (a' := ?_) #[true, true, true, true, true, true, true, true, true, true, true, false, false, false, false, false, false, false, false, false, false, false, false, false, false, false, false, false, false, false, false, false, false, false, false, false, false, false, false, false, false] rfl rfl (any_of HT_.out (by kernel_rfl)) (fun _ _ _ h => h) (Or.inl ⟨by rfl, ?_⟩) ?_ ?_
                            rotate_left
                            · intro w'
                              go_simp
                              with_reducible rfl
                            rotate_left
                            · simp only [Act.put, List.setIfInBounds_toArray, List.set_cons_zero, List.set_cons_succ, i64_w, i32_w]
                              rfl
                            refine pure_ (i := 11) (N := some 88) (v := ?_) (a' := ?_) #[true, true, true, true, true, true, true, true, true, true, true, true, false, false, false, false, false, false, false, false, false, false, false, false, false, false, false, false, false, false, false, false, false, false, false, false, false, false, false, false, false] rfl rfl (any_of HT_.out (by kernel_rfl)) (fun _ _ _ h => h) (Or.inl ⟨by rfl, ?_⟩) ?_ ?_
                            rotate_left
                            · intro w'
                              go_simp
                              with_reducible rfl
                            rotate_left
                            · simp only [Act.put, List.setIfInBounds_toArray, List.set_cons_zero, List.set_cons_succ, i64_w, i32_w]
                              rfl
                            refine pure_ (i := 12) (N := some 89) (v := ?_) (a' := ?_) #[true, true, true, true, true, true, true, true, true, true, true, true, true, false, false, false, false, false, false, false, false, false, false, false, false, false, false, false, false, false, false, false, false, false, false, false, false, false, false, false, false] rfl rfl (any_of HT_.out (by kernel_rfl)) (fun _ _ _ h => h) (Or.inl ⟨by rfl, ?_⟩) ?_ ?_
                            rotate_left
                            · intro w'
                              go_simp
                              with_reducible rfl
                            rotate_left
                            · simp only [Act.put, List.setIfInBounds_toArray, List.set_cons_zero, List.set_cons_succ, i64_w, i32_w]
                              rfl
                            refine pure_ (i := 16) (N := some 93) (v := ?_) (a' := ?_) #[true, true, true, true, true, true, true, true, true, true, true, true, true, false, false, false, true, false, false, false, false, false, false, false, false, false, false, false, false, false, false, false, false, false, false, false, false, false, false, false, false] rfl rfl (any_of HT_.out (by kernel_rfl)) (fun _ _ _ h => h) (Or.inl ⟨by rfl, ?_⟩) ?_ ?_
                            rotate_left
                            · intro w'
                              go_simp
                              with_reducible rfl
                            rotate_left
                            · simp only [Act.put, List.setIfInBounds_toArray, List.set_cons_zero, List.set_cons_succ, i64_w, i32_w]
                              rfl
                            refine take_ (i := 13) (N := some 90) (v := ?_) (a' := ?_) #[true, true, true, true, true, true, true, true, true, true, true, true, true, true, false, false, true, false, false, false, false, false, false, false, false, false, false, false, false, false, false, false, false, false, false, false, false, false, false, false, false] rfl rfl (take_ofW HT_.out HW_.out (by kernel_rfl)) (fun _ _ _ h => h) (Or.inl ⟨by rfl, ?_⟩) hHeld ?_ ?_
                            rotate_left
                            · rintro w' ⟨s0, s1, s2, s3, s4, s5, s6, s7, s8, s9, s10, s11, s12, s13⟩
                              go_simp
                              with_reducible rfl
                            rotate_left
                            · simp only [Act.put, List.setIfInBounds_toArray, List.set_cons_zero, List.set_cons_succ, i64_w, i32_w]
                              rfl
                            refine take_ (i := 14) (N := some 91) (v := ?_) (a' := ?_) #[true, true, true, true, true, true, true, true, true, true, true, true, true, true, true, false, true, false, false, false, false, false, false, false, false, false, false, false, false, false, false, false, false, false, false, false, false, false, false, false, false] rfl rfl (take_ofW HT_.out HW_.out (by kernel_rfl)) (fun _ _ _ h => h) (Or.inl ⟨by rfl, ?_⟩) hHeld ?_ ?_
                            rotate_left
                            · rintro w' ⟨s0, s1, s2, s3, s4, s5, s6, s7, s8, s9, s10, s11, s12, s13⟩
                              go_simp
                              with_reducible rfl
                            rotate_left
                            · simp only [Act.put, List.setIfInBounds_toArray, List.set_cons_zero, List.set_cons_succ, i64_w, i32_w]
                              rfl
                            refine one_ (i := 15) (N := some 92) #[true, true, true, true, true, true, true, true, true, true, true, true, true, true, true, true, true, false, false, false, false, false, false, false, false, false, false, false, false, false, false, false, false, false, false, false, false, false, false, false, false] rfl rfl (one_of HT_.out (by kernel_rfl)) (by decide) (fun K hK => ?_)
                            refine goes_ Try.func9 (by kernel_rfl) rfl #[.agg #[.int .i64 a0_0, .int .u64 a0_1, .int .i64 a0_2, .int .u64 a0_3, .int .i64 a0_4, .int .u64 a0_5, .slice A0_6 l0_6.length c0_6], .agg #[.int .i64 a1_0, .int .u64 a1_1, .int .i64 a1_2, .int .u64 a1_3, .int .i64 a1_4, .int .u64 a1_5, .slice A1_6 l1_6.length c1_6]] (by rfl) rfl rfl (by (try simp only [List.map_toArray, List.map_cons, List.map_nil]); first | done | rfl | (simp only [List.length_drop, List.length_take]; rfl)) ?_
                            with_reducible refine (slash_Bad.calls a0_0 a0_1 a0_2 a0_3 a0_4 a0_5 _ _ l0_6 a1_0 a1_1 a1_2 a1_3 a1_4 a1_5 _ _ l1_6 t124 _ ?side1 ?side2 ?side3 ?side4 A48.out).mono ?_
                            (case side1 => repeat (first | exact (Kd.C_below HR0_6.out HB.out) | (with_reducible refine Kd.C_alloc ?_ _) | (with_reducible refine Kd.C_drewN ?_ _) | (with_reducible refine Kd.C_drew ?_)))
                            (case side2 => exact HC0_6.out)
                            (case side3 => repeat (first | exact (Kd.C_below HR1_6.out HB.out) | (with_reducible refine Kd.C_alloc ?_ _) | (with_reducible refine Kd.C_drewN ?_ _) | (with_reducible refine Kd.C_drew ?_)))
                            (case side4 => exact HC1_6.out)
                            rintro e w71 ⟨rfl, hb⟩
                            refine ⟨_, rfl, ?_⟩
                            have n0_ := Aside0.mk (blk_below (g := gb119) (o := .cells #[.int .i64 a0_0, .int .u64 a0_1, .int .i64 a0_2, .int .u64 a0_3, .int .i64 a0_4, .int .u64 a0_5, .slice A0_6 l0_6.length c0_6] 27 (0, 0)) (by (with_reducible repeat (first | refine blk_drewN ?_ _ | refine blk_drew ?_ | refine blk_alloc ?_ _)); exact BK119.out) hb)
                            have n1_ := Aside0.mk (blk_below (g := gb120) (o := .cells #[.int .i64 a1_0, .int .u64 a1_1, .int .i64 a1_2, .int .u64 a1_3, .int .i64 a1_4, .int .u64 a1_5, .slice A1_6 l1_6.length c1_6] 27 (0, 0)) (by (with_reducible repeat (first | refine blk_drewN ?_ _ | refine blk_drew ?_ | refine blk_alloc ?_ _)); exact BK120.out) hb)
                            have n2_ := Aside0.mk (below_step (by repeat (first | (with_reducible first | exact HB.out | apply below_alloc | apply pw_below_drewN | apply below_drew1 | refine below_set ?_ GE119.out | refine below_set ?_ GE120.out) | exact HB.out)) hb)
                            clear BK119
                            clear BK120
                            clear HB
                            have BK119 := n0_
                            have BK120 := n1_
                            have HB := n2_
                            clear n0_ n1_ n2_
                            (try clear hb)
                            (try clear hb2)
                            (try clear hk)
                            (try clear hi)
                            refine hK.out _ _ ⟨(blk_cell BK119.out 0).trans rfl, (blk_cell BK119.out 1).trans rfl, (blk_cell BK119.out 2).trans rfl, (blk_cell BK119.out 3).trans rfl, (blk_cell BK119.out 4).trans rfl, (blk_cell BK119.out 5).trans rfl, (blk_cell BK119.out 6).trans rfl, (blk_cell BK120.out 0).trans rfl, (blk_cell BK120.out 1).trans rfl, (blk_cell BK120.out 2).trans rfl, (blk_cell BK120.out 3).trans rfl, (blk_cell BK120.out 4).trans rfl, (blk_cell BK120.out 5).trans rfl, (blk_cell BK120.out 6).trans rfl⟩ (fun hHeld => ?_)
                            clear hK K
                            refine norm_ (a' := ?_) ?_ ?_
                            rotate_left
                            · show Act.put _ (some 92) _ = _
                              simp only [Act.put, List.setIfInBounds_toArray, List.set_cons_zero, List.set_cons_succ, i64_w, i32_w]
                              rfl
                            refine pure_ (i := 17) (N := some 94) (v := ?_) (a' := ?_) #[true, true, true, true, true, true, true, true, true, true, true, true, true, true, true, true, true, true, false, false, false, false, false, false, false, false, false, false, false, false, false, false, false, false, false, false, false, false, false, false, false] rfl rfl (any_of HT_.out (by kernel_rfl)) (fun _ _ _ h => h) (Or.inl ⟨by rfl, ?_⟩) ?_ ?_
                            rotate_left
                            · intro w'
                              go_simp
                              with_reducible rfl
                            rotate_left
                            · simp only [Act.put, List.setIfInBounds_toArray, List.set_cons_zero, List.set_cons_succ, i64_w, i32_w]
                              rfl
                            refine pure_ (i := 18) (N := some 95) (v := ?_) (a' := ?_) #[true, true, true, true, true, true, true, true, true, true, true, true, true, true, true, true, true, true, true, false, false, false, false, false, false, false, false, false, false, false, false, false, false, false, false, false, false, false, false, false, false] rfl rfl (any_of HT_.out (by kernel_rfl)) (fun _ _ _ h => h) (Or.inl ⟨by rfl, ?_⟩) ?_ ?_
                            rotate_left
                            · intro w'
                              go_simp
                              with_reducible rfl
                            rotate_left
                            · simp only [Act.put, List.setIfInBounds_toArray, List.set_cons_zero, List.set_cons_succ, i64_w, i32_w]
                              rfl
                            refine pure_ (i := 19) (N := some 96) (v := ?_) (a' := ?_) #[true, true, true, true, true, true, true, true, true, true, true, true, true, true, true, true, true, true, true, true, false, false, false, false, false, false, false, false, false, false, false, false, false, false, false, false, false, false, false, false, false] rfl rfl (any_of HT_.out (by kernel_rfl)) (fun _ _ _ h => h) (Or.inl ⟨by rfl, ?_⟩) ?_ ?_
                            rotate_left
                            · intro w'
                              go_simp
                              with_reducible rfl
                            rotate_left
                            · simp only [Act.put, List.setIfInBounds_toArray, List.set_cons_zero, List.set_cons_succ, i64_w, i32_w]
                              rfl
                            refine pure_ (i := 20) (N := some 97) (v := ?_) (a' := ?_) #[true, true, true, true, true, true, true, true, true, true, true, true, true, true, true, true, true, true, true, true, true, false, false, false, false, false, false, false, false, false, false, false, false, false, false, false, false, false, false, false, false] rfl rfl (any_of HT_.out (by kernel_rfl)) (fun _ _ _ h => h) (Or.inl ⟨by rfl, ?_⟩) ?_ ?_
                            rotate_left
                            · intro w'
                              go_simp
                              with_reducible rfl
                            rotate_left
                            · simp only [Act.put, List.setIfInBounds_toArray, List.set_cons_zero, List.set_cons_succ, i64_w, i32_w]
                              rfl
                            refine pure_ (i := 21) (N := some 98) (v := undef) (a' := ?_) #[true, true, true, true, true, true, true, true, true, true, true, true, true, true, true, true, true, true, true, true, true, true, false, false, false, false, false, false, false, false, false, false, false, false, false, false, false, false, false, false, false] rfl rfl (any_of HT_.out (by kernel_rfl)) (fun _ _ _ h => h) (Or.inr ⟨by rfl, rfl⟩) ?_ ?_
                            rotate_left
                            · simp only [Act.put, List.setIfInBounds_toArray, List.set_cons_zero, List.set_cons_succ, i64_w, i32_w]
                              rfl
                            refine pure_ (i := 22) (N := some 99) (v := ?_) (a' := ?_) #[true, true, true, true, true, true, true, true, true, true, true, true, true, true, true, true, true, true, true, true, true, true, true, false, false, false, false, false, false, false, false, false, false, false, false, false, false, false, false, false, false] rfl rfl (any_of HT_.out (by kernel_rfl)) (fun _ _ _ h => h) (Or.inl ⟨by rfl, ?_⟩) ?_ ?_
                            rotate_left
                            · intro w'
                              go_simp
                              with_reducible rfl
                            rotate_left
                            · simp only [Act.put, List.setIfInBounds_toArray, List.set_cons_zero, List.set_cons_succ, i64_w, i32_w]
                              rfl
                            refine pure_ (i := 23) (N := some 100) (v := ?_) (a' := ?_) #[true, true, true, true, true, true, true, true, true, true, true, true, true, true, true, true, true, true, true, true, true, true, true, true, false, false, false, false, false, false, false, false, false, false, false, false, false, false, false, false, false] rfl rfl (any_of HT_.out (by kernel_rfl)) (fun _ _ _ h => h) (Or.inl ⟨by rfl, ?_⟩) ?_ ?_
                            rotate_left
                            · intro w'
                              go_simp
                              with_reducible rfl
                            rotate_left
                            · simp only [Act.put, List.setIfInBounds_toArray, List.set_cons_zero, List.set_cons_succ, i64_w, i32_w]
                              rfl
                            refine pure_ (i := 24) (N := some 101) (v := ?_) (a' := ?_) #[true, true, true, true, true, true, true, true, true, true, true, true, true, true, true, true, true, true, true, true, true, true, true, true, true, false, false, false, false, false, false, false, false, false, false, false, false, false, false, false, false] rfl rfl (any_of HT_.out (by kernel_rfl)) (fun _ _ _ h => h) (Or.inl ⟨by rfl, ?_⟩) ?_ ?_
                            rotate_left
                            · intro w'
                              go_simp
                              with_reducible rfl
                            rotate_left
                            · simp only [Act.put, List.setIfInBounds_toArray, List.set_cons_zero, List.set_cons_succ, i64_w, i32_w]
                              rfl
                            refine pure_ (i := 25) (N := some 102) (v := ?_) (a' := ?_) #[true, true, true, true, true, true, true, true, true, true, true, true, true, true, true, true, true, true, true, true, true, true, true, true, true, true, false, false, false, false, false, false, false, false, false, false, false, false, false, false, false] rfl rfl (any_of HT_.out (by kernel_rfl)) (fun _ _ _ h => h) (Or.inl ⟨by rfl, ?_⟩) ?_ ?_
                            rotate_left
                            · intro w'
                              go_simp
                              with_reducible rfl
                            rotate_left
                            · simp only [Act.put, List.setIfInBounds_toArray, List.set_cons_zero, List.set_cons_succ, i64_w, i32_w]
                              rfl
                            refine take_ (i := 26) (N := some 103) (v := ?_) (a' := ?_) #[true, true, true, true, true, true, true, true, true, true, true, true, true, true, true, true, true, true, true, true, true, true, true, true, true, true, true, false, false, false, false, false, false, false, false, false, false, false, false, false, false] rfl rfl (take_ofW HT_.out HW_.out (by kernel_rfl)) (fun _ _ _ h => h) (Or.inl ⟨by rfl, ?_⟩) hHeld ?_ ?_
                            rotate_left
                            · rintro w' ⟨s0, s1, s2, s3, s4, s5, s6, s7, s8, s9, s10, s11, s12, s13⟩
                              go_simp
                              with_reducible rfl
                            rotate_left
                            · simp only [Act.put, List.setIfInBounds_toArray, List.set_cons_zero, List.set_cons_succ, i64_w, i32_w]
                              rfl
                            refine take_ (i := 27) (N := some 104) (v := ?_) (a' := ?_) #[true, true, true, true, true, true, true, true, true, true, true, true, true, true, true, true, true, true, true, true, true, true, true, true, true, true, true, true, false, false, false, false, false, false, false, false, false, false, false, false, false] rfl rfl (take_ofW HT_.out HW_.out (by kernel_rfl)) (fun _ _ _ h => h) (Or.inl ⟨by rfl, ?_⟩) hHeld ?_ ?_
                            rotate_left
                            · rintro w' ⟨s0, s1, s2, s3, s4, s5, s6, s7, s8, s9, s10, s11, s12, s13⟩
                              go_simp
                              with_reducible rfl
                            rotate_left
                            · simp only [Act.put, List.setIfInBounds_toArray, List.set_cons_zero, List.set_cons_succ, i64_w, i32_w]
                              rfl
                            refine take_ (i := 29) (N := some 106) (v := ?_) (a' := ?_) #[true, true, true, true, true, true, true, true, true, true, true, true, true, true, true, true, true, true, true, true, true, true, true, true, true, true, true, true, false, true, false, false, false, false, false, false, false, false, false, false, false] rfl rfl (take_ofW HT_.out HW_.out (by kernel_rfl)) (fun _ _ _ h => h) (Or.inl ⟨by rfl, ?_⟩) hHeld ?_ ?_
                            rotate_left
                            · rintro w' ⟨s0, s1, s2, s3, s4, s5, s6, s7, s8, s9, s10, s11, s12, s13⟩
                              go_simp
                              with_reducible rfl
                            rotate_left
                            · simp only [Act.put, List.setIfInBounds_toArray, List.set_cons_zero, List.set_cons_succ, i64_w, i32_w]
                              rfl
                            refine take_ (i := 30) (N := some 107) (v := ?_) (a' := ?_) #[true, true, true, true, true, true, true, true, true, true, true, true, true, true, true, true, true, true, true, true, true, true, true, true, true, true, true, true, false, true, true, false, false, false, false, false, false, false, false, false, false] rfl rfl (take_ofW HT_.out HW_.out (by kernel_rfl)) (fun _ _ _ h => h) (Or.inl ⟨by rfl, ?_⟩) hHeld ?_ ?_
                            rotate_left
                            · rintro w' ⟨s0, s1, s2, s3, s4, s5, s6, s7, s8, s9, s10, s11, s12, s13⟩
                              go_simp
                              with_reducible rfl
                            rotate_left
                            · simp only [Act.put, List.setIfInBounds_toArray, List.set_cons_zero, List.set_cons_succ, i64_w, i32_w]
                              rfl
                            refine one_ (i := 28) (N := some 105) #[true, true, true, true, true, true, true, true, true, true, true, true, true, true, true, true, true, true, true, true, true, true, true, true, true, true, true, true, true, true, true, false, false, false, false, false, false, false, false, false, false] rfl rfl (one_of HT_.out (by kernel_rfl)) (by decide) (fun K hK => ?_)
                            refine goes_ Try.func9 (by kernel_rfl) rfl #[.agg #[.int .i64 a1_0, .int .u64 a1_1, .int .i64 a1_2, .int .u64 a1_3, .int .i64 a1_4, .int .u64 a1_5, .slice A1_6 l1_6.length c1_6], .agg #[.int .i64 a0_0, .int .u64 a0_1, .int .i64 a0_2, .int .u64 a0_3, .int .i64 a0_4, .int .u64 a0_5, .slice A0_6 l0_6.length c0_6]] (by rfl) rfl rfl (by (try simp only [List.map_toArray, List.map_cons, List.map_nil]); first | done | rfl | (simp only [List.length_drop, List.length_take]; rfl)) ?_
                            with_reducible refine (slash_Bad.calls a1_0 a1_1 a1_2 a1_3 a1_4 a1_5 _ _ l1_6 a0_0 a0_1 a0_2 a0_3 a0_4 a0_5 _ _ l0_6 t128 _ ?side1 ?side2 ?side3 ?side4 A64.out).mono ?_
                            (case side1 => repeat (first | exact (Kd.C_below HR1_6.out HB.out) | (with_reducible refine Kd.C_alloc ?_ _) | (with_reducible refine Kd.C_drewN ?_ _) | (with_reducible refine Kd.C_drew ?_)))
                            (case side2 => exact HC1_6.out)
                            (case side3 => repeat (first | exact (Kd.C_below HR0_6.out HB.out) | (with_reducible refine Kd.C_alloc ?_ _) | (with_reducible refine Kd.C_drewN ?_ _) | (with_reducible refine Kd.C_drew ?_)))
                            (case side4 => exact HC0_6.out)
                            rintro e w72 ⟨rfl, hb⟩
                            refine ⟨_, rfl, ?_⟩
                            have n0_ := Aside0.mk (blk_below (g := gb119) (o := .cells #[.int .i64 a0_0, .int .u64 a0_1, .int .i64 a0_2, .int .u64 a0_3, .int .i64 a0_4, .int .u64 a0_5, .slice A0_6 l0_6.length c0_6] 27 (0, 0)) (by (with_reducible repeat (first | refine blk_drewN ?_ _ | refine blk_drew ?_ | refine blk_alloc ?_ _)); exact BK119.out) hb)
                            have n1_ := Aside0.mk (blk_below (g := gb120) (o := .cells #[.int .i64 a1_0, .int .u64 a1_1, .int .i64 a1_2, .int .u64 a1_3, .int .i64 a1_4, .int .u64 a1_5, .slice A1_6 l1_6.length c1_6] 27 (0, 0)) (by (with_reducible repeat (first | refine blk_drewN ?_ _ | refine blk_drew ?_ | refine blk_alloc ?_ _)); exact BK120.out) hb)
                            have n2_ := Aside0.mk (below_step (by repeat (first | (with_reducible first | exact HB.out | apply below_alloc | apply pw_below_drewN | apply below_drew1 | refine below_set ?_ GE119.out | refine below_set ?_ GE120.out) | exact HB.out)) hb)
                            clear BK119
                            clear BK120
                            clear HB
                            have BK119 := n0_
                            have BK120 := n1_
                            have HB := n2_
                            clear n0_ n1_ n2_
                            (try clear hb)
                            (try clear hb2)
                            (try clear hk)
                            (try clear hi)
                            refine hK.out _ _ ⟨(blk_cell BK119.out 0).trans rfl, (blk_cell BK119.out 1).trans rfl, (blk_cell BK119.out 2).trans rfl, (blk_cell BK119.out 3).trans rfl, (blk_cell BK119.out 4).trans rfl, (blk_cell BK119.out 5).trans rfl, (blk_cell BK119.out 6).trans rfl, (blk_cell BK120.out 0).trans rfl, (blk_cell BK120.out 1).trans rfl, (blk_cell BK120.out 2).trans rfl, (blk_cell BK120.out 3).trans rfl, (blk_cell BK120.out 4).trans rfl, (blk_cell BK120.out 5).trans rfl, (blk_cell BK120.out 6).trans rfl⟩ (fun hHeld => ?_)
                            clear hK K
                            refine norm_ (a' := ?_) ?_ ?_
                            rotate_left
                            · show Act.put _ (some 105) _ = _
                              simp only [Act.put, List.setIfInBounds_toArray, List.set_cons_zero, List.set_cons_succ, i64_w, i32_w]
                              rfl
                            refine one_ (i := 31) (N := some 108) #[true, true, true, true, true, true, true, true, true, true, true, true, true, true, true, true, true, true, true, true, true, true, true, true, true, true, true, true, true, true, true, true, false, false, false, false, false, false, false, false, false] rfl rfl (one_of HT_.out (by kernel_rfl)) (by decide) (fun K hK => ?_)
                            refine goes_ Try.func9 (by kernel_rfl) rfl #[.agg #[.int .i64 a0_0, .int .u64 a0_1, .int .i64 a0_2, .int .u64 a0_3, .int .i64 a0_4, .int .u64 a0_5, .slice A0_6 l0_6.length c0_6], .agg #[.int .i64 a1_0, .int .u64 a1_1, .int .i64 a1_2, .int .u64 a1_3, .int .i64 a1_4, .int .u64 a1_5, .slice A1_6 l1_6.length c1_6]] (by rfl) rfl rfl (by (try simp only [List.map_toArray, List.map_cons, List.map_nil]); first | done | rfl | (simp only [List.length_drop, List.length_take]; rfl)) ?_
                            with_reducible refine (slash_Bad.calls a0_0 a0_1 a0_2 a0_3 a0_4 a0_5 _ _ l0_6 a1_0 a1_1 a1_2 a1_3 a1_4 a1_5 _ _ l1_6 t129 _ ?side1 ?side2 ?side3 ?side4 A65.out).mono ?_
                            (case side1 => repeat (first | exact (Kd.C_below HR0_6.out HB.out) | (with_reducible refine Kd.C_alloc ?_ _) | (with_reducible refine Kd.C_drewN ?_ _) | (with_reducible refine Kd.C_drew ?_)))
                            (case side2 => exact HC0_6.out)
                            (case side3 => repeat (first | exact (Kd.C_below HR1_6.out HB.out) | (with_reducible refine Kd.C_alloc ?_ _) | (with_reducible refine Kd.C_drewN ?_ _) | (with_reducible refine Kd.C_drew ?_)))
                            (case side4 => exact HC1_6.out)
                            rintro e w73 ⟨rfl, hb⟩
                            refine ⟨_, rfl, ?_⟩
                            have n0_ := Aside0.mk (blk_below (g := gb119) (o := .cells #[.int .i64 a0_0, .int .u64 a0_1, .int .i64 a0_2, .int .u64 a0_3, .int .i64 a0_4, .int .u64 a0_5, .slice A0_6 l0_6.length c0_6] 27 (0, 0)) (by (with_reducible repeat (first | refine blk_drewN ?_ _ | refine blk_drew ?_ | refine blk_alloc ?_ _)); exact BK119.out) hb)
                            have n1_ := Aside0.mk (blk_below (g := gb120) (o := .cells #[.int .i64 a1_0, .int .u64 a1_1, .int .i64 a1_2, .int .u64 a1_3, .int .i64 a1_4, .int .u64 a1_5, .slice A1_6 l1_6.length c1_6] 27 (0, 0)) (by (with_reducible repeat (first | refine blk_drewN ?_ _ | refine blk_drew ?_ | refine blk_alloc ?_ _)); exact BK120.out) hb)
                            have n2_ := Aside0.mk (below_step (by repeat (first | (with_reducible first | exact HB.out | apply below_alloc | apply pw_below_drewN | apply below_drew1 | refine below_set ?_ GE119.out | refine below_set ?_ GE120.out) | exact HB.out)) hb)
                            clear BK119
                            clear BK120
                            clear HB
                            have BK119 := n0_
                            have BK120 := n1_
                            have HB := n2_
                            clear n0_ n1_ n2_
                            (try clear hb)
                            (try clear hb2)
                            (try clear hk)
                            (try clear hi)
                            refine hK.out _ _ ⟨(blk_cell BK119.out 0).trans rfl, (blk_cell BK119.out 1).trans rfl, (blk_cell BK119.out 2).trans rfl, (blk_cell BK119.out 3).trans rfl, (blk_cell BK119.out 4).trans rfl, (blk_cell BK119.out 5).trans rfl, (blk_cell BK119.out 6).trans rfl, (blk_cell BK120.out 0).trans rfl, (blk_cell BK120.out 1).trans rfl, (blk_cell BK120.out 2).trans rfl, (blk_cell BK120.out 3).trans rfl, (blk_cell BK120.out 4).trans rfl, (blk_cell BK120.out 5).trans rfl, (blk_cell BK120.out 6).trans rfl⟩ (fun hHeld => ?_)
                            clear hK K
                            refine norm_ (a' := ?_) ?_ ?_
                            rotate_left
                            · show Act.put _ (some 108) _ = _
                              simp only [Act.put, List.setIfInBounds_toArray, List.set_cons_zero, List.set_cons_succ, i64_w, i32_w]
                              rfl
                            refine pure_ (i := 32) (N := some 109) (v := ?_) (a' := ?_) #[true, true, true, true, true, true, true, true, true, true, true, true, true, true, true, true, true, true, true, true, true, true, true, true, true, true, true, true, true, true, true, true, true, false, false, false, false, false, false, false, false] rfl rfl (any_of HT_.out (by kernel_rfl)) (fun _ _ _ h => h) (Or.inl ⟨by rfl, ?_⟩) ?_ ?_
                            rotate_left
                            · intro w'
                              go_simp
                              with_reducible rfl
                            rotate_left
                            · simp only [Act.put, List.setIfInBounds_toArray, List.set_cons_zero, List.set_cons_succ, i64_w, i32_w]
                              rfl
                            refine pure_ (i := 33) (N := some 110) (v := ?_) (a' := ?_) #[true, true, true, true, true, true, true, true, true, true, true, true, true, true, true, true, true, true, true, true, true, true, true, true, true, true, true, true, true, true, true, true, true, true, false, false, false, false, false, false, false] rfl rfl (any_of HT_.out (by kernel_rfl)) (fun _ _ _ h => h) (Or.inl ⟨by rfl, ?_⟩) ?_ ?_
                            rotate_left
                            · intro w'
                              go_simp
                              with_reducible rfl
                            rotate_left
                            · simp only [Act.put, List.setIfInBounds_toArray, List.set_cons_zero, List.set_cons_succ, i64_w, i32_w]
                              rfl
                            refine pure_ (i := 34) (N := some 111) (v := ?_) (a' := ?_) #[true, true, true, true, true, true, true, true, true, true, true, true, true, true, true, true, true, true, true, true, true, true, true, true, true, true, true, true, true, true, true, true, true, true, true, false, false, false, false, false, false] rfl rfl (any_of HT_.out (by kernel_rfl)) (fun _ _ _ h => h) (Or.inl ⟨by rfl, ?_⟩) ?_ ?_
                            rotate_left
                            · intro w'
                              go_simp
                              with_reducible rfl
                            rotate_left
                            · simp only [Act.put, List.setIfInBounds_toArray, List.set_cons_zero, List.set_cons_succ, i64_w, i32_w]
                              rfl
                            refine take_ (i := 35) (N := some 112) (v := ?_) (a' := ?_) #[true, true, true, true, true, true, true, true, true, true, true, true, true, true, true, true, true, true, true, true, true, true, true, true, true, true, true, true, true, true, true, true, true, true, true, true, false, false, false, false, false] rfl rfl (take_ofW HT_.out HW_.out (by kernel_rfl)) (fun _ _ _ h => h) (Or.inl ⟨by rfl, ?_⟩) hHeld ?_ ?_
                            rotate_left
                            · rintro w' ⟨s0, s1, s2, s3, s4, s5, s6, s7, s8, s9, s10, s11, s12, s13⟩
                              go_simp
                              with_reducible rfl
                            rotate_left
                            · simp only [Act.put, List.setIfInBounds_toArray, List.set_cons_zero, List.set_cons_succ, i64_w, i32_w]
                              rfl
                            refine take_ (i := 36) (N := some 113) (v := ?_) (a' := ?_) #[true, true, true, true, true, true, true, true, true, true, true, true, true, true, true, true, true, true, true, true, true, true, true, true, true, true, true, true, true, true, true, true, true, true, true, true, true, false, false, false, false] rfl rfl (take_ofW HT_.out HW_.out (by kernel_rfl)) (fun _ _ _ h => h) (Or.inl ⟨by rfl, ?_⟩) hHeld ?_ ?_
                            rotate_left
                            · rintro w' ⟨s0, s1, s2, s3, s4, s5, s6, s7, s8, s9, s10, s11, s12, s13⟩
                              go_simp
                              with_reducible rfl
                            rotate_left
                            · simp only [Act.put, List.setIfInBounds_toArray, List.set_cons_zero, List.set_cons_succ, i64_w, i32_w]
                              rfl
                            refine one_ (i := 37) (N := some 114) #[true, true, true, true, true, true, true, true, true, true, true, true, true, true, true, true, true, true, true, true, true, true, true, true, true, true, true, true, true, true, true, true, true, true, true, true, true, true, false, false, false] rfl rfl (one_of HT_.out (by kernel_rfl)) (by decide) (fun K hK => ?_)
                            refine goes_ Try.func9 (by kernel_rfl) rfl #[.agg #[.int .i64 a0_0, .int .u64 a0_1, .int .i64 a0_2, .int .u64 a0_3, .int .i64 a0_4, .int .u64 a0_5, .slice A0_6 l0_6.length c0_6], .agg #[.int .i64 a0_0, .int .u64 a0_1, .int .i64 a0_2, .int .u64 a0_3, .int .i64 a0_4, .int .u64 a0_5, .slice A0_6 l0_6.length c0_6]] (by rfl) rfl rfl (by (try simp only [List.map_toArray, List.map_cons, List.map_nil]); first | done | rfl | (simp only [List.length_drop, List.length_take]; rfl)) ?_
                            with_reducible refine (slash_Bad.calls a0_0 a0_1 a0_2 a0_3 a0_4 a0_5 _ _ l0_6 a0_0 a0_1 a0_2 a0_3 a0_4 a0_5 _ _ l0_6 t130 _ ?side1 ?side2 ?side3 ?side4 A67.out).mono ?_
                            (case side1 => repeat (first | exact (Kd.C_below HR0_6.out HB.out) | (with_reducible refine Kd.C_alloc ?_ _) | (with_reducible refine Kd.C_drewN ?_ _) | (with_reducible refine Kd.C_drew ?_)))
                            (case side2 => exact HC0_6.out)
                            (case side3 => repeat (first | exact (Kd.C_below HR0_6.out HB.out) | (with_reducible refine Kd.C_alloc ?_ _) | (with_reducible refine Kd.C_drewN ?_ _) | (with_reducible refine Kd.C_drew ?_)))
                            (case side4 => exact HC0_6.out)
                            rintro e w74 ⟨rfl, hb⟩
                            refine ⟨_, rfl, ?_⟩
                            have n0_ := Aside0.mk (blk_below (g := gb119) (o := .cells #[.int .i64 a0_0, .int .u64 a0_1, .int .i64 a0_2, .int .u64 a0_3, .int .i64 a0_4, .int .u64 a0_5, .slice A0_6 l0_6.length c0_6] 27 (0, 0)) (by (with_reducible repeat (first | refine blk_drewN ?_ _ | refine blk_drew ?_ | refine blk_alloc ?_ _)); exact BK119.out) hb)
                            have n1_ := Aside0.mk (blk_below (g := gb120) (o := .cells #[.int .i64 a1_0, .int .u64 a1_1, .int .i64 a1_2, .int .u64 a1_3, .int .i64 a1_4, .int .u64 a1_5, .slice A1_6 l1_6.length c1_6] 27 (0, 0)) (by (with_reducible repeat (first | refine blk_drewN ?_ _ | refine blk_drew ?_ | refine blk_alloc ?_ _)); exact BK120.out) hb)
                            have n2_ := Aside0.mk (below_step (by repeat (first | (with_reducible first | exact HB.out | apply below_alloc | apply pw_below_drewN | apply below_drew1 | refine below_set ?_ GE119.out | refine below_set ?_ GE120.out) | exact HB.out)) hb)
                            clear BK119
                            clear BK120
                            clear HB
                            have BK119 := n0_
                            have BK120 := n1_
                            have HB := n2_
                            clear n0_ n1_ n2_
                            (try clear hb)
                            (try clear hb2)
                            (try clear hk)
                            (try clear hi)
                            refine hK.out _ _ ⟨(blk_cell BK119.out 0).trans rfl, (blk_cell BK119.out 1).trans rfl, (blk_cell BK119.out 2).trans rfl, (blk_cell BK119.out 3).trans rfl, (blk_cell BK119.out 4).trans rfl, (blk_cell BK119.out 5).trans rfl, (blk_cell BK119.out 6).trans rfl, (blk_cell BK120.out 0).trans rfl, (blk_cell BK120.out 1).trans rfl, (blk_cell BK120.out 2).trans rfl, (blk_cell BK120.out 3).trans rfl, (blk_cell BK120.out 4).trans rfl, (blk_cell BK120.out 5).trans rfl, (blk_cell BK120.out 6).trans rfl⟩ (fun hHeld => ?_)
                            clear hK K
                            refine norm_ (a' := ?_) ?_ ?_
                            rotate_left
                            · show Act.put _ (some 114) _ = _
                              simp only [Act.put, List.setIfInBounds_toArray, List.set_cons_zero, List.set_cons_succ, i64_w, i32_w]
                              rfl
                            refine pure_ (i := 38) (N := some 115) (v := ?_) (a' := ?_) #[true, true, true, true, true, true, true, true, true, true, true, true, true, true, true, true, true, true, true, true, true, true, true, true, true, true, true, true, true, true, true, true, true, true, true, true, true, true, true, false, false] rfl rfl (any_of HT_.out (by kernel_rfl)) (fun _ _ _ h => h) (Or.inl ⟨by rfl, ?_⟩) ?_ ?_
                            rotate_left
                            · intro w'
                              go_simp
                              with_reducible rfl
                            rotate_left
                            · simp only [Act.put, List.setIfInBounds_toArray, List.set_cons_zero, List.set_cons_succ, i64_w, i32_w]
                              rfl
                            refine pure_ (i := 39) (N := some 116) (v := ?_) (a' := ?_) #[true, true, true, true, true, true, true, true, true, true, true, true, true, true, true, true, true, true, true, true, true, true, true, true, true, true, true, true, true, true, true, true, true, true, true, true, true, true, true, true, false] rfl rfl (any_of HT_.out (by kernel_rfl)) (fun _ _ _ h => h) (Or.inl ⟨by rfl, ?_⟩) ?_ ?_
                            rotate_left
                            · intro w'
                              go_simp
                              with_reducible rfl
                            rotate_left
                            · simp only [Act.put, List.setIfInBounds_toArray, List.set_cons_zero, List.set_cons_succ, i64_w, i32_w]
                              rfl
                            refine pure_ (i := 40) (N := some 4) (v := ?_) (a' := ?_) #[true, true, true, true, true, true, true, true, true, true, true, true, true, true, true, true, true, true, true, true, true, true, true, true, true, true, true, true, true, true, true, true, true, true, true, true, true, true, true, true, true] rfl rfl (any_of HT_.out (by kernel_rfl)) (fun _ _ _ h => h) (Or.inl ⟨by rfl, ?_⟩) ?_ ?_
                            rotate_left
                            · intro w'
                              go_simp
                              with_reducible rfl
                            rotate_left
                            · simp only [Act.put, List.setIfInBounds_toArray, List.set_cons_zero, List.set_cons_succ, i64_w, i32_w]
                              rfl
                            refine done_ (done_of HT_.out (by kernel_rfl)) ?_
                            try go_wp2
                            go_ret
                            exact ⟨by first | rfl | (simp [errW_none, errW_some] <;> rfl) | (simp [*, errW_none, errW_some] <;> rfl), by repeat (first | (with_reducible first | exact HB.out | apply below_alloc | apply pw_below_drewN | apply below_drew1 | refine below_set ?_ GE119.out | refine below_set ?_ GE120.out) | exact HB.out)⟩
                          · rw [if_neg c66] at H
                            have c66b0 : (t128 == t129) = false := by simpa using c66
                            (try (have c66b1 : decide (t128 = t129) = false := by simpa using c66))
                            (try (have c66b2 : (t128 == t129) = false := by simpa using c66))
                            (try (have c66b3 : ¬ (t128 = t129) := by simpa using c66))
                            clear c66
                            exact absurd ((Option.some.inj H).trans hr_) Bool.false_ne_true
                        · rw [if_neg c63] at H
                          have c63b0 : (t124 == true) = false := by simpa using c63
                          (try (have c63b1 : decide (t124 = true) = false := by simpa using c63))
                          (try (have c63b2 : (t124 == true) = false := by simpa using c63))
                          (try (have c63b3 : ¬ (t124 = true) := by simpa using c63))
                          clear c63
                          exact absurd ((Option.some.inj H).trans hr_) Bool.false_ne_true
                      · replace c62 := Bool.eq_false_iff.mpr c62
                        subst c62
                        have H1 : (if (t124 == x7_35) = true then ((slash_Bad.f a1_0 a1_1 a1_2 a1_3 a1_4 a1_5 l1_6 a0_0 a0_1 a0_2 a0_3 a0_4 a0_5 l0_6).bind fun t131 => ((slash_Bad.f a0_0 a0_1 a0_2 a0_3 a0_4 a0_5 l0_6 a1_0 a1_1 a1_2 a1_3 a1_4 a1_5 l1_6).bind fun t132 => (if (t131 == t132) = true then ((slash_Bad.f a0_0 a0_1 a0_2 a0_3 a0_4 a0_5 l0_6 a0_0 a0_1 a0_2 a0_3 a0_4 a0_5 l0_6).bind fun t133 => (some (!t133))) else (some false)))) else (some false)) = some r := by rw [if_neg (show ¬ (false = true) by decide)] at H; exact H
                        clear H
                        have H := H1
                        clear H1
                        by_cases c75 : (t124 == x7_35) = true
                        · rw [if_pos c75] at H
                          have c75b0 : (t124 == x7_35) = true := c75
                          (try (have c75b1 : decide (t124 = x7_35) = true := by simpa using c75))
                          (try (have c75b2 : (t124 == x7_35) = true := by simpa using c75))
                          clear c75
                          replace H := Option.bind_eq_some_iff.mp H
                          obtain ⟨t131, A760, H⟩ := H
                          replace H : ((slash_Bad.f a0_0 a0_1 a0_2 a0_3 a0_4 a0_5 l0_6 a1_0 a1_1 a1_2 a1_3 a1_4 a1_5 l1_6).bind fun t132 => (if (t131 == t132) = true then ((slash_Bad.f a0_0 a0_1 a0_2 a0_3 a0_4 a0_5 l0_6 a0_0 a0_1 a0_2 a0_3 a0_4 a0_5 l0_6).bind fun t133 => (some (!t133))) else (some false))) = some r := H
                          have A76 := Aside0.mk A760
                          clear A760
                          replace H := Option.bind_eq_some_iff.mp H
                          obtain ⟨t132, A770, H⟩ := H
                          replace H : (if (t131 == t132) = true then ((slash_Bad.f a0_0 a0_1 a0_2 a0_3 a0_4 a0_5 l0_6 a0_0 a0_1 a0_2 a0_3 a0_4 a0_5 l0_6).bind fun t133 => (some (!t133))) else (some false)) = some r := H
                          have A77 := Aside0.mk A770
                          clear A770
                          by_cases c78 : (t131 == t132) = true
                          · rw [if_pos c78] at H
                            have c78b0 : (t131 == t132) = true := c78
                            (try (have c78b1 : decide (t131 = t132) = true := by simpa using c78))
                            (try (have c78b2 : (t131 == t132) = true := by simpa using c78))
                            clear c78
                            replace H := Option.bind_eq_some_iff.mp H
                            obtain ⟨t133, A790, H⟩ := H
                            replace H : (some (!t133)) = some r := H
                            have A79 := Aside0.mk A790
                            clear A790
                            obtain rfl := Option.some.inj H
                            try go_wp2
                            have n0_ := Aside0.mk (blk_drew BK119.out)
                            have n1_ := Aside0.mk (blk_drew BK120.out)
                            have n2_ := Aside0.mk (below_drew1 HB.out)
                            clear BK119
                            clear BK120
                            clear HB
                            have BK119 := n0_
                            have BK120 := n1_
                            have HB := n2_
                            clear n0_ n1_ n2_
                            refine start_ (n := 41) (S := fun w' => w'.cell? ⟨gb119, 0, none⟩ = some (.int .i64 a0_0) ∧ w'.cell? ⟨gb119, 1, none⟩ = some (.int .u64 a0_1) ∧ w'.cell? ⟨gb119, 2, none⟩ = some (.int .i64 a0_2) ∧ w'.cell? ⟨gb119, 3, none⟩ = some (.int .u64 a0_3) ∧ w'.cell? ⟨gb119, 4, none⟩ = some (.int .i64 a0_4) ∧ w'.cell? ⟨gb119, 5, none⟩ = some (.int .u64 a0_5) ∧ w'.cell? ⟨gb119, 6, none⟩ = some (.slice A0_6 l0_6.length c0_6) ∧ w'.cell? ⟨gb120, 0, none⟩ = some (.int .i64 a1_0) ∧ w'.cell? ⟨gb120, 1, none⟩ = some (.int .u64 a1_1) ∧ w'.cell? ⟨gb120, 2, none⟩ = some (.int .i64 a1_2) ∧ w'.cell? ⟨gb120, 3, none⟩ = some (.int .u64 a1_3) ∧ w'.cell? ⟨gb120, 4, none⟩ = some (.int .i64 a1_4) ∧ w'.cell? ⟨gb120, 5, none⟩ = some (.int .u64 a1_5) ∧ w'.cell? ⟨gb120, 6, none⟩ = some (.slice A1_6 l1_6.length c1_6)) (ds := []) #[false, false, false, false, false, false, false, false, false, false, false, false, false, false, false, false, false, false, false, false, false, false, false, false, false, false, false, false, false, false, false, false, false, false, false, false, false, false, false, false, false] (by kernel_rfl) rfl rfl ⟨(blk_cell BK119.out 0).trans rfl, (blk_cell BK119.out 1).trans rfl, (blk_cell BK119.out 2).trans rfl, (blk_cell BK119.out 3).trans rfl, (blk_cell BK119.out 4).trans rfl, (blk_cell BK119.out 5).trans rfl, (blk_cell BK119.out 6).trans rfl, (blk_cell BK120.out 0).trans rfl, (blk_cell BK120.out 1).trans rfl, (blk_cell BK120.out 2).trans rfl, (blk_cell BK120.out 3).trans rfl, (blk_cell BK120.out 4).trans rfl, (blk_cell BK120.out 5).trans rfl, (blk_cell BK120.out 6).trans rfl⟩ (fun hHeld => ?_); refine with_tabW psephoslaw06_SlashBad.tab6 psephoslaw06_SlashBad.bits6 (fun HT_ HW_ => ?_)
                            generalize wc.drew = w80 at BK119 BK120 HB hHeld ⊢
                            refine pure_ (i := 3) (N := some 80) (v := ?_) (a' := ?_) #[false, false, false, true, false, false, false, false, false, false, false, false, false, false, false, false, false, false, false, false, false, false, false, false, false, false, false, false, false, false, false, false, false, false, false, false, false, false, false, false, false] rfl rfl (any_of HT_.out (by kernel_rfl)) (fun _ _ _ h => h) (Or.inl ⟨by rfl, ?_⟩) ?_ ?_
                            rotate_left
                            · intro w'
                              go_simp
                              with_reducible rfl
                            rotate_left
                            · simp only [Act.put, List.setIfInBounds_toArray, List.set_cons_zero, List.set_cons_succ, i64_w, i32_w]
                              rfl
                            refine take_ (i := 0) (N := some 77) (v := ?_) (a' := ?_) #[true, false, false, true, false, false, false, false, false, false, false, false, false, false, false, false, false, false, false, false, false, false, false, false, false, false, false, false, false, false, false, false, false, false, false, false, false, false, false, false, false] rfl rfl (take_ofW HT_.out HW_.out (by kernel_rfl)) (fun _ _ _ h => h) (Or.inl ⟨by rfl, ?_⟩) hHeld ?_ ?_
                            rotate_left
                            · rintro w' ⟨s0, s1, s2, s3, s4, s5, s6, s7, s8, s9, s10, s11, s12, s13⟩
                              go_simp
                              with_reducible rfl
                            rotate_left
                            · simp only [Act.put, List.setIfInBounds_toArray, List.set_cons_zero, List.set_cons_succ, i64_w, i32_w]
                              rfl
                            refine take_ (i := 1) (N := some 78) (v := ?_) (a' := ?_) #[true, true, false, true, false, false, false, false, false, false, false, false, false, false, false, false, false, false, false, false, false, false, false, false, false, false, false, false, false, false, false, false, false, false, false, false, false, false, false, false, false] rfl rfl (take_ofW HT_.out HW_.out (by kernel_rfl)) (fun _ _ _ h => h) (Or.inl ⟨by rfl, ?_⟩) hHeld ?_ ?_
                            rotate_left
                            · rintro w' ⟨s0, s1, s2, s3, s4, s5, s6, s7, s8, s9, s10, s11, s12, s13⟩
                              go_simp
                              with_reducible rfl
                            rotate_left
                            · simp only [Act.put, List.setIfInBounds_toArray, List.set_cons_zero, List.set_cons_succ, i64_w, i32_w]
                              rfl
                            refine one_ (i := 2) (N := some 79) #[true, true, true, true, false, false, false, false, false, false, false, false, false, false, false, false, false, false, false, false, false, false, false, false, false, false, false, false, false, false, false, false, false, false, false, false, false, false, false, false, false] rfl rfl (one_of HT_.out (by kernel_rfl)) (by decide) (fun K hK => ?_)
                            refine goes_ Try.func7 (by kernel_rfl) rfl #[.agg #[.int .i64 a0_0, .int .u64 a0_1, .int .i64 a0_2, .int .u64 a0_3, .int .i64 a0_4, .int .u64 a0_5, .slice A0_6 l0_6.length c0_6], .agg #[.int .i64 a1_0, .int .u64 a1_1, .int .i64 a1_2, .int .u64 a1_3, .int .i64 a1_4, .int .u64 a1_5, .slice A1_6 l1_6.length c1_6]] (by rfl) rfl rfl (by (try simp only [List.map_toArray, List.map_cons, List.map_nil]); first | done | rfl | (simp only [List.length_drop, List.length_take]; rfl)) ?_
                            with_reducible refine (slash_Double.calls a0_0 a0_1 a0_2 a0_3 a0_4 a0_5 _ _ l0_6 a1_0 a1_1 a1_2 a1_3 a1_4 a1_5 _ _ l1_6 t122 _ ?side1 ?side2 ?side3 ?side4 A44.out).mono ?_
                            (case side1 => repeat (first | exact (Kd.C_below HR0_6.out HB.out) | (with_reducible refine Kd.C_alloc ?_ _) | (with_reducible refine Kd.C_drewN ?_ _) | (with_reducible refine Kd.C_drew ?_)))
                            (case side2 => exact HC0_6.out)
                            (case side3 => repeat (first | exact (Kd.C_below HR1_6.out HB.out) | (with_reducible refine Kd.C_alloc ?_ _) | (with_reducible refine Kd.C_drewN ?_ _) | (with_reducible refine Kd.C_drew ?_)))
                            (case side4 => exact HC1_6.out)
                            rintro e w81 ⟨rfl, hb⟩
                            refine ⟨_, rfl, ?_⟩
                            have n0_ := Aside0.mk (blk_below (g := gb119) (o := .cells #[.int .i64 a0_0, .int .u64 a0_1, .int .i64 a0_2, .int .u64 a0_3, .int .i64 a0_4, .int .u64 a0_5, .slice A0_6 l0_6.length c0_6] 27 (0, 0)) (by (with_reducible repeat (first | refine blk_drewN ?_ _ | refine blk_drew ?_ | refine blk_alloc ?_ _)); exact BK119.out) hb)
                            have n1_ := Aside0.mk (blk_below (g := gb120) (o := .cells #[.int .i64 a1_0, .int .u64 a1_1, .int .i64 a1_2, .int .u64 a1_3, .int .i64 a1_4, .int .u64 a1_5, .slice A1_6 l1_6.length c1_6] 27 (0, 0)) (by (with_reducible repeat (first | refine blk_drewN ?_ _ | refine blk_drew ?_ | refine blk_alloc ?_ _)); exact BK120.out) hb)
                            have n2_ := Aside0.mk (below_step (by repeat (first | (with_reducible first | exact HB.out | apply below_alloc | apply pw_below_drewN | apply below_drew1 | refine below_set ?_ GE119.out | refine below_set ?_ GE120.out) | exact HB.out)) hb)
                            clear BK119
                            clear BK120
                            clear HB
                            have BK119 := n0_
                            have BK120 := n1_
                            have HB := n2_
                            clear n0_ n1_ n2_
                            (try clear hb)
                            (try clear hb2)
                            (try clear hk)
                            (try clear hi)
                            refine hK.out _ _ ⟨(blk_cell BK119.out 0).trans rfl, (blk_cell BK119.out 1).trans rfl, (blk_cell BK119.out 2).trans rfl, (blk_cell BK119.out 3).trans rfl, (blk_cell BK119.out 4).trans rfl, (blk_cell BK119.out 5).trans rfl, (blk_cell BK119.out 6).trans rfl, (blk_cell BK120.out 0).trans rfl, (blk_cell BK120.out 1).trans rfl, (blk_cell BK120.out 2).trans rfl, (blk_cell BK120.out 3).trans rfl, (blk_cell BK120.out 4).trans rfl, (blk_cell BK120.out 5).trans rfl, (blk_cell BK120.out 6).trans rfl⟩ (fun hHeld => ?_)
                            clear hK K
                            refine norm_ (a' := ?_) ?_ ?_
                            rotate_left
                            · show Act.put _ (some 79) _ = _
                              simp only [Act.put, List.setIfInBounds_toArray, List.set_cons_zero, List.set_cons_succ, i64_w, i32_w]
                              rfl
                            refine pure_ (i := 4) (N := some 81) (v := ?_) (a' := ?_) #[true, true, true, true, true, false, false, false, false, false, false, false, false, false, false, false, false, false, false, false, false, false, false, false, false, false, false, false, false, false, false, false, false, false, false, false, false, false, false, false, false] rfl rfl (any_of HT_.out (by kernel_rfl)) (fun _ _ _ h => h) (Or.inl ⟨by rfl, ?_⟩) ?_ ?_
                            rotate_left
                            · intro w'
                              go_simp
                              with_reducible rfl
                            rotate_left
                            · simp only [Act.put, List.setIfInBounds_toArray, List.set_cons_zero, List.set_cons_succ, i64_w, i32_w]
                              rfl
                            refine pure_ (i := 5) (N := some 82) (v := ?_) (a' := ?_) #[true, true, true, true, true, true, false, false, false, false, false, false, false, false, false, false, false, false, false, false, false, false, false, false, false, false, false, false, false, false, false, false, false, false, false, false, false, false, false, false, false] rfl rfl (any_of HT_.out (by kernel_rfl)) (fun _ _ _ h => h) (Or.inl ⟨by rfl, ?_⟩) ?_ ?_
                            rotate_left
                            · intro w'
                              go_simp
                              with_reducible rfl
                            rotate_left
                            · simp only [Act.put, List.setIfInBounds_toArray, List.set_cons_zero, List.set_cons_succ, i64_w, i32_w]
                              rfl
                            refine pure_ (i := 9) (N := some 86) (v := ?_) (a' := ?_) #[true, true, true, true, true, true, false, false, false, true, false, false, false, false, false, false, false, false, false, false, false, false, false, false, false, false, false, false, false, false, false, false, false, false, false, false, false, false, false, false, false] rfl rfl (any_of HT_.out (by kernel_rfl)) (fun _ _ _ h => h) (Or.inl ⟨by rfl, ?_⟩) ?_ ?_
                            rotate_left
                            · intro w'
                              go_simp
                              with_reducible rfl
                            rotate_left
                            · simp only [Act.put, List.setIfInBounds_toArray, List.set_cons_zero, List.set_cons_succ, i64_w, i32_w]
                              rfl
                            refine take_ (i := 6) (N := some 83) (v := ?_) (a' := ?_) #[true, true, true, true, true, true, true, false, false, true, false, false, false, false, false, false, false, false, false, false, false, false, false, false, false, false, false, false, false, false, false, false, false, false, false, false, false, false, false, false, false] rfl rfl (take_ofW HT_.out HW_.out (by kernel_rfl)) (fun _ _ _ h => h) (Or.inl ⟨by rfl, ?_⟩) hHeld ?_ ?_
                            rotate_left
                            · rintro w' ⟨s0, s1, s2, s3, s4, s5, s6, s7, s8, s9, s10, s11, s12, s13⟩
                              go_simp
                              with_reducible rfl
                            rotate_left
                            · simp only [Act.put, List.setIfInBounds_toArray, List.set_cons_zero, List.set_cons_succ, i64_w, i32_w]
                              rfl
                            refine take_ (i := 7) (N := some 84) (v := ?_) (a' := ?_) #[true, true, true, true, true, true, true, true, false, true, false, false, false, false, false, false, false, false, false, false, false, false, false, false, false, false, false, false, false, false, false, false, false, false, false, false, false, false, false, false, false] rfl rfl (take_ofW HT_.out HW_.out (by kernel_rfl)) (fun _ _ _ h => h) (Or.inl ⟨by rfl, ?_⟩) hHeld ?_ ?_
                            rotate_left
                            · rintro w' ⟨s0, s1, s2, s3, s4, s5, s6, s7, s8, s9, s10, s11, s12, s13⟩
                              go_simp
                              with_reducible rfl
                            rotate_left
                            · simp only [Act.put, List.setIfInBounds_toArray, List.set_cons_zero, List.set_cons_succ, i64_w, i32_w]
                              rfl
                            refine one_ (i := 8) (N := some 85) #[true, true, true, true, true, true, true, true, true, true, false, false, false, false, false, false, false, false, false, false, false, false, false, false, false, false, false, false, false, false, false, false, false, false, false, false, false, false, false, false, false] rfl rfl (one_of HT_.out (by kernel_rfl)) (by decide) (fun K hK => ?_)
                            refine goes_ Try.func8 (by kernel_rfl) rfl #[.agg #[.int .i64 a0_0, .int .u64 a0_1, .int .i64 a0_2, .int .u64 a0_3, .int .i64 a0_4, .int .u64 a0_5, .slice A0_6 l0_6.length c0_6], .agg #[.int .i64 a1_0, .int .u64 a1_1, .int .i64 a1_2, .int .u64 a1_3, .int .i64 a1_4, .int .u64 a1_5, .slice A1_6 l1_6.length c1_6]] (by rfl) rfl rfl (by (try simp only [List.map_toArray, List.map_cons, List.map_nil]); first | done | rfl | (simp only [List.length_drop, List.length_take]; rfl)) ?_
                            with_reducible refine (slash_Around.calls a0_0 a0_1 a0_2 a0_3 a0_4 a0_5 _ _ l0_6 a1_0 a1_1 a1_2 a1_3 a1_4 a1_5 _ _ l1_6 t123 _ ?side1 ?side2 ?side3 ?side4 A46.out).mono ?_
                            (case side1 => repeat (first | exact (Kd.C_below HR0_6.out HB.out) | (with_reducible refine Kd.C_alloc ?_ _) | (with_reducible refine Kd.C_drewN ?_ _) | (with_reducible refine Kd.C_drew ?_)))
                            (case side2 => exact HC0_6.out)
                            (case side3 => repeat (first | exact (Kd.C_below HR1_6.out HB.out) | (with_reducible refine Kd.C_alloc ?_ _) | (with_reducible refine Kd.C_drewN ?_ _) | (with_reducible refine Kd.C_drew ?_)))
                            (case side4 => exact HC1_6.out)
                            rintro e w82 ⟨rfl, hb⟩
                            refine ⟨_, rfl, ?_⟩
                            have n0_ := Aside0.mk (blk_below (g := gb119) (o := .cells #[.int .i64 a0_0, .int .u64 a0_1, .int .i64 a0_2, .int .u64 a0_3, .int .i64 a0_4, .int .u64 a0_5, .slice A0_6 l0_6.length c0_6] 27 (0, 0)) (by (with_reducible repeat (first | refine blk_drewN ?_ _ | refine blk_drew ?_ | refine blk_alloc ?_ _)); exact BK119.out) hb)
                            have n1_ := Aside0.mk (blk_below (g := gb120) (o := .cells #[.int .i64 a1_0, .int .u64 a1_1, .int .i64 a1_2, .int .u64 a1_3, .int .i64 a1_4, .int .u64 a1_5, .slice A1_6 l1_6.length c1_6] 27 (0, 0)) (by (with_reducible repeat (first | refine blk_drewN ?_ _ | refine blk_drew ?_ | refine blk_alloc ?_ _)); exact BK120.out) hb)
                            have n2_ := Aside0.mk (below_step (by repeat (first | (with_reducible first | exact HB.out | apply below_alloc | apply pw_below_drewN | apply below_drew1 | refine below_set ?_ GE119.out | refine below_set ?_ GE120.out) | exact HB.out)) hb)
                            clear BK119
                            clear BK120
                            clear HB
                            have BK119 := n0_
                            have BK120 := n1_
                            have HB := n2_
                            clear n0_ n1_ n2_
                            (try clear hb)
                            (try clear hb2)
                            (try clear hk)
                            (try clear hi)
                            refine hK.out _ _ ⟨(blk_cell BK119.out 0).trans rfl, (blk_cell BK119.out 1).trans rfl, (blk_cell BK119.out 2).trans rfl, (blk_cell BK119.out 3).trans rfl, (blk_cell BK119.out 4).trans rfl, (blk_cell BK119.out 5).trans rfl, (blk_cell BK119.out 6).trans rfl, (blk_cell BK120.out 0).trans rfl, (blk_cell BK120.out 1).trans rfl, (blk_cell BK120.out 2).trans rfl, (blk_cell BK120.out 3).trans rfl, (blk_cell BK120.out 4).trans rfl, (blk_cell BK120.out 5).trans rfl, (blk_cell BK120.out 6).trans rfl⟩ (fun hHeld => ?_)
                            clear hK K
                            refine norm_ (a' := ?_) ?_ ?_
                            rotate_left
                            · show Act.put _ (some 85) _ = _
                              simp only [Act.put, List.setIfInBounds_toArray, List.set_cons_zero, List.set_cons_succ, i64_w, i32_w]
                              rfl
                            refine pure_ (i := 10) (N := some 87) (v := ?_) (a' := ?_) #[true, true, true, true, true, true, true, true, true, true, true, false, false, false, false, false, false, false, false, false, false, false, false, false, false, false, false, false, false, false, false, false, false, false, false, false, false, false, false, false, false] rfl rfl (any_of HT_.out (by kernel_rfl)) (fun _ _ _ h => h) (Or.inl ⟨by rfl, ?_⟩) ?_ ?_
                            rotate_left
                            · intro w'
                              go_simp
                              with_reducible rfl
                            rotate_left
                            · simp only [Act.put, List.setIfInBounds_toArray, List.set_cons_zero, List.set_cons_succ, i64_w, i32_w]
                              rfl
                            refine pure_ (i := 11) (N := some 88) (v := ?_) (a' := ?_) #[true, true, true, true, true, true, true, true, true, true, true, true, false, false, false, false, false, false, false, false, false, false, false, false, false, false, false, false, false, false, false, false, false, false, false, false, false, false, false, false, false] rfl rfl (any_of HT_.out (by kernel_rfl)) (fun _ _ _ h => h) (Or.inl ⟨by rfl, ?_⟩) ?_ ?_
                            rotate_left
                            · intro w'
                              go_simp
                              with_reducible rfl
                            rotate_left
                            · simp only [Act.put, List.setIfInBounds_toArray, List.set_cons_zero, List.set_cons_succ, i64_w, i32_w]
                              rfl
                            refine pure_ (i := 12) (N := some 89) (v := ?_) (a' := ?_) #[true, true, true, true, true, true, true, true, true, true, true, true, true, false, false, false, false, false, false, false, false, false, false, false, false, false, false, false, false, false, false, false, false, false, false, false, false, false, false, false, false] rfl rfl (any_of HT_.out (by kernel_rfl)) (fun _ _ _ h => h) (Or.inl ⟨by rfl, ?_⟩) ?_ ?_
                            rotate_left
                            · intro w'
                              go_simp
                              with_reducible rfl
                            rotate_left
                            · simp only [Act.put, List.setIfInBounds_toArray, List.set_cons_zero, List.set_cons_succ, i64_w, i32_w]
                              rfl
                            refine pure_ (i := 16) (N := some 93) (v := ?_) (a' := ?_) #[true, true, true, true, true, true, true, true, true, true, true, true, true, false, false, false, true, false, false, false, false, false, false, false, false, false, false, false, false, false, false, false, false, false, false, false, false, false, false, false, false] rfl rfl (any_of HT_.out (by kernel_rfl)) (fun _ _ _ h => h) (Or.inl ⟨by rfl, ?_⟩) ?_ ?_
                            rotate_left
                            · intro w'
                              go_simp
                              with_reducible rfl
                            rotate_left
                            · simp only [Act.put, List.setIfInBounds_toArray, List.set_cons_zero, List.set_cons_succ, i64_w, i32_w]
                              rfl
                            refine take_ (i := 13) (N := some 90) (v := ?_) (a' := ?_) #[true, true, true, true, true, true, true, true, true, true, true, true, true, true, false, false, true, false, false, false, false, false, false, false, false, false, false, false, false, false, false, false, false, false, false, false, false, false, false, false, false] rfl rfl (take_ofW HT_.out HW_.out (by kernel_rfl)) (fun _ _ _ h => h) (Or.inl ⟨by rfl, ?_⟩) hHeld ?_ ?_
                            rotate_left
                            · rintro w' ⟨s0, s1, s2, s3, s4, s5, s6, s7, s8, s9, s10, s11, s12, s13⟩
                              go_simp
                              with_reducible rfl
                            rotate_left
                            · simp only [Act.put, List.setIfInBounds_toArray, List.set_cons_zero, List.set_cons_succ, i64_w, i32_w]
                              rfl
                            refine take_ (i := 14) (N := some 91) (v := ?_) (a' := ?_) #[true, true, true, true, true, true, true, true, true, true, true, true, true, true, true, false, true, false, false, false, false, false, false, false, false, false, false, false, false, false, false, false, false, false, false, false, false, false, false, false, false] rfl rfl (take_ofW HT_.out HW_.out (by kernel_rfl)) (fun _ _ _ h => h) (Or.inl ⟨by rfl, ?_⟩) hHeld ?_ ?_
                            rotate_left
                            · rintro w' ⟨s0, s1, s2, s3, s4, s5, s6, s7, s8, s9, s10, s11, s12, s13⟩
                              go_simp
                              with_reducible rfl
                            rotate_left
                            · simp only [Act.put, List.setIfInBounds_toArray, List.set_cons_zero, List.set_cons_succ, i64_w, i32_w]
                              rfl
                            refine one_ (i := 15) (N := some 92) #[true, true, true, true, true, true, true, true, true, true, true, true, true, true, true, true, true, false, false, false, false, false, false, false, false, false, false, false, false, false, false, false, false, false, false, false, false, false, false, false, false] rfl rfl (one_of HT_.out (by kernel_rfl)) (by decide) (fun K hK => ?_)
                            refine goes_ Try.func9 (by kernel_rfl) rfl #[.agg #[.int .i64 a0_0, .int .u64 a0_1, .int .i64 a0_2, .int .u64 a0_3, .int .i64 a0_4, .int .u64 a0_5, .slice A0_6 l0_6.length c0_6], .agg #[.int .i64 a1_0, .int .u64 a1_1, .int .i64 a1_2, .int .u64 a1_3, .int .i64 a1_4, .int .u64 a1_5, .slice A1_6 l1_6.length c1_6]] (by rfl) rfl rfl (by (try simp only [List.map_toArray, List.map_cons, List.map_nil]); first | done | rfl | (simp only [List.length_drop, List.length_take]; rfl)) ?_
                            with_reducible refine (slash_Bad.calls a0_0 a0_1 a0_2 a0_3 a0_4 a0_5 _ _ l0_6 a1_0 a1_1 a1_2 a1_3 a1_4 a1_5 _ _ l1_6 t124 _ ?side1 ?side2 ?side3 ?side4 A48.out).mono ?_
                            (case side1 => repeat (first | exact (Kd.C_below HR0_6.out HB.out) | (with_reducible refine Kd.C_alloc ?_ _) | (with_reducible refine Kd.C_drewN ?_ _) | (with_reducible refine Kd.C_drew ?_)))
                            (case side2 => exact HC0_6.out)
                            (case side3 => repeat (first | exact (Kd.C_below HR1_6.out HB.out) | (with_reducible refine Kd.C_alloc ?_ _) | (with_reducible refine Kd.C_drewN ?_ _) | (with_reducible refine Kd.C_drew ?_)))
                            (case side4 => exact HC1_6.out)
                            rintro e w83 ⟨rfl, hb⟩
                            refine ⟨_, rfl, ?_⟩
                            have n0_ := Aside0.mk (blk_below (g := gb119) (o := .cells #[.int .i64 a0_0, .int .u64 a0_1, .int .i64 a0_2, .int .u64 a0_3, .int .i64 a0_4, .int .u64 a0_5, .slice A0_6 l0_6.length c0_6] 27 (0, 0)) (by (with_reducible repeat (first | refine blk_drewN ?_ _ | refine blk_drew ?_ | refine blk_alloc ?_ _)); exact BK119.out) hb)
                            have n1_ := Aside0.mk (blk_below (g := gb120) (o := .cells #[.int .i64 a1_0, .int .u64 a1_1, .int .i64 a1_2, .int .u64 a1_3, .int .i64 a1_4, .int .u64 a1_5, .slice A1_6 l1_6.length c1_6] 27 (0, 0)) (by (with_reducible repeat (first | refine blk_drewN ?_ _ | refine blk_drew ?_ | refine blk_alloc ?_ _)); exact BK120.out) hb)
                            have n2_ := Aside0.mk (below_step (by repeat (first | (with_reducible first | exact HB.out | apply below_alloc | apply pw_below_drewN | apply below_drew1 | refine below_set ?_ GE119.out | refine below_set ?_ GE120.out) | exact HB.out)) hb)
                            clear BK119
                            clear BK120
                            clear HB
                            have BK119 := n0_
                            have BK120 := n1_
                            have HB := n2_
                            clear n0_ n1_ n2_
                            (try clear hb)
                            (try clear hb2)
                            (try clear hk)
                            (try clear hi)
                            refine hK.out _ _ ⟨(blk_cell BK119.out 0).trans rfl, (blk_cell BK119.out 1).trans rfl, (blk_cell BK119.out 2).trans rfl, (blk_cell BK119.out 3).trans rfl, (blk_cell BK119.out 4).trans rfl, (blk_cell BK119.out 5).trans rfl, (blk_cell BK119.out 6).trans rfl, (blk_cell BK120.out 0).trans rfl, (blk_cell BK120.out 1).trans rfl, (blk_cell BK120.out 2).trans rfl, (blk_cell BK120.out 3).trans rfl, (blk_cell BK120.out 4).trans rfl, (blk_cell BK120.out 5).trans rfl, (blk_cell BK120.out 6).trans rfl⟩ (fun hHeld => ?_)
                            clear hK K
                            refine norm_ (a' := ?_) ?_ ?_
                            rotate_left
                            · show Act.put _ (some 92) _ = _
                              simp only [Act.put, List.setIfInBounds_toArray, List.set_cons_zero, List.set_cons_succ, i64_w, i32_w]
                              rfl
                            refine pure_ (i := 17) (N := some 94) (v := ?_) (a' := ?_) #[true, true, true, true, true, true, true, true, true, true, true, true, true, true, true, true, true, true, false, false, false, false, false, false, false, false, false, false, false, false, false, false, false, false, false, false, false, false, false, false, false] rfl rfl (any_of HT_.out (by kernel_rfl)) (fun _ _ _ h => h) (Or.inl ⟨by rfl, ?_⟩) ?_ ?_
                            rotate_left
                            · intro w'
                              go_simp
                              with_reducible rfl
                            rotate_left
                            · simp only [Act.put, List.setIfInBounds_toArray, List.set_cons_zero, List.set_cons_succ, i64_w, i32_w]
                              rfl
                            refine pure_ (i := 18) (N := some 95) (v := ?_) (a' := ?_) #[true, true, true, true, true, true, true, true, true, true, true, true, true, true, true, true, true, true, true, false, false, false, false, false, false, false, false, false, false, false, false, false, false, false, false, false, false, false, false, false, false] rfl rfl (any_of HT_.out (by kernel_rfl)) (fun _ _ _ h => h) (Or.inl ⟨by rfl, ?_⟩) ?_ ?_
                            rotate_left
                            · intro w'
                              go_simp
                              with_reducible rfl
                            rotate_left
                            · simp only [Act.put, List.setIfInBounds_toArray, List.set_cons_zero, List.set_cons_succ, i64_w, i32_w]
                              rfl
                            refine pure_ (i := 19) (N := some 96) (v := ?_) (a' := ?_) #[true, true, true, true, true, true, true, true, true, true, true, true, true, true, true, true, true, true, true, true, false, false, false, false, false, false, false, false, false, false, false, false, false, false, false, false, false, false, false, false, false] rfl rfl (any_of HT_.out (by kernel_rfl)) (fun _ _ _ h => h) (Or.inl ⟨by rfl, ?_⟩) ?_ ?_
                            rotate_left
                            · intro w'
                              go_simp
                              with_reducible rfl
                            rotate_left
                            · simp only [Act.put, List.setIfInBounds_toArray, List.set_cons_zero, List.set_cons_succ, i64_w, i32_w]
                              rfl
                            refine pure_ (i := 20) (N := some 97) (v := ?_) (a' := ?_) #[true, true, true, true, true, true, true, true, true, true, true, true, true, true, true, true, true, true, true, true, true, false, false, false, false, false, false, false, false, false, false, false, false, false, false, false, false, false, false, false, false] rfl rfl (any_of HT_.out (by kernel_rfl)) (fun _ _ _ h => h) (Or.inl ⟨by rfl, ?_⟩) ?_ ?_
                            rotate_left
                            · intro w'
                              go_simp
                              with_reducible rfl
                            rotate_left
                            · simp only [Act.put, List.setIfInBounds_toArray, List.set_cons_zero, List.set_cons_succ, i64_w, i32_w]
                              rfl
                            refine pure_ (i := 21) (N := some 98) (v := ?_) (a' := ?_) #[true, true, true, true, true, true, true, true, true, true, true, true, true, true, true, true, true, true, true, true, true, true, false, false, false, false, false, false, false, false, false, false, false, false, false, false, false, false, false, false, false] rfl rfl (any_of HT_.out (by kernel_rfl)) (fun _ _ _ h => h) (Or.inl ⟨by rfl, ?_⟩) ?_ ?_
                            rotate_left
                            · intro w'
                              go_simp
                              with_reducible rfl
                            rotate_left
                            · simp only [Act.put, List.setIfInBounds_toArray, List.set_cons_zero, List.set_cons_succ, i64_w, i32_w]
                              rfl
                            refine pure_ (i := 22) (N := some 99) (v := ?_) (a' := ?_) #[true, true, true, true, true, true, true, true, true, true, true, true, true, true, true, true, true, true, true, true, true, true, true, false, false, false, false, false, false, false, false, false, false, false, false, false, false, false, false, false, false] rfl rfl (any_of HT_.out (by kernel_rfl)) (fun _ _ _ h => h) (Or.inl ⟨by rfl, ?_⟩) ?_ ?_
                            rotate_left
                            · intro w'
                              go_simp
                              with_reducible rfl
                            rotate_left
                            · simp only [Act.put, List.setIfInBounds_toArray, List.set_cons_zero, List.set_cons_succ, i64_w, i32_w]
                              rfl
                            refine pure_ (i := 23) (N := some 100) (v := ?_) (a' := ?_) #[true, true, true, true, true, true, true, true, true, true, true, true, true, true, true, true, true, true, true, true, true, true, true, true, false, false, false, false, false, false, false, false, false, false, false, false, false, false, false, false, false] rfl rfl (any_of HT_.out (by kernel_rfl)) (fun _ _ _ h => h) (Or.inl ⟨by rfl, ?_⟩) ?_ ?_
                            rotate_left
                            · intro w'
                              go_simp
                              with_reducible rfl
                            rotate_left
                            · simp only [Act.put, List.setIfInBounds_toArray, List.set_cons_zero, List.set_cons_succ, i64_w, i32_w]
                              rfl
                            refine pure_ (i := 24) (N := some 101) (v := ?_) (a' := ?_) #[true, true, true, true, true, true, true, true, true, true, true, true, true, true, true, true, true, true, true, true, true, true, true, true, true, false, false, false, false, false, false, false, false, false, false, false, false, false, false, false, false] rfl rfl (any_of HT_.out (by kernel_rfl)) (fun _ _ _ h => h) (Or.inl ⟨by rfl, ?_⟩) ?_ ?_
                            rotate_left
                            · intro w'
                              go_simp
                              with_reducible rfl
                            rotate_left
                            · simp only [Act.put, List.setIfInBounds_toArray, List.set_cons_zero, List.set_cons_succ, i64_w, i32_w]
                              rfl
                            refine pure_ (i := 25) (N := some 102) (v := ?_) (a' := ?_) #[true, true, true, true, true, true, true, true, true, true, true, true, true, true, true, true, true, true, true, true, true, true, true, true, true, true, false, false, false, false, false, false, false, false, false, false, false, false, false, false, false] rfl rfl (any_of HT_.out (by kernel_rfl)) (fun _ _ _ h => h) (Or.inl ⟨by rfl, ?_⟩) ?_ ?_
                            rotate_left
                            · intro w'
                              go_simp
                              with_reducible rfl
                            rotate_left
                            · simp only [Act.put, List.setIfInBounds_toArray, List.set_cons_zero, List.set_cons_succ, i64_w, i32_w]
                              rfl
                            refine take_ (i := 26) (N := some 103) (v := ?_) (a' := ?_) #[true, true, true, true, true, true, true, true, true, true, true, true, true, true, true, true, true, true, true, true, true, true, true, true, true, true, true, false, false, false, false, false, false, false, false, false, false, false, false, false, false] rfl rfl (take_ofW HT_.out HW_.out (by kernel_rfl)) (fun _ _ _ h => h) (Or.inl ⟨by rfl, ?_⟩) hHeld ?_ ?_
                            rotate_left
                            · rintro w' ⟨s0, s1, s2, s3, s4, s5, s6, s7, s8, s9, s10, s11, s12, s13⟩
                              go_simp
                              with_reducible rfl
                            rotate_left
                            · simp only [Act.put, List.setIfInBounds_toArray, List.set_cons_zero, List.set_cons_succ, i64_w, i32_w]
                              rfl
                            refine take_ (i := 27) (N := some 104) (v := ?_) (a' := ?_) #[true, true, true, true, true, true, true, true, true, true, true, true, true, true, true, true, true, true, true, true, true, true, true, true, true, true, true, true, false, false, false, false, false, false, false, false, false, false, false, false, false] rfl rfl (take_ofW HT_.out HW_.out (by kernel_rfl)) (fun _ _ _ h => h) (Or.inl ⟨by rfl, ?_⟩) hHeld ?_ ?_
                            rotate_left
                            · rintro w' ⟨s0, s1, s2, s3, s4, s5, s6, s7, s8, s9, s10, s11, s12, s13⟩
                              go_simp
                              with_reducible rfl
                            rotate_left
                            · simp only [Act.put, List.setIfInBounds_toArray, List.set_cons_zero, List.set_cons_succ, i64_w, i32_w]
                              rfl
                            refine take_ (i := 29) (N := some 106) (v := ?_) (a' := ?_) #[true, true, true, true, true, true, true, true, true, true, true, true, true, true, true, true, true, true, true, true, true, true, true, true, true, true, true, true, false, true, false, false, false, false, false, false, false, false, false, false, false] rfl rfl (take_ofW HT_.out HW_.out (by kernel_rfl)) (fun _ _ _ h => h) (Or.inl ⟨by rfl, ?_⟩) hHeld ?_ ?_
                            rotate_left
                            · rintro w' ⟨s0, s1, s2, s3, s4, s5, s6, s7, s8, s9, s10, s11, s12, s13⟩
                              go_simp
                              with_reducible rfl
                            rotate_left
                            · simp only [Act.put, List.setIfInBounds_toArray, List.set_cons_zero, List.set_cons_succ, i64_w, i32_w]
                              rfl
                            refine take_ (i := 30) (N := some 107) (v := ?_) (a' := ?_) #[true, true, true, true, true, true, true, true, true, true, true, true, true, true, true, true, true, true, true, true, true, true, true, true, true, true, true, true, false, true, true, false, false, false, false, false, false, false, false, false, false] rfl rfl (take_ofW HT_.out HW_.out (by kernel_rfl)) (fun _ _ _ h => h) (Or.inl ⟨by rfl, ?_⟩) hHeld ?_ ?_
                            rotate_left
                            · rintro w' ⟨s0, s1, s2, s3, s4, s5, s6, s7, s8, s9, s10, s11, s12, s13⟩
                              go_simp
                              with_reducible rfl
                            rotate_left
                            · simp only [Act.put, List.setIfInBounds_toArray, List.set_cons_zero, List.set_cons_succ, i64_w, i32_w]
                              rfl
                            refine one_ (i := 28) (N := some 105) #[true, true, true, true, true, true, true, true, true, true, true, true, true, true, true, true, true, true, true, true, true, true, true, true, true, true, true, true, true, true, true, false, false, false, false, false, false, false, false, false, false] rfl rfl (one_of HT_.out (by kernel_rfl)) (by decide) (fun K hK => ?_)
                            refine goes_ Try.func9 (by kernel_rfl) rfl #[.agg #[.int .i64 a1_0, .int .u64 a1_1, .int .i64 a1_2, .int .u64 a1_3, .int .i64 a1_4, .int .u64 a1_5, .slice A1_6 l1_6.length c1_6], .agg #[.int .i64 a0_0, .int .u64 a0_1, .int .i64 a0_2, .int .u64 a0_3, .int .i64 a0_4, .int .u64 a0_5, .slice A0_6 l0_6.length c0_6]] (by rfl) rfl rfl (by (try simp only [List.map_toArray, List.map_cons, List.map_nil]); first | done | rfl | (simp only [List.length_drop, List.length_take]; rfl)) ?_
                            with_reducible refine (slash_Bad.calls a1_0 a1_1 a1_2 a1_3 a1_4 a1_5 _ _ l1_6 a0_0 a0_1 a0_2 a0_3 a0_4 a0_5 _ _ l0_6 t131 _ ?side1 ?side2 ?side3 ?side4 A76.out).mono ?_
                            (case side1 => repeat (first | exact (Kd.C_below HR1_6.out HB.out) | (with_reducible refine Kd.C_alloc ?_ _) | (with_reducible refine Kd.C_drewN ?_ _) | (with_reducible refine Kd.C_drew ?_)))
                            (case side2 => exact HC1_6.out)
                            (case side3 => repeat (first | exact (Kd.C_below HR0_6.out HB.out) | (with_reducible refine Kd.C_alloc ?_ _) | (with_reducible refine Kd.C_drewN ?_ _) | (with_reducible refine Kd.C_drew ?_)))
                            (case side4 => exact HC0_6.out)
                            rintro e w84 ⟨rfl, hb⟩
                            refine ⟨_, rfl, ?_⟩
                            have n0_ := Aside0.mk (blk_below (g := gb119) (o := .cells #[.int .i64 a0_0, .int .u64 a0_1, .int .i64 a0_2, .int .u64 a0_3, .int .i64 a0_4, .int .u64 a0_5, .slice A0_6 l0_6.length c0_6] 27 (0, 0)) (by (with_reducible repeat (first | refine blk_drewN ?_ _ | refine blk_drew ?_ | refine blk_alloc ?_ _)); exact BK119.out) hb)
                            have n1_ := Aside0.mk (blk_below (g := gb120) (o := .cells #[.int .i64 a1_0, .int .u64 a1_1, .int .i64 a1_2, .int .u64 a1_3, .int .i64 a1_4, .int .u64 a1_5, .slice A1_6 l1_6.length c1_6] 27 (0, 0)) (by (with_reducible repeat (first | refine blk_drewN ?_ _ | refine blk_drew ?_ | refine blk_alloc ?_ _)); exact BK120.out) hb)
                            have n2_ := Aside0.mk (below_step (by repeat (first | (with_reducible first | exact HB.out | apply below_alloc | apply pw_below_drewN | apply below_drew1 | refine below_set ?_ GE119.out | refine below_set ?_ GE120.out) | exact HB.out)) hb)
                            clear BK119
                            clear BK120
                            clear HB
                            have BK119 := n0_
                            have BK120 := n1_
                            have HB := n2_
                            clear n0_ n1_ n2_
                            (try clear hb)
                            (try clear hb2)
                            (try clear hk)
                            (try clear hi)
                            refine hK.out _ _ ⟨(blk_cell BK119.out 0).trans rfl, (blk_cell BK119.out 1).trans rfl, (blk_cell BK119.out 2).trans rfl, (blk_cell BK119.out 3).trans rfl, (blk_cell BK119.out 4).trans rfl, (blk_cell BK119.out 5).trans rfl, (blk_cell BK119.out 6).trans rfl, (blk_cell BK120.out 0).trans rfl, (blk_cell BK120.out 1).trans rfl, (blk_cell BK120.out 2).trans rfl, (blk_cell BK120.out 3).trans rfl, (blk_cell BK120.out 4).trans rfl, (blk_cell BK120.out 5).trans rfl, (blk_cell BK120.out 6).trans rfl⟩ (fun hHeld => ?_)
                            clear hK K
                            refine norm_ (a' := ?_) ?_ ?_
                            rotate_left
                            · show Act.put _ (some 105) _ = _
                              simp only [Act.put, List.setIfInBounds_toArray, List.set_cons_zero, List.set_cons_succ, i64_w, i32_w]
                              rfl
                            refine one_ (i := 31) (N := some 108) #[true, true, true, true, true, true, true, true, true, true, true, true, true, true, true, true, true, true, true, true, true, true, true, true, true, true, true, true, true, true, true, true, false, false, false, false, false, false, false, false, false] rfl rfl (one_of HT_.out (by kernel_rfl)) (by decide) (fun K hK => ?_)
                            refine goes_ Try.func9 (by kernel_rfl) rfl #[.agg #[.int .i64 a0_0, .int .u64 a0_1, .int .i64 a0_2, .int .u64 a0_3, .int .i64 a0_4, .int .u64 a0_5, .slice A0_6 l0_6.length c0_6], .agg #[.int .i64 a1_0, .int .u64 a1_1, .int .i64 a1_2, .int .u64 a1_3, .int .i64 a1_4, .int .u64 a1_5, .slice A1_6 l1_6.length c1_6]] (by rfl) rfl rfl (by (try simp only [List.map_toArray, List.map_cons, List.map_nil]); first | done | rfl | (simp only [List.length_drop, List.length_take]; rfl)) ?_
                            with_reducible refine (slash_Bad.calls a0_0 a0_1 a0_2 a0_3 a0_4 a0_5 _ _ l0_6 a1_0 a1_1 a1_2 a1_3 a1_4 a1_5 _ _ l1_6 t132 _ ?side1 ?side2 ?side3 ?side4 A77.out).mono ?_
                            (case side1 => repeat (first | exact (Kd.C_below HR0_6.out HB.out) | (with_reducible refine Kd.C_alloc ?_ _) | (with_reducible refine Kd.C_drewN ?_ _) | (with_reducible refine Kd.C_drew ?_)))
                            (case side2 => exact HC0_6.out)
                            (case side3 => repeat (first | exact (Kd.C_below HR1_6.out HB.out) | (with_reducible refine Kd.C_alloc ?_ _) | (with_reducible refine Kd.C_drewN ?_ _) | (with_reducible refine Kd.C_drew ?_)))
                            (case side4 => exact HC1_6.out)
                            rintro e w85 ⟨rfl, hb⟩
                            refine ⟨_, rfl, ?_⟩
                            have n0_ := Aside0.mk (blk_below (g := gb119) (o := .cells #[.int .i64 a0_0, .int .u64 a0_1, .int .i64 a0_2, .int .u64 a0_3, .int .i64 a0_4, .int .u64 a0_5, .slice A0_6 l0_6.length c0_6] 27 (0, 0)) (by (with_reducible repeat (first | refine blk_drewN ?_ _ | refine blk_drew ?_ | refine blk_alloc ?_ _)); exact BK119.out) hb)
                            have n1_ := Aside0.mk (blk_below (g := gb120) (o := .cells #[.int .i64 a1_0, .int .u64 a1_1, .int .i64 a1_2, .int .u64 a1_3, .int .i64 a1_4, .int .u64 a1_5, .slice A1_6 l1_6.length c1_6] 27 (0, 0)) (by (with_reducible repeat (first | refine blk_drewN ?_ _ | refine blk_drew ?_ | refine blk_alloc ?_ _)); exact BK120.out) hb)
                            have n2_ := Aside0.mk (below_step (by repeat (first | (with_reducible first | exact HB.out | apply below_alloc | apply pw_below_drewN | apply below_drew1 | refine below_set ?_ GE119.out | refine below_set ?_ GE120.out) | exact HB.out)) hb)
                            clear BK119
                            clear BK120
                            clear HB
                            have BK119 := n0_
                            have BK120 := n1_
                            have HB := n2_
                            clear n0_ n1_ n2_
                            (try clear hb)
                            (try clear hb2)
                            (try clear hk)
                            (try clear hi)
                            refine hK.out _ _ ⟨(blk_cell BK119.out 0).trans rfl, (blk_cell BK119.out 1).trans rfl, (blk_cell BK119.out 2).trans rfl, (blk_cell BK119.out 3).trans rfl, (blk_cell BK119.out 4).trans rfl, (blk_cell BK119.out 5).trans rfl, (blk_cell BK119.out 6).trans rfl, (blk_cell BK120.out 0).trans rfl, (blk_cell BK120.out 1).trans rfl, (blk_cell BK120.out 2).trans rfl, (blk_cell BK120.out 3).trans rfl, (blk_cell BK120.out 4).trans rfl, (blk_cell BK120.out 5).trans rfl, (blk_cell BK120.out 6).trans rfl⟩ (fun hHeld => ?_)
                            clear hK K
                            refine norm_ (a' := ?_) ?_ ?_
                            rotate_left
                            · show Act.put _ (some 108) _ = _
                              simp only [Act.put, List.setIfInBounds_toArray, List.set_cons_zero, List.set_cons_succ, i64_w, i32_w]
                              rfl
                            refine pure_ (i := 32) (N := some 109) (v := ?_) (a' := ?_) #[true, true, true, true, true, true, true, true, true, true, true, true, true, true, true, true, true, true, true, true, true, true, true, true, true, true, true, true, true, true, true, true, true, false, false, false, false, false, false, false, false] rfl rfl (any_of HT_.out (by kernel_rfl)) (fun _ _ _ h => h) (Or.inl ⟨by rfl, ?_⟩) ?_ ?_
                            rotate_left
                            · intro w'
                              go_simp
                              with_reducible rfl
                            rotate_left
                            · simp only [Act.put, List.setIfInBounds_toArray, List.set_cons_zero, List.set_cons_succ, i64_w, i32_w]
                              rfl
                            refine pure_ (i := 33) (N := some 110) (v := ?_) (a' := ?_) #[true, true, true, true, true, true, true, true, true, true, true, true, true, true, true, true, true, true, true, true, true, true, true, true, true, true, true, true, true, true, true, true, true, true, false, false, false, false, false, false, false] rfl rfl (any_of HT_.out (by kernel_rfl)) (fun _ _ _ h => h) (Or.inl ⟨by rfl, ?_⟩) ?_ ?_
                            rotate_left
                            · intro w'
                              go_simp
                              with_reducible rfl
                            rotate_left
                            · simp only [Act.put, List.setIfInBounds_toArray, List.set_cons_zero, List.set_cons_succ, i64_w, i32_w]
                              rfl
                            refine pure_ (i := 34) (N := some 111) (v := ?_) (a' := ?_) #[true, true, true, true, true, true, true, true, true, true, true, true, true, true, true, true, true, true, true, true, true, true, true, true, true, true, true, true, true, true, true, true, true, true, true, false, false, false, false, false, false] rfl rfl (any_of HT_.out (by kernel_rfl)) (fun _ _ _ h => h) (Or.inl ⟨by rfl, ?_⟩) ?_ ?_
                            rotate_left
                            · intro w'
                              go_simp
                              with_reducible rfl
                            rotate_left
                            · simp only [Act.put, List.setIfInBounds_toArray, List.set_cons_zero, List.set_cons_succ, i64_w, i32_w]
                              rfl
                            refine take_ (i := 35) (N := some 112) (v := ?_) (a' := ?_) #[true, true, true, true, true, true, true, true, true, true, true, true, true, true, true, true, true, true, true, true, true, true, true, true, true, true, true, true, true, true, true, true, true, true, true, true, false, false, false, false, false] rfl rfl (take_ofW HT_.out HW_.out (by kernel_rfl)) (fun _ _ _ h => h) (Or.inl ⟨by rfl, ?_⟩) hHeld ?_ ?_
                            rotate_left
                            · rintro w' ⟨s0, s1, s2, s3, s4, s5, s6, s7, s8, s9, s10, s11, s12, s13⟩
                              go_simp
                              with_reducible rfl
                            rotate_left
                            · simp only [Act.put, List.setIfInBounds_toArray, List.set_cons_zero, List.set_cons_succ, i64_w, i32_w]
                              rfl
                            refine take_ (i := 36) (N := some 113) (v := ?_) (a' := ?_) #[true, true, true, true, true, true, true, true, true, true, true, true, true, true, true, true, true, true, true, true, true, true, true, true, true, true, true, true, true, true, true, true, true, true, true, true, true, false, false, false, false] rfl rfl (take_ofW HT_.out HW_.out (by kernel_rfl)) (fun _ _ _ h => h) (Or.inl ⟨by rfl, ?_⟩) hHeld ?_ ?_
                            rotate_left
                            · rintro w' ⟨s0, s1, s2, s3, s4, s5, s6, s7, s8, s9, s10, s11, s12, s13⟩
                              go_simp
                              with_reducible rfl
                            rotate_left
                            · simp only [Act.put, List.setIfInBounds_toArray, List.set_cons_zero, List.set_cons_succ, i64_w, i32_w]
                              rfl
                            refine one_ (i := 37) (N := some 114) #[true, true, true, true, true, true, true, true, true, true, true, true, true, true, true, true, true, true, true, true, true, true, true, true, true, true, true, true, true, true, true, true, true, true, true, true, true, true, false, false, false] rfl rfl (one_of HT_.out (by kernel_rfl)) (by decide) (fun K hK => ?_)
                            refine goes_ Try.func9 (by kernel_rfl) rfl #[.agg #[.int .i64 a0_0, .int .u64 a0_1, .int .i64 a0_2, .int .u64 a0_3, .int .i64 a0_4, .int .u64 a0_5, .slice A0_6 l0_6.length c0_6], .agg #[.int .i64 a0_0, .int .u64 a0_1, .int .i64 a0_2, .int .u64 a0_3, .int .i64 a0_4, .int .u64 a0_5, .slice A0_6 l0_6.length c0_6]] (by rfl) rfl rfl (by (try simp only [List.map_toArray, List.map_cons, List.map_nil]); first | done | rfl | (simp only [List.length_drop, List.length_take]; rfl)) ?_
                            with_reducible refine (slash_Bad.calls a0_0 a0_1 a0_2 a0_3 a0_4 a0_5 _ _ l0_6 a0_0 a0_1 a0_2 a0_3 a0_4 a0_5 _ _ l0_6 t133 _ ?side1 ?side2 ?side3 ?side4 A79.out).mono ?_
                            (case side1 => repeat (first | exact (Kd.C_below HR0_6.out HB.out) | (with_reducible refine Kd.C_alloc ?_ _) | (with_reducible refine Kd.C_drewN ?_ _) | (with_reducible refine Kd.C_drew ?_)))
                            (case side2 => exact HC0_6.out)
                            (case side3 => repeat (first | exact (Kd.C_below HR0_6.out HB.out) | (with_reducible refine Kd.C_alloc ?_ _) | (with_reducible refine Kd.C_drewN ?_ _) | (with_reducible refine Kd.C_drew ?_)))
                            (case side4 => exact HC0_6.out)
                            rintro e w86 ⟨rfl, hb⟩
                            refine ⟨_, rfl, ?_⟩
                            have n0_ := Aside0.mk (blk_below (g := gb119) (o := .cells #[.int .i64 a0_0, .int .u64 a0_1, .int .i64 a0_2, .int .u64 a0_3, .int .i64 a0_4, .int .u64 a0_5, .slice A0_6 l0_6.length c0_6] 27 (0, 0)) (by (with_reducible repeat (first | refine blk_drewN ?_ _ | refine blk_drew ?_ | refine blk_alloc ?_ _)); exact BK119.out) hb)
                            have n1_ := Aside0.mk (blk_below (g := gb120) (o := .cells #[.int .i64 a1_0, .int .u64 a1_1, .int .i64 a1_2, .int .u64 a1_3, .int .i64 a1_4, .int .u64 a1_5, .slice A1_6 l1_6.length c1_6] 27 (0, 0)) (by (with_reducible repeat (first | refine blk_drewN ?_ _ | refine blk_drew ?_ | refine blk_alloc ?_ _)); exact BK120.out) hb)
                            have n2_ := Aside0.mk (below_step (by repeat (first | (with_reducible first | exact HB.out | apply below_alloc | apply pw_below_drewN | apply below_drew1 | refine below_set ?_ GE119.out | refine below_set ?_ GE120.out) | exact HB.out)) hb)
                            clear BK119
                            clear BK120
                            clear HB
                            have BK119 := n0_
                            have BK120 := n1_
                            have HB := n2_
                            clear n0_ n1_ n2_
                            (try clear hb)
                            (try clear hb2)
                            (try clear hk)
                            (try clear hi)
                            refine hK.out _ _ ⟨(blk_cell BK119.out 0).trans rfl, (blk_cell BK119.out 1).trans rfl, (blk_cell BK119.out 2).trans rfl, (blk_cell BK119.out 3).trans rfl, (blk_cell BK119.out 4).trans rfl, (blk_cell BK119.out 5).trans rfl, (blk_cell BK119.out 6).trans rfl, (blk_cell BK120.out 0).trans rfl, (blk_cell BK120.out 1).trans rfl, (blk_cell BK120.out 2).trans rfl, (blk_cell BK120.out 3).trans rfl, (blk_cell BK120.out 4).trans rfl, (blk_cell BK120.out 5).trans rfl, (blk_cell BK120.out 6).trans rfl⟩ (fun hHeld => ?_)
                            clear hK K
                            refine norm_ (a' := ?_) ?_ ?_
                            rotate_left
                            · show Act.put _ (some 114) _ = _
                              simp only [Act.put, List.setIfInBounds_toArray, List.set_cons_zero, List.set_cons_succ, i64_w, i32_w]
                              rfl
                            refine pure_ (i := 38) (N := some 115) (v := ?_) (a' := ?_) #[true, true, true, true, true, true, true, true, true, true, true, true, true, true, true, true, true, true, true, true, true, true, true, true, true, true, true, true, true, true, true, true, true, true, true, true, true, true, true, false, false] rfl rfl (any_of HT_.out (by kernel_rfl)) (fun _ _ _ h => h) (Or.inl ⟨by rfl, ?_⟩) ?_ ?_
                            rotate_left
                            · intro w'
                              go_simp
                              with_reducible rfl
                            rotate_left
                            · simp only [Act.put, List.setIfInBounds_toArray, List.set_cons_zero, List.set_cons_succ, i64_w, i32_w]
                              rfl
                            refine pure_ (i := 39) (N := some 116) (v := ?_) (a' := ?_) #[true, true, true, true, true, true, true, true, true, true, true, true, true, true, true, true, true, true, true, true, true, true, true, true, true, true, true, true, true, true, true, true, true, true, true, true, true, true, true, true, false] rfl rfl (any_of HT_.out (by kernel_rfl)) (fun _ _ _ h => h) (Or.inl ⟨by rfl, ?_⟩) ?_ ?_
                            rotate_left
                            · intro w'
                              go_simp
                              with_reducible rfl
                            rotate_left
                            · simp only [Act.put, List.setIfInBounds_toArray, List.set_cons_zero, List.set_cons_succ, i64_w, i32_w]
                              rfl
                            refine pure_ (i := 40) (N := some 4) (v := ?_) (a' := ?_) #[true, true, true, true, true, true, true, true, true, true, true, true, true, true, true, true, true, true, true, true, true, true, true, true, true, true, true, true, true, true, true, true, true, true, true, true, true, true, true, true, true] rfl rfl (any_of HT_.out (by kernel_rfl)) (fun _ _ _ h => h) (Or.inl ⟨by rfl, ?_⟩) ?_ ?_
                            rotate_left
                            · intro w'
                              go_simp
                              with_reducible rfl
                            rotate_left
                            · simp only [Act.put, List.setIfInBounds_toArray, List.set_cons_zero, List.set_cons_succ, i64_w, i32_w]
                              rfl
                            refine done_ (done_of HT_.out (by kernel_rfl)) ?_
                            try go_wp2
                            go_ret
                            exact ⟨by first | rfl | (simp [errW_none, errW_some] <;> rfl) | (simp [*, errW_none, errW_some] <;> rfl), by repeat (first | (with_reducible first | exact HB.out | apply below_alloc | apply pw_below_drewN | apply below_drew1 | refine below_set ?_ GE119.out | refine below_set ?_ GE120.out) | exact HB.out)⟩
                          · rw [if_neg c78] at H
                            have c78b0 : (t131 == t132) = false := by simpa using c78
                            (try (have c78b1 : decide (t131 = t132) = false := by simpa using c78))
                            (try (have c78b2 : (t131 == t132) = false := by simpa using c78))
                            (try (have c78b3 : ¬ (t131 = t132) := by simpa using c78))
                            clear c78
                            exact absurd ((Option.some.inj H).trans hr_) Bool.false_ne_true
                        · rw [if_neg c75] at H
                          have c75b0 : (t124 == x7_35) = false := by simpa using c75
                          (try (have c75b1 : decide (t124 = x7_35) = false := by simpa using c75))
                          (try (have c75b2 : (t124 == x7_35) = false := by simpa using c75))
                          (try (have c75b3 : ¬ (t124 = x7_35) := by simpa using c75))
                          clear c75
                          exact absurd ((Option.some.inj H).trans hr_) Bool.false_ne_true
                  · rw [if_neg c47] at H
                    have c47b0 : (t123 == x6_27) = false := by simpa using c47
                    (try (have c47b1 : decide (t123 = x6_27) = false := by simpa using c47))
                    (try (have c47b2 : (t123 == x6_27) = false := by simpa using c47))
                    (try (have c47b3 : ¬ (t123 = x6_27) := by simpa using c47))
                    clear c47
                    exact absurd ((Option.some.inj H).trans hr_) Bool.false_ne_true
                · rw [if_neg c45] at H
                  have c45b0 : (t122 == x5_4) = false := by simpa using c45
                  (try (have c45b1 : decide (t122 = x5_4) = false := by simpa using c45))
                  (try (have c45b2 : (t122 == x5_4) = false := by simpa using c45))
                  (try (have c45b3 : ¬ (t122 = x5_4) := by simpa using c45))
                  clear c45
                  exact absurd ((Option.some.inj H).trans hr_) Bool.false_ne_true
  · replace c4 := Bool.eq_false_iff.mpr c4
    subst c4
    have H1 : (some false) = some r := by rw [if_neg (show ¬ (false = true) by decide)] at H; exact H
    clear H
    have H := H1
    clear H1
    exact absurd ((Option.some.inj H).trans hr_) Bool.false_ne_true

end Go.Proofs.Ytolkagkfedpjmaa.QB
