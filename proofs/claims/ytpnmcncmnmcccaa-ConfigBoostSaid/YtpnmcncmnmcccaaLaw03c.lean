/-
  The law ConfigBoost: its printed function answers true, so its call does; of a configuration that came in.
-/
import Derived.Test.YtpnmcncmnmcccaaConfigPureBoost
import Derived.Test.YtpnmcncmnmcccaaMConfigBoostx4
import Derived.Test.YtpnmcncmnmcccaaOwn
import Derived.IntWalk
namespace Go.Proofs.Ytpnmcncmnmcccaa.PConfigBoost
open Go.RowKit Go.Proofs.YtpnmcncmnmcccaaW.PrintWords Go.Proofs.Ytpnmcncmnmcccaa.Own

theorem awake_ev : Ev (fun k => psephoslaw03_awake.f k) true := Ev.of psephoslaw03_awake.mono (k := 20) (by decide +kernel)

theorem u64_wrap (x : Int) : IntKind.u64.wrap x = x % 18446744073709551616 := by
  simp [IntKind.wrap, IntKind.bits, IntKind.signed]

theorem rest_f (a m : Int) (hm : 0 < m ∧ m ≤ 1000) : psephoslaw03_rest.f a m = some (a % m) := by
  unfold psephoslaw03_rest.f
  rw [if_neg (by omega)]
  have h1 : -m < Int.tmod a m ∧ Int.tmod a m < m := ⟨by have := Int.lt_tmod_of_pos a hm.1; omega, Int.tmod_lt_of_pos a hm.1⟩
  have w : wrap64 (Int.tmod a m + m) = Int.tmod a m + m := by unfold wrap64; omega
  rw [w, Int.tmod_eq_emod_of_nonneg (by omega), Int.add_emod_right]
  congr 1
  have h2 : m ∣ a - Int.tmod a m := Int.dvd_self_sub_tmod
  exact (Int.emod_eq_emod_iff_emod_sub_eq_zero.2 (Int.emod_eq_zero_of_dvd h2)).symm

/-- What is made of the balances. -/
def cutTo (bs : List Int) : List Int := if bs = [] then [7] else (bs.take 4096).map (fun b => b % 4294967297)

theorem made_l0 (bs : List Int) (s b : Int) (hn : bs.length ≤ 17592186044416) (hw : ∀ x ∈ bs, (Lit.int .u64 x).wf = true) (d : Nat) : ∀ (i : Nat) (acc : List Int), i + d = bs.length → acc = (bs.take (min i 4096)).map (fun b => b % 4294967297) →
    Ev (fun k => psephoslaw03_Make.l0 k bs bs.length i acc s b) (cutTo bs, s, b) := by
  induction d with
  | zero =>
    intro i acc hi h
    refine Ev.step (f := fun _ => some (cutTo bs, s, b)) (fun k => ?_) (Ev.now _)
    simp only [psephoslaw03_Make.l0]
    rw [if_neg (by omega)]
    by_cases e : bs = []
    · subst e
      subst h
      simp [cutTo]
    · have hl : 0 < bs.length := List.length_pos_iff.2 e
      rw [if_neg (by rw [h, List.length_map, List.length_take]; omega)]
      unfold cutTo
      rw [if_neg e, h]
      congr 3
      by_cases hs : i ≤ 4096
      · rw [Nat.min_eq_left hs, List.take_of_length_le (by omega), List.take_of_length_le (by omega)]
      · rw [Nat.min_eq_right (by omega)]
  | succ d ih =>
    intro i acc hi h
    have hx : 0 ≤ rd bs i := by
      have hm : rd bs i ∈ bs := by
        unfold rd
        rw [Int.toNat_natCast, List.getD_eq_getElem?_getD, List.getElem?_eq_getElem (by omega), Option.getD_some]
        exact List.getElem_mem _
      exact (bd_u64 (hw _ hm)).1
    by_cases hlt : i < 4096
    · have hacc : acc ++ [Int.tmod (rd bs i) 4294967297] = (bs.take (min (i + 1) 4096)).map (fun b => b % 4294967297) := by
        rw [h, Nat.min_eq_left (by omega), Nat.min_eq_left (by omega), List.take_succ_eq_append_getElem (by omega), List.map_append, Int.tmod_eq_emod_of_nonneg hx]
        simp [rd, List.getD_eq_getElem?_getD, show i < bs.length by omega]
      refine Ev.step (f := fun k => psephoslaw03_Make.l0 k bs bs.length ((i + 1 : Nat) : Int) (acc ++ [Int.tmod (rd bs i) 4294967297]) s b) (fun k => ?_) (ih (i + 1) _ (by omega) hacc)
      simp only [psephoslaw03_Make.l0]
      rw [if_pos (by omega), if_pos (by omega), if_pos (by omega), if_pos (by omega), if_pos (by rw [h, List.length_map, List.length_take]; omega), wrap_next (n := bs.length) (by omega) (by omega)]
    · refine Ev.step (f := fun k => psephoslaw03_Make.l0 k bs bs.length ((i + 1 : Nat) : Int) acc s b) (fun k => ?_) (ih (i + 1) _ (by omega) (by rw [h, Nat.min_eq_right (by omega), Nat.min_eq_right (by omega)]))
      simp only [psephoslaw03_Make.l0]
      rw [if_pos (by omega), if_pos (by omega), if_pos (by omega), if_neg (by omega), wrap_next (n := bs.length) (by omega) (by omega)]

theorem made_f (bs : List Int) (s b : Int) (hn : bs.length ≤ 17592186044416) (hw : ∀ x ∈ bs, (Lit.int .u64 x).wf = true) : Ev (fun k => psephoslaw03_Make.f k bs s b) (cutTo bs, 1 + wrap64 (s - 1) % 64, b % 101) := by
  unfold psephoslaw03_Make.f
  rw [rest_f _ 64 (by omega), rest_f b 101 (by omega)]
  simp only [Option.bind_some]
  have w : wrap64 (1 + wrap64 (s - 1) % 64) = 1 + wrap64 (s - 1) % 64 := by
    generalize wrap64 (s - 1) = y
    unfold wrap64
    omega
  rw [w]
  exact made_l0 bs _ _ hn hw bs.length 0 [] (by omega) (by simp)

theorem cut_small (bs : List Int) : (cutTo bs).length ≤ 4096 ∧ ∀ x ∈ cutTo bs, 0 ≤ x ∧ x ≤ 4294967296 := by
  unfold cutTo
  by_cases e : bs = []
  · rw [if_pos e]
    exact ⟨by simp, by simp⟩
  · rw [if_neg e]
    refine ⟨by rw [List.length_map, List.length_take]; omega, fun x hx => ?_⟩
    obtain ⟨y, _, rfl⟩ := List.mem_map.1 hx
    omega
theorem all_small (l : List Int) : ∀ acc : Int, 0 ≤ acc → l.length ≤ 4096 → acc ≤ (4096 - l.length) * 4294967296 → (∀ x ∈ l, 0 ≤ x ∧ x ≤ 4294967296) → 0 ≤ allOf acc l ∧ allOf acc l ≤ 17592186044416 := by
  induction l with
  | nil => intro acc h0 _ h1 _; exact ⟨h0, by simp only [allOf, List.foldl_nil]; simp at h1; omega⟩
  | cons x l ih =>
    intro acc h0 hl h1 hx
    have hx0 := hx x (List.mem_cons_self ..)
    rw [List.length_cons] at hl h1
    simp only [allOf, List.foldl_cons]
    rw [IntWalk.u64_in (acc + x) (by omega)]
    exact ih (acc + x) (by omega) (by omega) (by omega) (fun y hy => hx y (List.mem_cons_of_mem _ hy))
theorem all_u64 (l : List Int) : ∀ acc : Int, 0 ≤ acc ∧ acc ≤ 18446744073709551615 → 0 ≤ allOf acc l ∧ allOf acc l ≤ 18446744073709551615 := by
  induction l with
  | nil => intro acc h; exact h
  | cons x l ih =>
    intro acc h
    simp only [allOf, List.foldl_cons]
    exact ih _ (by rw [u64_wrap]; omega)

/-- A boost, as the program reckons it. -/
def boostOf (t s b : Int) : Int := IntKind.u64.wrap (Int.tdiv (IntKind.u64.wrap ((IntKind.u64.wrap (Int.tdiv t (IntKind.u64.wrap (mx 1 s)))) * (IntKind.u64.wrap (mx 0 b)))) 100)

theorem slots_ne {s : Int} (hs : s ≤ 9223372036854775807) : ¬ IntKind.u64.wrap (mx 1 s) = 0 := by
  have h : 1 ≤ mx 1 s ∧ mx 1 s ≤ 9223372036854775807 := by unfold mx; split <;> omega
  rw [IntWalk.u64_in _ (by omega)]
  omega
theorem boost_f (bs : List Int) (s b : Int) (hn : bs.length ≤ 35184372088832) (hs : s ≤ 9223372036854775807) : Ev (fun k => config_Boost.f k bs s b) (boostOf (allOf 0 bs) s b) := by
  unfold config_Boost.f
  refine Ev.bind (total_f bs s b hn) ?_
  exact Ev.congr (fun k => by rw [if_neg (slots_ne hs)]; rfl) (Ev.now _)

theorem boost_le (t s b : Int) (ht : 0 ≤ t ∧ t ≤ 17592186044416) (hs : 1 ≤ s ∧ s ≤ 64) (hb : 0 ≤ b ∧ b ≤ 100) :
    boostOf t s b = IntKind.u64.wrap (Int.tdiv (IntKind.u64.wrap ((IntKind.u64.wrap (Int.tdiv t (IntKind.u64.wrap s))) * (IntKind.u64.wrap b))) 100) ∧ boostOf t s b ≤ IntKind.u64.wrap (Int.tdiv t (IntKind.u64.wrap s)) := by
  have m1 : mx 1 s = s := by unfold mx; split <;> omega
  have m0 : mx 0 b = b := by unfold mx; split <;> omega
  unfold boostOf
  rw [m1, m0]
  refine ⟨rfl, ?_⟩
  rw [IntWalk.u64_in s (by omega), IntWalk.u64_in b (by omega), Int.tdiv_eq_ediv_of_nonneg ht.1]
  have h0 : 0 ≤ t / s := Int.ediv_nonneg ht.1 (by omega)
  have h1 : t / s ≤ t := Int.ediv_le_self s ht.1
  generalize t / s = q at *
  rw [IntWalk.u64_in q (by omega)]
  have h2 : 0 ≤ q * b := Int.mul_nonneg h0 hb.1
  have h3 : q * b ≤ q * 100 := Int.mul_le_mul_of_nonneg_left hb.2 h0
  generalize q * b = p at *
  rw [IntWalk.u64_in p (by omega), Int.tdiv_eq_ediv_of_nonneg h2, IntWalk.u64_in (p / 100) (by omega)]
  omega

theorem law_f (bs : List Int) (s b : Int) (hn : bs.length ≤ 17592186044416) (hw : ∀ x ∈ bs, (Lit.int .u64 x).wf = true) (hs : s ≤ 9223372036854775807) : ∃ k, psephoslaw03_ConfigBoost.f k bs s b = some true := by
  refine Ev.rounds (g := fun k => psephoslaw03_ConfigBoost.f k bs s b) ?_
  unfold psephoslaw03_ConfigBoost.f
  refine Ev.bind awake_ev ?_
  refine Ev.congr (fun k => by rw [if_pos rfl]) ?_
  refine Ev.bind (made_f bs s b hn hw) ?_
  have hms : 1 ≤ 1 + wrap64 (s - 1) % 64 ∧ 1 + wrap64 (s - 1) % 64 ≤ 64 := by omega
  have hmb : 0 ≤ b % 101 ∧ b % 101 ≤ 100 := by omega
  obtain ⟨hl, hx⟩ := cut_small bs
  have ht := all_small (cutTo bs) 0 (by omega) hl (by omega) hx
  generalize cutTo bs = m at *
  generalize 1 + wrap64 (s - 1) % 64 = ms at *
  generalize b % 101 = mb at *
  obtain ⟨e1, e2⟩ := boost_le (allOf 0 m) ms mb ht hms hmb
  refine Ev.bind (total_f m ms mb (by omega)) ?_
  refine Ev.congr (fun k => by rw [if_neg (by rw [IntWalk.u64_in ms (by omega)]; omega)]) ?_
  refine Ev.bind (total_f bs s b (by omega)) ?_
  refine Ev.congr (fun k => by rw [if_neg (slots_ne hs)]) ?_
  refine Ev.bind (boost_f m ms mb (by omega) (by omega)) ?_
  refine Ev.congr (fun k => by rw [if_pos e1]) ?_
  refine Ev.bind (boost_f m ms mb (by omega) (by omega)) ?_
  refine Ev.congr (fun k => by rw [if_pos e2]) ?_
  refine Ev.bind (boost_f bs s b (by omega) hs) ?_
  unfold boostOf
  simp only [beq_self_eq_true]
  exact Ev.now _

theorem configBoost_law (A : Option Addr) (n c : Nat) (bs : List Int) (s b : Int) (w : World) (g : ReadsInt w .u64 A n bs) (hc : n ≤ c) (hsz : n * 8 ≤ 140737488351232) (hw : ∀ x ∈ bs, (Lit.int .u64 x).wf = true) (hs : -9223372036854775808 ≤ s ∧ s ≤ 9223372036854775807) :
    Calls Try.prog 4 #[.agg #[.slice A n c, .int .i64 s, .int .i64 b]] w fun e w' => e = .returned (.bool true) ∧ Below w.heap.size w w' := by
  obtain ⟨rfl, hm, hr⟩ := g
  obtain ⟨k, h⟩ := law_f bs s b (by omega) hw hs.2
  exact psephoslaw03_ConfigBoost.calls k _ _ bs s b true w (Kd.C_of_reads (d := (0 : Int)) (h1 := fun _ => rfl) ⟨rfl, hm, hr⟩) hc h
end Go.Proofs.Ytpnmcncmnmcccaa.PConfigBoost
