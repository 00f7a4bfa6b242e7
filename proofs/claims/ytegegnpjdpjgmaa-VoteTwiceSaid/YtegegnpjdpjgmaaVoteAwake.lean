/-
  The document's examples of package vote's statements hold; with enough rounds.
-/
import Derived.Test.YtegegnpjdpjgmaaQVx3
import Derived.Test.YtegegnpjdpjgmaaQVx10
import Derived.Test.YtegegnpjdpjgmaaVotePureA
namespace Go.Proofs.Ytegegnpjdpjgmaa.QV
open Go.RowKit Go.Proofs.YtegegnpjdpjgmaaW.PrintWords Go.Proofs.YtegegnpjdpjgmaaW.PrintLast Go.Proofs.YtegegnpjdpjgmaaW.PrintMore
set_option linter.unusedVariables false

theorem awake_f : Ev (fun k => psephoslaw05_awake.f k) true := by
  have hb : both [1, 3, 5] [3, 4, 5] = [3, 5] := rises_eq (both_rises _ _) (by decide) (fun x => by rw [both_mem]; simp; omega)
  have h1 := both_f [1, 3, 5] [3, 4, 5] 0 0 0 0 0 0 0 0 0 0 0 0 (by decide) (by decide)
  rw [hb] at h1
  refine Ev.bind h1 ?_
  have h2 := right_true [0] [1] 4 0 0 0 0 0 0 0 (by decide) (by decide) ⟨by decide, by decide, by decide, by decide, by decide, fun j hj => by
    obtain rfl : j = 0 := by simp at hj; omega
    exact ⟨by decide, by decide, fun h => by omega⟩⟩
  refine Ev.congr (f := fun k => (vote_Right.f k (([1] : List Int)) 4 0 0 0 0 0 0 0 (([0] : List Int))).bind fun t144 => (some t144)) (fun k => ?_) (Ev.bind h2 (Ev.now _))
  simp [rd]
end Go.Proofs.Ytegegnpjdpjgmaa.QV
