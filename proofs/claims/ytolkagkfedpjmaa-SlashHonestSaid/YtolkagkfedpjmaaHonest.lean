/-
  The law SlashHonest as a call: it answers true, and writes nothing that was there; of a slice that came in.
-/
import Derived.Test.YtolkagkfedpjmaaPureSlashHonest
import Derived.Test.YtolkagkfedpjmaaOwn
namespace Go.Proofs.Ytolkagkfedpjmaa.Honest
open Go.RowKit Go.Proofs.Ytolkagkfedpjmaa.PSlashHonest Go.Proofs.YtolkagkfedpjmaaW.PrintWords Go.Proofs.Ytolkagkfedpjmaa.Own

theorem slashHonest_law (A : Option Addr) (n c : Nat) (z : List Int) (w : World) (g : ReadsInt w .u8 A n z) (hc : n ≤ c) (hs : n * 1 ≤ 140737488351232) (hw : ∀ x ∈ z, (Lit.int .u8 x).wf = true) :
    Calls Try.prog 4 #[.slice A n c] w fun e w' => e = .returned (.bool true) ∧ Below w.heap.size w w' := by
  obtain ⟨rfl, hm, hr⟩ := g
  obtain ⟨k, h⟩ := Pure.SlashHonest z hm hs hw
  exact (psephoslaw06_SlashHonest.calls k _ _ z true w (Kd.C_of_reads (d := (0 : Int)) (h1 := fun _ => rfl) ⟨rfl, hm, hr⟩) hc h).mono fun e w' h => h
end Go.Proofs.Ytolkagkfedpjmaa.Honest
