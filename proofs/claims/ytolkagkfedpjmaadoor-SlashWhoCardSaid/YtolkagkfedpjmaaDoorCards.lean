/-
  DERIVED. GIVEN WITH THE SEED: THE CARDS: each row of YtolkagkfedpjmaaDoorRows.lean that lists a variable, with what it lists TIED to the program's text (the seventh form; the later family's looks); each row that meets fmt, with fmt's text TOLD by the authors' own Lean function (tested against real Go, not proved from fmt's source: count such statements apart). THE CARD IS WHAT COUNTS. Prove the row's statement (the work); the ties are given (YtolkagkfedpjmaaDoorTie.lean); close each card by the builder's one call (the guide's Derived/Test/ToyasCard.lean, 'card_holds'). Laid BY PROGRAM, IN A SANDBOX (cutbox-door.mjs). By AI agents, Wed Nov 11 2026. No macro, syntax, notation, axiom, sorry.
-/
import Derived.Test.YtolkagkfedpjmaaDoorRows
import GoSem.ClaimSeven
namespace Go.Proofs.YtolkagkfedpjmaaDoor
namespace Rows

/-- THE TIED CARD OF 'psephoslaw06.SlashWho'. -/
def slashWhoCard : Claim7 := { stood := { row := slashWhoRow, standIns := [], harness := (true, "f2bb3fc719b9f02d84c13fe440f902d19508b8e4122c2de0e99f295358eb8b54"), looks := true }, kinds := [], alts := [], laidByText := true, laidKinds := [.handle], laidTests := true, laidLooks := .later }
def SlashWhoCardSaid : Prop := Claim7.holds Tryd.pinned (.plain (OpenSpec.ofChange slashWhoSpec)) slashWhoCard

/-- THE TIED CARD OF 'psephoslaw06.SlashTurn'. -/
def slashTurnCard : Claim7 := { stood := { row := slashTurnRow, standIns := [], harness := (true, "f2bb3fc719b9f02d84c13fe440f902d19508b8e4122c2de0e99f295358eb8b54"), looks := true }, kinds := [], alts := [], laidByText := true, laidKinds := [.handle], laidTests := true, laidLooks := .later }
def SlashTurnCardSaid : Prop := Claim7.holds Tryd.pinned (.plain (OpenSpec.ofChange slashTurnSpec)) slashTurnCard

/-- THE TIED CARD OF 'psephoslaw06.SlashSame'. -/
def slashSameCard : Claim7 := { stood := { row := slashSameRow, standIns := [], harness := (true, "f2bb3fc719b9f02d84c13fe440f902d19508b8e4122c2de0e99f295358eb8b54"), looks := true }, kinds := [], alts := [], laidByText := true, laidKinds := [.handle], laidTests := true, laidLooks := .later }
def SlashSameCardSaid : Prop := Claim7.holds Tryd.pinned (.plain (OpenSpec.ofChange slashSameSpec)) slashSameCard

/-- THE SECOND FORM's CARD OF 'psephoslaw06.SlashWho'. -/
def slashWhoUptoCard : Claim7 := { stood := { row := slashWhoUptoRow, standIns := [], harness := (true, "f2bb3fc719b9f02d84c13fe440f902d19508b8e4122c2de0e99f295358eb8b54"), looks := true }, kinds := [], alts := [], laidByText := true, laidKinds := [.handle], laidTests := true, laidLooks := .later }
def SlashWhoUptoCardSaid : Prop := Claim7.holds Tryd.pinned (.plain (OpenSpec.upto slashWhoSpec)) slashWhoUptoCard

/-- THE SECOND FORM's CARD OF 'psephoslaw06.SlashTurn'. -/
def slashTurnUptoCard : Claim7 := { stood := { row := slashTurnUptoRow, standIns := [], harness := (true, "f2bb3fc719b9f02d84c13fe440f902d19508b8e4122c2de0e99f295358eb8b54"), looks := true }, kinds := [], alts := [], laidByText := true, laidKinds := [.handle], laidTests := true, laidLooks := .later }
def SlashTurnUptoCardSaid : Prop := Claim7.holds Tryd.pinned (.plain (OpenSpec.upto slashTurnSpec)) slashTurnUptoCard

/-- THE SECOND FORM's CARD OF 'psephoslaw06.SlashSame'. -/
def slashSameUptoCard : Claim7 := { stood := { row := slashSameUptoRow, standIns := [], harness := (true, "f2bb3fc719b9f02d84c13fe440f902d19508b8e4122c2de0e99f295358eb8b54"), looks := true }, kinds := [], alts := [], laidByText := true, laidKinds := [.handle], laidTests := true, laidLooks := .later }
def SlashSameUptoCardSaid : Prop := Claim7.holds Tryd.pinned (.plain (OpenSpec.upto slashSameSpec)) slashSameUptoCard
end Rows
end Go.Proofs.YtolkagkfedpjmaaDoor
