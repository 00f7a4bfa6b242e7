/-
  DERIVED. GIVEN WITH THE SEED: THE CARDS: each row of YtgbhblbfodphfaaDoorRows.lean that lists a variable, with what it lists TIED to the program's text (the seventh form; the later family's looks); each row that meets fmt, with fmt's text TOLD by the authors' own Lean function (tested against real Go, not proved from fmt's source: count such statements apart). THE CARD IS WHAT COUNTS. Prove the row's statement (the work); the ties are given (YtgbhblbfodphfaaDoorTie.lean); close each card by the builder's one call (the guide's Derived/Test/ToyasCard.lean, 'card_holds'). Laid BY PROGRAM, IN A SANDBOX (cutbox-door.mjs). By AI agents, Wed Nov 11 2026. No macro, syntax, notation, axiom, sorry.
-/
import Derived.Test.YtgbhblbfodphfaaDoorRows
import GoSem.ClaimSeven
namespace Go.Proofs.YtgbhblbfodphfaaDoor
namespace Rows

/-- THE TIED CARD OF 'psephoslaw09.TreeFull'. -/
def treeFullCard : Claim7 := { stood := { row := treeFullRow, standIns := [], harness := (true, "66645fb7c8eb6058d1878b2f4fb4eaf817f3dead34ea86a9ecc22dc1efe3a05d"), looks := true }, kinds := [], alts := [], laidByText := true, laidKinds := [.handle], laidTests := true, laidLooks := .later }
def TreeFullCardSaid : Prop := Claim7.holds Tryd.pinned (.plain (OpenSpec.ofChange treeFullSpec)) treeFullCard

/-- THE TIED CARD OF 'psephoslaw09.TreeScript'. -/
def treeScriptCard : Claim7 := { stood := { row := treeScriptRow, standIns := [], harness := (true, "66645fb7c8eb6058d1878b2f4fb4eaf817f3dead34ea86a9ecc22dc1efe3a05d"), looks := true }, kinds := [], alts := [], laidByText := true, laidKinds := [.handle], laidTests := true, laidLooks := .later }
def TreeScriptCardSaid : Prop := Claim7.holds Tryd.pinned (.plain (OpenSpec.ofChange treeScriptSpec)) treeScriptCard

/-- THE SECOND FORM's CARD OF 'psephoslaw09.TreeFull'. -/
def treeFullUptoCard : Claim7 := { stood := { row := treeFullUptoRow, standIns := [], harness := (true, "66645fb7c8eb6058d1878b2f4fb4eaf817f3dead34ea86a9ecc22dc1efe3a05d"), looks := true }, kinds := [], alts := [], laidByText := true, laidKinds := [.handle], laidTests := true, laidLooks := .later }
def TreeFullUptoCardSaid : Prop := Claim7.holds Tryd.pinned (.plain (OpenSpec.upto treeFullSpec)) treeFullUptoCard

/-- THE SECOND FORM's CARD OF 'psephoslaw09.TreeScript'. -/
def treeScriptUptoCard : Claim7 := { stood := { row := treeScriptUptoRow, standIns := [], harness := (true, "66645fb7c8eb6058d1878b2f4fb4eaf817f3dead34ea86a9ecc22dc1efe3a05d"), looks := true }, kinds := [], alts := [], laidByText := true, laidKinds := [.handle], laidTests := true, laidLooks := .later }
def TreeScriptUptoCardSaid : Prop := Claim7.holds Tryd.pinned (.plain (OpenSpec.upto treeScriptSpec)) treeScriptUptoCard
end Rows
end Go.Proofs.YtgbhblbfodphfaaDoor
