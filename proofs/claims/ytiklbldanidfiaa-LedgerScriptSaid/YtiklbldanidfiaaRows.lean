/-
  No cell of these rows narrows 'for every input' (looked for: loops, veiled, ifaces, maps, wideKeys, modest, calm, conditions, laid).
  DERIVED. THE GIVEN ROWS OF THIS SEAT. 6 by the template 'for every input the law returns true; each argument reads behind the call as it read before'; 0 by the template 'total and deterministic' (their statements: YtiklbldanidfiaaTotals.lean).
  GIVEN WITH THE SEED: the statements are not yours to turn. If you find one false, say at which input.
  Laid BY PROGRAM, IN A SANDBOX (cutbox-rows.mjs): the forced cells as the released guide's own fill.sh prints them over the translation d2dedcbf6679ffbf… (all of the seat's roots in one cut). By AI agents, Wed Nov 11 2026. No macro, syntax, notation, axiom, sorry.
-/
import Derived.Test.YtiklbldanidfiaaChecked
import GoSem.Claim
import GoSem.ClaimJoined
import GoSem.ClaimMapViews
import Derived.JoinedTies
import Derived.KernelRfl
namespace Go.Proofs.Ytiklbldanidfiaa
/- THE CELL 'sum', in the pinned program and in every row, IS THE sha256 OF THE DUMP (.gsa) THAT YtiklbldanidfiaaProg.lean LOADS. Nothing in Lean hashes anything: it is a label: what it is worth is what the hold of that sum in a sandbox is worth. -/
noncomputable def Try.pinned : Pinned := { name := "ytiklbldanidfiaa", sum := "d2dedcbf6679ffbfd738b701de425b561678b326caee01d63928482d308c61c2", checked := Try.checked }
namespace Rows
def none {H : Type} : Left H := { results := [], args := [] }

/-- 'psephoslaw10.LedgerScript': WHATEVER THE INPUT: true; the input reads as it did. -/
def ledgerScriptSpec : ChangeSpec := { name := "ledgerScript", fn := fun _ => fun
  | [d1, d2, d3] => { results := [.lit (.bool true)], args := [d1, d2, d3] }
  | _ => none }
def ledgerScriptRow : OpenClaim := { program := "ytiklbldanidfiaa", sum := "d2dedcbf6679ffbfd738b701de425b561678b326caee01d63928482d308c61c2", func := "psephos/psephoslaw10.LedgerScript", spec := "ledgerScript", unfollowed := true, recurses := true, apart := false }
def LedgerScriptSaid : Prop := ledgerScriptRow.holds Try.pinned (OpenSpec.ofChange ledgerScriptSpec)

/-- ITS FALSE NEIGHBOUR: 'it returns false'. Refute it at one input. -/
def ledgerScriptWrong : ChangeSpec := { name := "ledgerScript", fn := fun _ => fun
  | [d1, d2, d3] => { results := [.lit (.bool false)], args := [d1, d2, d3] }
  | _ => none }
def LedgerScriptWrongFalsely : Prop := ledgerScriptRow.holds Try.pinned (OpenSpec.ofChange ledgerScriptWrong)

/-- 'psephoslaw10.LedgerParts': WHATEVER THE INPUT: true; the input reads as it did. -/
def ledgerPartsSpec : ChangeSpec := { name := "ledgerParts", fn := fun _ => fun
  | [d1, d2, d3, d4] => { results := [.lit (.bool true)], args := [d1, d2, d3, d4] }
  | _ => none }
def ledgerPartsRow : OpenClaim := { program := "ytiklbldanidfiaa", sum := "d2dedcbf6679ffbfd738b701de425b561678b326caee01d63928482d308c61c2", func := "psephos/psephoslaw10.LedgerParts", spec := "ledgerParts", unfollowed := true, recurses := true, apart := false }
def LedgerPartsSaid : Prop := ledgerPartsRow.holds Try.pinned (OpenSpec.ofChange ledgerPartsSpec)

/-- ITS FALSE NEIGHBOUR: 'it returns false'. Refute it at one input. -/
def ledgerPartsWrong : ChangeSpec := { name := "ledgerParts", fn := fun _ => fun
  | [d1, d2, d3, d4] => { results := [.lit (.bool false)], args := [d1, d2, d3, d4] }
  | _ => none }
def LedgerPartsWrongFalsely : Prop := ledgerPartsRow.holds Try.pinned (OpenSpec.ofChange ledgerPartsWrong)

/-- 'psephoslaw10.LedgerKeeps': WHATEVER THE INPUT: true; the input reads as it did. -/
def ledgerKeepsSpec : ChangeSpec := { name := "ledgerKeeps", fn := fun _ => fun
  | [d1, d2, d3, d4] => { results := [.lit (.bool true)], args := [d1, d2, d3, d4] }
  | _ => none }
def ledgerKeepsRow : OpenClaim := { program := "ytiklbldanidfiaa", sum := "d2dedcbf6679ffbfd738b701de425b561678b326caee01d63928482d308c61c2", func := "psephos/psephoslaw10.LedgerKeeps", spec := "ledgerKeeps", unfollowed := true, recurses := true, apart := false }
def LedgerKeepsSaid : Prop := ledgerKeepsRow.holds Try.pinned (OpenSpec.ofChange ledgerKeepsSpec)

/-- ITS FALSE NEIGHBOUR: 'it returns false'. Refute it at one input. -/
def ledgerKeepsWrong : ChangeSpec := { name := "ledgerKeeps", fn := fun _ => fun
  | [d1, d2, d3, d4] => { results := [.lit (.bool false)], args := [d1, d2, d3, d4] }
  | _ => none }
def LedgerKeepsWrongFalsely : Prop := ledgerKeepsRow.holds Try.pinned (OpenSpec.ofChange ledgerKeepsWrong)

/-- 'psephoslaw10.LedgerNobody': WHATEVER THE INPUT: true; the input reads as it did. -/
def ledgerNobodySpec : ChangeSpec := { name := "ledgerNobody", fn := fun _ => fun
  | [d1, d2, d3] => { results := [.lit (.bool true)], args := [d1, d2, d3] }
  | _ => none }
def ledgerNobodyRow : OpenClaim := { program := "ytiklbldanidfiaa", sum := "d2dedcbf6679ffbfd738b701de425b561678b326caee01d63928482d308c61c2", func := "psephos/psephoslaw10.LedgerNobody", spec := "ledgerNobody", unfollowed := true, recurses := true, apart := false }
def LedgerNobodySaid : Prop := ledgerNobodyRow.holds Try.pinned (OpenSpec.ofChange ledgerNobodySpec)

/-- ITS FALSE NEIGHBOUR: 'it returns false'. Refute it at one input. -/
def ledgerNobodyWrong : ChangeSpec := { name := "ledgerNobody", fn := fun _ => fun
  | [d1, d2, d3] => { results := [.lit (.bool false)], args := [d1, d2, d3] }
  | _ => none }
def LedgerNobodyWrongFalsely : Prop := ledgerNobodyRow.holds Try.pinned (OpenSpec.ofChange ledgerNobodyWrong)

/-- 'psephoslaw10.LedgerMost': WHATEVER THE INPUT: true; the input reads as it did. -/
def ledgerMostSpec : ChangeSpec := { name := "ledgerMost", fn := fun _ => fun
  | [d1, d2, d3] => { results := [.lit (.bool true)], args := [d1, d2, d3] }
  | _ => none }
def ledgerMostRow : OpenClaim := { program := "ytiklbldanidfiaa", sum := "d2dedcbf6679ffbfd738b701de425b561678b326caee01d63928482d308c61c2", func := "psephos/psephoslaw10.LedgerMost", spec := "ledgerMost", unfollowed := true, recurses := true, apart := false }
def LedgerMostSaid : Prop := ledgerMostRow.holds Try.pinned (OpenSpec.ofChange ledgerMostSpec)

/-- ITS FALSE NEIGHBOUR: 'it returns false'. Refute it at one input. -/
def ledgerMostWrong : ChangeSpec := { name := "ledgerMost", fn := fun _ => fun
  | [d1, d2, d3] => { results := [.lit (.bool false)], args := [d1, d2, d3] }
  | _ => none }
def LedgerMostWrongFalsely : Prop := ledgerMostRow.holds Try.pinned (OpenSpec.ofChange ledgerMostWrong)

/-- 'psephoslaw10.LedgerPull': WHATEVER THE INPUT: true; the input reads as it did. -/
def ledgerPullSpec : ChangeSpec := { name := "ledgerPull", fn := fun _ => fun
  | [d1, d2, d3, d4, d5] => { results := [.lit (.bool true)], args := [d1, d2, d3, d4, d5] }
  | _ => none }
def ledgerPullRow : OpenClaim := { program := "ytiklbldanidfiaa", sum := "d2dedcbf6679ffbfd738b701de425b561678b326caee01d63928482d308c61c2", func := "psephos/psephoslaw10.LedgerPull", spec := "ledgerPull", unfollowed := true, recurses := true, apart := false }
def LedgerPullSaid : Prop := ledgerPullRow.holds Try.pinned (OpenSpec.ofChange ledgerPullSpec)

/-- ITS FALSE NEIGHBOUR: 'it returns false'. Refute it at one input. -/
def ledgerPullWrong : ChangeSpec := { name := "ledgerPull", fn := fun _ => fun
  | [d1, d2, d3, d4, d5] => { results := [.lit (.bool false)], args := [d1, d2, d3, d4, d5] }
  | _ => none }
def LedgerPullWrongFalsely : Prop := ledgerPullRow.holds Try.pinned (OpenSpec.ofChange ledgerPullWrong)

/- THE SECOND FORM. 'bulk': how many values and letters a reading holds, each counted each time it is reached (what is shared counts as often as it is met; a slice's spare places count too). A statement '..UptoSaid' is the law's where the arguments, and the package variables that the reading takes, are together of bulk at most 1048576: NARROWER than '..Said'. Prove '..Said' where nothing that the law and all that it calls make is longer than what came in: it says more and counts as full. Else prove '..UptoSaid'. A law counts once. -/
mutual
def uptoBulk {H : Type} : DataW H → Nat
  | .lit (.string bytes) => bytes.length + 1
  | .lit _ => 1
  | .nil => 1
  | .ptr d => uptoBulk d + 1
  | .slice elems spare => uptoBulkAll elems + uptoBulkAll spare + 1
  | .agg parts => uptoBulkAll parts + 1
  | .iface _ d => uptoBulk d + 1
  | .map entries => uptoBulkEntries entries + 1
  | .held _ => 1
def uptoBulkAll {H : Type} : List (DataW H) → Nat
  | [] => 0
  | d :: r => uptoBulk d + uptoBulkAll r
def uptoBulkEntries {H : Type} : List (Lit × DataW H) → Nat
  | [] => 0
  | x :: r => uptoBulkEntry x + uptoBulkEntries r
def uptoBulkEntry {H : Type} : Lit × DataW H → Nat
  | (.string bytes, d) => bytes.length + uptoBulk d + 1
  | (_, d) => uptoBulk d + 1
 end
def uptoSmall : (H : Type) → List (DataW H) → Bool := fun _ ds => decide (uptoBulkAll ds ≤ 1048576)
def OpenSpec.upto (s : _root_.Go.ChangeSpec) : _root_.Go.OpenSpec := { _root_.Go.OpenSpec.ofChange s with cond := some uptoSmall }

/-- 'psephoslaw10.LedgerScript', WHERE WHAT IT READS IS OF BULK AT MOST 1048576: true; the input reads as it did. -/
def ledgerScriptUptoRow : OpenClaim := { program := "ytiklbldanidfiaa", sum := "d2dedcbf6679ffbfd738b701de425b561678b326caee01d63928482d308c61c2", func := "psephos/psephoslaw10.LedgerScript", spec := "ledgerScript", unfollowed := true, recurses := true, apart := false, narrowed := true }
def LedgerScriptUptoSaid : Prop := ledgerScriptUptoRow.holds Try.pinned (OpenSpec.upto ledgerScriptSpec)

/-- 'psephoslaw10.LedgerParts', WHERE WHAT IT READS IS OF BULK AT MOST 1048576: true; the input reads as it did. -/
def ledgerPartsUptoRow : OpenClaim := { program := "ytiklbldanidfiaa", sum := "d2dedcbf6679ffbfd738b701de425b561678b326caee01d63928482d308c61c2", func := "psephos/psephoslaw10.LedgerParts", spec := "ledgerParts", unfollowed := true, recurses := true, apart := false, narrowed := true }
def LedgerPartsUptoSaid : Prop := ledgerPartsUptoRow.holds Try.pinned (OpenSpec.upto ledgerPartsSpec)

/-- 'psephoslaw10.LedgerKeeps', WHERE WHAT IT READS IS OF BULK AT MOST 1048576: true; the input reads as it did. -/
def ledgerKeepsUptoRow : OpenClaim := { program := "ytiklbldanidfiaa", sum := "d2dedcbf6679ffbfd738b701de425b561678b326caee01d63928482d308c61c2", func := "psephos/psephoslaw10.LedgerKeeps", spec := "ledgerKeeps", unfollowed := true, recurses := true, apart := false, narrowed := true }
def LedgerKeepsUptoSaid : Prop := ledgerKeepsUptoRow.holds Try.pinned (OpenSpec.upto ledgerKeepsSpec)

/-- 'psephoslaw10.LedgerNobody', WHERE WHAT IT READS IS OF BULK AT MOST 1048576: true; the input reads as it did. -/
def ledgerNobodyUptoRow : OpenClaim := { program := "ytiklbldanidfiaa", sum := "d2dedcbf6679ffbfd738b701de425b561678b326caee01d63928482d308c61c2", func := "psephos/psephoslaw10.LedgerNobody", spec := "ledgerNobody", unfollowed := true, recurses := true, apart := false, narrowed := true }
def LedgerNobodyUptoSaid : Prop := ledgerNobodyUptoRow.holds Try.pinned (OpenSpec.upto ledgerNobodySpec)

/-- 'psephoslaw10.LedgerMost', WHERE WHAT IT READS IS OF BULK AT MOST 1048576: true; the input reads as it did. -/
def ledgerMostUptoRow : OpenClaim := { program := "ytiklbldanidfiaa", sum := "d2dedcbf6679ffbfd738b701de425b561678b326caee01d63928482d308c61c2", func := "psephos/psephoslaw10.LedgerMost", spec := "ledgerMost", unfollowed := true, recurses := true, apart := false, narrowed := true }
def LedgerMostUptoSaid : Prop := ledgerMostUptoRow.holds Try.pinned (OpenSpec.upto ledgerMostSpec)

/-- 'psephoslaw10.LedgerPull', WHERE WHAT IT READS IS OF BULK AT MOST 1048576: true; the input reads as it did. -/
def ledgerPullUptoRow : OpenClaim := { program := "ytiklbldanidfiaa", sum := "d2dedcbf6679ffbfd738b701de425b561678b326caee01d63928482d308c61c2", func := "psephos/psephoslaw10.LedgerPull", spec := "ledgerPull", unfollowed := true, recurses := true, apart := false, narrowed := true }
def LedgerPullUptoSaid : Prop := ledgerPullUptoRow.holds Try.pinned (OpenSpec.upto ledgerPullSpec)

end Rows
end Go.Proofs.Ytiklbldanidfiaa
