/-
  No cell of these rows narrows 'for every input' (looked for: loops, veiled, ifaces, maps, wideKeys, modest, calm, conditions, laid).
  DERIVED. THE GIVEN ROWS OF THIS SEAT. 6 by the template 'for every input the law returns true; each argument reads behind the call as it read before'; 0 by the template 'total and deterministic' (their statements: YtnfmpedmhallmaaTotals.lean).
  GIVEN WITH THE SEED: the statements are not yours to turn. If you find one false, say at which input.
  Laid BY PROGRAM, IN A SANDBOX (cutbox-rows.mjs): the forced cells as the released guide's own fill.sh prints them over the translation 641de7839b760c9a… (all of the seat's roots in one cut). By AI agents, Wed Nov 11 2026. No macro, syntax, notation, axiom, sorry.
-/
import Derived.Test.YtnfmpedmhallmaaChecked
import GoSem.Claim
import GoSem.ClaimJoined
import GoSem.ClaimMapViews
import Derived.JoinedTies
import Derived.KernelRfl
namespace Go.Proofs.Ytnfmpedmhallmaa
/- THE CELL 'sum', in the pinned program and in every row, IS THE sha256 OF THE DUMP (.gsa) THAT YtnfmpedmhallmaaProg.lean LOADS. Nothing in Lean hashes anything: it is a label: what it is worth is what the hold of that sum in a sandbox is worth. -/
noncomputable def Try.pinned : Pinned := { name := "ytnfmpedmhallmaa", sum := "641de7839b760c9a97bb35d866068a6188034f47baec5f366ed93ea5428a3239", checked := Try.checked }
namespace Rows
def none {H : Type} : Left H := { results := [], args := [] }

/-- 'psephoslaw02.EpochEnds': WHATEVER THE INPUT: true; the input reads as it did. -/
def epochEndsSpec : ChangeSpec := { name := "epochEnds", fn := fun _ => fun
  | [d1, d2, d3] => { results := [.lit (.bool true)], args := [d1, d2, d3] }
  | _ => none }
def epochEndsRow : OpenClaim := { program := "ytnfmpedmhallmaa", sum := "641de7839b760c9a97bb35d866068a6188034f47baec5f366ed93ea5428a3239", func := "psephos/psephoslaw02.EpochEnds", spec := "epochEnds", apart := false }
def EpochEndsSaid : Prop := epochEndsRow.holds Try.pinned (OpenSpec.ofChange epochEndsSpec)

/-- ITS FALSE NEIGHBOUR: 'it returns false'. Refute it at one input. -/
def epochEndsWrong : ChangeSpec := { name := "epochEnds", fn := fun _ => fun
  | [d1, d2, d3] => { results := [.lit (.bool false)], args := [d1, d2, d3] }
  | _ => none }
def EpochEndsWrongFalsely : Prop := epochEndsRow.holds Try.pinned (OpenSpec.ofChange epochEndsWrong)

/-- 'psephoslaw02.EpochParts': WHATEVER THE INPUT: true; the input reads as it did. -/
def epochPartsSpec : ChangeSpec := { name := "epochParts", fn := fun _ => fun
  | [d1, d2, d3, d4] => { results := [.lit (.bool true)], args := [d1, d2, d3, d4] }
  | _ => none }
def epochPartsRow : OpenClaim := { program := "ytnfmpedmhallmaa", sum := "641de7839b760c9a97bb35d866068a6188034f47baec5f366ed93ea5428a3239", func := "psephos/psephoslaw02.EpochParts", spec := "epochParts", apart := false }
def EpochPartsSaid : Prop := epochPartsRow.holds Try.pinned (OpenSpec.ofChange epochPartsSpec)

/-- ITS FALSE NEIGHBOUR: 'it returns false'. Refute it at one input. -/
def epochPartsWrong : ChangeSpec := { name := "epochParts", fn := fun _ => fun
  | [d1, d2, d3, d4] => { results := [.lit (.bool false)], args := [d1, d2, d3, d4] }
  | _ => none }
def EpochPartsWrongFalsely : Prop := epochPartsRow.holds Try.pinned (OpenSpec.ofChange epochPartsWrong)

/-- 'psephoslaw02.EpochLow': WHATEVER THE INPUT: true; the input reads as it did. -/
def epochLowSpec : ChangeSpec := { name := "epochLow", fn := fun _ => fun
  | [d1, d2] => { results := [.lit (.bool true)], args := [d1, d2] }
  | _ => none }
def epochLowRow : OpenClaim := { program := "ytnfmpedmhallmaa", sum := "641de7839b760c9a97bb35d866068a6188034f47baec5f366ed93ea5428a3239", func := "psephos/psephoslaw02.EpochLow", spec := "epochLow", apart := false }
def EpochLowSaid : Prop := epochLowRow.holds Try.pinned (OpenSpec.ofChange epochLowSpec)

/-- ITS FALSE NEIGHBOUR: 'it returns false'. Refute it at one input. -/
def epochLowWrong : ChangeSpec := { name := "epochLow", fn := fun _ => fun
  | [d1, d2] => { results := [.lit (.bool false)], args := [d1, d2] }
  | _ => none }
def EpochLowWrongFalsely : Prop := epochLowRow.holds Try.pinned (OpenSpec.ofChange epochLowWrong)

/-- 'psephoslaw02.EpochOf': WHATEVER THE INPUT: true; the input reads as it did. -/
def epochOfSpec : ChangeSpec := { name := "epochOf", fn := fun _ => fun
  | [d1, d2] => { results := [.lit (.bool true)], args := [d1, d2] }
  | _ => none }
def epochOfRow : OpenClaim := { program := "ytnfmpedmhallmaa", sum := "641de7839b760c9a97bb35d866068a6188034f47baec5f366ed93ea5428a3239", func := "psephos/psephoslaw02.EpochOf", spec := "epochOf", apart := false }
def EpochOfSaid : Prop := epochOfRow.holds Try.pinned (OpenSpec.ofChange epochOfSpec)

/-- ITS FALSE NEIGHBOUR: 'it returns false'. Refute it at one input. -/
def epochOfWrong : ChangeSpec := { name := "epochOf", fn := fun _ => fun
  | [d1, d2] => { results := [.lit (.bool false)], args := [d1, d2] }
  | _ => none }
def EpochOfWrongFalsely : Prop := epochOfRow.holds Try.pinned (OpenSpec.ofChange epochOfWrong)

/-- 'psephoslaw02.EpochBack': WHATEVER THE INPUT: true; the input reads as it did. -/
def epochBackSpec : ChangeSpec := { name := "epochBack", fn := fun _ => fun
  | [d1, d2, d3] => { results := [.lit (.bool true)], args := [d1, d2, d3] }
  | _ => none }
def epochBackRow : OpenClaim := { program := "ytnfmpedmhallmaa", sum := "641de7839b760c9a97bb35d866068a6188034f47baec5f366ed93ea5428a3239", func := "psephos/psephoslaw02.EpochBack", spec := "epochBack", apart := false }
def EpochBackSaid : Prop := epochBackRow.holds Try.pinned (OpenSpec.ofChange epochBackSpec)

/-- ITS FALSE NEIGHBOUR: 'it returns false'. Refute it at one input. -/
def epochBackWrong : ChangeSpec := { name := "epochBack", fn := fun _ => fun
  | [d1, d2, d3] => { results := [.lit (.bool false)], args := [d1, d2, d3] }
  | _ => none }
def EpochBackWrongFalsely : Prop := epochBackRow.holds Try.pinned (OpenSpec.ofChange epochBackWrong)

/-- 'psephoslaw02.EpochNext': WHATEVER THE INPUT: true; the input reads as it did. -/
def epochNextSpec : ChangeSpec := { name := "epochNext", fn := fun _ => fun
  | [d1, d2] => { results := [.lit (.bool true)], args := [d1, d2] }
  | _ => none }
def epochNextRow : OpenClaim := { program := "ytnfmpedmhallmaa", sum := "641de7839b760c9a97bb35d866068a6188034f47baec5f366ed93ea5428a3239", func := "psephos/psephoslaw02.EpochNext", spec := "epochNext", apart := false }
def EpochNextSaid : Prop := epochNextRow.holds Try.pinned (OpenSpec.ofChange epochNextSpec)

/-- ITS FALSE NEIGHBOUR: 'it returns false'. Refute it at one input. -/
def epochNextWrong : ChangeSpec := { name := "epochNext", fn := fun _ => fun
  | [d1, d2] => { results := [.lit (.bool false)], args := [d1, d2] }
  | _ => none }
def EpochNextWrongFalsely : Prop := epochNextRow.holds Try.pinned (OpenSpec.ofChange epochNextWrong)

/- THE SECOND FORM. 'bulk': how many values and letters a reading holds, each counted each time it is reached (what is shared counts as often as it is met; a slice's spare places count too). A statement '..UptoSaid' is the law's where the arguments, and the package variables that the reading takes, are together of bulk at most 1048576: NARROWER than '..Said'. Prove '..Said' where nothing that the law and all that it calls make is longer than what came in: it says more and counts as full. Else prove '..UptoSaid'. A law counts once. -/
mutual
def uptoBulk {H : Type} : DataW H → Nat
  | .lit (.string bytes) => bytes.length + 1
  | .lit _ => 1
  | .nil => 1
  | .ptr d => uptoBulk d + 1
  | .slice elems spare => uptoBulkAll elems + uptoBulkAll spare + 1
  | .agg parts => uptoBulkAll parts + 1
  | .iface _ d => uptoBulk d + 1
  | .map entries => uptoBulkEntries entries + 1
  | .held _ => 1
def uptoBulkAll {H : Type} : List (DataW H) → Nat
  | [] => 0
  | d :: r => uptoBulk d + uptoBulkAll r
def uptoBulkEntries {H : Type} : List (Lit × DataW H) → Nat
  | [] => 0
  | x :: r => uptoBulkEntry x + uptoBulkEntries r
def uptoBulkEntry {H : Type} : Lit × DataW H → Nat
  | (.string bytes, d) => bytes.length + uptoBulk d + 1
  | (_, d) => uptoBulk d + 1
 end
def uptoSmall : (H : Type) → List (DataW H) → Bool := fun _ ds => decide (uptoBulkAll ds ≤ 1048576)
def OpenSpec.upto (s : _root_.Go.ChangeSpec) : _root_.Go.OpenSpec := { _root_.Go.OpenSpec.ofChange s with cond := some uptoSmall }

/-- 'psephoslaw02.EpochEnds', WHERE WHAT IT READS IS OF BULK AT MOST 1048576: true; the input reads as it did. -/
def epochEndsUptoRow : OpenClaim := { program := "ytnfmpedmhallmaa", sum := "641de7839b760c9a97bb35d866068a6188034f47baec5f366ed93ea5428a3239", func := "psephos/psephoslaw02.EpochEnds", spec := "epochEnds", apart := false, narrowed := true }
def EpochEndsUptoSaid : Prop := epochEndsUptoRow.holds Try.pinned (OpenSpec.upto epochEndsSpec)

/-- 'psephoslaw02.EpochParts', WHERE WHAT IT READS IS OF BULK AT MOST 1048576: true; the input reads as it did. -/
def epochPartsUptoRow : OpenClaim := { program := "ytnfmpedmhallmaa", sum := "641de7839b760c9a97bb35d866068a6188034f47baec5f366ed93ea5428a3239", func := "psephos/psephoslaw02.EpochParts", spec := "epochParts", apart := false, narrowed := true }
def EpochPartsUptoSaid : Prop := epochPartsUptoRow.holds Try.pinned (OpenSpec.upto epochPartsSpec)

/-- 'psephoslaw02.EpochLow', WHERE WHAT IT READS IS OF BULK AT MOST 1048576: true; the input reads as it did. -/
def epochLowUptoRow : OpenClaim := { program := "ytnfmpedmhallmaa", sum := "641de7839b760c9a97bb35d866068a6188034f47baec5f366ed93ea5428a3239", func := "psephos/psephoslaw02.EpochLow", spec := "epochLow", apart := false, narrowed := true }
def EpochLowUptoSaid : Prop := epochLowUptoRow.holds Try.pinned (OpenSpec.upto epochLowSpec)

/-- 'psephoslaw02.EpochOf', WHERE WHAT IT READS IS OF BULK AT MOST 1048576: true; the input reads as it did. -/
def epochOfUptoRow : OpenClaim := { program := "ytnfmpedmhallmaa", sum := "641de7839b760c9a97bb35d866068a6188034f47baec5f366ed93ea5428a3239", func := "psephos/psephoslaw02.EpochOf", spec := "epochOf", apart := false, narrowed := true }
def EpochOfUptoSaid : Prop := epochOfUptoRow.holds Try.pinned (OpenSpec.upto epochOfSpec)

/-- 'psephoslaw02.EpochBack', WHERE WHAT IT READS IS OF BULK AT MOST 1048576: true; the input reads as it did. -/
def epochBackUptoRow : OpenClaim := { program := "ytnfmpedmhallmaa", sum := "641de7839b760c9a97bb35d866068a6188034f47baec5f366ed93ea5428a3239", func := "psephos/psephoslaw02.EpochBack", spec := "epochBack", apart := false, narrowed := true }
def EpochBackUptoSaid : Prop := epochBackUptoRow.holds Try.pinned (OpenSpec.upto epochBackSpec)

/-- 'psephoslaw02.EpochNext', WHERE WHAT IT READS IS OF BULK AT MOST 1048576: true; the input reads as it did. -/
def epochNextUptoRow : OpenClaim := { program := "ytnfmpedmhallmaa", sum := "641de7839b760c9a97bb35d866068a6188034f47baec5f366ed93ea5428a3239", func := "psephos/psephoslaw02.EpochNext", spec := "epochNext", apart := false, narrowed := true }
def EpochNextUptoSaid : Prop := epochNextUptoRow.holds Try.pinned (OpenSpec.upto epochNextSpec)

end Rows
end Go.Proofs.Ytnfmpedmhallmaa
