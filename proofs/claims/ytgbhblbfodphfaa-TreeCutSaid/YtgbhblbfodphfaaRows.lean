/-
  No cell of these rows narrows 'for every input' (looked for: loops, veiled, ifaces, maps, wideKeys, modest, calm, conditions, laid).
  DERIVED. THE GIVEN ROWS OF THIS SEAT. 3 by the template 'for every input the law returns true; each argument reads behind the call as it read before'; 0 by the template 'total and deterministic' (their statements: YtgbhblbfodphfaaTotals.lean).
  GIVEN WITH THE SEED: the statements are not yours to turn. If you find one false, say at which input.
  Laid BY PROGRAM, IN A SANDBOX (cutbox-rows.mjs): the forced cells as the released guide's own fill.sh prints them over the translation 6b15e809408f0a9e… (all of the seat's roots in one cut). By AI agents, Wed Nov 11 2026. No macro, syntax, notation, axiom, sorry.
-/
import Derived.Test.YtgbhblbfodphfaaChecked
import GoSem.Claim
import GoSem.ClaimJoined
import GoSem.ClaimMapViews
import Derived.JoinedTies
import Derived.KernelRfl
namespace Go.Proofs.Ytgbhblbfodphfaa
/- THE CELL 'sum', in the pinned program and in every row, IS THE sha256 OF THE DUMP (.gsa) THAT YtgbhblbfodphfaaProg.lean LOADS. Nothing in Lean hashes anything: it is a label: what it is worth is what the hold of that sum in a sandbox is worth. -/
noncomputable def Try.pinned : Pinned := { name := "ytgbhblbfodphfaa", sum := "6b15e809408f0a9e249de2a32894cafafacf8bc211a23d74f470c1c809063ea4", checked := Try.checked }
namespace Rows
def none {H : Type} : Left H := { results := [], args := [] }

/-- 'psephoslaw09.TreeBelow': WHATEVER THE INPUT: true; the input reads as it did. -/
def treeBelowSpec : ChangeSpec := { name := "treeBelow", fn := fun _ => fun
  | [d1, d2, d3, d4] => { results := [.lit (.bool true)], args := [d1, d2, d3, d4] }
  | _ => none }
def treeBelowRow : OpenClaim := { program := "ytgbhblbfodphfaa", sum := "6b15e809408f0a9e249de2a32894cafafacf8bc211a23d74f470c1c809063ea4", func := "psephos/psephoslaw09.TreeBelow", spec := "treeBelow", unfollowed := true, recurses := true, apart := false }
def TreeBelowSaid : Prop := treeBelowRow.holds Try.pinned (OpenSpec.ofChange treeBelowSpec)

/-- ITS FALSE NEIGHBOUR: 'it returns false'. Refute it at one input. -/
def treeBelowWrong : ChangeSpec := { name := "treeBelow", fn := fun _ => fun
  | [d1, d2, d3, d4] => { results := [.lit (.bool false)], args := [d1, d2, d3, d4] }
  | _ => none }
def TreeBelowWrongFalsely : Prop := treeBelowRow.holds Try.pinned (OpenSpec.ofChange treeBelowWrong)

/-- 'psephoslaw09.TreeLine': WHATEVER THE INPUT: true; the input reads as it did. -/
def treeLineSpec : ChangeSpec := { name := "treeLine", fn := fun _ => fun
  | [d1, d2] => { results := [.lit (.bool true)], args := [d1, d2] }
  | _ => none }
def treeLineRow : OpenClaim := { program := "ytgbhblbfodphfaa", sum := "6b15e809408f0a9e249de2a32894cafafacf8bc211a23d74f470c1c809063ea4", func := "psephos/psephoslaw09.TreeLine", spec := "treeLine", unfollowed := true, recurses := true, apart := false }
def TreeLineSaid : Prop := treeLineRow.holds Try.pinned (OpenSpec.ofChange treeLineSpec)

/-- ITS FALSE NEIGHBOUR: 'it returns false'. Refute it at one input. -/
def treeLineWrong : ChangeSpec := { name := "treeLine", fn := fun _ => fun
  | [d1, d2] => { results := [.lit (.bool false)], args := [d1, d2] }
  | _ => none }
def TreeLineWrongFalsely : Prop := treeLineRow.holds Try.pinned (OpenSpec.ofChange treeLineWrong)

/-- 'psephoslaw09.TreeCut': WHATEVER THE INPUT: true; the input reads as it did. -/
def treeCutSpec : ChangeSpec := { name := "treeCut", fn := fun _ => fun
  | [d1, d2] => { results := [.lit (.bool true)], args := [d1, d2] }
  | _ => none }
def treeCutRow : OpenClaim := { program := "ytgbhblbfodphfaa", sum := "6b15e809408f0a9e249de2a32894cafafacf8bc211a23d74f470c1c809063ea4", func := "psephos/psephoslaw09.TreeCut", spec := "treeCut", unfollowed := true, recurses := true, apart := false }
def TreeCutSaid : Prop := treeCutRow.holds Try.pinned (OpenSpec.ofChange treeCutSpec)

/-- ITS FALSE NEIGHBOUR: 'it returns false'. Refute it at one input. -/
def treeCutWrong : ChangeSpec := { name := "treeCut", fn := fun _ => fun
  | [d1, d2] => { results := [.lit (.bool false)], args := [d1, d2] }
  | _ => none }
def TreeCutWrongFalsely : Prop := treeCutRow.holds Try.pinned (OpenSpec.ofChange treeCutWrong)

/- THE SECOND FORM. 'bulk': how many values and letters a reading holds, each counted each time it is reached (what is shared counts as often as it is met; a slice's spare places count too). A statement '..UptoSaid' is the law's where the arguments, and the package variables that the reading takes, are together of bulk at most 1048576: NARROWER than '..Said'. Prove '..Said' where nothing that the law and all that it calls make is longer than what came in: it says more and counts as full. Else prove '..UptoSaid'. A law counts once. -/
mutual
def uptoBulk {H : Type} : DataW H → Nat
  | .lit (.string bytes) => bytes.length + 1
  | .lit _ => 1
  | .nil => 1
  | .ptr d => uptoBulk d + 1
  | .slice elems spare => uptoBulkAll elems + uptoBulkAll spare + 1
  | .agg parts => uptoBulkAll parts + 1
  | .iface _ d => uptoBulk d + 1
  | .map entries => uptoBulkEntries entries + 1
  | .held _ => 1
def uptoBulkAll {H : Type} : List (DataW H) → Nat
  | [] => 0
  | d :: r => uptoBulk d + uptoBulkAll r
def uptoBulkEntries {H : Type} : List (Lit × DataW H) → Nat
  | [] => 0
  | x :: r => uptoBulkEntry x + uptoBulkEntries r
def uptoBulkEntry {H : Type} : Lit × DataW H → Nat
  | (.string bytes, d) => bytes.length + uptoBulk d + 1
  | (_, d) => uptoBulk d + 1
 end
def uptoSmall : (H : Type) → List (DataW H) → Bool := fun _ ds => decide (uptoBulkAll ds ≤ 1048576)
def OpenSpec.upto (s : _root_.Go.ChangeSpec) : _root_.Go.OpenSpec := { _root_.Go.OpenSpec.ofChange s with cond := some uptoSmall }

/-- 'psephoslaw09.TreeBelow', WHERE WHAT IT READS IS OF BULK AT MOST 1048576: true; the input reads as it did. -/
def treeBelowUptoRow : OpenClaim := { program := "ytgbhblbfodphfaa", sum := "6b15e809408f0a9e249de2a32894cafafacf8bc211a23d74f470c1c809063ea4", func := "psephos/psephoslaw09.TreeBelow", spec := "treeBelow", unfollowed := true, recurses := true, apart := false, narrowed := true }
def TreeBelowUptoSaid : Prop := treeBelowUptoRow.holds Try.pinned (OpenSpec.upto treeBelowSpec)

/-- 'psephoslaw09.TreeLine', WHERE WHAT IT READS IS OF BULK AT MOST 1048576: true; the input reads as it did. -/
def treeLineUptoRow : OpenClaim := { program := "ytgbhblbfodphfaa", sum := "6b15e809408f0a9e249de2a32894cafafacf8bc211a23d74f470c1c809063ea4", func := "psephos/psephoslaw09.TreeLine", spec := "treeLine", unfollowed := true, recurses := true, apart := false, narrowed := true }
def TreeLineUptoSaid : Prop := treeLineUptoRow.holds Try.pinned (OpenSpec.upto treeLineSpec)

/-- 'psephoslaw09.TreeCut', WHERE WHAT IT READS IS OF BULK AT MOST 1048576: true; the input reads as it did. -/
def treeCutUptoRow : OpenClaim := { program := "ytgbhblbfodphfaa", sum := "6b15e809408f0a9e249de2a32894cafafacf8bc211a23d74f470c1c809063ea4", func := "psephos/psephoslaw09.TreeCut", spec := "treeCut", unfollowed := true, recurses := true, apart := false, narrowed := true }
def TreeCutUptoSaid : Prop := treeCutUptoRow.holds Try.pinned (OpenSpec.upto treeCutSpec)

end Rows
end Go.Proofs.Ytgbhblbfodphfaa
