/-
  No cell of these rows narrows 'for every input' (looked for: loops, veiled, ifaces, maps, wideKeys, modest, calm, conditions, laid).
  DERIVED. THE GIVEN ROWS OF THIS SEAT. 6 by the template 'for every input the law returns true; each argument reads behind the call as it read before'; 0 by the template 'total and deterministic' (their statements: YtlofdhhpfhmkhaaTotals.lean).
  GIVEN WITH THE SEED: the statements are not yours to turn. If you find one false, say at which input.
  Laid BY PROGRAM, IN A SANDBOX (cutbox-rows.mjs): the forced cells as the released guide's own fill.sh prints them over the translation 05cdd02df7a1999a… (all of the seat's roots in one cut). By AI agents, Wed Nov 11 2026. No macro, syntax, notation, axiom, sorry.
-/
import Derived.Test.YtlofdhhpfhmkhaaChecked
import GoSem.Claim
import GoSem.ClaimJoined
import GoSem.ClaimMapViews
import Derived.JoinedTies
import Derived.KernelRfl
namespace Go.Proofs.Ytlofdhhpfhmkhaa
/- THE CELL 'sum', in the pinned program and in every row, IS THE sha256 OF THE DUMP (.gsa) THAT YtlofdhhpfhmkhaaProg.lean LOADS. Nothing in Lean hashes anything: it is a label: what it is worth is what the hold of that sum in a sandbox is worth. -/
noncomputable def Try.pinned : Pinned := { name := "ytlofdhhpfhmkhaa", sum := "05cdd02df7a1999ae831e28b12da49449da9dd13fd430f2707f98e9fcfae652b", checked := Try.checked }
namespace Rows
def none {H : Type} : Left H := { results := [], args := [] }

/-- 'psephoslaw08.JustifyNext': WHATEVER THE INPUT: true; the input reads as it did. -/
def justifyNextSpec : ChangeSpec := { name := "justifyNext", fn := fun _ => fun
  | [d1, d2, d3, d4, d5, d6] => { results := [.lit (.bool true)], args := [d1, d2, d3, d4, d5, d6] }
  | _ => none }
def justifyNextRow : OpenClaim := { program := "ytlofdhhpfhmkhaa", sum := "05cdd02df7a1999ae831e28b12da49449da9dd13fd430f2707f98e9fcfae652b", func := "psephos/psephoslaw08.JustifyNext", spec := "justifyNext", apart := false }
def JustifyNextSaid : Prop := justifyNextRow.holds Try.pinned (OpenSpec.ofChange justifyNextSpec)

/-- ITS FALSE NEIGHBOUR: 'it returns false'. Refute it at one input. -/
def justifyNextWrong : ChangeSpec := { name := "justifyNext", fn := fun _ => fun
  | [d1, d2, d3, d4, d5, d6] => { results := [.lit (.bool false)], args := [d1, d2, d3, d4, d5, d6] }
  | _ => none }
def JustifyNextWrongFalsely : Prop := justifyNextRow.holds Try.pinned (OpenSpec.ofChange justifyNextWrong)

/-- 'psephoslaw08.JustifyRuns': WHATEVER THE INPUT: true; the input reads as it did. -/
def justifyRunsSpec : ChangeSpec := { name := "justifyRuns", fn := fun _ => fun
  | [d1, d2] => { results := [.lit (.bool true)], args := [d1, d2] }
  | _ => none }
def justifyRunsRow : OpenClaim := { program := "ytlofdhhpfhmkhaa", sum := "05cdd02df7a1999ae831e28b12da49449da9dd13fd430f2707f98e9fcfae652b", func := "psephos/psephoslaw08.JustifyRuns", spec := "justifyRuns", apart := false }
def JustifyRunsSaid : Prop := justifyRunsRow.holds Try.pinned (OpenSpec.ofChange justifyRunsSpec)

/-- ITS FALSE NEIGHBOUR: 'it returns false'. Refute it at one input. -/
def justifyRunsWrong : ChangeSpec := { name := "justifyRuns", fn := fun _ => fun
  | [d1, d2] => { results := [.lit (.bool false)], args := [d1, d2] }
  | _ => none }
def JustifyRunsWrongFalsely : Prop := justifyRunsRow.holds Try.pinned (OpenSpec.ofChange justifyRunsWrong)

/-- 'psephoslaw08.JustifyNone': WHATEVER THE INPUT: true; the input reads as it did. -/
def justifyNoneSpec : ChangeSpec := { name := "justifyNone", fn := fun _ => fun
  | [d1, d2, d3, d4] => { results := [.lit (.bool true)], args := [d1, d2, d3, d4] }
  | _ => none }
def justifyNoneRow : OpenClaim := { program := "ytlofdhhpfhmkhaa", sum := "05cdd02df7a1999ae831e28b12da49449da9dd13fd430f2707f98e9fcfae652b", func := "psephos/psephoslaw08.JustifyNone", spec := "justifyNone", apart := false }
def JustifyNoneSaid : Prop := justifyNoneRow.holds Try.pinned (OpenSpec.ofChange justifyNoneSpec)

/-- ITS FALSE NEIGHBOUR: 'it returns false'. Refute it at one input. -/
def justifyNoneWrong : ChangeSpec := { name := "justifyNone", fn := fun _ => fun
  | [d1, d2, d3, d4] => { results := [.lit (.bool false)], args := [d1, d2, d3, d4] }
  | _ => none }
def JustifyNoneWrongFalsely : Prop := justifyNoneRow.holds Try.pinned (OpenSpec.ofChange justifyNoneWrong)

/-- 'psephoslaw08.JustifyAll': WHATEVER THE INPUT: true; the input reads as it did. -/
def justifyAllSpec : ChangeSpec := { name := "justifyAll", fn := fun _ => fun
  | [d1, d2] => { results := [.lit (.bool true)], args := [d1, d2] }
  | _ => none }
def justifyAllRow : OpenClaim := { program := "ytlofdhhpfhmkhaa", sum := "05cdd02df7a1999ae831e28b12da49449da9dd13fd430f2707f98e9fcfae652b", func := "psephos/psephoslaw08.JustifyAll", spec := "justifyAll", apart := false }
def JustifyAllSaid : Prop := justifyAllRow.holds Try.pinned (OpenSpec.ofChange justifyAllSpec)

/-- ITS FALSE NEIGHBOUR: 'it returns false'. Refute it at one input. -/
def justifyAllWrong : ChangeSpec := { name := "justifyAll", fn := fun _ => fun
  | [d1, d2] => { results := [.lit (.bool false)], args := [d1, d2] }
  | _ => none }
def JustifyAllWrongFalsely : Prop := justifyAllRow.holds Try.pinned (OpenSpec.ofChange justifyAllWrong)

/-- 'psephoslaw08.JustifyLate': WHATEVER THE INPUT: true; the input reads as it did. -/
def justifyLateSpec : ChangeSpec := { name := "justifyLate", fn := fun _ => fun
  | [d1, d2] => { results := [.lit (.bool true)], args := [d1, d2] }
  | _ => none }
def justifyLateRow : OpenClaim := { program := "ytlofdhhpfhmkhaa", sum := "05cdd02df7a1999ae831e28b12da49449da9dd13fd430f2707f98e9fcfae652b", func := "psephos/psephoslaw08.JustifyLate", spec := "justifyLate", apart := false }
def JustifyLateSaid : Prop := justifyLateRow.holds Try.pinned (OpenSpec.ofChange justifyLateSpec)

/-- ITS FALSE NEIGHBOUR: 'it returns false'. Refute it at one input. -/
def justifyLateWrong : ChangeSpec := { name := "justifyLate", fn := fun _ => fun
  | [d1, d2] => { results := [.lit (.bool false)], args := [d1, d2] }
  | _ => none }
def JustifyLateWrongFalsely : Prop := justifyLateRow.holds Try.pinned (OpenSpec.ofChange justifyLateWrong)

/-- 'psephoslaw08.JustifyShift': WHATEVER THE INPUT: true; the input reads as it did. -/
def justifyShiftSpec : ChangeSpec := { name := "justifyShift", fn := fun _ => fun
  | [d1, d2, d3, d4, d5] => { results := [.lit (.bool true)], args := [d1, d2, d3, d4, d5] }
  | _ => none }
def justifyShiftRow : OpenClaim := { program := "ytlofdhhpfhmkhaa", sum := "05cdd02df7a1999ae831e28b12da49449da9dd13fd430f2707f98e9fcfae652b", func := "psephos/psephoslaw08.JustifyShift", spec := "justifyShift", apart := false }
def JustifyShiftSaid : Prop := justifyShiftRow.holds Try.pinned (OpenSpec.ofChange justifyShiftSpec)

/-- ITS FALSE NEIGHBOUR: 'it returns false'. Refute it at one input. -/
def justifyShiftWrong : ChangeSpec := { name := "justifyShift", fn := fun _ => fun
  | [d1, d2, d3, d4, d5] => { results := [.lit (.bool false)], args := [d1, d2, d3, d4, d5] }
  | _ => none }
def JustifyShiftWrongFalsely : Prop := justifyShiftRow.holds Try.pinned (OpenSpec.ofChange justifyShiftWrong)

/- THE SECOND FORM. 'bulk': how many values and letters a reading holds, each counted each time it is reached (what is shared counts as often as it is met; a slice's spare places count too). A statement '..UptoSaid' is the law's where the arguments, and the package variables that the reading takes, are together of bulk at most 1048576: NARROWER than '..Said'. Prove '..Said' where nothing that the law and all that it calls make is longer than what came in: it says more and counts as full. Else prove '..UptoSaid'. A law counts once. -/
mutual
def uptoBulk {H : Type} : DataW H → Nat
  | .lit (.string bytes) => bytes.length + 1
  | .lit _ => 1
  | .nil => 1
  | .ptr d => uptoBulk d + 1
  | .slice elems spare => uptoBulkAll elems + uptoBulkAll spare + 1
  | .agg parts => uptoBulkAll parts + 1
  | .iface _ d => uptoBulk d + 1
  | .map entries => uptoBulkEntries entries + 1
  | .held _ => 1
def uptoBulkAll {H : Type} : List (DataW H) → Nat
  | [] => 0
  | d :: r => uptoBulk d + uptoBulkAll r
def uptoBulkEntries {H : Type} : List (Lit × DataW H) → Nat
  | [] => 0
  | x :: r => uptoBulkEntry x + uptoBulkEntries r
def uptoBulkEntry {H : Type} : Lit × DataW H → Nat
  | (.string bytes, d) => bytes.length + uptoBulk d + 1
  | (_, d) => uptoBulk d + 1
 end
def uptoSmall : (H : Type) → List (DataW H) → Bool := fun _ ds => decide (uptoBulkAll ds ≤ 1048576)
def OpenSpec.upto (s : _root_.Go.ChangeSpec) : _root_.Go.OpenSpec := { _root_.Go.OpenSpec.ofChange s with cond := some uptoSmall }

/-- 'psephoslaw08.JustifyNext', WHERE WHAT IT READS IS OF BULK AT MOST 1048576: true; the input reads as it did. -/
def justifyNextUptoRow : OpenClaim := { program := "ytlofdhhpfhmkhaa", sum := "05cdd02df7a1999ae831e28b12da49449da9dd13fd430f2707f98e9fcfae652b", func := "psephos/psephoslaw08.JustifyNext", spec := "justifyNext", apart := false, narrowed := true }
def JustifyNextUptoSaid : Prop := justifyNextUptoRow.holds Try.pinned (OpenSpec.upto justifyNextSpec)

/-- 'psephoslaw08.JustifyRuns', WHERE WHAT IT READS IS OF BULK AT MOST 1048576: true; the input reads as it did. -/
def justifyRunsUptoRow : OpenClaim := { program := "ytlofdhhpfhmkhaa", sum := "05cdd02df7a1999ae831e28b12da49449da9dd13fd430f2707f98e9fcfae652b", func := "psephos/psephoslaw08.JustifyRuns", spec := "justifyRuns", apart := false, narrowed := true }
def JustifyRunsUptoSaid : Prop := justifyRunsUptoRow.holds Try.pinned (OpenSpec.upto justifyRunsSpec)

/-- 'psephoslaw08.JustifyNone', WHERE WHAT IT READS IS OF BULK AT MOST 1048576: true; the input reads as it did. -/
def justifyNoneUptoRow : OpenClaim := { program := "ytlofdhhpfhmkhaa", sum := "05cdd02df7a1999ae831e28b12da49449da9dd13fd430f2707f98e9fcfae652b", func := "psephos/psephoslaw08.JustifyNone", spec := "justifyNone", apart := false, narrowed := true }
def JustifyNoneUptoSaid : Prop := justifyNoneUptoRow.holds Try.pinned (OpenSpec.upto justifyNoneSpec)

/-- 'psephoslaw08.JustifyAll', WHERE WHAT IT READS IS OF BULK AT MOST 1048576: true; the input reads as it did. -/
def justifyAllUptoRow : OpenClaim := { program := "ytlofdhhpfhmkhaa", sum := "05cdd02df7a1999ae831e28b12da49449da9dd13fd430f2707f98e9fcfae652b", func := "psephos/psephoslaw08.JustifyAll", spec := "justifyAll", apart := false, narrowed := true }
def JustifyAllUptoSaid : Prop := justifyAllUptoRow.holds Try.pinned (OpenSpec.upto justifyAllSpec)

/-- 'psephoslaw08.JustifyLate', WHERE WHAT IT READS IS OF BULK AT MOST 1048576: true; the input reads as it did. -/
def justifyLateUptoRow : OpenClaim := { program := "ytlofdhhpfhmkhaa", sum := "05cdd02df7a1999ae831e28b12da49449da9dd13fd430f2707f98e9fcfae652b", func := "psephos/psephoslaw08.JustifyLate", spec := "justifyLate", apart := false, narrowed := true }
def JustifyLateUptoSaid : Prop := justifyLateUptoRow.holds Try.pinned (OpenSpec.upto justifyLateSpec)

/-- 'psephoslaw08.JustifyShift', WHERE WHAT IT READS IS OF BULK AT MOST 1048576: true; the input reads as it did. -/
def justifyShiftUptoRow : OpenClaim := { program := "ytlofdhhpfhmkhaa", sum := "05cdd02df7a1999ae831e28b12da49449da9dd13fd430f2707f98e9fcfae652b", func := "psephos/psephoslaw08.JustifyShift", spec := "justifyShift", apart := false, narrowed := true }
def JustifyShiftUptoSaid : Prop := justifyShiftUptoRow.holds Try.pinned (OpenSpec.upto justifyShiftSpec)

end Rows
end Go.Proofs.Ytlofdhhpfhmkhaa
