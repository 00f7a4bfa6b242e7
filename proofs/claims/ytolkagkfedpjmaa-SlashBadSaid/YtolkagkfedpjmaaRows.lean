/-
  No cell of these rows narrows 'for every input' (looked for: loops, veiled, ifaces, maps, wideKeys, modest, calm, conditions, laid).
  DERIVED. THE GIVEN ROWS OF THIS SEAT. 3 by the template 'for every input the law returns true; each argument reads behind the call as it read before'; 0 by the template 'total and deterministic' (their statements: YtolkagkfedpjmaaTotals.lean).
  GIVEN WITH THE SEED: the statements are not yours to turn. If you find one false, say at which input.
  Laid BY PROGRAM, IN A SANDBOX (cutbox-rows.mjs): the forced cells as the released guide's own fill.sh prints them over the translation 74d501f589136000… (all of the seat's roots in one cut). By AI agents, Wed Nov 11 2026. No macro, syntax, notation, axiom, sorry.
-/
import Derived.Test.YtolkagkfedpjmaaChecked
import GoSem.Claim
import GoSem.ClaimJoined
import GoSem.ClaimMapViews
import Derived.JoinedTies
import Derived.KernelRfl
namespace Go.Proofs.Ytolkagkfedpjmaa
/- THE CELL 'sum', in the pinned program and in every row, IS THE sha256 OF THE DUMP (.gsa) THAT YtolkagkfedpjmaaProg.lean LOADS. Nothing in Lean hashes anything: it is a label: what it is worth is what the hold of that sum in a sandbox is worth. -/
noncomputable def Try.pinned : Pinned := { name := "ytolkagkfedpjmaa", sum := "74d501f5891360008b9239975d4d40c70333b6efc388bf9d2239dde71ed0956a", checked := Try.checked }
namespace Rows
def none {H : Type} : Left H := { results := [], args := [] }

/-- 'psephoslaw06.SlashBad': WHATEVER THE INPUT: true; the input reads as it did. -/
def slashBadSpec : ChangeSpec := { name := "slashBad", fn := fun _ => fun
  | [d1, d2] => { results := [.lit (.bool true)], args := [d1, d2] }
  | _ => none }
def slashBadRow : OpenClaim := { program := "ytolkagkfedpjmaa", sum := "74d501f5891360008b9239975d4d40c70333b6efc388bf9d2239dde71ed0956a", func := "psephos/psephoslaw06.SlashBad", spec := "slashBad", apart := false }
def SlashBadSaid : Prop := slashBadRow.holds Try.pinned (OpenSpec.ofChange slashBadSpec)

/-- ITS FALSE NEIGHBOUR: 'it returns false'. Refute it at one input. -/
def slashBadWrong : ChangeSpec := { name := "slashBad", fn := fun _ => fun
  | [d1, d2] => { results := [.lit (.bool false)], args := [d1, d2] }
  | _ => none }
def SlashBadWrongFalsely : Prop := slashBadRow.holds Try.pinned (OpenSpec.ofChange slashBadWrong)

/-- 'psephoslaw06.SlashHonest': WHATEVER THE INPUT: true; the input reads as it did. -/
def slashHonestSpec : ChangeSpec := { name := "slashHonest", fn := fun _ => fun
  | [d] => { results := [.lit (.bool true)], args := [d] }
  | _ => none }
def slashHonestRow : OpenClaim := { program := "ytolkagkfedpjmaa", sum := "74d501f5891360008b9239975d4d40c70333b6efc388bf9d2239dde71ed0956a", func := "psephos/psephoslaw06.SlashHonest", spec := "slashHonest", apart := false }
def SlashHonestSaid : Prop := slashHonestRow.holds Try.pinned (OpenSpec.ofChange slashHonestSpec)

/-- ITS FALSE NEIGHBOUR: 'it returns false'. Refute it at one input. -/
def slashHonestWrong : ChangeSpec := { name := "slashHonest", fn := fun _ => fun
  | [d] => { results := [.lit (.bool false)], args := [d] }
  | _ => none }
def SlashHonestWrongFalsely : Prop := slashHonestRow.holds Try.pinned (OpenSpec.ofChange slashHonestWrong)

/-- 'psephoslaw06.SlashSpans': WHATEVER THE INPUT: true; the input reads as it did. -/
def slashSpansSpec : ChangeSpec := { name := "slashSpans", fn := fun _ => fun
  | [d1, d2, d3, d4] => { results := [.lit (.bool true)], args := [d1, d2, d3, d4] }
  | _ => none }
def slashSpansRow : OpenClaim := { program := "ytolkagkfedpjmaa", sum := "74d501f5891360008b9239975d4d40c70333b6efc388bf9d2239dde71ed0956a", func := "psephos/psephoslaw06.SlashSpans", spec := "slashSpans", apart := false }
def SlashSpansSaid : Prop := slashSpansRow.holds Try.pinned (OpenSpec.ofChange slashSpansSpec)

/-- ITS FALSE NEIGHBOUR: 'it returns false'. Refute it at one input. -/
def slashSpansWrong : ChangeSpec := { name := "slashSpans", fn := fun _ => fun
  | [d1, d2, d3, d4] => { results := [.lit (.bool false)], args := [d1, d2, d3, d4] }
  | _ => none }
def SlashSpansWrongFalsely : Prop := slashSpansRow.holds Try.pinned (OpenSpec.ofChange slashSpansWrong)

/- THE SECOND FORM. 'bulk': how many values and letters a reading holds, each counted each time it is reached (what is shared counts as often as it is met; a slice's spare places count too). A statement '..UptoSaid' is the law's where the arguments, and the package variables that the reading takes, are together of bulk at most 1048576: NARROWER than '..Said'. Prove '..Said' where nothing that the law and all that it calls make is longer than what came in: it says more and counts as full. Else prove '..UptoSaid'. A law counts once. -/
mutual
def uptoBulk {H : Type} : DataW H → Nat
  | .lit (.string bytes) => bytes.length + 1
  | .lit _ => 1
  | .nil => 1
  | .ptr d => uptoBulk d + 1
  | .slice elems spare => uptoBulkAll elems + uptoBulkAll spare + 1
  | .agg parts => uptoBulkAll parts + 1
  | .iface _ d => uptoBulk d + 1
  | .map entries => uptoBulkEntries entries + 1
  | .held _ => 1
def uptoBulkAll {H : Type} : List (DataW H) → Nat
  | [] => 0
  | d :: r => uptoBulk d + uptoBulkAll r
def uptoBulkEntries {H : Type} : List (Lit × DataW H) → Nat
  | [] => 0
  | x :: r => uptoBulkEntry x + uptoBulkEntries r
def uptoBulkEntry {H : Type} : Lit × DataW H → Nat
  | (.string bytes, d) => bytes.length + uptoBulk d + 1
  | (_, d) => uptoBulk d + 1
 end
def uptoSmall : (H : Type) → List (DataW H) → Bool := fun _ ds => decide (uptoBulkAll ds ≤ 1048576)
def OpenSpec.upto (s : _root_.Go.ChangeSpec) : _root_.Go.OpenSpec := { _root_.Go.OpenSpec.ofChange s with cond := some uptoSmall }

/-- 'psephoslaw06.SlashBad', WHERE WHAT IT READS IS OF BULK AT MOST 1048576: true; the input reads as it did. -/
def slashBadUptoRow : OpenClaim := { program := "ytolkagkfedpjmaa", sum := "74d501f5891360008b9239975d4d40c70333b6efc388bf9d2239dde71ed0956a", func := "psephos/psephoslaw06.SlashBad", spec := "slashBad", apart := false, narrowed := true }
def SlashBadUptoSaid : Prop := slashBadUptoRow.holds Try.pinned (OpenSpec.upto slashBadSpec)

/-- 'psephoslaw06.SlashHonest', WHERE WHAT IT READS IS OF BULK AT MOST 1048576: true; the input reads as it did. -/
def slashHonestUptoRow : OpenClaim := { program := "ytolkagkfedpjmaa", sum := "74d501f5891360008b9239975d4d40c70333b6efc388bf9d2239dde71ed0956a", func := "psephos/psephoslaw06.SlashHonest", spec := "slashHonest", apart := false, narrowed := true }
def SlashHonestUptoSaid : Prop := slashHonestUptoRow.holds Try.pinned (OpenSpec.upto slashHonestSpec)

/-- 'psephoslaw06.SlashSpans', WHERE WHAT IT READS IS OF BULK AT MOST 1048576: true; the input reads as it did. -/
def slashSpansUptoRow : OpenClaim := { program := "ytolkagkfedpjmaa", sum := "74d501f5891360008b9239975d4d40c70333b6efc388bf9d2239dde71ed0956a", func := "psephos/psephoslaw06.SlashSpans", spec := "slashSpans", apart := false, narrowed := true }
def SlashSpansUptoSaid : Prop := slashSpansUptoRow.holds Try.pinned (OpenSpec.upto slashSpansSpec)

end Rows
end Go.Proofs.Ytolkagkfedpjmaa
