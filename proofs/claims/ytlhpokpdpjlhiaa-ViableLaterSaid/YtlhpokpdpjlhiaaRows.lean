/-
  No cell of these rows narrows 'for every input' (looked for: loops, veiled, ifaces, maps, wideKeys, modest, calm, conditions, laid).
  DERIVED. THE GIVEN ROWS OF THIS SEAT. 6 by the template 'for every input the law returns true; each argument reads behind the call as it read before'; 0 by the template 'total and deterministic' (their statements: YtlhpokpdpjlhiaaTotals.lean).
  GIVEN WITH THE SEED: the statements are not yours to turn. If you find one false, say at which input.
  Laid BY PROGRAM, IN A SANDBOX (cutbox-rows.mjs): the forced cells as the released guide's own fill.sh prints them over the translation 00d4ccb286bfae22… (all of the seat's roots in one cut). By AI agents, Wed Nov 11 2026. No macro, syntax, notation, axiom, sorry.
-/
import Derived.Test.YtlhpokpdpjlhiaaChecked
import GoSem.Claim
import GoSem.ClaimJoined
import GoSem.ClaimMapViews
import Derived.JoinedTies
import Derived.KernelRfl
namespace Go.Proofs.Ytlhpokpdpjlhiaa
/- THE CELL 'sum', in the pinned program and in every row, IS THE sha256 OF THE DUMP (.gsa) THAT YtlhpokpdpjlhiaaProg.lean LOADS. Nothing in Lean hashes anything: it is a label: what it is worth is what the hold of that sum in a sandbox is worth. -/
noncomputable def Try.pinned : Pinned := { name := "ytlhpokpdpjlhiaa", sum := "00d4ccb286bfae2270409202031a55c4c1a51976e2bf9f4569dc77be0d4c6f8d", checked := Try.checked }
namespace Rows
def none {H : Type} : Left H := { results := [], args := [] }

/-- 'psephoslaw13.ViableOf': WHATEVER THE INPUT: true; the input reads as it did. -/
def viableOfSpec : ChangeSpec := { name := "viableOf", fn := fun _ => fun
  | [d1, d2, d3, d4, d5] => { results := [.lit (.bool true)], args := [d1, d2, d3, d4, d5] }
  | _ => none }
def viableOfRow : OpenClaim := { program := "ytlhpokpdpjlhiaa", sum := "00d4ccb286bfae2270409202031a55c4c1a51976e2bf9f4569dc77be0d4c6f8d", func := "psephos/psephoslaw13.ViableOf", spec := "viableOf", unfollowed := true, recurses := true, apart := false }
def ViableOfSaid : Prop := viableOfRow.holds Try.pinned (OpenSpec.ofChange viableOfSpec)

/-- ITS FALSE NEIGHBOUR: 'it returns false'. Refute it at one input. -/
def viableOfWrong : ChangeSpec := { name := "viableOf", fn := fun _ => fun
  | [d1, d2, d3, d4, d5] => { results := [.lit (.bool false)], args := [d1, d2, d3, d4, d5] }
  | _ => none }
def ViableOfWrongFalsely : Prop := viableOfRow.holds Try.pinned (OpenSpec.ofChange viableOfWrong)

/-- 'psephoslaw13.ViableUp': WHATEVER THE INPUT: true; the input reads as it did. -/
def viableUpSpec : ChangeSpec := { name := "viableUp", fn := fun _ => fun
  | [d1, d2, d3, d4, d5] => { results := [.lit (.bool true)], args := [d1, d2, d3, d4, d5] }
  | _ => none }
def viableUpRow : OpenClaim := { program := "ytlhpokpdpjlhiaa", sum := "00d4ccb286bfae2270409202031a55c4c1a51976e2bf9f4569dc77be0d4c6f8d", func := "psephos/psephoslaw13.ViableUp", spec := "viableUp", unfollowed := true, recurses := true, apart := false }
def ViableUpSaid : Prop := viableUpRow.holds Try.pinned (OpenSpec.ofChange viableUpSpec)

/-- ITS FALSE NEIGHBOUR: 'it returns false'. Refute it at one input. -/
def viableUpWrong : ChangeSpec := { name := "viableUp", fn := fun _ => fun
  | [d1, d2, d3, d4, d5] => { results := [.lit (.bool false)], args := [d1, d2, d3, d4, d5] }
  | _ => none }
def ViableUpWrongFalsely : Prop := viableUpRow.holds Try.pinned (OpenSpec.ofChange viableUpWrong)

/-- 'psephoslaw13.ViableFirst': WHATEVER THE INPUT: true; the input reads as it did. -/
def viableFirstSpec : ChangeSpec := { name := "viableFirst", fn := fun _ => fun
  | [d1, d2, d3] => { results := [.lit (.bool true)], args := [d1, d2, d3] }
  | _ => none }
def viableFirstRow : OpenClaim := { program := "ytlhpokpdpjlhiaa", sum := "00d4ccb286bfae2270409202031a55c4c1a51976e2bf9f4569dc77be0d4c6f8d", func := "psephos/psephoslaw13.ViableFirst", spec := "viableFirst", unfollowed := true, recurses := true, apart := false }
def ViableFirstSaid : Prop := viableFirstRow.holds Try.pinned (OpenSpec.ofChange viableFirstSpec)

/-- ITS FALSE NEIGHBOUR: 'it returns false'. Refute it at one input. -/
def viableFirstWrong : ChangeSpec := { name := "viableFirst", fn := fun _ => fun
  | [d1, d2, d3] => { results := [.lit (.bool false)], args := [d1, d2, d3] }
  | _ => none }
def ViableFirstWrongFalsely : Prop := viableFirstRow.holds Try.pinned (OpenSpec.ofChange viableFirstWrong)

/-- 'psephoslaw13.ViableLeaf': WHATEVER THE INPUT: true; the input reads as it did. -/
def viableLeafSpec : ChangeSpec := { name := "viableLeaf", fn := fun _ => fun
  | [d1, d2, d3, d4] => { results := [.lit (.bool true)], args := [d1, d2, d3, d4] }
  | _ => none }
def viableLeafRow : OpenClaim := { program := "ytlhpokpdpjlhiaa", sum := "00d4ccb286bfae2270409202031a55c4c1a51976e2bf9f4569dc77be0d4c6f8d", func := "psephos/psephoslaw13.ViableLeaf", spec := "viableLeaf", unfollowed := true, recurses := true, apart := false }
def ViableLeafSaid : Prop := viableLeafRow.holds Try.pinned (OpenSpec.ofChange viableLeafSpec)

/-- ITS FALSE NEIGHBOUR: 'it returns false'. Refute it at one input. -/
def viableLeafWrong : ChangeSpec := { name := "viableLeaf", fn := fun _ => fun
  | [d1, d2, d3, d4] => { results := [.lit (.bool false)], args := [d1, d2, d3, d4] }
  | _ => none }
def ViableLeafWrongFalsely : Prop := viableLeafRow.holds Try.pinned (OpenSpec.ofChange viableLeafWrong)

/-- 'psephoslaw13.ViableLater': WHATEVER THE INPUT: true; the input reads as it did. -/
def viableLaterSpec : ChangeSpec := { name := "viableLater", fn := fun _ => fun
  | [d1, d2, d3, d4] => { results := [.lit (.bool true)], args := [d1, d2, d3, d4] }
  | _ => none }
def viableLaterRow : OpenClaim := { program := "ytlhpokpdpjlhiaa", sum := "00d4ccb286bfae2270409202031a55c4c1a51976e2bf9f4569dc77be0d4c6f8d", func := "psephos/psephoslaw13.ViableLater", spec := "viableLater", unfollowed := true, recurses := true, apart := false }
def ViableLaterSaid : Prop := viableLaterRow.holds Try.pinned (OpenSpec.ofChange viableLaterSpec)

/-- ITS FALSE NEIGHBOUR: 'it returns false'. Refute it at one input. -/
def viableLaterWrong : ChangeSpec := { name := "viableLater", fn := fun _ => fun
  | [d1, d2, d3, d4] => { results := [.lit (.bool false)], args := [d1, d2, d3, d4] }
  | _ => none }
def ViableLaterWrongFalsely : Prop := viableLaterRow.holds Try.pinned (OpenSpec.ofChange viableLaterWrong)

/-- 'psephoslaw13.ViableEmpty': WHATEVER THE INPUT: true; the input reads as it did. -/
def viableEmptySpec : ChangeSpec := { name := "viableEmpty", fn := fun _ => fun
  | [d1, d2, d3] => { results := [.lit (.bool true)], args := [d1, d2, d3] }
  | _ => none }
def viableEmptyRow : OpenClaim := { program := "ytlhpokpdpjlhiaa", sum := "00d4ccb286bfae2270409202031a55c4c1a51976e2bf9f4569dc77be0d4c6f8d", func := "psephos/psephoslaw13.ViableEmpty", spec := "viableEmpty", unfollowed := true, recurses := true, apart := false }
def ViableEmptySaid : Prop := viableEmptyRow.holds Try.pinned (OpenSpec.ofChange viableEmptySpec)

/-- ITS FALSE NEIGHBOUR: 'it returns false'. Refute it at one input. -/
def viableEmptyWrong : ChangeSpec := { name := "viableEmpty", fn := fun _ => fun
  | [d1, d2, d3] => { results := [.lit (.bool false)], args := [d1, d2, d3] }
  | _ => none }
def ViableEmptyWrongFalsely : Prop := viableEmptyRow.holds Try.pinned (OpenSpec.ofChange viableEmptyWrong)

/- THE SECOND FORM. 'bulk': how many values and letters a reading holds, each counted each time it is reached (what is shared counts as often as it is met; a slice's spare places count too). A statement '..UptoSaid' is the law's where the arguments, and the package variables that the reading takes, are together of bulk at most 1048576: NARROWER than '..Said'. Prove '..Said' where nothing that the law and all that it calls make is longer than what came in: it says more and counts as full. Else prove '..UptoSaid'. A law counts once. -/
mutual
def uptoBulk {H : Type} : DataW H → Nat
  | .lit (.string bytes) => bytes.length + 1
  | .lit _ => 1
  | .nil => 1
  | .ptr d => uptoBulk d + 1
  | .slice elems spare => uptoBulkAll elems + uptoBulkAll spare + 1
  | .agg parts => uptoBulkAll parts + 1
  | .iface _ d => uptoBulk d + 1
  | .map entries => uptoBulkEntries entries + 1
  | .held _ => 1
def uptoBulkAll {H : Type} : List (DataW H) → Nat
  | [] => 0
  | d :: r => uptoBulk d + uptoBulkAll r
def uptoBulkEntries {H : Type} : List (Lit × DataW H) → Nat
  | [] => 0
  | x :: r => uptoBulkEntry x + uptoBulkEntries r
def uptoBulkEntry {H : Type} : Lit × DataW H → Nat
  | (.string bytes, d) => bytes.length + uptoBulk d + 1
  | (_, d) => uptoBulk d + 1
 end
def uptoSmall : (H : Type) → List (DataW H) → Bool := fun _ ds => decide (uptoBulkAll ds ≤ 1048576)
def OpenSpec.upto (s : _root_.Go.ChangeSpec) : _root_.Go.OpenSpec := { _root_.Go.OpenSpec.ofChange s with cond := some uptoSmall }

/-- 'psephoslaw13.ViableOf', WHERE WHAT IT READS IS OF BULK AT MOST 1048576: true; the input reads as it did. -/
def viableOfUptoRow : OpenClaim := { program := "ytlhpokpdpjlhiaa", sum := "00d4ccb286bfae2270409202031a55c4c1a51976e2bf9f4569dc77be0d4c6f8d", func := "psephos/psephoslaw13.ViableOf", spec := "viableOf", unfollowed := true, recurses := true, apart := false, narrowed := true }
def ViableOfUptoSaid : Prop := viableOfUptoRow.holds Try.pinned (OpenSpec.upto viableOfSpec)

/-- 'psephoslaw13.ViableUp', WHERE WHAT IT READS IS OF BULK AT MOST 1048576: true; the input reads as it did. -/
def viableUpUptoRow : OpenClaim := { program := "ytlhpokpdpjlhiaa", sum := "00d4ccb286bfae2270409202031a55c4c1a51976e2bf9f4569dc77be0d4c6f8d", func := "psephos/psephoslaw13.ViableUp", spec := "viableUp", unfollowed := true, recurses := true, apart := false, narrowed := true }
def ViableUpUptoSaid : Prop := viableUpUptoRow.holds Try.pinned (OpenSpec.upto viableUpSpec)

/-- 'psephoslaw13.ViableFirst', WHERE WHAT IT READS IS OF BULK AT MOST 1048576: true; the input reads as it did. -/
def viableFirstUptoRow : OpenClaim := { program := "ytlhpokpdpjlhiaa", sum := "00d4ccb286bfae2270409202031a55c4c1a51976e2bf9f4569dc77be0d4c6f8d", func := "psephos/psephoslaw13.ViableFirst", spec := "viableFirst", unfollowed := true, recurses := true, apart := false, narrowed := true }
def ViableFirstUptoSaid : Prop := viableFirstUptoRow.holds Try.pinned (OpenSpec.upto viableFirstSpec)

/-- 'psephoslaw13.ViableLeaf', WHERE WHAT IT READS IS OF BULK AT MOST 1048576: true; the input reads as it did. -/
def viableLeafUptoRow : OpenClaim := { program := "ytlhpokpdpjlhiaa", sum := "00d4ccb286bfae2270409202031a55c4c1a51976e2bf9f4569dc77be0d4c6f8d", func := "psephos/psephoslaw13.ViableLeaf", spec := "viableLeaf", unfollowed := true, recurses := true, apart := false, narrowed := true }
def ViableLeafUptoSaid : Prop := viableLeafUptoRow.holds Try.pinned (OpenSpec.upto viableLeafSpec)

/-- 'psephoslaw13.ViableLater', WHERE WHAT IT READS IS OF BULK AT MOST 1048576: true; the input reads as it did. -/
def viableLaterUptoRow : OpenClaim := { program := "ytlhpokpdpjlhiaa", sum := "00d4ccb286bfae2270409202031a55c4c1a51976e2bf9f4569dc77be0d4c6f8d", func := "psephos/psephoslaw13.ViableLater", spec := "viableLater", unfollowed := true, recurses := true, apart := false, narrowed := true }
def ViableLaterUptoSaid : Prop := viableLaterUptoRow.holds Try.pinned (OpenSpec.upto viableLaterSpec)

/-- 'psephoslaw13.ViableEmpty', WHERE WHAT IT READS IS OF BULK AT MOST 1048576: true; the input reads as it did. -/
def viableEmptyUptoRow : OpenClaim := { program := "ytlhpokpdpjlhiaa", sum := "00d4ccb286bfae2270409202031a55c4c1a51976e2bf9f4569dc77be0d4c6f8d", func := "psephos/psephoslaw13.ViableEmpty", spec := "viableEmpty", unfollowed := true, recurses := true, apart := false, narrowed := true }
def ViableEmptyUptoSaid : Prop := viableEmptyUptoRow.holds Try.pinned (OpenSpec.upto viableEmptySpec)

end Rows
end Go.Proofs.Ytlhpokpdpjlhiaa
