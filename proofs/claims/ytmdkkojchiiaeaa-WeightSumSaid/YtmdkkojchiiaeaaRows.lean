/-
  No cell of these rows narrows 'for every input' (looked for: loops, veiled, ifaces, maps, wideKeys, modest, calm, conditions, laid).
  DERIVED. THE GIVEN ROWS OF THIS SEAT. 6 by the template 'for every input the law returns true; each argument reads behind the call as it read before'; 0 by the template 'total and deterministic' (their statements: YtmdkkojchiiaeaaTotals.lean).
  GIVEN WITH THE SEED: the statements are not yours to turn. If you find one false, say at which input.
  Laid BY PROGRAM, IN A SANDBOX (cutbox-rows.mjs): the forced cells as the released guide's own fill.sh prints them over the translation a20cc3f370aba27d… (all of the seat's roots in one cut). By AI agents, Wed Nov 11 2026. No macro, syntax, notation, axiom, sorry.
-/
import Derived.Test.YtmdkkojchiiaeaaChecked
import GoSem.Claim
import GoSem.ClaimJoined
import GoSem.ClaimMapViews
import Derived.JoinedTies
import Derived.KernelRfl
namespace Go.Proofs.Ytmdkkojchiiaeaa
/- THE CELL 'sum', in the pinned program and in every row, IS THE sha256 OF THE DUMP (.gsa) THAT YtmdkkojchiiaeaaProg.lean LOADS. Nothing in Lean hashes anything: it is a label: what it is worth is what the hold of that sum in a sandbox is worth. -/
noncomputable def Try.pinned : Pinned := { name := "ytmdkkojchiiaeaa", sum := "a20cc3f370aba27d370a79a43e43c0aa5156547aa2d4fe99adbdb8eb177cea4e", checked := Try.checked }
namespace Rows
def none {H : Type} : Left H := { results := [], args := [] }

/-- 'psephoslaw12.WeightBest': WHATEVER THE INPUT: true; the input reads as it did. -/
def weightBestSpec : ChangeSpec := { name := "weightBest", fn := fun _ => fun
  | [d1, d2] => { results := [.lit (.bool true)], args := [d1, d2] }
  | _ => none }
def weightBestRow : OpenClaim := { program := "ytmdkkojchiiaeaa", sum := "a20cc3f370aba27d370a79a43e43c0aa5156547aa2d4fe99adbdb8eb177cea4e", func := "psephos/psephoslaw12.WeightBest", spec := "weightBest", unfollowed := true, recurses := true, apart := false }
def WeightBestSaid : Prop := weightBestRow.holds Try.pinned (OpenSpec.ofChange weightBestSpec)

/-- ITS FALSE NEIGHBOUR: 'it returns false'. Refute it at one input. -/
def weightBestWrong : ChangeSpec := { name := "weightBest", fn := fun _ => fun
  | [d1, d2] => { results := [.lit (.bool false)], args := [d1, d2] }
  | _ => none }
def WeightBestWrongFalsely : Prop := weightBestRow.holds Try.pinned (OpenSpec.ofChange weightBestWrong)

/-- 'psephoslaw12.WeightNone': WHATEVER THE INPUT: true; the input reads as it did. -/
def weightNoneSpec : ChangeSpec := { name := "weightNone", fn := fun _ => fun
  | [d1, d2, d3] => { results := [.lit (.bool true)], args := [d1, d2, d3] }
  | _ => none }
def weightNoneRow : OpenClaim := { program := "ytmdkkojchiiaeaa", sum := "a20cc3f370aba27d370a79a43e43c0aa5156547aa2d4fe99adbdb8eb177cea4e", func := "psephos/psephoslaw12.WeightNone", spec := "weightNone", unfollowed := true, recurses := true, apart := false }
def WeightNoneSaid : Prop := weightNoneRow.holds Try.pinned (OpenSpec.ofChange weightNoneSpec)

/-- ITS FALSE NEIGHBOUR: 'it returns false'. Refute it at one input. -/
def weightNoneWrong : ChangeSpec := { name := "weightNone", fn := fun _ => fun
  | [d1, d2, d3] => { results := [.lit (.bool false)], args := [d1, d2, d3] }
  | _ => none }
def WeightNoneWrongFalsely : Prop := weightNoneRow.holds Try.pinned (OpenSpec.ofChange weightNoneWrong)

/-- 'psephoslaw12.WeightBoost': WHATEVER THE INPUT: true; the input reads as it did. -/
def weightBoostSpec : ChangeSpec := { name := "weightBoost", fn := fun _ => fun
  | [d1, d2, d3, d4, d5] => { results := [.lit (.bool true)], args := [d1, d2, d3, d4, d5] }
  | _ => none }
def weightBoostRow : OpenClaim := { program := "ytmdkkojchiiaeaa", sum := "a20cc3f370aba27d370a79a43e43c0aa5156547aa2d4fe99adbdb8eb177cea4e", func := "psephos/psephoslaw12.WeightBoost", spec := "weightBoost", unfollowed := true, recurses := true, apart := false }
def WeightBoostSaid : Prop := weightBoostRow.holds Try.pinned (OpenSpec.ofChange weightBoostSpec)

/-- ITS FALSE NEIGHBOUR: 'it returns false'. Refute it at one input. -/
def weightBoostWrong : ChangeSpec := { name := "weightBoost", fn := fun _ => fun
  | [d1, d2, d3, d4, d5] => { results := [.lit (.bool false)], args := [d1, d2, d3, d4, d5] }
  | _ => none }
def WeightBoostWrongFalsely : Prop := weightBoostRow.holds Try.pinned (OpenSpec.ofChange weightBoostWrong)

/-- 'psephoslaw12.WeightFirst': WHATEVER THE INPUT: true; the input reads as it did. -/
def weightFirstSpec : ChangeSpec := { name := "weightFirst", fn := fun _ => fun
  | [d1, d2, d3] => { results := [.lit (.bool true)], args := [d1, d2, d3] }
  | _ => none }
def weightFirstRow : OpenClaim := { program := "ytmdkkojchiiaeaa", sum := "a20cc3f370aba27d370a79a43e43c0aa5156547aa2d4fe99adbdb8eb177cea4e", func := "psephos/psephoslaw12.WeightFirst", spec := "weightFirst", unfollowed := true, recurses := true, apart := false }
def WeightFirstSaid : Prop := weightFirstRow.holds Try.pinned (OpenSpec.ofChange weightFirstSpec)

/-- ITS FALSE NEIGHBOUR: 'it returns false'. Refute it at one input. -/
def weightFirstWrong : ChangeSpec := { name := "weightFirst", fn := fun _ => fun
  | [d1, d2, d3] => { results := [.lit (.bool false)], args := [d1, d2, d3] }
  | _ => none }
def WeightFirstWrongFalsely : Prop := weightFirstRow.holds Try.pinned (OpenSpec.ofChange weightFirstWrong)

/-- 'psephoslaw12.WeightOf': WHATEVER THE INPUT: true; the input reads as it did. -/
def weightOfSpec : ChangeSpec := { name := "weightOf", fn := fun _ => fun
  | [d1, d2, d3, d4, d5, d6] => { results := [.lit (.bool true)], args := [d1, d2, d3, d4, d5, d6] }
  | _ => none }
def weightOfRow : OpenClaim := { program := "ytmdkkojchiiaeaa", sum := "a20cc3f370aba27d370a79a43e43c0aa5156547aa2d4fe99adbdb8eb177cea4e", func := "psephos/psephoslaw12.WeightOf", spec := "weightOf", unfollowed := true, recurses := true, apart := false }
def WeightOfSaid : Prop := weightOfRow.holds Try.pinned (OpenSpec.ofChange weightOfSpec)

/-- ITS FALSE NEIGHBOUR: 'it returns false'. Refute it at one input. -/
def weightOfWrong : ChangeSpec := { name := "weightOf", fn := fun _ => fun
  | [d1, d2, d3, d4, d5, d6] => { results := [.lit (.bool false)], args := [d1, d2, d3, d4, d5, d6] }
  | _ => none }
def WeightOfWrongFalsely : Prop := weightOfRow.holds Try.pinned (OpenSpec.ofChange weightOfWrong)

/-- 'psephoslaw12.WeightSum': WHATEVER THE INPUT: true; the input reads as it did. -/
def weightSumSpec : ChangeSpec := { name := "weightSum", fn := fun _ => fun
  | [d1, d2, d3] => { results := [.lit (.bool true)], args := [d1, d2, d3] }
  | _ => none }
def weightSumRow : OpenClaim := { program := "ytmdkkojchiiaeaa", sum := "a20cc3f370aba27d370a79a43e43c0aa5156547aa2d4fe99adbdb8eb177cea4e", func := "psephos/psephoslaw12.WeightSum", spec := "weightSum", unfollowed := true, recurses := true, apart := false }
def WeightSumSaid : Prop := weightSumRow.holds Try.pinned (OpenSpec.ofChange weightSumSpec)

/-- ITS FALSE NEIGHBOUR: 'it returns false'. Refute it at one input. -/
def weightSumWrong : ChangeSpec := { name := "weightSum", fn := fun _ => fun
  | [d1, d2, d3] => { results := [.lit (.bool false)], args := [d1, d2, d3] }
  | _ => none }
def WeightSumWrongFalsely : Prop := weightSumRow.holds Try.pinned (OpenSpec.ofChange weightSumWrong)

/- THE SECOND FORM. 'bulk': how many values and letters a reading holds, each counted each time it is reached (what is shared counts as often as it is met; a slice's spare places count too). A statement '..UptoSaid' is the law's where the arguments, and the package variables that the reading takes, are together of bulk at most 1048576: NARROWER than '..Said'. Prove '..Said' where nothing that the law and all that it calls make is longer than what came in: it says more and counts as full. Else prove '..UptoSaid'. A law counts once. -/
mutual
def uptoBulk {H : Type} : DataW H → Nat
  | .lit (.string bytes) => bytes.length + 1
  | .lit _ => 1
  | .nil => 1
  | .ptr d => uptoBulk d + 1
  | .slice elems spare => uptoBulkAll elems + uptoBulkAll spare + 1
  | .agg parts => uptoBulkAll parts + 1
  | .iface _ d => uptoBulk d + 1
  | .map entries => uptoBulkEntries entries + 1
  | .held _ => 1
def uptoBulkAll {H : Type} : List (DataW H) → Nat
  | [] => 0
  | d :: r => uptoBulk d + uptoBulkAll r
def uptoBulkEntries {H : Type} : List (Lit × DataW H) → Nat
  | [] => 0
  | x :: r => uptoBulkEntry x + uptoBulkEntries r
def uptoBulkEntry {H : Type} : Lit × DataW H → Nat
  | (.string bytes, d) => bytes.length + uptoBulk d + 1
  | (_, d) => uptoBulk d + 1
 end
def uptoSmall : (H : Type) → List (DataW H) → Bool := fun _ ds => decide (uptoBulkAll ds ≤ 1048576)
def OpenSpec.upto (s : _root_.Go.ChangeSpec) : _root_.Go.OpenSpec := { _root_.Go.OpenSpec.ofChange s with cond := some uptoSmall }

/-- 'psephoslaw12.WeightBest', WHERE WHAT IT READS IS OF BULK AT MOST 1048576: true; the input reads as it did. -/
def weightBestUptoRow : OpenClaim := { program := "ytmdkkojchiiaeaa", sum := "a20cc3f370aba27d370a79a43e43c0aa5156547aa2d4fe99adbdb8eb177cea4e", func := "psephos/psephoslaw12.WeightBest", spec := "weightBest", unfollowed := true, recurses := true, apart := false, narrowed := true }
def WeightBestUptoSaid : Prop := weightBestUptoRow.holds Try.pinned (OpenSpec.upto weightBestSpec)

/-- 'psephoslaw12.WeightNone', WHERE WHAT IT READS IS OF BULK AT MOST 1048576: true; the input reads as it did. -/
def weightNoneUptoRow : OpenClaim := { program := "ytmdkkojchiiaeaa", sum := "a20cc3f370aba27d370a79a43e43c0aa5156547aa2d4fe99adbdb8eb177cea4e", func := "psephos/psephoslaw12.WeightNone", spec := "weightNone", unfollowed := true, recurses := true, apart := false, narrowed := true }
def WeightNoneUptoSaid : Prop := weightNoneUptoRow.holds Try.pinned (OpenSpec.upto weightNoneSpec)

/-- 'psephoslaw12.WeightBoost', WHERE WHAT IT READS IS OF BULK AT MOST 1048576: true; the input reads as it did. -/
def weightBoostUptoRow : OpenClaim := { program := "ytmdkkojchiiaeaa", sum := "a20cc3f370aba27d370a79a43e43c0aa5156547aa2d4fe99adbdb8eb177cea4e", func := "psephos/psephoslaw12.WeightBoost", spec := "weightBoost", unfollowed := true, recurses := true, apart := false, narrowed := true }
def WeightBoostUptoSaid : Prop := weightBoostUptoRow.holds Try.pinned (OpenSpec.upto weightBoostSpec)

/-- 'psephoslaw12.WeightFirst', WHERE WHAT IT READS IS OF BULK AT MOST 1048576: true; the input reads as it did. -/
def weightFirstUptoRow : OpenClaim := { program := "ytmdkkojchiiaeaa", sum := "a20cc3f370aba27d370a79a43e43c0aa5156547aa2d4fe99adbdb8eb177cea4e", func := "psephos/psephoslaw12.WeightFirst", spec := "weightFirst", unfollowed := true, recurses := true, apart := false, narrowed := true }
def WeightFirstUptoSaid : Prop := weightFirstUptoRow.holds Try.pinned (OpenSpec.upto weightFirstSpec)

/-- 'psephoslaw12.WeightOf', WHERE WHAT IT READS IS OF BULK AT MOST 1048576: true; the input reads as it did. -/
def weightOfUptoRow : OpenClaim := { program := "ytmdkkojchiiaeaa", sum := "a20cc3f370aba27d370a79a43e43c0aa5156547aa2d4fe99adbdb8eb177cea4e", func := "psephos/psephoslaw12.WeightOf", spec := "weightOf", unfollowed := true, recurses := true, apart := false, narrowed := true }
def WeightOfUptoSaid : Prop := weightOfUptoRow.holds Try.pinned (OpenSpec.upto weightOfSpec)

/-- 'psephoslaw12.WeightSum', WHERE WHAT IT READS IS OF BULK AT MOST 1048576: true; the input reads as it did. -/
def weightSumUptoRow : OpenClaim := { program := "ytmdkkojchiiaeaa", sum := "a20cc3f370aba27d370a79a43e43c0aa5156547aa2d4fe99adbdb8eb177cea4e", func := "psephos/psephoslaw12.WeightSum", spec := "weightSum", unfollowed := true, recurses := true, apart := false, narrowed := true }
def WeightSumUptoSaid : Prop := weightSumUptoRow.holds Try.pinned (OpenSpec.upto weightSumSpec)

end Rows
end Go.Proofs.Ytmdkkojchiiaeaa
