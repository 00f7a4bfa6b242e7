/-
  No cell of these rows narrows 'for every input' (looked for: loops, veiled, ifaces, maps, wideKeys, modest, calm, conditions, laid).
  DERIVED. THE GIVEN ROWS OF THIS SEAT. 6 by the template 'for every input the law returns true; each argument reads behind the call as it read before'; 0 by the template 'total and deterministic' (their statements: YtegegnpjdpjgmaaTotals.lean).
  GIVEN WITH THE SEED: the statements are not yours to turn. If you find one false, say at which input.
  Laid BY PROGRAM, IN A SANDBOX (cutbox-rows.mjs): the forced cells as the released guide's own fill.sh prints them over the translation 994836a6d1702120… (all of the seat's roots in one cut). By AI agents, Wed Nov 11 2026. No macro, syntax, notation, axiom, sorry.
-/
import Derived.Test.YtegegnpjdpjgmaaChecked
import GoSem.Claim
import GoSem.ClaimJoined
import GoSem.ClaimMapViews
import Derived.JoinedTies
import Derived.KernelRfl
namespace Go.Proofs.Ytegegnpjdpjgmaa
/- THE CELL 'sum', in the pinned program and in every row, IS THE sha256 OF THE DUMP (.gsa) THAT YtegegnpjdpjgmaaProg.lean LOADS. Nothing in Lean hashes anything: it is a label: what it is worth is what the hold of that sum in a sandbox is worth. -/
noncomputable def Try.pinned : Pinned := { name := "ytegegnpjdpjgmaa", sum := "994836a6d17021201df4d91d8a395ab3d8519687c8dcf2e0f646be2ee4aa5f61", checked := Try.checked }
namespace Rows
def none {H : Type} : Left H := { results := [], args := [] }

/-- 'psephoslaw05.VoteRight': WHATEVER THE INPUT: true; the input reads as it did. -/
def voteRightSpec : ChangeSpec := { name := "voteRight", fn := fun _ => fun
  | [d1, d2] => { results := [.lit (.bool true)], args := [d1, d2] }
  | _ => none }
def voteRightRow : OpenClaim := { program := "ytegegnpjdpjgmaa", sum := "994836a6d17021201df4d91d8a395ab3d8519687c8dcf2e0f646be2ee4aa5f61", func := "psephos/psephoslaw05.VoteRight", spec := "voteRight", recurses := true, apart := false }
def VoteRightSaid : Prop := voteRightRow.holds Try.pinned (OpenSpec.ofChange voteRightSpec)

/-- ITS FALSE NEIGHBOUR: 'it returns false'. Refute it at one input. -/
def voteRightWrong : ChangeSpec := { name := "voteRight", fn := fun _ => fun
  | [d1, d2] => { results := [.lit (.bool false)], args := [d1, d2] }
  | _ => none }
def VoteRightWrongFalsely : Prop := voteRightRow.holds Try.pinned (OpenSpec.ofChange voteRightWrong)

/-- 'psephoslaw05.VoteBoth': WHATEVER THE INPUT: true; the input reads as it did. -/
def voteBothSpec : ChangeSpec := { name := "voteBoth", fn := fun _ => fun
  | [d1, d2] => { results := [.lit (.bool true)], args := [d1, d2] }
  | _ => none }
def voteBothRow : OpenClaim := { program := "ytegegnpjdpjgmaa", sum := "994836a6d17021201df4d91d8a395ab3d8519687c8dcf2e0f646be2ee4aa5f61", func := "psephos/psephoslaw05.VoteBoth", spec := "voteBoth", recurses := true, apart := false }
def VoteBothSaid : Prop := voteBothRow.holds Try.pinned (OpenSpec.ofChange voteBothSpec)

/-- ITS FALSE NEIGHBOUR: 'it returns false'. Refute it at one input. -/
def voteBothWrong : ChangeSpec := { name := "voteBoth", fn := fun _ => fun
  | [d1, d2] => { results := [.lit (.bool false)], args := [d1, d2] }
  | _ => none }
def VoteBothWrongFalsely : Prop := voteBothRow.holds Try.pinned (OpenSpec.ofChange voteBothWrong)

/-- 'psephoslaw05.VoteTwice': WHATEVER THE INPUT: true; the input reads as it did. -/
def voteTwiceSpec : ChangeSpec := { name := "voteTwice", fn := fun _ => fun
  | [d1, d2] => { results := [.lit (.bool true)], args := [d1, d2] }
  | _ => none }
def voteTwiceRow : OpenClaim := { program := "ytegegnpjdpjgmaa", sum := "994836a6d17021201df4d91d8a395ab3d8519687c8dcf2e0f646be2ee4aa5f61", func := "psephos/psephoslaw05.VoteTwice", spec := "voteTwice", recurses := true, apart := false }
def VoteTwiceSaid : Prop := voteTwiceRow.holds Try.pinned (OpenSpec.ofChange voteTwiceSpec)

/-- ITS FALSE NEIGHBOUR: 'it returns false'. Refute it at one input. -/
def voteTwiceWrong : ChangeSpec := { name := "voteTwice", fn := fun _ => fun
  | [d1, d2] => { results := [.lit (.bool false)], args := [d1, d2] }
  | _ => none }
def VoteTwiceWrongFalsely : Prop := voteTwiceRow.holds Try.pinned (OpenSpec.ofChange voteTwiceWrong)

/-- 'psephoslaw05.VoteEpochs': WHATEVER THE INPUT: true; the input reads as it did. -/
def voteEpochsSpec : ChangeSpec := { name := "voteEpochs", fn := fun _ => fun
  | [d1, d2, d3] => { results := [.lit (.bool true)], args := [d1, d2, d3] }
  | _ => none }
def voteEpochsRow : OpenClaim := { program := "ytegegnpjdpjgmaa", sum := "994836a6d17021201df4d91d8a395ab3d8519687c8dcf2e0f646be2ee4aa5f61", func := "psephos/psephoslaw05.VoteEpochs", spec := "voteEpochs", recurses := true, apart := false }
def VoteEpochsSaid : Prop := voteEpochsRow.holds Try.pinned (OpenSpec.ofChange voteEpochsSpec)

/-- ITS FALSE NEIGHBOUR: 'it returns false'. Refute it at one input. -/
def voteEpochsWrong : ChangeSpec := { name := "voteEpochs", fn := fun _ => fun
  | [d1, d2, d3] => { results := [.lit (.bool false)], args := [d1, d2, d3] }
  | _ => none }
def VoteEpochsWrongFalsely : Prop := voteEpochsRow.holds Try.pinned (OpenSpec.ofChange voteEpochsWrong)

/-- 'psephoslaw05.VoteSame': WHATEVER THE INPUT: true; the input reads as it did. -/
def voteSameSpec : ChangeSpec := { name := "voteSame", fn := fun _ => fun
  | [d1, d2] => { results := [.lit (.bool true)], args := [d1, d2] }
  | _ => none }
def voteSameRow : OpenClaim := { program := "ytegegnpjdpjgmaa", sum := "994836a6d17021201df4d91d8a395ab3d8519687c8dcf2e0f646be2ee4aa5f61", func := "psephos/psephoslaw05.VoteSame", spec := "voteSame", recurses := true, apart := false }
def VoteSameSaid : Prop := voteSameRow.holds Try.pinned (OpenSpec.ofChange voteSameSpec)

/-- ITS FALSE NEIGHBOUR: 'it returns false'. Refute it at one input. -/
def voteSameWrong : ChangeSpec := { name := "voteSame", fn := fun _ => fun
  | [d1, d2] => { results := [.lit (.bool false)], args := [d1, d2] }
  | _ => none }
def VoteSameWrongFalsely : Prop := voteSameRow.holds Try.pinned (OpenSpec.ofChange voteSameWrong)

/-- 'psephoslaw05.VoteFewer': WHATEVER THE INPUT: true; the input reads as it did. -/
def voteFewerSpec : ChangeSpec := { name := "voteFewer", fn := fun _ => fun
  | [d1, d2, d3] => { results := [.lit (.bool true)], args := [d1, d2, d3] }
  | _ => none }
def voteFewerRow : OpenClaim := { program := "ytegegnpjdpjgmaa", sum := "994836a6d17021201df4d91d8a395ab3d8519687c8dcf2e0f646be2ee4aa5f61", func := "psephos/psephoslaw05.VoteFewer", spec := "voteFewer", recurses := true, apart := false }
def VoteFewerSaid : Prop := voteFewerRow.holds Try.pinned (OpenSpec.ofChange voteFewerSpec)

/-- ITS FALSE NEIGHBOUR: 'it returns false'. Refute it at one input. -/
def voteFewerWrong : ChangeSpec := { name := "voteFewer", fn := fun _ => fun
  | [d1, d2, d3] => { results := [.lit (.bool false)], args := [d1, d2, d3] }
  | _ => none }
def VoteFewerWrongFalsely : Prop := voteFewerRow.holds Try.pinned (OpenSpec.ofChange voteFewerWrong)

/- THE SECOND FORM. 'bulk': how many values and letters a reading holds, each counted each time it is reached (what is shared counts as often as it is met; a slice's spare places count too). A statement '..UptoSaid' is the law's where the arguments, and the package variables that the reading takes, are together of bulk at most 1048576: NARROWER than '..Said'. Prove '..Said' where nothing that the law and all that it calls make is longer than what came in: it says more and counts as full. Else prove '..UptoSaid'. A law counts once. -/
mutual
def uptoBulk {H : Type} : DataW H → Nat
  | .lit (.string bytes) => bytes.length + 1
  | .lit _ => 1
  | .nil => 1
  | .ptr d => uptoBulk d + 1
  | .slice elems spare => uptoBulkAll elems + uptoBulkAll spare + 1
  | .agg parts => uptoBulkAll parts + 1
  | .iface _ d => uptoBulk d + 1
  | .map entries => uptoBulkEntries entries + 1
  | .held _ => 1
def uptoBulkAll {H : Type} : List (DataW H) → Nat
  | [] => 0
  | d :: r => uptoBulk d + uptoBulkAll r
def uptoBulkEntries {H : Type} : List (Lit × DataW H) → Nat
  | [] => 0
  | x :: r => uptoBulkEntry x + uptoBulkEntries r
def uptoBulkEntry {H : Type} : Lit × DataW H → Nat
  | (.string bytes, d) => bytes.length + uptoBulk d + 1
  | (_, d) => uptoBulk d + 1
 end
def uptoSmall : (H : Type) → List (DataW H) → Bool := fun _ ds => decide (uptoBulkAll ds ≤ 1048576)
def OpenSpec.upto (s : _root_.Go.ChangeSpec) : _root_.Go.OpenSpec := { _root_.Go.OpenSpec.ofChange s with cond := some uptoSmall }

/-- 'psephoslaw05.VoteRight', WHERE WHAT IT READS IS OF BULK AT MOST 1048576: true; the input reads as it did. -/
def voteRightUptoRow : OpenClaim := { program := "ytegegnpjdpjgmaa", sum := "994836a6d17021201df4d91d8a395ab3d8519687c8dcf2e0f646be2ee4aa5f61", func := "psephos/psephoslaw05.VoteRight", spec := "voteRight", recurses := true, apart := false, narrowed := true }
def VoteRightUptoSaid : Prop := voteRightUptoRow.holds Try.pinned (OpenSpec.upto voteRightSpec)

/-- 'psephoslaw05.VoteBoth', WHERE WHAT IT READS IS OF BULK AT MOST 1048576: true; the input reads as it did. -/
def voteBothUptoRow : OpenClaim := { program := "ytegegnpjdpjgmaa", sum := "994836a6d17021201df4d91d8a395ab3d8519687c8dcf2e0f646be2ee4aa5f61", func := "psephos/psephoslaw05.VoteBoth", spec := "voteBoth", recurses := true, apart := false, narrowed := true }
def VoteBothUptoSaid : Prop := voteBothUptoRow.holds Try.pinned (OpenSpec.upto voteBothSpec)

/-- 'psephoslaw05.VoteTwice', WHERE WHAT IT READS IS OF BULK AT MOST 1048576: true; the input reads as it did. -/
def voteTwiceUptoRow : OpenClaim := { program := "ytegegnpjdpjgmaa", sum := "994836a6d17021201df4d91d8a395ab3d8519687c8dcf2e0f646be2ee4aa5f61", func := "psephos/psephoslaw05.VoteTwice", spec := "voteTwice", recurses := true, apart := false, narrowed := true }
def VoteTwiceUptoSaid : Prop := voteTwiceUptoRow.holds Try.pinned (OpenSpec.upto voteTwiceSpec)

/-- 'psephoslaw05.VoteEpochs', WHERE WHAT IT READS IS OF BULK AT MOST 1048576: true; the input reads as it did. -/
def voteEpochsUptoRow : OpenClaim := { program := "ytegegnpjdpjgmaa", sum := "994836a6d17021201df4d91d8a395ab3d8519687c8dcf2e0f646be2ee4aa5f61", func := "psephos/psephoslaw05.VoteEpochs", spec := "voteEpochs", recurses := true, apart := false, narrowed := true }
def VoteEpochsUptoSaid : Prop := voteEpochsUptoRow.holds Try.pinned (OpenSpec.upto voteEpochsSpec)

/-- 'psephoslaw05.VoteSame', WHERE WHAT IT READS IS OF BULK AT MOST 1048576: true; the input reads as it did. -/
def voteSameUptoRow : OpenClaim := { program := "ytegegnpjdpjgmaa", sum := "994836a6d17021201df4d91d8a395ab3d8519687c8dcf2e0f646be2ee4aa5f61", func := "psephos/psephoslaw05.VoteSame", spec := "voteSame", recurses := true, apart := false, narrowed := true }
def VoteSameUptoSaid : Prop := voteSameUptoRow.holds Try.pinned (OpenSpec.upto voteSameSpec)

/-- 'psephoslaw05.VoteFewer', WHERE WHAT IT READS IS OF BULK AT MOST 1048576: true; the input reads as it did. -/
def voteFewerUptoRow : OpenClaim := { program := "ytegegnpjdpjgmaa", sum := "994836a6d17021201df4d91d8a395ab3d8519687c8dcf2e0f646be2ee4aa5f61", func := "psephos/psephoslaw05.VoteFewer", spec := "voteFewer", recurses := true, apart := false, narrowed := true }
def VoteFewerUptoSaid : Prop := voteFewerUptoRow.holds Try.pinned (OpenSpec.upto voteFewerSpec)

end Rows
end Go.Proofs.Ytegegnpjdpjgmaa
