/-
  No cell of these rows narrows 'for every input' (looked for: loops, veiled, ifaces, maps, wideKeys, modest, calm, conditions, laid).
  DERIVED. THE GIVEN ROWS OF THIS SEAT. 4 by the template 'for every input the law returns true; each argument reads behind the call as it read before'; 0 by the template 'total and deterministic' (their statements: YtpnmcncmnmcccaaTotals.lean).
  GIVEN WITH THE SEED: the statements are not yours to turn. If you find one false, say at which input.
  Laid BY PROGRAM, IN A SANDBOX (cutbox-rows.mjs): the forced cells as the released guide's own fill.sh prints them over the translation 6268c02b2721d7e9… (all of the seat's roots in one cut). By AI agents, Wed Nov 11 2026. No macro, syntax, notation, axiom, sorry.
-/
import Derived.Test.YtpnmcncmnmcccaaChecked
import GoSem.Claim
import GoSem.ClaimJoined
import GoSem.ClaimMapViews
import Derived.JoinedTies
import Derived.KernelRfl
namespace Go.Proofs.Ytpnmcncmnmcccaa
/- THE CELL 'sum', in the pinned program and in every row, IS THE sha256 OF THE DUMP (.gsa) THAT YtpnmcncmnmcccaaProg.lean LOADS. Nothing in Lean hashes anything: it is a label: what it is worth is what the hold of that sum in a sandbox is worth. -/
noncomputable def Try.pinned : Pinned := { name := "ytpnmcncmnmcccaa", sum := "6268c02b2721d7e9d2020490d36693cd07d1bf814c7c1a53e9ea0397c87f171a", checked := Try.checked }
namespace Rows
def none {H : Type} : Left H := { results := [], args := [] }

/-- 'psephoslaw03.ConfigSum': WHATEVER THE INPUT: true; the input reads as it did. -/
def configSumSpec : ChangeSpec := { name := "configSum", fn := fun _ => fun
  | [d1, d2] => { results := [.lit (.bool true)], args := [d1, d2] }
  | _ => none }
def configSumRow : OpenClaim := { program := "ytpnmcncmnmcccaa", sum := "6268c02b2721d7e9d2020490d36693cd07d1bf814c7c1a53e9ea0397c87f171a", func := "psephos/psephoslaw03.ConfigSum", spec := "configSum", apart := false }
def ConfigSumSaid : Prop := configSumRow.holds Try.pinned (OpenSpec.ofChange configSumSpec)

/-- ITS FALSE NEIGHBOUR: 'it returns false'. Refute it at one input. -/
def configSumWrong : ChangeSpec := { name := "configSum", fn := fun _ => fun
  | [d1, d2] => { results := [.lit (.bool false)], args := [d1, d2] }
  | _ => none }
def ConfigSumWrongFalsely : Prop := configSumRow.holds Try.pinned (OpenSpec.ofChange configSumWrong)

/-- 'psephoslaw03.ConfigBoost': WHATEVER THE INPUT: true; the input reads as it did. -/
def configBoostSpec : ChangeSpec := { name := "configBoost", fn := fun _ => fun
  | [d] => { results := [.lit (.bool true)], args := [d] }
  | _ => none }
def configBoostRow : OpenClaim := { program := "ytpnmcncmnmcccaa", sum := "6268c02b2721d7e9d2020490d36693cd07d1bf814c7c1a53e9ea0397c87f171a", func := "psephos/psephoslaw03.ConfigBoost", spec := "configBoost", apart := false }
def ConfigBoostSaid : Prop := configBoostRow.holds Try.pinned (OpenSpec.ofChange configBoostSpec)

/-- ITS FALSE NEIGHBOUR: 'it returns false'. Refute it at one input. -/
def configBoostWrong : ChangeSpec := { name := "configBoost", fn := fun _ => fun
  | [d] => { results := [.lit (.bool false)], args := [d] }
  | _ => none }
def ConfigBoostWrongFalsely : Prop := configBoostRow.holds Try.pinned (OpenSpec.ofChange configBoostWrong)

/-- 'psephoslaw03.ConfigParts': WHATEVER THE INPUT: true; the input reads as it did. -/
def configPartsSpec : ChangeSpec := { name := "configParts", fn := fun _ => fun
  | [d1, d2, d3] => { results := [.lit (.bool true)], args := [d1, d2, d3] }
  | _ => none }
def configPartsRow : OpenClaim := { program := "ytpnmcncmnmcccaa", sum := "6268c02b2721d7e9d2020490d36693cd07d1bf814c7c1a53e9ea0397c87f171a", func := "psephos/psephoslaw03.ConfigParts", spec := "configParts", apart := false }
def ConfigPartsSaid : Prop := configPartsRow.holds Try.pinned (OpenSpec.ofChange configPartsSpec)

/-- ITS FALSE NEIGHBOUR: 'it returns false'. Refute it at one input. -/
def configPartsWrong : ChangeSpec := { name := "configParts", fn := fun _ => fun
  | [d1, d2, d3] => { results := [.lit (.bool false)], args := [d1, d2, d3] }
  | _ => none }
def ConfigPartsWrongFalsely : Prop := configPartsRow.holds Try.pinned (OpenSpec.ofChange configPartsWrong)

/-- 'psephoslaw03.ConfigEach': WHATEVER THE INPUT: true; the input reads as it did. -/
def configEachSpec : ChangeSpec := { name := "configEach", fn := fun _ => fun
  | [d1, d2] => { results := [.lit (.bool true)], args := [d1, d2] }
  | _ => none }
def configEachRow : OpenClaim := { program := "ytpnmcncmnmcccaa", sum := "6268c02b2721d7e9d2020490d36693cd07d1bf814c7c1a53e9ea0397c87f171a", func := "psephos/psephoslaw03.ConfigEach", spec := "configEach", apart := false }
def ConfigEachSaid : Prop := configEachRow.holds Try.pinned (OpenSpec.ofChange configEachSpec)

/-- ITS FALSE NEIGHBOUR: 'it returns false'. Refute it at one input. -/
def configEachWrong : ChangeSpec := { name := "configEach", fn := fun _ => fun
  | [d1, d2] => { results := [.lit (.bool false)], args := [d1, d2] }
  | _ => none }
def ConfigEachWrongFalsely : Prop := configEachRow.holds Try.pinned (OpenSpec.ofChange configEachWrong)

/- THE SECOND FORM. 'bulk': how many values and letters a reading holds, each counted each time it is reached (what is shared counts as often as it is met; a slice's spare places count too). A statement '..UptoSaid' is the law's where the arguments, and the package variables that the reading takes, are together of bulk at most 1048576: NARROWER than '..Said'. Prove '..Said' where nothing that the law and all that it calls make is longer than what came in: it says more and counts as full. Else prove '..UptoSaid'. A law counts once. -/
mutual
def uptoBulk {H : Type} : DataW H → Nat
  | .lit (.string bytes) => bytes.length + 1
  | .lit _ => 1
  | .nil => 1
  | .ptr d => uptoBulk d + 1
  | .slice elems spare => uptoBulkAll elems + uptoBulkAll spare + 1
  | .agg parts => uptoBulkAll parts + 1
  | .iface _ d => uptoBulk d + 1
  | .map entries => uptoBulkEntries entries + 1
  | .held _ => 1
def uptoBulkAll {H : Type} : List (DataW H) → Nat
  | [] => 0
  | d :: r => uptoBulk d + uptoBulkAll r
def uptoBulkEntries {H : Type} : List (Lit × DataW H) → Nat
  | [] => 0
  | x :: r => uptoBulkEntry x + uptoBulkEntries r
def uptoBulkEntry {H : Type} : Lit × DataW H → Nat
  | (.string bytes, d) => bytes.length + uptoBulk d + 1
  | (_, d) => uptoBulk d + 1
 end
def uptoSmall : (H : Type) → List (DataW H) → Bool := fun _ ds => decide (uptoBulkAll ds ≤ 1048576)
def OpenSpec.upto (s : _root_.Go.ChangeSpec) : _root_.Go.OpenSpec := { _root_.Go.OpenSpec.ofChange s with cond := some uptoSmall }

/-- 'psephoslaw03.ConfigSum', WHERE WHAT IT READS IS OF BULK AT MOST 1048576: true; the input reads as it did. -/
def configSumUptoRow : OpenClaim := { program := "ytpnmcncmnmcccaa", sum := "6268c02b2721d7e9d2020490d36693cd07d1bf814c7c1a53e9ea0397c87f171a", func := "psephos/psephoslaw03.ConfigSum", spec := "configSum", apart := false, narrowed := true }
def ConfigSumUptoSaid : Prop := configSumUptoRow.holds Try.pinned (OpenSpec.upto configSumSpec)

/-- 'psephoslaw03.ConfigBoost', WHERE WHAT IT READS IS OF BULK AT MOST 1048576: true; the input reads as it did. -/
def configBoostUptoRow : OpenClaim := { program := "ytpnmcncmnmcccaa", sum := "6268c02b2721d7e9d2020490d36693cd07d1bf814c7c1a53e9ea0397c87f171a", func := "psephos/psephoslaw03.ConfigBoost", spec := "configBoost", apart := false, narrowed := true }
def ConfigBoostUptoSaid : Prop := configBoostUptoRow.holds Try.pinned (OpenSpec.upto configBoostSpec)

/-- 'psephoslaw03.ConfigParts', WHERE WHAT IT READS IS OF BULK AT MOST 1048576: true; the input reads as it did. -/
def configPartsUptoRow : OpenClaim := { program := "ytpnmcncmnmcccaa", sum := "6268c02b2721d7e9d2020490d36693cd07d1bf814c7c1a53e9ea0397c87f171a", func := "psephos/psephoslaw03.ConfigParts", spec := "configParts", apart := false, narrowed := true }
def ConfigPartsUptoSaid : Prop := configPartsUptoRow.holds Try.pinned (OpenSpec.upto configPartsSpec)

/-- 'psephoslaw03.ConfigEach', WHERE WHAT IT READS IS OF BULK AT MOST 1048576: true; the input reads as it did. -/
def configEachUptoRow : OpenClaim := { program := "ytpnmcncmnmcccaa", sum := "6268c02b2721d7e9d2020490d36693cd07d1bf814c7c1a53e9ea0397c87f171a", func := "psephos/psephoslaw03.ConfigEach", spec := "configEach", apart := false, narrowed := true }
def ConfigEachUptoSaid : Prop := configEachUptoRow.holds Try.pinned (OpenSpec.upto configEachSpec)

end Rows
end Go.Proofs.Ytpnmcncmnmcccaa
