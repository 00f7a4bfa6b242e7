/-
  No cell of these rows narrows 'for every input' (looked for: loops, veiled, ifaces, maps, wideKeys, modest, calm, conditions, laid).
  DERIVED. THE GIVEN ROWS OF THIS SEAT. 7 by the template 'for every input the law returns true; each argument reads behind the call as it read before'; 0 by the template 'total and deterministic' (their statements: YtaglcnnanomekaaTotals.lean).
  GIVEN WITH THE SEED: the statements are not yours to turn. If you find one false, say at which input.
  Laid BY PROGRAM, IN A SANDBOX (cutbox-rows.mjs): the forced cells as the released guide's own fill.sh prints them over the translation 9e8a2315d2d7529c… (all of the seat's roots in one cut). By AI agents, Wed Nov 11 2026. No macro, syntax, notation, axiom, sorry.
-/
import Derived.Test.YtaglcnnanomekaaChecked
import GoSem.Claim
import GoSem.ClaimJoined
import GoSem.ClaimMapViews
import Derived.JoinedTies
import Derived.KernelRfl
namespace Go.Proofs.Ytaglcnnanomekaa
/- THE CELL 'sum', in the pinned program and in every row, IS THE sha256 OF THE DUMP (.gsa) THAT YtaglcnnanomekaaProg.lean LOADS. Nothing in Lean hashes anything: it is a label: what it is worth is what the hold of that sum in a sandbox is worth. -/
noncomputable def Try.pinned : Pinned := { name := "ytaglcnnanomekaa", sum := "9e8a2315d2d7529c33e0ca6b791994dfe23eacbb02936274fd9ff3e9633eeba2", checked := Try.checked }
namespace Rows
def none {H : Type} : Left H := { results := [], args := [] }

/-- 'psephoslaw01.OctetPut': WHATEVER THE INPUT: true; the input reads as it did. -/
def octetPutSpec : ChangeSpec := { name := "octetPut", fn := fun _ => fun
  | [d1, d2] => { results := [.lit (.bool true)], args := [d1, d2] }
  | _ => none }
def octetPutRow : OpenClaim := { program := "ytaglcnnanomekaa", sum := "9e8a2315d2d7529c33e0ca6b791994dfe23eacbb02936274fd9ff3e9633eeba2", func := "psephos/psephoslaw01.OctetPut", spec := "octetPut", apart := false }
def OctetPutSaid : Prop := octetPutRow.holds Try.pinned (OpenSpec.ofChange octetPutSpec)

/-- ITS FALSE NEIGHBOUR: 'it returns false'. Refute it at one input. -/
def octetPutWrong : ChangeSpec := { name := "octetPut", fn := fun _ => fun
  | [d1, d2] => { results := [.lit (.bool false)], args := [d1, d2] }
  | _ => none }
def OctetPutWrongFalsely : Prop := octetPutRow.holds Try.pinned (OpenSpec.ofChange octetPutWrong)

/-- 'psephoslaw01.OctetFirst': WHATEVER THE INPUT: true; the input reads as it did. -/
def octetFirstSpec : ChangeSpec := { name := "octetFirst", fn := fun _ => fun
  | [d1, d2] => { results := [.lit (.bool true)], args := [d1, d2] }
  | _ => none }
def octetFirstRow : OpenClaim := { program := "ytaglcnnanomekaa", sum := "9e8a2315d2d7529c33e0ca6b791994dfe23eacbb02936274fd9ff3e9633eeba2", func := "psephos/psephoslaw01.OctetFirst", spec := "octetFirst", apart := false }
def OctetFirstSaid : Prop := octetFirstRow.holds Try.pinned (OpenSpec.ofChange octetFirstSpec)

/-- ITS FALSE NEIGHBOUR: 'it returns false'. Refute it at one input. -/
def octetFirstWrong : ChangeSpec := { name := "octetFirst", fn := fun _ => fun
  | [d1, d2] => { results := [.lit (.bool false)], args := [d1, d2] }
  | _ => none }
def OctetFirstWrongFalsely : Prop := octetFirstRow.holds Try.pinned (OpenSpec.ofChange octetFirstWrong)

/-- 'psephoslaw01.OctetOrder': WHATEVER THE INPUT: true; the input reads as it did. -/
def octetOrderSpec : ChangeSpec := { name := "octetOrder", fn := fun _ => fun
  | [d1, d2] => { results := [.lit (.bool true)], args := [d1, d2] }
  | _ => none }
def octetOrderRow : OpenClaim := { program := "ytaglcnnanomekaa", sum := "9e8a2315d2d7529c33e0ca6b791994dfe23eacbb02936274fd9ff3e9633eeba2", func := "psephos/psephoslaw01.OctetOrder", spec := "octetOrder", apart := false }
def OctetOrderSaid : Prop := octetOrderRow.holds Try.pinned (OpenSpec.ofChange octetOrderSpec)

/-- ITS FALSE NEIGHBOUR: 'it returns false'. Refute it at one input. -/
def octetOrderWrong : ChangeSpec := { name := "octetOrder", fn := fun _ => fun
  | [d1, d2] => { results := [.lit (.bool false)], args := [d1, d2] }
  | _ => none }
def OctetOrderWrongFalsely : Prop := octetOrderRow.holds Try.pinned (OpenSpec.ofChange octetOrderWrong)

/-- 'psephoslaw01.OctetParts': WHATEVER THE INPUT: true; the input reads as it did. -/
def octetPartsSpec : ChangeSpec := { name := "octetParts", fn := fun _ => fun
  | [d1, d2, d3] => { results := [.lit (.bool true)], args := [d1, d2, d3] }
  | _ => none }
def octetPartsRow : OpenClaim := { program := "ytaglcnnanomekaa", sum := "9e8a2315d2d7529c33e0ca6b791994dfe23eacbb02936274fd9ff3e9633eeba2", func := "psephos/psephoslaw01.OctetParts", spec := "octetParts", apart := false }
def OctetPartsSaid : Prop := octetPartsRow.holds Try.pinned (OpenSpec.ofChange octetPartsSpec)

/-- ITS FALSE NEIGHBOUR: 'it returns false'. Refute it at one input. -/
def octetPartsWrong : ChangeSpec := { name := "octetParts", fn := fun _ => fun
  | [d1, d2, d3] => { results := [.lit (.bool false)], args := [d1, d2, d3] }
  | _ => none }
def OctetPartsWrongFalsely : Prop := octetPartsRow.holds Try.pinned (OpenSpec.ofChange octetPartsWrong)

/-- 'psephoslaw01.OctetGet': WHATEVER THE INPUT: true; the input reads as it did. -/
def octetGetSpec : ChangeSpec := { name := "octetGet", fn := fun _ => fun
  | [d1, d2] => { results := [.lit (.bool true)], args := [d1, d2] }
  | _ => none }
def octetGetRow : OpenClaim := { program := "ytaglcnnanomekaa", sum := "9e8a2315d2d7529c33e0ca6b791994dfe23eacbb02936274fd9ff3e9633eeba2", func := "psephos/psephoslaw01.OctetGet", spec := "octetGet", apart := false }
def OctetGetSaid : Prop := octetGetRow.holds Try.pinned (OpenSpec.ofChange octetGetSpec)

/-- ITS FALSE NEIGHBOUR: 'it returns false'. Refute it at one input. -/
def octetGetWrong : ChangeSpec := { name := "octetGet", fn := fun _ => fun
  | [d1, d2] => { results := [.lit (.bool false)], args := [d1, d2] }
  | _ => none }
def OctetGetWrongFalsely : Prop := octetGetRow.holds Try.pinned (OpenSpec.ofChange octetGetWrong)

/-- 'psephoslaw01.OctetBack': WHATEVER THE INPUT: true; the input reads as it did. -/
def octetBackSpec : ChangeSpec := { name := "octetBack", fn := fun _ => fun
  | [d1, d2] => { results := [.lit (.bool true)], args := [d1, d2] }
  | _ => none }
def octetBackRow : OpenClaim := { program := "ytaglcnnanomekaa", sum := "9e8a2315d2d7529c33e0ca6b791994dfe23eacbb02936274fd9ff3e9633eeba2", func := "psephos/psephoslaw01.OctetBack", spec := "octetBack", apart := false }
def OctetBackSaid : Prop := octetBackRow.holds Try.pinned (OpenSpec.ofChange octetBackSpec)

/-- ITS FALSE NEIGHBOUR: 'it returns false'. Refute it at one input. -/
def octetBackWrong : ChangeSpec := { name := "octetBack", fn := fun _ => fun
  | [d1, d2] => { results := [.lit (.bool false)], args := [d1, d2] }
  | _ => none }
def OctetBackWrongFalsely : Prop := octetBackRow.holds Try.pinned (OpenSpec.ofChange octetBackWrong)

/-- 'psephoslaw01.OctetSmall': WHATEVER THE INPUT: true; the input reads as it did. -/
def octetSmallSpec : ChangeSpec := { name := "octetSmall", fn := fun _ => fun
  | [d1, d2, d3] => { results := [.lit (.bool true)], args := [d1, d2, d3] }
  | _ => none }
def octetSmallRow : OpenClaim := { program := "ytaglcnnanomekaa", sum := "9e8a2315d2d7529c33e0ca6b791994dfe23eacbb02936274fd9ff3e9633eeba2", func := "psephos/psephoslaw01.OctetSmall", spec := "octetSmall", apart := false }
def OctetSmallSaid : Prop := octetSmallRow.holds Try.pinned (OpenSpec.ofChange octetSmallSpec)

/-- ITS FALSE NEIGHBOUR: 'it returns false'. Refute it at one input. -/
def octetSmallWrong : ChangeSpec := { name := "octetSmall", fn := fun _ => fun
  | [d1, d2, d3] => { results := [.lit (.bool false)], args := [d1, d2, d3] }
  | _ => none }
def OctetSmallWrongFalsely : Prop := octetSmallRow.holds Try.pinned (OpenSpec.ofChange octetSmallWrong)

/- THE SECOND FORM. 'bulk': how many values and letters a reading holds, each counted each time it is reached (what is shared counts as often as it is met; a slice's spare places count too). A statement '..UptoSaid' is the law's where the arguments, and the package variables that the reading takes, are together of bulk at most 1048576: NARROWER than '..Said'. Prove '..Said' where nothing that the law and all that it calls make is longer than what came in: it says more and counts as full. Else prove '..UptoSaid'. A law counts once. -/
mutual
def uptoBulk {H : Type} : DataW H → Nat
  | .lit (.string bytes) => bytes.length + 1
  | .lit _ => 1
  | .nil => 1
  | .ptr d => uptoBulk d + 1
  | .slice elems spare => uptoBulkAll elems + uptoBulkAll spare + 1
  | .agg parts => uptoBulkAll parts + 1
  | .iface _ d => uptoBulk d + 1
  | .map entries => uptoBulkEntries entries + 1
  | .held _ => 1
def uptoBulkAll {H : Type} : List (DataW H) → Nat
  | [] => 0
  | d :: r => uptoBulk d + uptoBulkAll r
def uptoBulkEntries {H : Type} : List (Lit × DataW H) → Nat
  | [] => 0
  | x :: r => uptoBulkEntry x + uptoBulkEntries r
def uptoBulkEntry {H : Type} : Lit × DataW H → Nat
  | (.string bytes, d) => bytes.length + uptoBulk d + 1
  | (_, d) => uptoBulk d + 1
 end
def uptoSmall : (H : Type) → List (DataW H) → Bool := fun _ ds => decide (uptoBulkAll ds ≤ 1048576)
def OpenSpec.upto (s : _root_.Go.ChangeSpec) : _root_.Go.OpenSpec := { _root_.Go.OpenSpec.ofChange s with cond := some uptoSmall }

/-- 'psephoslaw01.OctetPut', WHERE WHAT IT READS IS OF BULK AT MOST 1048576: true; the input reads as it did. -/
def octetPutUptoRow : OpenClaim := { program := "ytaglcnnanomekaa", sum := "9e8a2315d2d7529c33e0ca6b791994dfe23eacbb02936274fd9ff3e9633eeba2", func := "psephos/psephoslaw01.OctetPut", spec := "octetPut", apart := false, narrowed := true }
def OctetPutUptoSaid : Prop := octetPutUptoRow.holds Try.pinned (OpenSpec.upto octetPutSpec)

/-- 'psephoslaw01.OctetFirst', WHERE WHAT IT READS IS OF BULK AT MOST 1048576: true; the input reads as it did. -/
def octetFirstUptoRow : OpenClaim := { program := "ytaglcnnanomekaa", sum := "9e8a2315d2d7529c33e0ca6b791994dfe23eacbb02936274fd9ff3e9633eeba2", func := "psephos/psephoslaw01.OctetFirst", spec := "octetFirst", apart := false, narrowed := true }
def OctetFirstUptoSaid : Prop := octetFirstUptoRow.holds Try.pinned (OpenSpec.upto octetFirstSpec)

/-- 'psephoslaw01.OctetOrder', WHERE WHAT IT READS IS OF BULK AT MOST 1048576: true; the input reads as it did. -/
def octetOrderUptoRow : OpenClaim := { program := "ytaglcnnanomekaa", sum := "9e8a2315d2d7529c33e0ca6b791994dfe23eacbb02936274fd9ff3e9633eeba2", func := "psephos/psephoslaw01.OctetOrder", spec := "octetOrder", apart := false, narrowed := true }
def OctetOrderUptoSaid : Prop := octetOrderUptoRow.holds Try.pinned (OpenSpec.upto octetOrderSpec)

/-- 'psephoslaw01.OctetParts', WHERE WHAT IT READS IS OF BULK AT MOST 1048576: true; the input reads as it did. -/
def octetPartsUptoRow : OpenClaim := { program := "ytaglcnnanomekaa", sum := "9e8a2315d2d7529c33e0ca6b791994dfe23eacbb02936274fd9ff3e9633eeba2", func := "psephos/psephoslaw01.OctetParts", spec := "octetParts", apart := false, narrowed := true }
def OctetPartsUptoSaid : Prop := octetPartsUptoRow.holds Try.pinned (OpenSpec.upto octetPartsSpec)

/-- 'psephoslaw01.OctetGet', WHERE WHAT IT READS IS OF BULK AT MOST 1048576: true; the input reads as it did. -/
def octetGetUptoRow : OpenClaim := { program := "ytaglcnnanomekaa", sum := "9e8a2315d2d7529c33e0ca6b791994dfe23eacbb02936274fd9ff3e9633eeba2", func := "psephos/psephoslaw01.OctetGet", spec := "octetGet", apart := false, narrowed := true }
def OctetGetUptoSaid : Prop := octetGetUptoRow.holds Try.pinned (OpenSpec.upto octetGetSpec)

/-- 'psephoslaw01.OctetBack', WHERE WHAT IT READS IS OF BULK AT MOST 1048576: true; the input reads as it did. -/
def octetBackUptoRow : OpenClaim := { program := "ytaglcnnanomekaa", sum := "9e8a2315d2d7529c33e0ca6b791994dfe23eacbb02936274fd9ff3e9633eeba2", func := "psephos/psephoslaw01.OctetBack", spec := "octetBack", apart := false, narrowed := true }
def OctetBackUptoSaid : Prop := octetBackUptoRow.holds Try.pinned (OpenSpec.upto octetBackSpec)

/-- 'psephoslaw01.OctetSmall', WHERE WHAT IT READS IS OF BULK AT MOST 1048576: true; the input reads as it did. -/
def octetSmallUptoRow : OpenClaim := { program := "ytaglcnnanomekaa", sum := "9e8a2315d2d7529c33e0ca6b791994dfe23eacbb02936274fd9ff3e9633eeba2", func := "psephos/psephoslaw01.OctetSmall", spec := "octetSmall", apart := false, narrowed := true }
def OctetSmallUptoSaid : Prop := octetSmallUptoRow.holds Try.pinned (OpenSpec.upto octetSmallSpec)

end Rows
end Go.Proofs.Ytaglcnnanomekaa
