/-
  The law LedgerPull of package psephoslaw10: what would be justified is what is, when the epoch has ended.
-/
import Derived.Test.YtiklbldanidfiaaPullW
import Derived.BigQuiet
import Derived.Test.YtiklbldanidfiaaVoteM3
import Derived.Test.YtiklbldanidfiaaOpenStruct
import Derived.Test.YtiklbldanidfiaaWEqStruct
import Derived.Test.YtiklbldanidfiaaQLx5
import Derived.Test.YtiklbldanidfiaaQLx12
namespace Go.Proofs.Ytiklbldanidfiaa.QL
open Go.RowKit Go.Proofs.YtiklbldanidfiaaW.PrintWords Go.Proofs.YtiklbldanidfiaaW.PrintLast Go.Proofs.YtiklbldanidfiaaW.PrintMore Go.Proofs.Ytiklbldanidfiaa.Own Go.Proofs.Ytiklbldanidfiaa.Justify Go.Proofs.Ytiklbldanidfiaa.QLV
set_option linter.unusedVariables false
set_option linter.unusedSimpArgs false
attribute [local go_sem] max2_is min2_is max_pair min_pair
attribute [local go_sem high] eqA34
abbrev qP0 : Array Bool := #[false, false, false, false, false, false, false, false, false, false, false, false, false, false, false, false, false, false, false, false, false, false, false, false, false, false, false, false, false, false]
abbrev qP1 : Array Bool := #[true, false, false, false, false, false, false, false, false, false, false, false, false, false, false, false, false, false, false, false, false, false, false, false, false, false, false, false, false, false]
abbrev qP2 : Array Bool := #[true, false, true, false, false, false, false, false, false, false, false, false, false, false, false, false, false, false, false, false, false, false, false, false, false, false, false, false, false, false]
abbrev qP3 : Array Bool := #[true, false, true, true, false, false, false, false, false, false, false, false, false, false, false, false, false, false, false, false, false, false, false, false, false, false, false, false, false, false]
abbrev qP4 : Array Bool := #[true, false, true, true, false, true, false, false, false, false, false, false, false, false, false, false, false, false, false, false, false, false, false, false, false, false, false, false, false, false]
abbrev qP5 : Array Bool := #[true, false, true, true, false, true, true, false, false, false, false, false, false, false, false, false, false, false, false, false, false, false, false, false, false, false, false, false, false, false]
abbrev qP6 : Array Bool := #[true, false, true, true, false, true, true, true, false, false, false, false, false, false, false, false, false, false, false, false, false, false, false, false, false, false, false, false, false, false]
abbrev qP7 : Array Bool := #[true, false, true, true, false, true, true, true, true, false, false, false, false, false, false, false, false, false, false, false, false, false, false, false, false, false, false, false, false, false]
abbrev qP8 : Array Bool := #[true, false, true, true, false, true, true, true, true, true, false, false, false, false, false, false, false, false, false, false, false, false, false, false, false, false, false, false, false, false]
abbrev qP9 : Array Bool := #[true, false, true, true, false, true, true, true, true, true, true, false, false, false, false, false, false, false, false, false, false, false, false, false, false, false, false, false, false, false]
abbrev qP10 : Array Bool := #[true, false, true, true, false, true, true, true, true, true, true, true, false, false, false, false, false, false, false, false, false, false, false, false, false, false, false, false, false, false]
abbrev qP11 : Array Bool := #[true, false, true, true, false, true, true, true, true, true, true, true, true, false, false, false, false, false, false, false, false, false, false, false, false, false, false, false, false, false]
abbrev qP12 : Array Bool := #[true, false, true, true, false, true, true, true, true, true, true, true, true, true, false, false, false, false, false, false, false, false, false, false, false, false, false, false, false, false]
abbrev qP13 : Array Bool := #[true, false, true, true, false, true, true, true, true, true, true, true, true, true, false, false, true, false, false, false, false, false, false, false, false, false, false, false, false, false]
abbrev qP14 : Array Bool := #[true, false, true, true, false, true, true, true, true, true, true, true, true, true, false, false, true, true, false, false, false, false, false, false, false, false, false, false, false, false]
abbrev qP15 : Array Bool := #[true, false, true, true, false, true, true, true, true, true, true, true, true, true, false, false, true, true, true, false, false, false, false, false, false, false, false, false, false, false]
abbrev qP16 : Array Bool := #[true, false, true, true, false, true, true, true, true, true, true, true, true, true, false, false, true, true, true, true, false, false, false, false, false, false, false, false, false, false]
abbrev qP17 : Array Bool := #[true, false, true, true, false, true, true, true, true, true, true, true, true, true, false, false, true, true, true, true, true, false, false, false, false, false, false, false, false, false]
abbrev qP18 : Array Bool := #[true, false, true, true, false, true, true, true, true, true, true, true, true, true, false, false, true, true, true, true, true, true, false, false, false, false, false, false, false, false]
abbrev qP19 : Array Bool := #[true, false, true, true, false, true, true, true, true, true, true, true, true, true, false, false, true, true, true, true, true, true, true, false, false, false, false, false, false, false]
abbrev qP20 : Array Bool := #[true, false, true, true, false, true, true, true, true, true, true, true, true, true, false, false, true, true, true, true, true, true, true, true, false, false, false, false, false, false]
abbrev qP21 : Array Bool := #[true, true, true, true, false, true, true, true, true, true, true, true, true, true, false, false, true, true, true, true, true, true, true, true, false, false, false, false, false, false]
abbrev qP22 : Array Bool := #[true, true, true, true, true, true, true, true, true, true, true, true, true, true, false, false, true, true, true, true, true, true, true, true, false, false, false, false, false, false]
abbrev qP23 : Array Bool := #[true, true, true, true, true, true, true, true, true, true, true, true, true, true, true, false, true, true, true, true, true, true, true, true, false, false, false, false, false, false]
abbrev qP24 : Array Bool := #[true, true, true, true, true, true, true, true, true, true, true, true, true, true, true, true, true, true, true, true, true, true, true, true, false, false, false, false, false, false]
abbrev qP25 : Array Bool := #[true, true, true, true, true, true, true, true, true, true, true, true, true, true, true, true, true, true, true, true, true, true, true, true, true, false, false, false, false, false]
abbrev qP26 : Array Bool := #[true, true, true, true, true, true, true, true, true, true, true, true, true, true, true, true, true, true, true, true, true, true, true, true, true, true, false, false, false, false]
abbrev qP27 : Array Bool := #[true, true, true, true, true, true, true, true, true, true, true, true, true, true, true, true, true, true, true, true, true, true, true, true, true, true, true, false, false, false]
abbrev qP28 : Array Bool := #[true, true, true, true, true, true, true, true, true, true, true, true, true, true, true, true, true, true, true, true, true, true, true, true, true, true, true, true, false, false]
abbrev qP29 : Array Bool := #[true, true, true, true, true, true, true, true, true, true, true, true, true, true, true, true, true, true, true, true, true, true, true, true, true, true, true, true, true, false]
abbrev qP30 : Array Bool := #[true, true, true, true, true, true, true, true, true, true, true, true, true, true, true, true, true, true, true, true, true, true, true, true, true, true, true, true, true, true]
abbrev qP31 : Array Bool := #[true, false, true, true, false, true, true, true, true, true, true, true, true, true, false, false, true, true, true, true, true, true, true, true, true, false, false, false, false, false]
abbrev qP32 : Array Bool := #[true, false, true, true, false, true, true, true, true, true, true, true, true, true, false, false, true, true, true, true, true, true, true, true, true, true, false, false, false, false]
abbrev qP33 : Array Bool := #[true, true, true, true, false, true, true, true, true, true, true, true, true, true, false, false, true, true, true, true, true, true, true, true, true, true, false, false, false, false]
abbrev qP34 : Array Bool := #[true, true, true, true, true, true, true, true, true, true, true, true, true, true, false, false, true, true, true, true, true, true, true, true, true, true, false, false, false, false]
abbrev qP35 : Array Bool := #[true, true, true, true, true, true, true, true, true, true, true, true, true, true, true, false, true, true, true, true, true, true, true, true, true, true, false, false, false, false]
abbrev qP36 : Array Bool := #[true, false, true, true, false, true, true, true, true, true, true, true, true, true, true, false, false, false, false, false, false, false, false, false, false, false, false, false, false, false]
abbrev qP37 : Array Bool := #[true, false, true, true, false, true, true, true, true, true, true, true, true, true, true, true, false, false, false, false, false, false, false, false, false, false, false, false, false, false]
abbrev qP38 : Array Bool := #[true, false, true, true, false, true, true, true, true, true, true, true, true, true, true, true, true, false, false, false, false, false, false, false, false, false, false, false, false, false]
abbrev qP39 : Array Bool := #[true, false, true, true, false, true, true, true, true, true, true, true, true, true, true, true, true, true, false, false, false, false, false, false, false, false, false, false, false, false]
abbrev qP40 : Array Bool := #[true, false, true, true, false, true, true, true, true, true, true, true, true, true, true, true, true, true, true, false, false, false, false, false, false, false, false, false, false, false]
abbrev qP41 : Array Bool := #[true, false, true, true, false, true, true, true, true, true, true, true, true, true, true, true, true, true, true, true, false, false, false, false, false, false, false, false, false, false]
abbrev qP42 : Array Bool := #[true, false, true, true, false, true, true, true, true, true, true, true, true, true, true, true, true, true, true, true, true, false, false, false, false, false, false, false, false, false]
abbrev qP43 : Array Bool := #[true, false, true, true, false, true, true, true, true, true, true, true, true, true, true, true, true, true, true, true, true, true, false, false, false, false, false, false, false, false]
abbrev qP44 : Array Bool := #[true, false, true, true, false, true, true, true, true, true, true, true, true, true, true, true, true, true, true, true, true, true, true, false, false, false, false, false, false, false]
abbrev qP45 : Array Bool := #[true, false, true, true, false, true, true, true, true, true, true, true, true, true, true, true, true, true, true, true, true, true, true, true, false, false, false, false, false, false]
abbrev qP46 : Array Bool := #[true, true, true, true, false, true, true, true, true, true, true, true, true, true, true, true, true, true, true, true, true, true, true, true, false, false, false, false, false, false]
abbrev qP47 : Array Bool := #[true, false, true, true, false, true, true, true, true, true, true, true, true, true, true, true, true, true, true, true, true, true, true, true, true, false, false, false, false, false]
abbrev qP48 : Array Bool := #[true, false, true, true, false, true, true, true, true, true, true, true, true, true, true, true, true, true, true, true, true, true, true, true, true, true, false, false, false, false]
abbrev qP49 : Array Bool := #[true, true, true, true, false, true, true, true, true, true, true, true, true, true, true, true, true, true, true, true, true, true, true, true, true, true, false, false, false, false]
abbrev qP50 : Array Bool := #[true, true, true, true, false, true, true, true, true, true, true, true, true, true, true, true, true, true, true, true, true, true, true, true, true, true, true, false, false, false]
abbrev qP51 : Array Bool := #[false, false, false, false, false, false, false, false, false, false, false, false]
abbrev qP52 : Array Bool := #[false, false, true, false, false, false, false, false, false, false, false, false]
abbrev qP53 : Array Bool := #[false, false, true, false, false, true, false, false, false, false, false, false]
abbrev qP54 : Array Bool := #[false, false, true, false, false, true, false, false, true, false, false, false]
abbrev qP55 : Array Bool := #[true, false, true, false, false, true, false, false, true, false, false, false]
abbrev qP56 : Array Bool := #[true, true, true, false, false, true, false, false, true, false, false, false]
abbrev qP57 : Array Bool := #[true, true, true, true, false, true, false, false, true, false, false, false]
abbrev qP58 : Array Bool := #[true, true, true, true, true, true, false, false, true, false, false, false]
abbrev qP59 : Array Bool := #[true, true, true, true, true, true, true, false, true, false, false, false]
abbrev qP60 : Array Bool := #[true, true, true, true, true, true, true, true, true, true, true, false]
abbrev qP61 : Array Bool := #[true, true, true, true, true, true, true, true, true, false, false, false]
abbrev qP62 : Array Bool := #[true, true, true, true, true, true, true, false, true, false, true, false]
abbrev qP63 : Array Bool := #[true, true, true, true, true, true, true, true, true, true, false, false]
abbrev qP64 : Array Bool := #[true, true, true, true, true, true, true, true, true, false, true, false]
abbrev qP65 : Array Bool := #[true, true, true, true, true, true, true, true, true, true, true, true]
abbrev qP66 : Array Bool := #[false, false, false, false, false, false, false, false, false, false, false, false, false, false, false, false, false, false, false, false, false, false, false, false, false, false, false, false, false, false, false, false, false]
abbrev qP67 : Array Bool := #[true, false, false, false, false, false, false, false, false, false, false, false, false, false, false, false, false, false, false, false, false, false, false, false, false, false, false, false, false, false, false, false, false]
abbrev qP68 : Array Bool := #[true, false, true, false, false, false, false, false, false, false, false, false, false, false, false, false, false, false, false, false, false, false, false, false, false, false, false, false, false, false, false, false, false]
abbrev qP69 : Array Bool := #[true, true, true, false, false, false, false, false, false, false, false, false, false, false, false, false, false, false, false, false, false, false, false, false, false, false, false, false, false, false, false, false, false]
abbrev qP70 : Array Bool := #[true, true, true, true, false, false, false, false, false, false, false, false, false, false, false, false, false, false, false, false, false, false, false, false, false, false, false, false, false, false, false, false, false]
abbrev qP71 : Array Bool := #[true, true, true, true, true, false, false, false, false, false, false, false, false, false, false, false, false, false, false, false, false, false, false, false, false, false, false, false, false, false, false, false, false]
abbrev qP72 : Array Bool := #[true, true, true, true, true, true, false, false, false, false, false, false, false, false, false, false, false, false, false, false, false, false, false, false, false, false, false, false, false, false, false, false, false]
abbrev qP73 : Array Bool := #[true, true, true, true, true, true, true, false, false, false, false, false, false, false, false, false, false, false, false, false, false, false, false, false, false, false, false, false, false, false, false, false, false]
abbrev qP74 : Array Bool := #[true, true, true, true, true, true, true, true, false, false, false, false, false, false, false, false, false, false, false, false, false, false, false, false, false, false, false, false, false, false, false, false, false]
abbrev qP75 : Array Bool := #[true, true, true, true, true, true, true, true, false, false, false, true, false, false, false, false, false, false, false, false, false, false, false, false, false, false, false, false, false, false, false, false, false]
abbrev qP76 : Array Bool := #[true, true, true, true, true, true, true, true, true, false, false, true, false, false, false, false, false, false, false, false, false, false, false, false, false, false, false, false, false, false, false, false, false]
abbrev qP77 : Array Bool := #[true, true, true, true, true, true, true, true, true, true, false, true, false, false, false, false, false, false, false, false, false, false, false, false, false, false, false, false, false, false, false, false, false]
abbrev qP78 : Array Bool := #[true, true, true, true, true, true, true, true, true, true, true, true, false, false, false, false, false, false, false, false, false, false, false, false, false, false, false, false, false, false, false, false, false]
abbrev qP79 : Array Bool := #[true, true, true, true, true, true, true, true, true, true, true, true, true, false, false, false, false, false, false, false, false, false, false, false, false, false, false, false, false, false, false, false, false]
abbrev qP80 : Array Bool := #[true, true, true, true, true, true, true, true, true, true, true, true, true, true, false, false, false, false, false, false, false, false, false, false, false, false, false, false, false, false, false, false, false]
abbrev qP81 : Array Bool := #[true, true, true, true, true, true, true, true, true, true, true, true, true, true, true, false, false, false, false, false, false, false, false, false, false, false, false, false, false, false, false, false, false]
abbrev qP82 : Array Bool := #[true, true, true, true, true, true, true, true, true, true, true, true, true, true, true, true, false, false, false, false, false, false, false, false, false, false, false, false, false, false, false, false, false]
abbrev qP83 : Array Bool := #[true, true, true, true, true, true, true, true, true, true, true, true, true, true, true, true, true, false, false, false, false, false, false, false, false, false, false, false, false, false, false, false, false]
abbrev qP84 : Array Bool := #[true, true, true, true, true, true, true, true, true, true, true, true, true, true, true, true, true, false, false, true, false, false, false, false, false, false, false, false, false, false, false, false, false]
abbrev qP85 : Array Bool := #[true, true, true, true, true, true, true, true, true, true, true, true, true, true, true, true, true, true, false, true, false, false, false, false, false, false, false, false, false, false, false, false, false]
abbrev qP86 : Array Bool := #[true, true, true, true, true, true, true, true, true, true, true, true, true, true, true, true, true, true, true, true, false, false, false, false, false, false, false, false, false, false, false, false, false]
abbrev qP87 : Array Bool := #[true, true, true, true, true, true, true, true, true, true, true, true, true, true, true, true, true, true, true, true, true, false, false, false, false, false, false, false, false, false, false, false, false]
abbrev qP88 : Array Bool := #[true, true, true, true, true, true, true, true, true, true, true, true, true, true, true, true, true, true, true, true, true, true, false, false, false, false, false, false, false, false, false, false, false]
abbrev qP89 : Array Bool := #[true, true, true, true, true, true, true, true, true, true, true, true, true, true, true, true, true, true, true, true, true, true, true, false, false, false, false, false, false, false, false, false, false]
abbrev qP90 : Array Bool := #[true, true, true, true, true, true, true, true, true, true, true, true, true, true, true, true, true, true, true, true, true, true, true, true, false, false, false, false, false, false, false, false, false]
abbrev qP91 : Array Bool := #[true, true, true, true, true, true, true, true, true, true, true, true, true, true, true, true, true, true, true, true, true, true, true, true, true, false, false, false, false, false, false, false, false]
abbrev qP92 : Array Bool := #[true, true, true, true, true, true, true, true, true, true, true, true, true, true, true, true, true, true, true, true, true, true, true, true, true, true, false, false, false, false, false, false, false]
abbrev qP93 : Array Bool := #[true, true, true, true, true, true, true, true, true, true, true, true, true, true, true, true, true, true, true, true, true, true, true, true, true, true, false, false, true, false, false, false, false]
abbrev qP94 : Array Bool := #[true, true, true, true, true, true, true, true, true, true, true, true, true, true, true, true, true, true, true, true, true, true, true, true, true, true, true, false, true, false, false, false, false]
abbrev qP95 : Array Bool := #[true, true, true, true, true, true, true, true, true, true, true, true, true, true, true, true, true, true, true, true, true, true, true, true, true, true, true, true, true, false, false, false, false]
abbrev qP96 : Array Bool := #[true, true, true, true, true, true, true, true, true, true, true, true, true, true, true, true, true, true, true, true, true, true, true, true, true, true, true, true, true, true, false, false, false]
abbrev qP97 : Array Bool := #[true, true, true, true, true, true, true, true, true, true, true, true, true, true, true, true, true, true, true, true, true, true, true, true, true, true, true, true, true, true, true, false, false]
abbrev qP98 : Array Bool := #[true, true, true, true, true, true, true, true, true, true, true, true, true, true, true, true, true, true, true, true, true, true, true, true, true, true, true, true, true, true, true, true, false]
abbrev qP99 : Array Bool := #[true, true, true, true, true, true, true, true, true, true, true, true, true, true, true, true, true, true, true, true, true, true, true, true, true, true, true, true, true, true, true, true, true]

theorem advQ (AX : Option Addr) (cX : Nat) (lx : List Int) (sl bo e : Int) (z3 z4 : List Bool) (AB : Option Addr) (cB : Nat) (AN : Option Addr) (cN : Nat) (slot : Int) (v : Value) (g : Int → Int) (w : World) (h : SIn AX cX lx (pullS e z3 z4 lx.length lx.length) AB cB AN cN v g w) (hs : -9223372036854775808 ≤ slot ∧ slot ≤ 9223372036854775807) :
    Calls Try.prog 13 #[.agg #[.slice AX lx.length cX, .int .i64 sl, .int .i64 bo], .agg #[.bool false, .bool false, .bool false, .bool false, .int .i64 0, .int .u64 7, .int .i64 0, .int .u64 7, .int .i64 0, .int .u64 7, .int .i64 e, .slice AB lx.length cB, .slice AN lx.length cN], .int .i64 slot, v] w fun x w' => ∃ AB' cB' AN' cN', x = .returned (.agg (stC (advTo lx sl g (pullS e z3 z4 lx.length lx.length) slot) AB' cB' AN' cN')) ∧ SIn AX cX lx (advTo lx sl g (pullS e z3 z4 lx.length lx.length) slot) AB' cB' AN' cN' v g w' ∧ Below w.heap.size w w' := by
  have h1 := advance_calls AX cX lx sl bo (pullS e z3 z4 lx.length lx.length) AB cB AN cN slot v g w h hs
  have e1 : (pullS e z3 z4 lx.length lx.length).bf.length = lx.length := rowOf_len _ _ _
  have e2 : (pullS e z3 z4 lx.length lx.length).nw.length = lx.length := rowOf_len _ _ _
  rw [stC, e1, e2] at h1
  exact h1
theorem pullQ (AX : Option Addr) (cX : Nat) (lx : List Int) (sl bo e : Int) (z3 z4 : List Bool) (AB : Option Addr) (cB : Nat) (AN : Option Addr) (cN : Nat) (v : Value) (g : Int → Int) (w : World) (h : SIn AX cX lx (pullS e z3 z4 lx.length lx.length) AB cB AN cN v g w) (J : St) (hJ : pullOf lx sl g (pullS e z3 z4 lx.length lx.length) = J) :
    Calls Try.prog 21 #[.agg #[.slice AX lx.length cX, .int .i64 sl, .int .i64 bo], .agg #[.bool false, .bool false, .bool false, .bool false, .int .i64 0, .int .u64 7, .int .i64 0, .int .u64 7, .int .i64 0, .int .u64 7, .int .i64 e, .slice AB lx.length cB, .slice AN lx.length cN], v] w fun x w' => x = .returned (.agg #[.bool J.b0, .bool J.b1, .bool J.b2, .bool J.b3, .int .i64 J.pe, .int .u64 J.pr, .int .i64 J.ce, .int .u64 J.cr, .int .i64 J.fe, .int .u64 J.fr]) ∧ Below w.heap.size w w' := by
  have h1 := pull_calls AX cX lx sl bo (pullS e z3 z4 lx.length lx.length) AB cB AN cN v g w h
  have e1 : (pullS e z3 z4 lx.length lx.length).bf.length = lx.length := rowOf_len _ _ _
  have e2 : (pullS e z3 z4 lx.length lx.length).nw.length = lx.length := rowOf_len _ _ _
  rw [hJ, stC, e1, e2] at h1
  exact h1
attribute [local go_sem high] eqA36
set_option maxHeartbeats 16000000 in
set_option maxRecDepth 100000 in
theorem ledgerPull_law (A0 : Option Addr) (n0 c0 : Nat) (z0 : List Int) (sl bo : Int) (n : Int) (A3 : Option Addr) (n3 c3 : Nat) (z3 : List Bool) (A4 : Option Addr) (n4 c4 : Nat) (z4 : List Bool) (e0 : Int) (w : World) (h0 : Kd.C (Kd.int .u64) w A0 n0 z0) (hc0 : n0 ≤ c0) (hn0 : n0 ≤ 17592186043904) (hs : -9223372036854775808 ≤ sl ∧ sl ≤ 9223372036854775807) (hb : -9223372036854775808 ≤ bo ∧ bo ≤ 9223372036854775807) (hp : ∀ z ∈ z0, 0 ≤ z) (h1 : 0 ≤ n ∧ n ≤ 255) (h3 : ReadsOf Value.bool false w A3 n3 z3) (h4 : ReadsOf Value.bool false w A4 n4 z4) (he0 : 0 ≤ e0 ∧ e0 ≤ 255) :
    Calls Try.prog 8 #[.agg #[.slice A0 n0 c0, .int .i64 sl, .int .i64 bo], .int .u8 n, .slice A3 n3 c3, .slice A4 n4 c4, .int .u8 e0] w fun x w' => x = .returned (.bool true) ∧ Below w.heap.size w w' := by
  have HN := Aside0.mk h1
  have H3 := Aside0.mk h3
  have H4 := Aside0.mk h4
  have HE0 := Aside0.mk he0
  have hl0 : z0.length = n0 := h0.1
  subst hl0
  obtain ⟨kr, hkr⟩ := (make3_f z0 sl bo hn0 hb.1 hb.2).rounds
  have HKR := Aside0.mk hkr
  have H0 := Aside0.mk h0
  have HP := Aside0.mk (mkBal_mem z0 hp)
  have HLN := Aside0.mk (mkBal_len z0)
  have HSL := Aside0.mk (mkSlots_in sl)
  clear hkr h0 hp hs hb h1 h3 h4 he0
  go_enter Try.func8, Try.ntmps8
  go_upto_region 4 with (first
    | (go_at_call 9; refine (awake_calls _).mono ?_; rintro x w1 ⟨rfl, hb⟩; have HB1 := Aside0.mk (below_then (below_alloc (Below.refl w.heap.size w) _) (by simp) hb); have HBK := Aside0.mk (blk_below (heap_alloc_new w _) hb); have hcg := blk_cell HBK.out; clear hb)
    | (go_at_call 10; refine (psephoslaw03_Make.calls kr A0 c0 z0 sl bo _ _ _ _ (Kd.C_below H0.out HB1.out) hc0 HKR.out).mono ?_; rintro x w2 ⟨v0, rfl, hR, hb⟩; have HB2 := Aside0.mk (below_then HB1.out HB1.out.size hb); obtain ⟨AX, cX, rfl, hcx, hC⟩ := Kd.R_reads hR; have HX := Aside0.mk hC; have HCX := Aside0.mk hcx; clear hb hR hC hcx))
  obtain ⟨lx, hlx⟩ : ∃ l, mkBal z0 = l := ⟨_, rfl⟩
  obtain ⟨sx, hsx⟩ : ∃ l, mkSlots sl = l := ⟨_, rfl⟩
  obtain ⟨bx, hbx⟩ : ∃ l, mkBoost bo = l := ⟨_, rfl⟩
  rw [hlx] at HP HLN HX HCX
  rw [hsx] at HSL
  rw [hlx, hsx, hbx]
  have HNX : Aside0 (lx.length ≤ 17592186043904) := ⟨by have := HLN.out; omega⟩
  obtain ⟨wr, hwr⟩ : ∃ wr, wr = w2.alloc (.cells #[.slice AX lx.length cX, .int .i64 sx, .int .i64 bx] 24) := ⟨_, rfl⟩
  obtain ⟨xb, hxb⟩ : ∃ g, w2.heap.size = g := ⟨_, rfl⟩
  have BM : Aside0 (wr.heap[xb]? = some (.cells #[.slice AX lx.length cX, .int .i64 sx, .int .i64 bx] 24 (0, 0))) := ⟨by rw [hwr, ← hxb]; exact heap_alloc_new _ _⟩
  have HBR : Aside0 (Below w.heap.size w wr) := ⟨by rw [hwr]; exact below_alloc HB2.out _⟩
  have XN : Aside0 (Kd.C (Kd.int .u64) wr AX lx.length lx) := ⟨Kd.C_below HX.out (by rw [hwr]; exact below_alloc (Below.refl _ _) _)⟩
  have XB : Aside0 (xb < wr.heap.size) := ⟨(Array.getElem?_eq_some_iff.1 BM.out).1⟩
  rw [← hwr, hxb]
  clear hwr hxb hlx hsx hbx HX HB1 HBK hcg HKR
  have hm0 := blk_cell BM.out
  go_upto_region 7 with (first
    | (go_at_call 11; refine (Chain_calls n HN.out _).mono ?_; rintro x w3 ⟨v, rfl, hch, hb⟩; have CH3 := Aside0.mk hch; have HB3 := Aside0.mk (below_then HBR.out HBR.out.size hb); have BM3 := Aside0.mk (blk_below BM.out hb); have XN3 := Aside0.mk (Kd.C_below XN.out hb); have hm3 := blk_cell BM3.out; have XB3 : Aside0 (xb < w3.heap.size) := ⟨(Array.getElem?_eq_some_iff.1 BM3.out).1⟩; clear hch hb hm0)
    | (go_at_call 12; with_reducible refine (open_calls AX cX lx sx bx 7 _ HNX.out).mono ?_; rintro x w4 ⟨AB, cB, AN, cN, rfl, hr, hb⟩; simp only [stC, openS, List.length_replicate]; have HO := Aside0.mk hb; have RW := Aside0.mk hr; have BM4 := Aside0.mk (blk_below BM3.out hb); have hm4 := blk_cell (blk_alloc BM4.out (.cells #[.bool false, .bool false, .bool false, .bool false, .int .i64 0, .int .u64 7, .int .i64 0, .int .u64 7, .int .i64 0, .int .u64 7, .int .i64 0, .slice AB lx.length cB, .slice AN lx.length cN] 39)); have hg4 := blk_cell (heap_alloc_new w4 (.cells #[.bool false, .bool false, .bool false, .bool false, .int .i64 0, .int .u64 7, .int .i64 0, .int .u64 7, .int .i64 0, .int .u64 7, .int .i64 0, .slice AB lx.length cB, .slice AN lx.length cN] 39)); clear hr hb hm3))
  obtain ⟨e, he⟩ : ∃ e, wrap64 (e0.tmod 20) = e := ⟨_, rfl⟩
  have hev : 0 ≤ e ∧ e < 20 := by
    have := HE0.out
    rw [← he, Int.tmod_eq_emod_of_nonneg this.1]
    unfold wrap64
    omega
  rw [he]
  have HE := Aside0.mk hev
  have HS : Aside0 (FillAt w3 xb w4.heap.size w3.heap.size AX cX lx.length sx bx e z3 z4 AB cB AN cN 0 (w4.alloc (.cells #[.bool false, .bool false, .bool false, .bool false, .int .i64 0, .int .u64 7, .int .i64 0, .int .u64 7, .int .i64 0, .int .u64 7, .int .i64 e, .slice AB lx.length cB, .slice AN lx.length cN] 39))) := ⟨by
    have r1 := RW.out.r1
    have r2 := RW.out.r2
    have ne := RW.out.ne
    simp only [openS, List.length_replicate] at r1 r2 ne
    exact ⟨below_alloc HO.out _, blk_alloc BM4.out _, heap_alloc_new _ _, by rw [rowOf_zero]; exact Kd.R_below r1 (below_alloc (Below.refl _ _) _), by rw [rowOf_zero]; exact Kd.R_below r2 (below_alloc (Below.refl _ _) _), ne, Nat.le_refl _, XB3.out⟩⟩
  obtain ⟨w5, hw5⟩ : ∃ x, w4.alloc (.cells #[.bool false, .bool false, .bool false, .bool false, .int .i64 0, .int .u64 7, .int .i64 0, .int .u64 7, .int .i64 0, .int .u64 7, .int .i64 e, .slice AB lx.length cB, .slice AN lx.length cN] 39) = x := ⟨_, rfl⟩
  obtain ⟨sb, hsb⟩ : ∃ g, w4.heap.size = g := ⟨_, rfl⟩
  rw [hsb, hw5] at HS
  rw [hsb, hw5]
  clear hsb hw5 hg4 hm4 RW HO BM4 he hev
  have hs11 := blk_cell HS.out.hs
  have hm5 := blk_cell HS.out.hx
  go_wp2_with fail
  clear hs11 hm5
  go_loopw [48] (fun v48 wr => ∃ k : Nat, k ≤ lx.length ∧ v48 = .int .i64 k ∧ Aside0 (FillAt w3 xb sb w3.heap.size AX cX lx.length sx bx e z3 z4 AB cB AN cN k wr)) (fun v48 _ => lx.length - (RowKit.intOf v48).toNat)
  case atStart => exact ⟨0, by omega, rfl, HS⟩
  case round =>
    obtain ⟨k, hk, rfl, HS⟩ := hrel
    by_cases hlt : k < lx.length
    · by_cases q1 : k < n3
      · by_cases q2 : k < n4
        · have t0 : decide ((k : Int) < (lx.length : Int)) = true := decide_eq_true (by omega)
          have hwk : wrap64 ((k : Int) + 1) = ((k + 1 : Nat) : Int) := by have := HNX.out; unfold wrap64; omega
          have HWK := Aside0.mk hwk
          have HLT := Aside0.mk hlt
          obtain ⟨g1, rfl⟩ := R_some HS.out.r1 (by omega)
          obtain ⟨g2, rfl⟩ := R_some HS.out.r2 (by omega)
          have i0 : (0 : Int) ≤ (k : Int) := by omega
          have i1 : (k : Int) < (lx.length : Int) := by omega
          have tz3 : decide ((k : Int) < (n3 : Int)) = true := decide_eq_true (by omega)
          have iz3 : (k : Int) < (n3 : Int) := by omega
          obtain ⟨ad3, rfl, hc_z3⟩ := H3.out.at_ (k : Int) (by omega) (by omega)
          rw [Int.toNat_natCast] at hc_z3
          have D3 : Aside0 (w3.cell? (ad3.add k) = some (.bool (rdOf false z3 (k : Int)))) := ⟨pw_cell_below HB3.out hc_z3⟩
          clear hc_z3
          have tz4 : decide ((k : Int) < (n4 : Int)) = true := decide_eq_true (by omega)
          have iz4 : (k : Int) < (n4 : Int) := by omega
          obtain ⟨ad4, rfl, hc_z4⟩ := H4.out.at_ (k : Int) (by omega) (by omega)
          rw [Int.toNat_natCast] at hc_z4
          have D4 : Aside0 (w3.cell? (ad4.add k) = some (.bool (rdOf false z4 (k : Int)))) := ⟨pw_cell_below HB3.out hc_z4⟩
          clear hc_z4
          go_upto_region 12 with fail
          obtain ⟨c1, f1, c2, f2, hsn, hbn⟩ := HS.out.half (below_drew (Below.refl _ _)) HLT.out (rdOf false z3 (k : Int))
          have HS2 := Aside0.mk (HS.out.put (below_drew (Below.refl _ _)) HLT.out)
          clear hwk hlt
          refine start_ (n := 30) (S := fun w' => w'.cell? ⟨sb, 11, none⟩ = some (.slice (some ⟨g1, 0, none⟩) lx.length cB) ∧ w'.cell? ⟨sb, 12, none⟩ = some (.slice (some ⟨g2, 0, none⟩) lx.length cN) ∧ w'.cell? (ad3.add k) = some (.bool (rdOf false z3 (k : Int))) ∧ w'.cell? (ad4.add k) = some (.bool (rdOf false z4 (k : Int)))) (ds := [29]) qP0 (by kernel_rfl) rfl rfl ⟨(blk_cell HS.out.hs 11), (blk_cell HS.out.hs 12), (pw_cell_below HS.out.bel D3.out), (pw_cell_below HS.out.bel D4.out)⟩ (fun hHeld => ?_)
          refine pure_ (i := 0) (N := some 51) (v := ?_) (a' := ?_) qP1 rfl rfl (by kernel_rfl) (fun _ _ _ h => h) (Or.inl ⟨by rfl, ?_⟩) ?_ ?_
          rotate_left
          · intro w'
            go_simp
            with_reducible rfl
          rotate_left
          · simp only [Act.put, List.setIfInBounds_toArray, List.set_cons_zero, List.set_cons_succ, i64_w, i32_w]
            rfl
          refine pure_ (i := 2) (N := some 53) (v := ?_) (a' := ?_) qP2 rfl rfl (by kernel_rfl) (fun _ _ _ h => h) (Or.inl ⟨by rfl, ?_⟩) ?_ ?_
          rotate_left
          · intro w'
            go_simp
            with_reducible rfl
          rotate_left
          · simp only [Act.put, List.setIfInBounds_toArray, List.set_cons_zero, List.set_cons_succ, i64_w, i32_w]
            rfl
          refine pure_ (i := 3) (N := some 54) (v := ?_) (a' := ?_) qP3 rfl rfl (by kernel_rfl) (fun _ _ _ h => h) (Or.inl ⟨by rfl, ?_⟩) ?_ ?_
          rotate_left
          · intro w'
            go_simp
            with_reducible rfl
          rotate_left
          · simp only [Act.put, List.setIfInBounds_toArray, List.set_cons_zero, List.set_cons_succ, i64_w, i32_w]
            rfl
          refine pure_ (i := 5) (N := some 56) (v := ?_) (a' := ?_) qP4 rfl rfl (by kernel_rfl) (fun _ _ _ h => h) (Or.inl ⟨by rfl, ?_⟩) ?_ ?_
          rotate_left
          · intro w'
            go_simp
            with_reducible rfl
          rotate_left
          · simp only [Act.put, List.setIfInBounds_toArray, List.set_cons_zero, List.set_cons_succ, i64_w, i32_w]
            rfl
          refine pure_ (i := 6) (N := some 57) (v := ?_) (a' := ?_) qP5 rfl rfl (by kernel_rfl) (fun _ _ _ h => h) (Or.inl ⟨by rfl, ?_⟩) ?_ ?_
          rotate_left
          · intro w'
            go_simp
            with_reducible rfl
          rotate_left
          · simp only [Act.put, List.setIfInBounds_toArray, List.set_cons_zero, List.set_cons_succ, i64_w, i32_w]
            rfl
          refine pure_ (i := 7) (N := some 58) (v := ?_) (a' := ?_) qP6 rfl rfl (by kernel_rfl) (fun _ _ _ h => h) (Or.inl ⟨by rfl, ?_⟩) ?_ ?_
          rotate_left
          · intro w'
            go_simp
            with_reducible rfl
          rotate_left
          · simp only [Act.put, List.setIfInBounds_toArray, List.set_cons_zero, List.set_cons_succ, i64_w, i32_w]
            rfl
          refine pure_ (i := 8) (N := some 59) (v := ?_) (a' := ?_) qP7 rfl rfl (by kernel_rfl) (fun _ _ _ h => h) (Or.inl ⟨by rfl, ?_⟩) ?_ ?_
          rotate_left
          · intro w'
            go_simp
            with_reducible rfl
          rotate_left
          · simp only [Act.put, List.setIfInBounds_toArray, List.set_cons_zero, List.set_cons_succ, i64_w, i32_w]
            rfl
          refine pure_ (i := 9) (N := some 60) (v := ?_) (a' := ?_) qP8 rfl rfl (by kernel_rfl) (fun _ _ _ h => h) (Or.inl ⟨by rfl, ?_⟩) ?_ ?_
          rotate_left
          · intro w'
            go_simp
            with_reducible rfl
          rotate_left
          · simp only [Act.put, List.setIfInBounds_toArray, List.set_cons_zero, List.set_cons_succ, i64_w, i32_w]
            rfl
          refine pure_ (i := 10) (N := some 61) (v := ?_) (a' := ?_) qP9 rfl rfl (by kernel_rfl) (fun _ _ _ h => h) (Or.inl ⟨by rfl, ?_⟩) ?_ ?_
          rotate_left
          · intro w'
            go_simp
            with_reducible rfl
          rotate_left
          · simp only [Act.put, List.setIfInBounds_toArray, List.set_cons_zero, List.set_cons_succ, i64_w, i32_w]
            rfl
          refine pure_ (i := 11) (N := some 62) (v := ?_) (a' := ?_) qP10 rfl rfl (by kernel_rfl) (fun _ _ _ h => h) (Or.inl ⟨by rfl, ?_⟩) ?_ ?_
          rotate_left
          · intro w'
            go_simp
            with_reducible rfl
          rotate_left
          · simp only [Act.put, List.setIfInBounds_toArray, List.set_cons_zero, List.set_cons_succ, i64_w, i32_w]
            rfl
          refine pure_ (i := 12) (N := some 63) (v := ?_) (a' := ?_) qP11 rfl rfl (by kernel_rfl) (fun _ _ _ h => h) (Or.inl ⟨by rfl, ?_⟩) ?_ ?_
          rotate_left
          · intro w'
            go_simp
            with_reducible rfl
          rotate_left
          · simp only [Act.put, List.setIfInBounds_toArray, List.set_cons_zero, List.set_cons_succ, i64_w, i32_w]
            rfl
          refine pure_ (i := 13) (N := some 64) (v := ?_) (a' := ?_) qP12 rfl rfl (by kernel_rfl) (fun _ _ _ h => h) (Or.inl ⟨by rfl, ?_⟩) ?_ ?_
          rotate_left
          · intro w'
            go_simp
            with_reducible rfl
          rotate_left
          · simp only [Act.put, List.setIfInBounds_toArray, List.set_cons_zero, List.set_cons_succ, i64_w, i32_w]
            rfl
          refine pure_ (i := 16) (N := some 67) (v := ?_) (a' := ?_) qP13 rfl rfl (by kernel_rfl) (fun _ _ _ h => h) (Or.inl ⟨by rfl, ?_⟩) ?_ ?_
          rotate_left
          · intro w'
            go_simp
            with_reducible rfl
          rotate_left
          · simp only [Act.put, List.setIfInBounds_toArray, List.set_cons_zero, List.set_cons_succ, i64_w, i32_w]
            rfl
          refine pure_ (i := 17) (N := some 68) (v := ?_) (a' := ?_) qP14 rfl rfl (by kernel_rfl) (fun _ _ _ h => h) (Or.inl ⟨by rfl, ?_⟩) ?_ ?_
          rotate_left
          · intro w'
            go_simp
            with_reducible rfl
          rotate_left
          · simp only [Act.put, List.setIfInBounds_toArray, List.set_cons_zero, List.set_cons_succ, i64_w, i32_w]
            rfl
          refine pure_ (i := 18) (N := some 69) (v := ?_) (a' := ?_) qP15 rfl rfl (by kernel_rfl) (fun _ _ _ h => h) (Or.inl ⟨by rfl, ?_⟩) ?_ ?_
          rotate_left
          · intro w'
            go_simp
            with_reducible rfl
          rotate_left
          · simp only [Act.put, List.setIfInBounds_toArray, List.set_cons_zero, List.set_cons_succ, i64_w, i32_w]
            rfl
          refine pure_ (i := 19) (N := some 70) (v := ?_) (a' := ?_) qP16 rfl rfl (by kernel_rfl) (fun _ _ _ h => h) (Or.inl ⟨by rfl, ?_⟩) ?_ ?_
          rotate_left
          · intro w'
            go_simp
            with_reducible rfl
          rotate_left
          · simp only [Act.put, List.setIfInBounds_toArray, List.set_cons_zero, List.set_cons_succ, i64_w, i32_w]
            rfl
          refine pure_ (i := 20) (N := some 71) (v := ?_) (a' := ?_) qP17 rfl rfl (by kernel_rfl) (fun _ _ _ h => h) (Or.inl ⟨by rfl, ?_⟩) ?_ ?_
          rotate_left
          · intro w'
            go_simp
            with_reducible rfl
          rotate_left
          · simp only [Act.put, List.setIfInBounds_toArray, List.set_cons_zero, List.set_cons_succ, i64_w, i32_w]
            rfl
          refine pure_ (i := 21) (N := some 72) (v := ?_) (a' := ?_) qP18 rfl rfl (by kernel_rfl) (fun _ _ _ h => h) (Or.inl ⟨by rfl, ?_⟩) ?_ ?_
          rotate_left
          · intro w'
            go_simp
            with_reducible rfl
          rotate_left
          · simp only [Act.put, List.setIfInBounds_toArray, List.set_cons_zero, List.set_cons_succ, i64_w, i32_w]
            rfl
          refine pure_ (i := 22) (N := some 73) (v := ?_) (a' := ?_) qP19 rfl rfl (by kernel_rfl) (fun _ _ _ h => h) (Or.inl ⟨by rfl, ?_⟩) ?_ ?_
          rotate_left
          · intro w'
            go_simp
            with_reducible rfl
          rotate_left
          · simp only [Act.put, List.setIfInBounds_toArray, List.set_cons_zero, List.set_cons_succ, i64_w, i32_w]
            rfl
          refine pure_ (i := 23) (N := some 74) (v := ?_) (a' := ?_) qP20 rfl rfl (by kernel_rfl) (fun _ _ _ h => h) (Or.inl ⟨by rfl, ?_⟩) ?_ ?_
          rotate_left
          · intro w'
            go_simp
            with_reducible rfl
          rotate_left
          · simp only [Act.put, List.setIfInBounds_toArray, List.set_cons_zero, List.set_cons_succ, i64_w, i32_w]
            rfl
          refine take_ (i := 1) (N := some 52) (v := ?_) (a' := ?_) qP21 rfl rfl (by kernel_rfl) (fun _ _ _ h => h) (Or.inl ⟨by rfl, ?_⟩) hHeld ?_ ?_
          rotate_left
          · rintro w' ⟨s0, s1, s2, s3⟩
            go_simp
            with_reducible rfl
          rotate_left
          · simp only [Act.put, List.setIfInBounds_toArray, List.set_cons_zero, List.set_cons_succ, i64_w, i32_w]
            rfl
          refine take_ (i := 4) (N := some 55) (v := ?_) (a' := ?_) qP22 rfl rfl (by kernel_rfl) (fun _ _ _ h => h) (Or.inl ⟨by rfl, ?_⟩) hHeld ?_ ?_
          rotate_left
          · rintro w' ⟨s0, s1, s2, s3⟩
            go_simp
            with_reducible rfl
          rotate_left
          · simp only [Act.put, List.setIfInBounds_toArray, List.set_cons_zero, List.set_cons_succ, i64_w, i32_w]
            rfl
          refine take_ (i := 14) (N := some 65) (v := ?_) (a' := ?_) qP23 rfl rfl (by kernel_rfl) (fun _ _ _ h => h) (Or.inl ⟨by rfl, ?_⟩) hHeld ?_ ?_
          rotate_left
          · rintro w' ⟨s0, s1, s2, s3⟩
            go_simp
            with_reducible rfl
          rotate_left
          · simp only [Act.put, List.setIfInBounds_toArray, List.set_cons_zero, List.set_cons_succ, i64_w, i32_w]
            rfl
          refine pure_ (i := 15) (N := some 66) (v := ?_) (a' := ?_) qP24 rfl rfl (by kernel_rfl) (fun _ _ _ h => h) (Or.inl ⟨by rfl, ?_⟩) ?_ ?_
          rotate_left
          · intro w'
            go_simp
            with_reducible rfl
          rotate_left
          · simp only [Act.put, List.setIfInBounds_toArray, List.set_cons_zero, List.set_cons_succ, i64_w, i32_w]
            rfl
          refine take_ (i := 24) (N := some 75) (v := ?_) (a' := ?_) qP25 rfl rfl (by kernel_rfl) (fun _ _ _ h => h) (Or.inl ⟨by rfl, ?_⟩) hHeld ?_ ?_
          rotate_left
          · rintro w' ⟨s0, s1, s2, s3⟩
            go_simp
            with_reducible rfl
          rotate_left
          · simp only [Act.put, List.setIfInBounds_toArray, List.set_cons_zero, List.set_cons_succ, i64_w, i32_w]
            rfl
          refine pure_ (i := 25) (N := some 76) (v := ?_) (a' := ?_) qP26 rfl rfl (by kernel_rfl) (fun _ _ _ h => h) (Or.inl ⟨by rfl, ?_⟩) ?_ ?_
          rotate_left
          · intro w'
            go_simp
            with_reducible rfl
          rotate_left
          · simp only [Act.put, List.setIfInBounds_toArray, List.set_cons_zero, List.set_cons_succ, i64_w, i32_w]
            rfl
          refine pure_ (i := 26) (N := some 77) (v := ?_) (a' := ?_) qP27 rfl rfl (by kernel_rfl) (fun _ _ _ h => h) (Or.inl ⟨by rfl, ?_⟩) ?_ ?_
          rotate_left
          · intro w'
            go_simp
            with_reducible rfl
          rotate_left
          · simp only [Act.put, List.setIfInBounds_toArray, List.set_cons_zero, List.set_cons_succ, i64_w, i32_w]
            rfl
          refine one_ (i := 27) (N := none) qP28 rfl rfl (by kernel_rfl) (by decide) (fun K hK => ?_)
          refine storeB_step (by rfl) rfl _ _ rfl g1 k (rdOf false z3 (k : Int)) _ rfl rfl c1 f1 ?_
          refine hK.out _ _ ⟨(blk_cell hsn 11), (blk_cell hsn 12), (pw_cell_below hbn D3.out), (pw_cell_below hbn D4.out)⟩ (fun hHeld => ?_)
          clear hK K
          refine pure_ (i := 28) (N := some 78) (v := ?_) (a' := ?_) qP29 rfl rfl (by kernel_rfl) (fun _ _ _ h => h) (Or.inl ⟨by rfl, ?_⟩) ?_ ?_
          rotate_left
          · intro w'
            go_simp
            with_reducible rfl
          rotate_left
          · simp only [Act.put, List.setIfInBounds_toArray, List.set_cons_zero, List.set_cons_succ, i64_w, i32_w]
            rfl
          refine last_ (i := 29) (N := none) qP30 rfl rfl (by kernel_rfl) (by decide) (fun K hK => ?_)
          refine storeB_step (by rfl) rfl _ _ rfl g2 k (rdOf false z4 (k : Int)) _ rfl rfl c2 f2 ?_
          refine hK.out _ _ ?_
          clear hK K
          refine done_ (by kernel_rfl) ?_
          go_wp2_with fail
          go_roundw
          case rel => exact ⟨k + 1, by have := HLT.out; omega, by rw [HWK.out], HS2⟩
          case measure => rw [HWK.out]; have := HLT.out; simp [RowKit.intOf]; omega
        · have t0 : decide ((k : Int) < (lx.length : Int)) = true := decide_eq_true (by omega)
          have hwk : wrap64 ((k : Int) + 1) = ((k + 1 : Nat) : Int) := by have := HNX.out; unfold wrap64; omega
          have HWK := Aside0.mk hwk
          have HLT := Aside0.mk hlt
          obtain ⟨g1, rfl⟩ := R_some HS.out.r1 (by omega)
          obtain ⟨g2, rfl⟩ := R_some HS.out.r2 (by omega)
          have i0 : (0 : Int) ≤ (k : Int) := by omega
          have i1 : (k : Int) < (lx.length : Int) := by omega
          have tz3 : decide ((k : Int) < (n3 : Int)) = true := decide_eq_true (by omega)
          have iz3 : (k : Int) < (n3 : Int) := by omega
          obtain ⟨ad3, rfl, hc_z3⟩ := H3.out.at_ (k : Int) (by omega) (by omega)
          rw [Int.toNat_natCast] at hc_z3
          have D3 : Aside0 (w3.cell? (ad3.add k) = some (.bool (rdOf false z3 (k : Int)))) := ⟨pw_cell_below HB3.out hc_z3⟩
          clear hc_z3
          have tz4 : decide ((k : Int) < (n4 : Int)) = false := decide_eq_false (by omega)
          have v_z4 : rdOf false z4 (k : Int) = false := rd_past z4 k (by rw [H4.out.1]; omega)
          have WD4 := Aside0.mk v_z4
          clear v_z4
          go_upto_region 12 with fail
          obtain ⟨c1, f1, c2, f2, hsn, hbn⟩ := HS.out.half (below_drew (Below.refl _ _)) HLT.out (rdOf false z3 (k : Int))
          have HS2 := Aside0.mk (HS.out.put (below_drew (Below.refl _ _)) HLT.out)
          rw [WD4.out] at HS2
          clear hwk hlt
          refine start_ (n := 30) (S := fun w' => w'.cell? ⟨sb, 11, none⟩ = some (.slice (some ⟨g1, 0, none⟩) lx.length cB) ∧ w'.cell? ⟨sb, 12, none⟩ = some (.slice (some ⟨g2, 0, none⟩) lx.length cN) ∧ w'.cell? (ad3.add k) = some (.bool (rdOf false z3 (k : Int)))) (ds := [29]) qP0 (by kernel_rfl) rfl rfl ⟨(blk_cell HS.out.hs 11), (blk_cell HS.out.hs 12), (pw_cell_below HS.out.bel D3.out)⟩ (fun hHeld => ?_)
          refine pure_ (i := 0) (N := some 51) (v := ?_) (a' := ?_) qP1 rfl rfl (by kernel_rfl) (fun _ _ _ h => h) (Or.inl ⟨by rfl, ?_⟩) ?_ ?_
          rotate_left
          · intro w'
            go_simp
            with_reducible rfl
          rotate_left
          · simp only [Act.put, List.setIfInBounds_toArray, List.set_cons_zero, List.set_cons_succ, i64_w, i32_w]
            rfl
          refine pure_ (i := 2) (N := some 53) (v := ?_) (a' := ?_) qP2 rfl rfl (by kernel_rfl) (fun _ _ _ h => h) (Or.inl ⟨by rfl, ?_⟩) ?_ ?_
          rotate_left
          · intro w'
            go_simp
            with_reducible rfl
          rotate_left
          · simp only [Act.put, List.setIfInBounds_toArray, List.set_cons_zero, List.set_cons_succ, i64_w, i32_w]
            rfl
          refine pure_ (i := 3) (N := some 54) (v := ?_) (a' := ?_) qP3 rfl rfl (by kernel_rfl) (fun _ _ _ h => h) (Or.inl ⟨by rfl, ?_⟩) ?_ ?_
          rotate_left
          · intro w'
            go_simp
            with_reducible rfl
          rotate_left
          · simp only [Act.put, List.setIfInBounds_toArray, List.set_cons_zero, List.set_cons_succ, i64_w, i32_w]
            rfl
          refine pure_ (i := 5) (N := some 56) (v := ?_) (a' := ?_) qP4 rfl rfl (by kernel_rfl) (fun _ _ _ h => h) (Or.inl ⟨by rfl, ?_⟩) ?_ ?_
          rotate_left
          · intro w'
            go_simp
            with_reducible rfl
          rotate_left
          · simp only [Act.put, List.setIfInBounds_toArray, List.set_cons_zero, List.set_cons_succ, i64_w, i32_w]
            rfl
          refine pure_ (i := 6) (N := some 57) (v := ?_) (a' := ?_) qP5 rfl rfl (by kernel_rfl) (fun _ _ _ h => h) (Or.inl ⟨by rfl, ?_⟩) ?_ ?_
          rotate_left
          · intro w'
            go_simp
            with_reducible rfl
          rotate_left
          · simp only [Act.put, List.setIfInBounds_toArray, List.set_cons_zero, List.set_cons_succ, i64_w, i32_w]
            rfl
          refine pure_ (i := 7) (N := some 58) (v := ?_) (a' := ?_) qP6 rfl rfl (by kernel_rfl) (fun _ _ _ h => h) (Or.inl ⟨by rfl, ?_⟩) ?_ ?_
          rotate_left
          · intro w'
            go_simp
            with_reducible rfl
          rotate_left
          · simp only [Act.put, List.setIfInBounds_toArray, List.set_cons_zero, List.set_cons_succ, i64_w, i32_w]
            rfl
          refine pure_ (i := 8) (N := some 59) (v := ?_) (a' := ?_) qP7 rfl rfl (by kernel_rfl) (fun _ _ _ h => h) (Or.inl ⟨by rfl, ?_⟩) ?_ ?_
          rotate_left
          · intro w'
            go_simp
            with_reducible rfl
          rotate_left
          · simp only [Act.put, List.setIfInBounds_toArray, List.set_cons_zero, List.set_cons_succ, i64_w, i32_w]
            rfl
          refine pure_ (i := 9) (N := some 60) (v := ?_) (a' := ?_) qP8 rfl rfl (by kernel_rfl) (fun _ _ _ h => h) (Or.inl ⟨by rfl, ?_⟩) ?_ ?_
          rotate_left
          · intro w'
            go_simp
            with_reducible rfl
          rotate_left
          · simp only [Act.put, List.setIfInBounds_toArray, List.set_cons_zero, List.set_cons_succ, i64_w, i32_w]
            rfl
          refine pure_ (i := 10) (N := some 61) (v := ?_) (a' := ?_) qP9 rfl rfl (by kernel_rfl) (fun _ _ _ h => h) (Or.inl ⟨by rfl, ?_⟩) ?_ ?_
          rotate_left
          · intro w'
            go_simp
            with_reducible rfl
          rotate_left
          · simp only [Act.put, List.setIfInBounds_toArray, List.set_cons_zero, List.set_cons_succ, i64_w, i32_w]
            rfl
          refine pure_ (i := 11) (N := some 62) (v := ?_) (a' := ?_) qP10 rfl rfl (by kernel_rfl) (fun _ _ _ h => h) (Or.inl ⟨by rfl, ?_⟩) ?_ ?_
          rotate_left
          · intro w'
            go_simp
            with_reducible rfl
          rotate_left
          · simp only [Act.put, List.setIfInBounds_toArray, List.set_cons_zero, List.set_cons_succ, i64_w, i32_w]
            rfl
          refine pure_ (i := 12) (N := some 63) (v := ?_) (a' := ?_) qP11 rfl rfl (by kernel_rfl) (fun _ _ _ h => h) (Or.inl ⟨by rfl, ?_⟩) ?_ ?_
          rotate_left
          · intro w'
            go_simp
            with_reducible rfl
          rotate_left
          · simp only [Act.put, List.setIfInBounds_toArray, List.set_cons_zero, List.set_cons_succ, i64_w, i32_w]
            rfl
          refine pure_ (i := 13) (N := some 64) (v := ?_) (a' := ?_) qP12 rfl rfl (by kernel_rfl) (fun _ _ _ h => h) (Or.inl ⟨by rfl, ?_⟩) ?_ ?_
          rotate_left
          · intro w'
            go_simp
            with_reducible rfl
          rotate_left
          · simp only [Act.put, List.setIfInBounds_toArray, List.set_cons_zero, List.set_cons_succ, i64_w, i32_w]
            rfl
          refine pure_ (i := 16) (N := some 67) (v := ?_) (a' := ?_) qP13 rfl rfl (by kernel_rfl) (fun _ _ _ h => h) (Or.inl ⟨by rfl, ?_⟩) ?_ ?_
          rotate_left
          · intro w'
            go_simp
            with_reducible rfl
          rotate_left
          · simp only [Act.put, List.setIfInBounds_toArray, List.set_cons_zero, List.set_cons_succ, i64_w, i32_w]
            rfl
          refine pure_ (i := 17) (N := some 68) (v := ?_) (a' := ?_) qP14 rfl rfl (by kernel_rfl) (fun _ _ _ h => h) (Or.inl ⟨by rfl, ?_⟩) ?_ ?_
          rotate_left
          · intro w'
            go_simp
            with_reducible rfl
          rotate_left
          · simp only [Act.put, List.setIfInBounds_toArray, List.set_cons_zero, List.set_cons_succ, i64_w, i32_w]
            rfl
          refine pure_ (i := 18) (N := some 69) (v := ?_) (a' := ?_) qP15 rfl rfl (by kernel_rfl) (fun _ _ _ h => h) (Or.inl ⟨by rfl, ?_⟩) ?_ ?_
          rotate_left
          · intro w'
            go_simp
            with_reducible rfl
          rotate_left
          · simp only [Act.put, List.setIfInBounds_toArray, List.set_cons_zero, List.set_cons_succ, i64_w, i32_w]
            rfl
          refine pure_ (i := 19) (N := some 70) (v := ?_) (a' := ?_) qP16 rfl rfl (by kernel_rfl) (fun _ _ _ h => h) (Or.inl ⟨by rfl, ?_⟩) ?_ ?_
          rotate_left
          · intro w'
            go_simp
            with_reducible rfl
          rotate_left
          · simp only [Act.put, List.setIfInBounds_toArray, List.set_cons_zero, List.set_cons_succ, i64_w, i32_w]
            rfl
          refine pure_ (i := 20) (N := some 71) (v := ?_) (a' := ?_) qP17 rfl rfl (by kernel_rfl) (fun _ _ _ h => h) (Or.inl ⟨by rfl, ?_⟩) ?_ ?_
          rotate_left
          · intro w'
            go_simp
            with_reducible rfl
          rotate_left
          · simp only [Act.put, List.setIfInBounds_toArray, List.set_cons_zero, List.set_cons_succ, i64_w, i32_w]
            rfl
          refine pure_ (i := 21) (N := some 72) (v := undef) (a' := ?_) qP18 rfl rfl (by kernel_rfl) (fun _ _ _ h => h) (Or.inr ⟨by rfl, rfl⟩) ?_ ?_
          rotate_left
          · simp only [Act.put, List.setIfInBounds_toArray, List.set_cons_zero, List.set_cons_succ, i64_w, i32_w]
            rfl
          refine pure_ (i := 22) (N := some 73) (v := undef) (a' := ?_) qP19 rfl rfl (by kernel_rfl) (fun _ _ _ h => h) (Or.inr ⟨by rfl, rfl⟩) ?_ ?_
          rotate_left
          · simp only [Act.put, List.setIfInBounds_toArray, List.set_cons_zero, List.set_cons_succ, i64_w, i32_w]
            rfl
          refine pure_ (i := 23) (N := some 74) (v := undef) (a' := ?_) qP20 rfl rfl (by kernel_rfl) (fun _ _ _ h => h) (Or.inr ⟨by rfl, rfl⟩) ?_ ?_
          rotate_left
          · simp only [Act.put, List.setIfInBounds_toArray, List.set_cons_zero, List.set_cons_succ, i64_w, i32_w]
            rfl
          refine pure_ (i := 24) (N := some 75) (v := undef) (a' := ?_) qP31 rfl rfl (by kernel_rfl) (fun _ _ _ h => h) (Or.inr ⟨by rfl, rfl⟩) ?_ ?_
          rotate_left
          · simp only [Act.put, List.setIfInBounds_toArray, List.set_cons_zero, List.set_cons_succ, i64_w, i32_w]
            rfl
          refine pure_ (i := 25) (N := some 76) (v := ?_) (a' := ?_) qP32 rfl rfl (by kernel_rfl) (fun _ _ _ h => h) (Or.inl ⟨by rfl, ?_⟩) ?_ ?_
          rotate_left
          · intro w'
            go_simp
            with_reducible rfl
          rotate_left
          · simp only [Act.put, List.setIfInBounds_toArray, List.set_cons_zero, List.set_cons_succ, i64_w, i32_w]
            rfl
          refine take_ (i := 1) (N := some 52) (v := ?_) (a' := ?_) qP33 rfl rfl (by kernel_rfl) (fun _ _ _ h => h) (Or.inl ⟨by rfl, ?_⟩) hHeld ?_ ?_
          rotate_left
          · rintro w' ⟨s0, s1, s2⟩
            go_simp
            with_reducible rfl
          rotate_left
          · simp only [Act.put, List.setIfInBounds_toArray, List.set_cons_zero, List.set_cons_succ, i64_w, i32_w]
            rfl
          refine take_ (i := 4) (N := some 55) (v := ?_) (a' := ?_) qP34 rfl rfl (by kernel_rfl) (fun _ _ _ h => h) (Or.inl ⟨by rfl, ?_⟩) hHeld ?_ ?_
          rotate_left
          · rintro w' ⟨s0, s1, s2⟩
            go_simp
            with_reducible rfl
          rotate_left
          · simp only [Act.put, List.setIfInBounds_toArray, List.set_cons_zero, List.set_cons_succ, i64_w, i32_w]
            rfl
          refine take_ (i := 14) (N := some 65) (v := ?_) (a' := ?_) qP35 rfl rfl (by kernel_rfl) (fun _ _ _ h => h) (Or.inl ⟨by rfl, ?_⟩) hHeld ?_ ?_
          rotate_left
          · rintro w' ⟨s0, s1, s2⟩
            go_simp
            with_reducible rfl
          rotate_left
          · simp only [Act.put, List.setIfInBounds_toArray, List.set_cons_zero, List.set_cons_succ, i64_w, i32_w]
            rfl
          refine pure_ (i := 15) (N := some 66) (v := ?_) (a' := ?_) qP26 rfl rfl (by kernel_rfl) (fun _ _ _ h => h) (Or.inl ⟨by rfl, ?_⟩) ?_ ?_
          rotate_left
          · intro w'
            go_simp
            with_reducible rfl
          rotate_left
          · simp only [Act.put, List.setIfInBounds_toArray, List.set_cons_zero, List.set_cons_succ, i64_w, i32_w]
            rfl
          refine pure_ (i := 26) (N := some 77) (v := ?_) (a' := ?_) qP27 rfl rfl (by kernel_rfl) (fun _ _ _ h => h) (Or.inl ⟨by rfl, ?_⟩) ?_ ?_
          rotate_left
          · intro w'
            go_simp
            with_reducible rfl
          rotate_left
          · simp only [Act.put, List.setIfInBounds_toArray, List.set_cons_zero, List.set_cons_succ, i64_w, i32_w]
            rfl
          refine one_ (i := 27) (N := none) qP28 rfl rfl (by kernel_rfl) (by decide) (fun K hK => ?_)
          refine storeB_step (by rfl) rfl _ _ rfl g1 k (rdOf false z3 (k : Int)) _ rfl rfl c1 f1 ?_
          refine hK.out _ _ ⟨(blk_cell hsn 11), (blk_cell hsn 12), (pw_cell_below hbn D3.out)⟩ (fun hHeld => ?_)
          clear hK K
          refine pure_ (i := 28) (N := some 78) (v := ?_) (a' := ?_) qP29 rfl rfl (by kernel_rfl) (fun _ _ _ h => h) (Or.inl ⟨by rfl, ?_⟩) ?_ ?_
          rotate_left
          · intro w'
            go_simp
            with_reducible rfl
          rotate_left
          · simp only [Act.put, List.setIfInBounds_toArray, List.set_cons_zero, List.set_cons_succ, i64_w, i32_w]
            rfl
          refine last_ (i := 29) (N := none) qP30 rfl rfl (by kernel_rfl) (by decide) (fun K hK => ?_)
          refine storeB_step (by rfl) rfl _ _ rfl g2 k (false) _ rfl rfl c2 f2 ?_
          refine hK.out _ _ ?_
          clear hK K
          refine done_ (by kernel_rfl) ?_
          go_wp2_with fail
          go_roundw
          case rel => exact ⟨k + 1, by have := HLT.out; omega, by rw [HWK.out], HS2⟩
          case measure => rw [HWK.out]; have := HLT.out; simp [RowKit.intOf]; omega
      · by_cases q2 : k < n4
        · have t0 : decide ((k : Int) < (lx.length : Int)) = true := decide_eq_true (by omega)
          have hwk : wrap64 ((k : Int) + 1) = ((k + 1 : Nat) : Int) := by have := HNX.out; unfold wrap64; omega
          have HWK := Aside0.mk hwk
          have HLT := Aside0.mk hlt
          obtain ⟨g1, rfl⟩ := R_some HS.out.r1 (by omega)
          obtain ⟨g2, rfl⟩ := R_some HS.out.r2 (by omega)
          have i0 : (0 : Int) ≤ (k : Int) := by omega
          have i1 : (k : Int) < (lx.length : Int) := by omega
          have tz3 : decide ((k : Int) < (n3 : Int)) = false := decide_eq_false (by omega)
          have v_z3 : rdOf false z3 (k : Int) = false := rd_past z3 k (by rw [H3.out.1]; omega)
          have WD3 := Aside0.mk v_z3
          clear v_z3
          have tz4 : decide ((k : Int) < (n4 : Int)) = true := decide_eq_true (by omega)
          have iz4 : (k : Int) < (n4 : Int) := by omega
          obtain ⟨ad4, rfl, hc_z4⟩ := H4.out.at_ (k : Int) (by omega) (by omega)
          rw [Int.toNat_natCast] at hc_z4
          have D4 : Aside0 (w3.cell? (ad4.add k) = some (.bool (rdOf false z4 (k : Int)))) := ⟨pw_cell_below HB3.out hc_z4⟩
          clear hc_z4
          go_upto_region 12 with fail
          obtain ⟨c1, f1, c2, f2, hsn, hbn⟩ := HS.out.half (below_drew (Below.refl _ _)) HLT.out (false)
          have HS2 := Aside0.mk (HS.out.put (below_drew (Below.refl _ _)) HLT.out)
          rw [WD3.out] at HS2
          clear hwk hlt
          refine start_ (n := 30) (S := fun w' => w'.cell? ⟨sb, 11, none⟩ = some (.slice (some ⟨g1, 0, none⟩) lx.length cB) ∧ w'.cell? ⟨sb, 12, none⟩ = some (.slice (some ⟨g2, 0, none⟩) lx.length cN) ∧ w'.cell? (ad4.add k) = some (.bool (rdOf false z4 (k : Int)))) (ds := [29]) qP0 (by kernel_rfl) rfl rfl ⟨(blk_cell HS.out.hs 11), (blk_cell HS.out.hs 12), (pw_cell_below HS.out.bel D4.out)⟩ (fun hHeld => ?_)
          refine pure_ (i := 0) (N := some 51) (v := ?_) (a' := ?_) qP1 rfl rfl (by kernel_rfl) (fun _ _ _ h => h) (Or.inl ⟨by rfl, ?_⟩) ?_ ?_
          rotate_left
          · intro w'
            go_simp
            with_reducible rfl
          rotate_left
          · simp only [Act.put, List.setIfInBounds_toArray, List.set_cons_zero, List.set_cons_succ, i64_w, i32_w]
            rfl
          refine pure_ (i := 2) (N := some 53) (v := ?_) (a' := ?_) qP2 rfl rfl (by kernel_rfl) (fun _ _ _ h => h) (Or.inl ⟨by rfl, ?_⟩) ?_ ?_
          rotate_left
          · intro w'
            go_simp
            with_reducible rfl
          rotate_left
          · simp only [Act.put, List.setIfInBounds_toArray, List.set_cons_zero, List.set_cons_succ, i64_w, i32_w]
            rfl
          refine pure_ (i := 3) (N := some 54) (v := ?_) (a' := ?_) qP3 rfl rfl (by kernel_rfl) (fun _ _ _ h => h) (Or.inl ⟨by rfl, ?_⟩) ?_ ?_
          rotate_left
          · intro w'
            go_simp
            with_reducible rfl
          rotate_left
          · simp only [Act.put, List.setIfInBounds_toArray, List.set_cons_zero, List.set_cons_succ, i64_w, i32_w]
            rfl
          refine pure_ (i := 5) (N := some 56) (v := ?_) (a' := ?_) qP4 rfl rfl (by kernel_rfl) (fun _ _ _ h => h) (Or.inl ⟨by rfl, ?_⟩) ?_ ?_
          rotate_left
          · intro w'
            go_simp
            with_reducible rfl
          rotate_left
          · simp only [Act.put, List.setIfInBounds_toArray, List.set_cons_zero, List.set_cons_succ, i64_w, i32_w]
            rfl
          refine pure_ (i := 6) (N := some 57) (v := ?_) (a' := ?_) qP5 rfl rfl (by kernel_rfl) (fun _ _ _ h => h) (Or.inl ⟨by rfl, ?_⟩) ?_ ?_
          rotate_left
          · intro w'
            go_simp
            with_reducible rfl
          rotate_left
          · simp only [Act.put, List.setIfInBounds_toArray, List.set_cons_zero, List.set_cons_succ, i64_w, i32_w]
            rfl
          refine pure_ (i := 7) (N := some 58) (v := ?_) (a' := ?_) qP6 rfl rfl (by kernel_rfl) (fun _ _ _ h => h) (Or.inl ⟨by rfl, ?_⟩) ?_ ?_
          rotate_left
          · intro w'
            go_simp
            with_reducible rfl
          rotate_left
          · simp only [Act.put, List.setIfInBounds_toArray, List.set_cons_zero, List.set_cons_succ, i64_w, i32_w]
            rfl
          refine pure_ (i := 8) (N := some 59) (v := ?_) (a' := ?_) qP7 rfl rfl (by kernel_rfl) (fun _ _ _ h => h) (Or.inl ⟨by rfl, ?_⟩) ?_ ?_
          rotate_left
          · intro w'
            go_simp
            with_reducible rfl
          rotate_left
          · simp only [Act.put, List.setIfInBounds_toArray, List.set_cons_zero, List.set_cons_succ, i64_w, i32_w]
            rfl
          refine pure_ (i := 9) (N := some 60) (v := ?_) (a' := ?_) qP8 rfl rfl (by kernel_rfl) (fun _ _ _ h => h) (Or.inl ⟨by rfl, ?_⟩) ?_ ?_
          rotate_left
          · intro w'
            go_simp
            with_reducible rfl
          rotate_left
          · simp only [Act.put, List.setIfInBounds_toArray, List.set_cons_zero, List.set_cons_succ, i64_w, i32_w]
            rfl
          refine pure_ (i := 10) (N := some 61) (v := ?_) (a' := ?_) qP9 rfl rfl (by kernel_rfl) (fun _ _ _ h => h) (Or.inl ⟨by rfl, ?_⟩) ?_ ?_
          rotate_left
          · intro w'
            go_simp
            with_reducible rfl
          rotate_left
          · simp only [Act.put, List.setIfInBounds_toArray, List.set_cons_zero, List.set_cons_succ, i64_w, i32_w]
            rfl
          refine pure_ (i := 11) (N := some 62) (v := undef) (a' := ?_) qP10 rfl rfl (by kernel_rfl) (fun _ _ _ h => h) (Or.inr ⟨by rfl, rfl⟩) ?_ ?_
          rotate_left
          · simp only [Act.put, List.setIfInBounds_toArray, List.set_cons_zero, List.set_cons_succ, i64_w, i32_w]
            rfl
          refine pure_ (i := 12) (N := some 63) (v := undef) (a' := ?_) qP11 rfl rfl (by kernel_rfl) (fun _ _ _ h => h) (Or.inr ⟨by rfl, rfl⟩) ?_ ?_
          rotate_left
          · simp only [Act.put, List.setIfInBounds_toArray, List.set_cons_zero, List.set_cons_succ, i64_w, i32_w]
            rfl
          refine pure_ (i := 13) (N := some 64) (v := undef) (a' := ?_) qP12 rfl rfl (by kernel_rfl) (fun _ _ _ h => h) (Or.inr ⟨by rfl, rfl⟩) ?_ ?_
          rotate_left
          · simp only [Act.put, List.setIfInBounds_toArray, List.set_cons_zero, List.set_cons_succ, i64_w, i32_w]
            rfl
          refine pure_ (i := 14) (N := some 65) (v := undef) (a' := ?_) qP36 rfl rfl (by kernel_rfl) (fun _ _ _ h => h) (Or.inr ⟨by rfl, rfl⟩) ?_ ?_
          rotate_left
          · simp only [Act.put, List.setIfInBounds_toArray, List.set_cons_zero, List.set_cons_succ, i64_w, i32_w]
            rfl
          refine pure_ (i := 15) (N := some 66) (v := ?_) (a' := ?_) qP37 rfl rfl (by kernel_rfl) (fun _ _ _ h => h) (Or.inl ⟨by rfl, ?_⟩) ?_ ?_
          rotate_left
          · intro w'
            go_simp
            with_reducible rfl
          rotate_left
          · simp only [Act.put, List.setIfInBounds_toArray, List.set_cons_zero, List.set_cons_succ, i64_w, i32_w]
            rfl
          refine pure_ (i := 16) (N := some 67) (v := ?_) (a' := ?_) qP38 rfl rfl (by kernel_rfl) (fun _ _ _ h => h) (Or.inl ⟨by rfl, ?_⟩) ?_ ?_
          rotate_left
          · intro w'
            go_simp
            with_reducible rfl
          rotate_left
          · simp only [Act.put, List.setIfInBounds_toArray, List.set_cons_zero, List.set_cons_succ, i64_w, i32_w]
            rfl
          refine pure_ (i := 17) (N := some 68) (v := ?_) (a' := ?_) qP39 rfl rfl (by kernel_rfl) (fun _ _ _ h => h) (Or.inl ⟨by rfl, ?_⟩) ?_ ?_
          rotate_left
          · intro w'
            go_simp
            with_reducible rfl
          rotate_left
          · simp only [Act.put, List.setIfInBounds_toArray, List.set_cons_zero, List.set_cons_succ, i64_w, i32_w]
            rfl
          refine pure_ (i := 18) (N := some 69) (v := ?_) (a' := ?_) qP40 rfl rfl (by kernel_rfl) (fun _ _ _ h => h) (Or.inl ⟨by rfl, ?_⟩) ?_ ?_
          rotate_left
          · intro w'
            go_simp
            with_reducible rfl
          rotate_left
          · simp only [Act.put, List.setIfInBounds_toArray, List.set_cons_zero, List.set_cons_succ, i64_w, i32_w]
            rfl
          refine pure_ (i := 19) (N := some 70) (v := ?_) (a' := ?_) qP41 rfl rfl (by kernel_rfl) (fun _ _ _ h => h) (Or.inl ⟨by rfl, ?_⟩) ?_ ?_
          rotate_left
          · intro w'
            go_simp
            with_reducible rfl
          rotate_left
          · simp only [Act.put, List.setIfInBounds_toArray, List.set_cons_zero, List.set_cons_succ, i64_w, i32_w]
            rfl
          refine pure_ (i := 20) (N := some 71) (v := ?_) (a' := ?_) qP42 rfl rfl (by kernel_rfl) (fun _ _ _ h => h) (Or.inl ⟨by rfl, ?_⟩) ?_ ?_
          rotate_left
          · intro w'
            go_simp
            with_reducible rfl
          rotate_left
          · simp only [Act.put, List.setIfInBounds_toArray, List.set_cons_zero, List.set_cons_succ, i64_w, i32_w]
            rfl
          refine pure_ (i := 21) (N := some 72) (v := ?_) (a' := ?_) qP43 rfl rfl (by kernel_rfl) (fun _ _ _ h => h) (Or.inl ⟨by rfl, ?_⟩) ?_ ?_
          rotate_left
          · intro w'
            go_simp
            with_reducible rfl
          rotate_left
          · simp only [Act.put, List.setIfInBounds_toArray, List.set_cons_zero, List.set_cons_succ, i64_w, i32_w]
            rfl
          refine pure_ (i := 22) (N := some 73) (v := ?_) (a' := ?_) qP44 rfl rfl (by kernel_rfl) (fun _ _ _ h => h) (Or.inl ⟨by rfl, ?_⟩) ?_ ?_
          rotate_left
          · intro w'
            go_simp
            with_reducible rfl
          rotate_left
          · simp only [Act.put, List.setIfInBounds_toArray, List.set_cons_zero, List.set_cons_succ, i64_w, i32_w]
            rfl
          refine pure_ (i := 23) (N := some 74) (v := ?_) (a' := ?_) qP45 rfl rfl (by kernel_rfl) (fun _ _ _ h => h) (Or.inl ⟨by rfl, ?_⟩) ?_ ?_
          rotate_left
          · intro w'
            go_simp
            with_reducible rfl
          rotate_left
          · simp only [Act.put, List.setIfInBounds_toArray, List.set_cons_zero, List.set_cons_succ, i64_w, i32_w]
            rfl
          refine take_ (i := 1) (N := some 52) (v := ?_) (a' := ?_) qP46 rfl rfl (by kernel_rfl) (fun _ _ _ h => h) (Or.inl ⟨by rfl, ?_⟩) hHeld ?_ ?_
          rotate_left
          · rintro w' ⟨s0, s1, s2⟩
            go_simp
            with_reducible rfl
          rotate_left
          · simp only [Act.put, List.setIfInBounds_toArray, List.set_cons_zero, List.set_cons_succ, i64_w, i32_w]
            rfl
          refine take_ (i := 4) (N := some 55) (v := ?_) (a' := ?_) qP24 rfl rfl (by kernel_rfl) (fun _ _ _ h => h) (Or.inl ⟨by rfl, ?_⟩) hHeld ?_ ?_
          rotate_left
          · rintro w' ⟨s0, s1, s2⟩
            go_simp
            with_reducible rfl
          rotate_left
          · simp only [Act.put, List.setIfInBounds_toArray, List.set_cons_zero, List.set_cons_succ, i64_w, i32_w]
            rfl
          refine take_ (i := 24) (N := some 75) (v := ?_) (a' := ?_) qP25 rfl rfl (by kernel_rfl) (fun _ _ _ h => h) (Or.inl ⟨by rfl, ?_⟩) hHeld ?_ ?_
          rotate_left
          · rintro w' ⟨s0, s1, s2⟩
            go_simp
            with_reducible rfl
          rotate_left
          · simp only [Act.put, List.setIfInBounds_toArray, List.set_cons_zero, List.set_cons_succ, i64_w, i32_w]
            rfl
          refine pure_ (i := 25) (N := some 76) (v := ?_) (a' := ?_) qP26 rfl rfl (by kernel_rfl) (fun _ _ _ h => h) (Or.inl ⟨by rfl, ?_⟩) ?_ ?_
          rotate_left
          · intro w'
            go_simp
            with_reducible rfl
          rotate_left
          · simp only [Act.put, List.setIfInBounds_toArray, List.set_cons_zero, List.set_cons_succ, i64_w, i32_w]
            rfl
          refine pure_ (i := 26) (N := some 77) (v := ?_) (a' := ?_) qP27 rfl rfl (by kernel_rfl) (fun _ _ _ h => h) (Or.inl ⟨by rfl, ?_⟩) ?_ ?_
          rotate_left
          · intro w'
            go_simp
            with_reducible rfl
          rotate_left
          · simp only [Act.put, List.setIfInBounds_toArray, List.set_cons_zero, List.set_cons_succ, i64_w, i32_w]
            rfl
          refine one_ (i := 27) (N := none) qP28 rfl rfl (by kernel_rfl) (by decide) (fun K hK => ?_)
          refine storeB_step (by rfl) rfl _ _ rfl g1 k (false) _ rfl rfl c1 f1 ?_
          refine hK.out _ _ ⟨(blk_cell hsn 11), (blk_cell hsn 12), (pw_cell_below hbn D4.out)⟩ (fun hHeld => ?_)
          clear hK K
          refine pure_ (i := 28) (N := some 78) (v := ?_) (a' := ?_) qP29 rfl rfl (by kernel_rfl) (fun _ _ _ h => h) (Or.inl ⟨by rfl, ?_⟩) ?_ ?_
          rotate_left
          · intro w'
            go_simp
            with_reducible rfl
          rotate_left
          · simp only [Act.put, List.setIfInBounds_toArray, List.set_cons_zero, List.set_cons_succ, i64_w, i32_w]
            rfl
          refine last_ (i := 29) (N := none) qP30 rfl rfl (by kernel_rfl) (by decide) (fun K hK => ?_)
          refine storeB_step (by rfl) rfl _ _ rfl g2 k (rdOf false z4 (k : Int)) _ rfl rfl c2 f2 ?_
          refine hK.out _ _ ?_
          clear hK K
          refine done_ (by kernel_rfl) ?_
          go_wp2_with fail
          go_roundw
          case rel => exact ⟨k + 1, by have := HLT.out; omega, by rw [HWK.out], HS2⟩
          case measure => rw [HWK.out]; have := HLT.out; simp [RowKit.intOf]; omega
        · have t0 : decide ((k : Int) < (lx.length : Int)) = true := decide_eq_true (by omega)
          have hwk : wrap64 ((k : Int) + 1) = ((k + 1 : Nat) : Int) := by have := HNX.out; unfold wrap64; omega
          have HWK := Aside0.mk hwk
          have HLT := Aside0.mk hlt
          obtain ⟨g1, rfl⟩ := R_some HS.out.r1 (by omega)
          obtain ⟨g2, rfl⟩ := R_some HS.out.r2 (by omega)
          have i0 : (0 : Int) ≤ (k : Int) := by omega
          have i1 : (k : Int) < (lx.length : Int) := by omega
          have tz3 : decide ((k : Int) < (n3 : Int)) = false := decide_eq_false (by omega)
          have v_z3 : rdOf false z3 (k : Int) = false := rd_past z3 k (by rw [H3.out.1]; omega)
          have WD3 := Aside0.mk v_z3
          clear v_z3
          have tz4 : decide ((k : Int) < (n4 : Int)) = false := decide_eq_false (by omega)
          have v_z4 : rdOf false z4 (k : Int) = false := rd_past z4 k (by rw [H4.out.1]; omega)
          have WD4 := Aside0.mk v_z4
          clear v_z4
          go_upto_region 12 with fail
          obtain ⟨c1, f1, c2, f2, hsn, hbn⟩ := HS.out.half (below_drew (Below.refl _ _)) HLT.out (false)
          have HS2 := Aside0.mk (HS.out.put (below_drew (Below.refl _ _)) HLT.out)
          rw [WD3.out] at HS2
          rw [WD4.out] at HS2
          clear hwk hlt
          refine start_ (n := 30) (S := fun w' => w'.cell? ⟨sb, 11, none⟩ = some (.slice (some ⟨g1, 0, none⟩) lx.length cB) ∧ w'.cell? ⟨sb, 12, none⟩ = some (.slice (some ⟨g2, 0, none⟩) lx.length cN)) (ds := [29]) qP0 (by kernel_rfl) rfl rfl ⟨(blk_cell HS.out.hs 11), (blk_cell HS.out.hs 12)⟩ (fun hHeld => ?_)
          refine pure_ (i := 0) (N := some 51) (v := ?_) (a' := ?_) qP1 rfl rfl (by kernel_rfl) (fun _ _ _ h => h) (Or.inl ⟨by rfl, ?_⟩) ?_ ?_
          rotate_left
          · intro w'
            go_simp
            with_reducible rfl
          rotate_left
          · simp only [Act.put, List.setIfInBounds_toArray, List.set_cons_zero, List.set_cons_succ, i64_w, i32_w]
            rfl
          refine pure_ (i := 2) (N := some 53) (v := ?_) (a' := ?_) qP2 rfl rfl (by kernel_rfl) (fun _ _ _ h => h) (Or.inl ⟨by rfl, ?_⟩) ?_ ?_
          rotate_left
          · intro w'
            go_simp
            with_reducible rfl
          rotate_left
          · simp only [Act.put, List.setIfInBounds_toArray, List.set_cons_zero, List.set_cons_succ, i64_w, i32_w]
            rfl
          refine pure_ (i := 3) (N := some 54) (v := ?_) (a' := ?_) qP3 rfl rfl (by kernel_rfl) (fun _ _ _ h => h) (Or.inl ⟨by rfl, ?_⟩) ?_ ?_
          rotate_left
          · intro w'
            go_simp
            with_reducible rfl
          rotate_left
          · simp only [Act.put, List.setIfInBounds_toArray, List.set_cons_zero, List.set_cons_succ, i64_w, i32_w]
            rfl
          refine pure_ (i := 5) (N := some 56) (v := ?_) (a' := ?_) qP4 rfl rfl (by kernel_rfl) (fun _ _ _ h => h) (Or.inl ⟨by rfl, ?_⟩) ?_ ?_
          rotate_left
          · intro w'
            go_simp
            with_reducible rfl
          rotate_left
          · simp only [Act.put, List.setIfInBounds_toArray, List.set_cons_zero, List.set_cons_succ, i64_w, i32_w]
            rfl
          refine pure_ (i := 6) (N := some 57) (v := ?_) (a' := ?_) qP5 rfl rfl (by kernel_rfl) (fun _ _ _ h => h) (Or.inl ⟨by rfl, ?_⟩) ?_ ?_
          rotate_left
          · intro w'
            go_simp
            with_reducible rfl
          rotate_left
          · simp only [Act.put, List.setIfInBounds_toArray, List.set_cons_zero, List.set_cons_succ, i64_w, i32_w]
            rfl
          refine pure_ (i := 7) (N := some 58) (v := ?_) (a' := ?_) qP6 rfl rfl (by kernel_rfl) (fun _ _ _ h => h) (Or.inl ⟨by rfl, ?_⟩) ?_ ?_
          rotate_left
          · intro w'
            go_simp
            with_reducible rfl
          rotate_left
          · simp only [Act.put, List.setIfInBounds_toArray, List.set_cons_zero, List.set_cons_succ, i64_w, i32_w]
            rfl
          refine pure_ (i := 8) (N := some 59) (v := ?_) (a' := ?_) qP7 rfl rfl (by kernel_rfl) (fun _ _ _ h => h) (Or.inl ⟨by rfl, ?_⟩) ?_ ?_
          rotate_left
          · intro w'
            go_simp
            with_reducible rfl
          rotate_left
          · simp only [Act.put, List.setIfInBounds_toArray, List.set_cons_zero, List.set_cons_succ, i64_w, i32_w]
            rfl
          refine pure_ (i := 9) (N := some 60) (v := ?_) (a' := ?_) qP8 rfl rfl (by kernel_rfl) (fun _ _ _ h => h) (Or.inl ⟨by rfl, ?_⟩) ?_ ?_
          rotate_left
          · intro w'
            go_simp
            with_reducible rfl
          rotate_left
          · simp only [Act.put, List.setIfInBounds_toArray, List.set_cons_zero, List.set_cons_succ, i64_w, i32_w]
            rfl
          refine pure_ (i := 10) (N := some 61) (v := ?_) (a' := ?_) qP9 rfl rfl (by kernel_rfl) (fun _ _ _ h => h) (Or.inl ⟨by rfl, ?_⟩) ?_ ?_
          rotate_left
          · intro w'
            go_simp
            with_reducible rfl
          rotate_left
          · simp only [Act.put, List.setIfInBounds_toArray, List.set_cons_zero, List.set_cons_succ, i64_w, i32_w]
            rfl
          refine pure_ (i := 11) (N := some 62) (v := undef) (a' := ?_) qP10 rfl rfl (by kernel_rfl) (fun _ _ _ h => h) (Or.inr ⟨by rfl, rfl⟩) ?_ ?_
          rotate_left
          · simp only [Act.put, List.setIfInBounds_toArray, List.set_cons_zero, List.set_cons_succ, i64_w, i32_w]
            rfl
          refine pure_ (i := 12) (N := some 63) (v := undef) (a' := ?_) qP11 rfl rfl (by kernel_rfl) (fun _ _ _ h => h) (Or.inr ⟨by rfl, rfl⟩) ?_ ?_
          rotate_left
          · simp only [Act.put, List.setIfInBounds_toArray, List.set_cons_zero, List.set_cons_succ, i64_w, i32_w]
            rfl
          refine pure_ (i := 13) (N := some 64) (v := undef) (a' := ?_) qP12 rfl rfl (by kernel_rfl) (fun _ _ _ h => h) (Or.inr ⟨by rfl, rfl⟩) ?_ ?_
          rotate_left
          · simp only [Act.put, List.setIfInBounds_toArray, List.set_cons_zero, List.set_cons_succ, i64_w, i32_w]
            rfl
          refine pure_ (i := 14) (N := some 65) (v := undef) (a' := ?_) qP36 rfl rfl (by kernel_rfl) (fun _ _ _ h => h) (Or.inr ⟨by rfl, rfl⟩) ?_ ?_
          rotate_left
          · simp only [Act.put, List.setIfInBounds_toArray, List.set_cons_zero, List.set_cons_succ, i64_w, i32_w]
            rfl
          refine pure_ (i := 15) (N := some 66) (v := ?_) (a' := ?_) qP37 rfl rfl (by kernel_rfl) (fun _ _ _ h => h) (Or.inl ⟨by rfl, ?_⟩) ?_ ?_
          rotate_left
          · intro w'
            go_simp
            with_reducible rfl
          rotate_left
          · simp only [Act.put, List.setIfInBounds_toArray, List.set_cons_zero, List.set_cons_succ, i64_w, i32_w]
            rfl
          refine pure_ (i := 16) (N := some 67) (v := ?_) (a' := ?_) qP38 rfl rfl (by kernel_rfl) (fun _ _ _ h => h) (Or.inl ⟨by rfl, ?_⟩) ?_ ?_
          rotate_left
          · intro w'
            go_simp
            with_reducible rfl
          rotate_left
          · simp only [Act.put, List.setIfInBounds_toArray, List.set_cons_zero, List.set_cons_succ, i64_w, i32_w]
            rfl
          refine pure_ (i := 17) (N := some 68) (v := ?_) (a' := ?_) qP39 rfl rfl (by kernel_rfl) (fun _ _ _ h => h) (Or.inl ⟨by rfl, ?_⟩) ?_ ?_
          rotate_left
          · intro w'
            go_simp
            with_reducible rfl
          rotate_left
          · simp only [Act.put, List.setIfInBounds_toArray, List.set_cons_zero, List.set_cons_succ, i64_w, i32_w]
            rfl
          refine pure_ (i := 18) (N := some 69) (v := ?_) (a' := ?_) qP40 rfl rfl (by kernel_rfl) (fun _ _ _ h => h) (Or.inl ⟨by rfl, ?_⟩) ?_ ?_
          rotate_left
          · intro w'
            go_simp
            with_reducible rfl
          rotate_left
          · simp only [Act.put, List.setIfInBounds_toArray, List.set_cons_zero, List.set_cons_succ, i64_w, i32_w]
            rfl
          refine pure_ (i := 19) (N := some 70) (v := ?_) (a' := ?_) qP41 rfl rfl (by kernel_rfl) (fun _ _ _ h => h) (Or.inl ⟨by rfl, ?_⟩) ?_ ?_
          rotate_left
          · intro w'
            go_simp
            with_reducible rfl
          rotate_left
          · simp only [Act.put, List.setIfInBounds_toArray, List.set_cons_zero, List.set_cons_succ, i64_w, i32_w]
            rfl
          refine pure_ (i := 20) (N := some 71) (v := ?_) (a' := ?_) qP42 rfl rfl (by kernel_rfl) (fun _ _ _ h => h) (Or.inl ⟨by rfl, ?_⟩) ?_ ?_
          rotate_left
          · intro w'
            go_simp
            with_reducible rfl
          rotate_left
          · simp only [Act.put, List.setIfInBounds_toArray, List.set_cons_zero, List.set_cons_succ, i64_w, i32_w]
            rfl
          refine pure_ (i := 21) (N := some 72) (v := undef) (a' := ?_) qP43 rfl rfl (by kernel_rfl) (fun _ _ _ h => h) (Or.inr ⟨by rfl, rfl⟩) ?_ ?_
          rotate_left
          · simp only [Act.put, List.setIfInBounds_toArray, List.set_cons_zero, List.set_cons_succ, i64_w, i32_w]
            rfl
          refine pure_ (i := 22) (N := some 73) (v := undef) (a' := ?_) qP44 rfl rfl (by kernel_rfl) (fun _ _ _ h => h) (Or.inr ⟨by rfl, rfl⟩) ?_ ?_
          rotate_left
          · simp only [Act.put, List.setIfInBounds_toArray, List.set_cons_zero, List.set_cons_succ, i64_w, i32_w]
            rfl
          refine pure_ (i := 23) (N := some 74) (v := undef) (a' := ?_) qP45 rfl rfl (by kernel_rfl) (fun _ _ _ h => h) (Or.inr ⟨by rfl, rfl⟩) ?_ ?_
          rotate_left
          · simp only [Act.put, List.setIfInBounds_toArray, List.set_cons_zero, List.set_cons_succ, i64_w, i32_w]
            rfl
          refine pure_ (i := 24) (N := some 75) (v := undef) (a' := ?_) qP47 rfl rfl (by kernel_rfl) (fun _ _ _ h => h) (Or.inr ⟨by rfl, rfl⟩) ?_ ?_
          rotate_left
          · simp only [Act.put, List.setIfInBounds_toArray, List.set_cons_zero, List.set_cons_succ, i64_w, i32_w]
            rfl
          refine pure_ (i := 25) (N := some 76) (v := ?_) (a' := ?_) qP48 rfl rfl (by kernel_rfl) (fun _ _ _ h => h) (Or.inl ⟨by rfl, ?_⟩) ?_ ?_
          rotate_left
          · intro w'
            go_simp
            with_reducible rfl
          rotate_left
          · simp only [Act.put, List.setIfInBounds_toArray, List.set_cons_zero, List.set_cons_succ, i64_w, i32_w]
            rfl
          refine take_ (i := 1) (N := some 52) (v := ?_) (a' := ?_) qP49 rfl rfl (by kernel_rfl) (fun _ _ _ h => h) (Or.inl ⟨by rfl, ?_⟩) hHeld ?_ ?_
          rotate_left
          · rintro w' ⟨s0, s1⟩
            go_simp
            with_reducible rfl
          rotate_left
          · simp only [Act.put, List.setIfInBounds_toArray, List.set_cons_zero, List.set_cons_succ, i64_w, i32_w]
            rfl
          refine pure_ (i := 26) (N := some 77) (v := ?_) (a' := ?_) qP50 rfl rfl (by kernel_rfl) (fun _ _ _ h => h) (Or.inl ⟨by rfl, ?_⟩) ?_ ?_
          rotate_left
          · intro w'
            go_simp
            with_reducible rfl
          rotate_left
          · simp only [Act.put, List.setIfInBounds_toArray, List.set_cons_zero, List.set_cons_succ, i64_w, i32_w]
            rfl
          refine take_ (i := 4) (N := some 55) (v := ?_) (a' := ?_) qP27 rfl rfl (by kernel_rfl) (fun _ _ _ h => h) (Or.inl ⟨by rfl, ?_⟩) hHeld ?_ ?_
          rotate_left
          · rintro w' ⟨s0, s1⟩
            go_simp
            with_reducible rfl
          rotate_left
          · simp only [Act.put, List.setIfInBounds_toArray, List.set_cons_zero, List.set_cons_succ, i64_w, i32_w]
            rfl
          refine one_ (i := 27) (N := none) qP28 rfl rfl (by kernel_rfl) (by decide) (fun K hK => ?_)
          refine storeB_step (by rfl) rfl _ _ rfl g1 k (false) _ rfl rfl c1 f1 ?_
          refine hK.out _ _ ⟨(blk_cell hsn 11), (blk_cell hsn 12)⟩ (fun hHeld => ?_)
          clear hK K
          refine pure_ (i := 28) (N := some 78) (v := ?_) (a' := ?_) qP29 rfl rfl (by kernel_rfl) (fun _ _ _ h => h) (Or.inl ⟨by rfl, ?_⟩) ?_ ?_
          rotate_left
          · intro w'
            go_simp
            with_reducible rfl
          rotate_left
          · simp only [Act.put, List.setIfInBounds_toArray, List.set_cons_zero, List.set_cons_succ, i64_w, i32_w]
            rfl
          refine last_ (i := 29) (N := none) qP30 rfl rfl (by kernel_rfl) (by decide) (fun K hK => ?_)
          refine storeB_step (by rfl) rfl _ _ rfl g2 k (false) _ rfl rfl c2 f2 ?_
          refine hK.out _ _ ?_
          clear hK K
          refine done_ (by kernel_rfl) ?_
          go_wp2_with fail
          go_roundw
          case rel => exact ⟨k + 1, by have := HLT.out; omega, by rw [HWK.out], HS2⟩
          case measure => rw [HWK.out]; have := HLT.out; simp [RowKit.intOf]; omega
    · have t0 : decide ((k : Int) < (lx.length : Int)) = false := decide_eq_false (by omega)
      obtain rfl : k = lx.length := by omega
      have HB5 := Aside0.mk (below_then HB3.out HB3.out.size HS.out.bel)
      have BM5 := Aside0.mk HS.out.hx
      have SB5 := Aside0.mk HS.out.hs
      have CN5 : Aside0 (CIn AX cX lx v (chainOf n) wr) := ⟨⟨Kd.C_below XN3.out HS.out.bel, HCX.out, HNX.out, CH3.out.below HS.out.bel⟩⟩
      have SP5 : Aside0 (SIn AX cX lx (pullS e z3 z4 lx.length lx.length) AB cB AN cN v (chainOf n) wr) := ⟨by
        have e1 : (pullS e z3 z4 lx.length lx.length).bf.length = lx.length := rowOf_len _ _ _
        have e2 : (pullS e z3 z4 lx.length lx.length).nw.length = lx.length := rowOf_len _ _ _
        have hr : Rows2 w3.heap.size (pullS e z3 z4 lx.length lx.length) AB cB AN cN wr := ⟨by rw [e1]; exact HS.out.r1, by rw [e2]; exact HS.out.r2, by rw [e1, e2]; exact HS.out.ne⟩
        exact hr.sin CN5.out (by rw [e1]; exact HNX.out) (by rw [e2]; exact HNX.out) (by have := HE.out; simp only [pullS]; omega)⟩
      go_upto_region 14 with fail
      obtain ⟨w5, hw5⟩ : ∃ x, x = wr := ⟨_, rfl⟩
      rw [← hw5] at HB5 BM5 SB5 SP5
      rw [← hw5]
      clear hw5 CN5 HS
      refine start_ (n := 12) (S := fun w' => w'.cell? ⟨xb, 0, none⟩ = some (.slice AX lx.length cX) ∧ w'.cell? ⟨xb, 1, none⟩ = some (.int .i64 sx) ∧ w'.cell? ⟨xb, 2, none⟩ = some (.int .i64 bx) ∧ w'.cell? ⟨sb, 0, none⟩ = some (.bool false) ∧ w'.cell? ⟨sb, 1, none⟩ = some (.bool false) ∧ w'.cell? ⟨sb, 2, none⟩ = some (.bool false) ∧ w'.cell? ⟨sb, 3, none⟩ = some (.bool false) ∧ w'.cell? ⟨sb, 4, none⟩ = some (.int .i64 0) ∧ w'.cell? ⟨sb, 5, none⟩ = some (.int .u64 7) ∧ w'.cell? ⟨sb, 6, none⟩ = some (.int .i64 0) ∧ w'.cell? ⟨sb, 7, none⟩ = some (.int .u64 7) ∧ w'.cell? ⟨sb, 8, none⟩ = some (.int .i64 0) ∧ w'.cell? ⟨sb, 9, none⟩ = some (.int .u64 7) ∧ w'.cell? ⟨sb, 10, none⟩ = some (.int .i64 e) ∧ w'.cell? ⟨sb, 11, none⟩ = some (.slice AB lx.length cB) ∧ w'.cell? ⟨sb, 12, none⟩ = some (.slice AN lx.length cN)) (ds := [11]) qP51 (by kernel_rfl) rfl rfl ⟨(blk_cell BM5.out 0), (blk_cell BM5.out 1), (blk_cell BM5.out 2), (blk_cell SB5.out 0), (blk_cell SB5.out 1), (blk_cell SB5.out 2), (blk_cell SB5.out 3), (blk_cell SB5.out 4), (blk_cell SB5.out 5), (blk_cell SB5.out 6), (blk_cell SB5.out 7), (blk_cell SB5.out 8), (blk_cell SB5.out 9), (blk_cell SB5.out 10), (blk_cell SB5.out 11), (blk_cell SB5.out 12)⟩ (fun hHeld => ?_)
      refine pure_ (i := 2) (N := some 82) (v := ?_) (a' := ?_) qP52 rfl rfl (by kernel_rfl) (fun _ _ _ h => h) (Or.inl ⟨by rfl, ?_⟩) ?_ ?_
      rotate_left
      · intro w'
        go_simp
        with_reducible rfl
      rotate_left
      · simp only [Act.put, List.setIfInBounds_toArray, List.set_cons_zero, List.set_cons_succ, i64_w, i32_w]
        rfl
      refine pure_ (i := 5) (N := some 85) (v := ?_) (a' := ?_) qP53 rfl rfl (by kernel_rfl) (fun _ _ _ h => h) (Or.inl ⟨by rfl, ?_⟩) ?_ ?_
      rotate_left
      · intro w'
        go_simp
        with_reducible rfl
      rotate_left
      · simp only [Act.put, List.setIfInBounds_toArray, List.set_cons_zero, List.set_cons_succ, i64_w, i32_w]
        rfl
      refine pure_ (i := 8) (N := some 88) (v := ?_) (a' := ?_) qP54 rfl rfl (by kernel_rfl) (fun _ _ _ h => h) (Or.inl ⟨by rfl, ?_⟩) ?_ ?_
      rotate_left
      · intro w'
        go_simp
        with_reducible rfl
      rotate_left
      · simp only [Act.put, List.setIfInBounds_toArray, List.set_cons_zero, List.set_cons_succ, i64_w, i32_w]
        rfl
      refine take_ (i := 0) (N := some 80) (v := ?_) (a' := ?_) qP55 rfl rfl (by kernel_rfl) (fun _ _ _ h => h) (Or.inl ⟨by rfl, ?_⟩) hHeld ?_ ?_
      rotate_left
      · rintro w' ⟨s0, s1, s2, s3, s4, s5, s6, s7, s8, s9, s10, s11, s12, s13, s14, s15⟩
        go_simp
        with_reducible rfl
      rotate_left
      · simp only [Act.put, List.setIfInBounds_toArray, List.set_cons_zero, List.set_cons_succ, i64_w, i32_w]
        rfl
      refine take_ (i := 1) (N := some 81) (v := ?_) (a' := ?_) qP56 rfl rfl (by kernel_rfl) (fun _ _ _ h => h) (Or.inl ⟨by rfl, ?_⟩) hHeld ?_ ?_
      rotate_left
      · rintro w' ⟨s0, s1, s2, s3, s4, s5, s6, s7, s8, s9, s10, s11, s12, s13, s14, s15⟩
        go_simp
        with_reducible rfl
      rotate_left
      · simp only [Act.put, List.setIfInBounds_toArray, List.set_cons_zero, List.set_cons_succ, i64_w, i32_w]
        rfl
      refine take_ (i := 3) (N := some 83) (v := ?_) (a' := ?_) qP57 rfl rfl (by kernel_rfl) (fun _ _ _ h => h) (Or.inl ⟨by rfl, ?_⟩) hHeld ?_ ?_
      rotate_left
      · rintro w' ⟨s0, s1, s2, s3, s4, s5, s6, s7, s8, s9, s10, s11, s12, s13, s14, s15⟩
        go_simp
        with_reducible rfl
      rotate_left
      · simp only [Act.put, List.setIfInBounds_toArray, List.set_cons_zero, List.set_cons_succ, i64_w, i32_w]
        rfl
      refine pure_ (i := 4) (N := some 84) (v := ?_) (a' := ?_) qP58 rfl rfl (by kernel_rfl) (fun _ _ _ h => h) (Or.inl ⟨by rfl, ?_⟩) ?_ ?_
      rotate_left
      · intro w'
        go_simp
        with_reducible rfl
      rotate_left
      · simp only [Act.put, List.setIfInBounds_toArray, List.set_cons_zero, List.set_cons_succ, i64_w, i32_w]
        rfl
      refine take_ (i := 6) (N := some 86) (v := ?_) (a' := ?_) qP59 rfl rfl (by kernel_rfl) (fun _ _ _ h => h) (Or.inl ⟨by rfl, ?_⟩) hHeld ?_ ?_
      rotate_left
      · rintro w' ⟨s0, s1, s2, s3, s4, s5, s6, s7, s8, s9, s10, s11, s12, s13, s14, s15⟩
        go_simp
        with_reducible rfl
      rotate_left
      · simp only [Act.put, List.setIfInBounds_toArray, List.set_cons_zero, List.set_cons_succ, i64_w, i32_w]
        rfl
      refine join_ (σ := Value × Value × Value) 1 qP60 (fun s_ => [(87, s_.1), (89, s_.2.1), (15, s_.2.2)]) (fun s_ w' => (w'.cell? ⟨xb, 0, none⟩ = some (.slice AX lx.length cX) ∧ w'.cell? ⟨xb, 1, none⟩ = some (.int .i64 sx) ∧ w'.cell? ⟨xb, 2, none⟩ = some (.int .i64 bx) ∧ w'.cell? ⟨sb, 0, none⟩ = some (.bool false) ∧ w'.cell? ⟨sb, 1, none⟩ = some (.bool false) ∧ w'.cell? ⟨sb, 2, none⟩ = some (.bool false) ∧ w'.cell? ⟨sb, 3, none⟩ = some (.bool false) ∧ w'.cell? ⟨sb, 4, none⟩ = some (.int .i64 0) ∧ w'.cell? ⟨sb, 5, none⟩ = some (.int .u64 7) ∧ w'.cell? ⟨sb, 6, none⟩ = some (.int .i64 0) ∧ w'.cell? ⟨sb, 7, none⟩ = some (.int .u64 7) ∧ w'.cell? ⟨sb, 8, none⟩ = some (.int .i64 0) ∧ w'.cell? ⟨sb, 9, none⟩ = some (.int .u64 7) ∧ w'.cell? ⟨sb, 10, none⟩ = some (.int .i64 e) ∧ w'.cell? ⟨sb, 11, none⟩ = some (.slice AB lx.length cB) ∧ w'.cell? ⟨sb, 12, none⟩ = some (.slice AN lx.length cN)) ∧ (∃ A1 d1 A2 d2 g, s_ = (.int .i64 (startOf (wrap64 (e + 1)) sx), .agg (stC (advTo lx sx (chainOf n) (pullS e z3 z4 lx.length lx.length) (startOf (wrap64 (e + 1)) sx)) A1 d1 A2 d2), .pointer (some ⟨g, 0, none⟩)) ∧ (SIn AX cX lx (advTo lx sx (chainOf n) (pullS e z3 z4 lx.length lx.length) (startOf (wrap64 (e + 1)) sx)) A1 d1 A2 d2 v (chainOf n) w') ∧ (w'.heap[g]? = some (.cells #[.bool false, .bool false, .bool false, .bool false, .int .i64 0, .int .u64 0, .int .i64 0, .int .u64 0, .int .i64 0, .int .u64 0, .int .i64 0, .slice none 0 0, .slice none 0 0] 39 (0, 0))) ∧ (w5.heap.size ≤ g)) ∧ Below w5.heap.size w5 w') ?_ ?_
      rotate_left
      · intro hCont
        refine two_ (i := 7) (j := 10) (Ni := some 87) (Nj := some 15) qP61 qP62 rfl rfl rfl rfl (by kernel_rfl) (by decide) (by decide) (fun K hK => ?_) (fun K hK => ?_)
        · skip
          refine goes_ Try.func17 (by kernel_rfl) rfl #[.int .i64 (wrap64 (e + 1)), .int .i64 sx] (by rfl) rfl rfl (by simp only [List.map_toArray, List.map_cons, List.map_nil]; rfl) ?_
          with_reducible refine (epoch_Start.calls _ _ _ _ (start_f (wrap64 (e + 1)) sx)).mono ?_
          rintro x wq1 ⟨rfl, hb⟩
          refine ⟨_, rfl, ?_⟩
          have HQ1 := Aside0.mk (below_then (below_drew (Below.refl w5.heap.size w5)) (Nat.le_refl _) hb)
          clear hb 
          refine hK.out _ _ ⟨(pw_cell_below HQ1.out (blk_cell BM5.out 0)), (pw_cell_below HQ1.out (blk_cell BM5.out 1)), (pw_cell_below HQ1.out (blk_cell BM5.out 2)), (pw_cell_below HQ1.out (blk_cell SB5.out 0)), (pw_cell_below HQ1.out (blk_cell SB5.out 1)), (pw_cell_below HQ1.out (blk_cell SB5.out 2)), (pw_cell_below HQ1.out (blk_cell SB5.out 3)), (pw_cell_below HQ1.out (blk_cell SB5.out 4)), (pw_cell_below HQ1.out (blk_cell SB5.out 5)), (pw_cell_below HQ1.out (blk_cell SB5.out 6)), (pw_cell_below HQ1.out (blk_cell SB5.out 7)), (pw_cell_below HQ1.out (blk_cell SB5.out 8)), (pw_cell_below HQ1.out (blk_cell SB5.out 9)), (pw_cell_below HQ1.out (blk_cell SB5.out 10)), (pw_cell_below HQ1.out (blk_cell SB5.out 11)), (pw_cell_below HQ1.out (blk_cell SB5.out 12))⟩ (fun hHeld => ?_)
          clear hK K
          refine norm_ (a' := ?_) ?_ ?_
          rotate_left
          · show Act.put _ (some 87) _ = _
            simp only [Act.put, List.setIfInBounds_toArray, List.set_cons_zero, List.set_cons_succ, i64_w, i32_w]
            rfl
          refine two_ (i := 9) (j := 10) (Ni := some 89) (Nj := some 15) qP63 qP64 rfl rfl rfl rfl (by kernel_rfl) (by decide) (by decide) (fun K hK => ?_) (fun K hK => ?_)
          · skip
            refine goes_ Try.func13 (by kernel_rfl) rfl #[.agg #[.slice AX lx.length cX, .int .i64 sx, .int .i64 bx], .agg #[.bool false, .bool false, .bool false, .bool false, .int .i64 0, .int .u64 7, .int .i64 0, .int .u64 7, .int .i64 0, .int .u64 7, .int .i64 e, .slice AB lx.length cB, .slice AN lx.length cN], .int .i64 (startOf (wrap64 (e + 1)) sx), v] (by rfl) rfl rfl (by simp only [List.map_toArray, List.map_cons, List.map_nil]; rfl) ?_
            with_reducible refine (advQ AX cX lx sx bx e z3 z4 AB cB AN cN (startOf (wrap64 (e + 1)) sx) v (chainOf n) _ (SP5.out.below HQ1.out) (start_range _ _)).mono ?_
            rintro x wq2 ⟨A1, d1, A2, d2, rfl, h_SJ, hb⟩
            refine ⟨_, rfl, ?_⟩
            have HQ2 := Aside0.mk (below_then HQ1.out HQ1.out.size hb)
            have SJ_2 := Aside0.mk h_SJ
            clear hb h_SJ
            refine hK.out _ _ ⟨(pw_cell_below HQ2.out (blk_cell BM5.out 0)), (pw_cell_below HQ2.out (blk_cell BM5.out 1)), (pw_cell_below HQ2.out (blk_cell BM5.out 2)), (pw_cell_below HQ2.out (blk_cell SB5.out 0)), (pw_cell_below HQ2.out (blk_cell SB5.out 1)), (pw_cell_below HQ2.out (blk_cell SB5.out 2)), (pw_cell_below HQ2.out (blk_cell SB5.out 3)), (pw_cell_below HQ2.out (blk_cell SB5.out 4)), (pw_cell_below HQ2.out (blk_cell SB5.out 5)), (pw_cell_below HQ2.out (blk_cell SB5.out 6)), (pw_cell_below HQ2.out (blk_cell SB5.out 7)), (pw_cell_below HQ2.out (blk_cell SB5.out 8)), (pw_cell_below HQ2.out (blk_cell SB5.out 9)), (pw_cell_below HQ2.out (blk_cell SB5.out 10)), (pw_cell_below HQ2.out (blk_cell SB5.out 11)), (pw_cell_below HQ2.out (blk_cell SB5.out 12))⟩ (fun hHeld => ?_)
            clear hK K
            refine norm_ (a' := ?_) ?_ ?_
            rotate_left
            · show Act.put _ (some 89) _ = _
              simp only [Act.put, List.setIfInBounds_toArray, List.set_cons_zero, List.set_cons_succ, i64_w, i32_w]
              rfl
            refine one_ (i := 10) (N := some 15) qP60 rfl rfl (by kernel_rfl) (by decide) (fun K hK => ?_)
            refine alloc_step (base := wq2.heap.size) (w0 := wq2) 39 #[.bool false, .bool false, .bool false, .bool false, .int .i64 0, .int .u64 0, .int .i64 0, .int .u64 0, .int .i64 0, .int .u64 0, .int .i64 0, .slice none 0 0, .slice none 0 0] (by rfl) rfl rfl (by kernel_rfl) (Below.refl _ _) (Nat.le_refl _) ?_
            intro g wq3 h_GZ hge hb hg_
            have h_GEGZ : w5.heap.size ≤ g := Nat.le_trans HQ2.out.size hge
            clear hge hg_
            have HQ3 := Aside0.mk (below_then HQ2.out HQ2.out.size hb)
            have GZ_3 := Aside0.mk h_GZ
            have GEGZ_3 := Aside0.mk h_GEGZ
            have SJ_3 := Aside0.mk (SIn.below SJ_2.out hb)
            clear hb h_GZ h_GEGZ
            refine hK.out _ _ ⟨(pw_cell_below HQ3.out (blk_cell BM5.out 0)), (pw_cell_below HQ3.out (blk_cell BM5.out 1)), (pw_cell_below HQ3.out (blk_cell BM5.out 2)), (pw_cell_below HQ3.out (blk_cell SB5.out 0)), (pw_cell_below HQ3.out (blk_cell SB5.out 1)), (pw_cell_below HQ3.out (blk_cell SB5.out 2)), (pw_cell_below HQ3.out (blk_cell SB5.out 3)), (pw_cell_below HQ3.out (blk_cell SB5.out 4)), (pw_cell_below HQ3.out (blk_cell SB5.out 5)), (pw_cell_below HQ3.out (blk_cell SB5.out 6)), (pw_cell_below HQ3.out (blk_cell SB5.out 7)), (pw_cell_below HQ3.out (blk_cell SB5.out 8)), (pw_cell_below HQ3.out (blk_cell SB5.out 9)), (pw_cell_below HQ3.out (blk_cell SB5.out 10)), (pw_cell_below HQ3.out (blk_cell SB5.out 11)), (pw_cell_below HQ3.out (blk_cell SB5.out 12))⟩ (fun hHeld => ?_)
            clear hK K
            refine norm_ (a' := ?_) ?_ ?_
            rotate_left
            · show Act.put _ (some 15) _ = _
              simp only [Act.put, List.setIfInBounds_toArray, List.set_cons_zero, List.set_cons_succ, i64_w, i32_w]
              rfl
            exact norm_ (by simp only [putAll, Act.put, List.setIfInBounds_toArray, List.set_cons_zero, List.set_cons_succ]) (hCont (.int .i64 (startOf (wrap64 (e + 1)) sx), .agg (stC (advTo lx sx (chainOf n) (pullS e z3 z4 lx.length lx.length) (startOf (wrap64 (e + 1)) sx)) A1 d1 A2 d2), .pointer (some ⟨g, 0, none⟩)) _ ⟨hHeld, ⟨A1, d1, A2, d2, g, rfl, SJ_3.out, GZ_3.out, GEGZ_3.out⟩, HQ3.out⟩)
          · skip
            refine alloc_step (base := wq1.heap.size) (w0 := wq1) 39 #[.bool false, .bool false, .bool false, .bool false, .int .i64 0, .int .u64 0, .int .i64 0, .int .u64 0, .int .i64 0, .int .u64 0, .int .i64 0, .slice none 0 0, .slice none 0 0] (by rfl) rfl rfl (by kernel_rfl) (Below.refl _ _) (Nat.le_refl _) ?_
            intro g wq2 h_GZ hge hb hg_
            have h_GEGZ : w5.heap.size ≤ g := Nat.le_trans HQ1.out.size hge
            clear hge hg_
            have HQ2 := Aside0.mk (below_then HQ1.out HQ1.out.size hb)
            have GZ_2 := Aside0.mk h_GZ
            have GEGZ_2 := Aside0.mk h_GEGZ
            clear hb h_GZ h_GEGZ
            refine hK.out _ _ ⟨(pw_cell_below HQ2.out (blk_cell BM5.out 0)), (pw_cell_below HQ2.out (blk_cell BM5.out 1)), (pw_cell_below HQ2.out (blk_cell BM5.out 2)), (pw_cell_below HQ2.out (blk_cell SB5.out 0)), (pw_cell_below HQ2.out (blk_cell SB5.out 1)), (pw_cell_below HQ2.out (blk_cell SB5.out 2)), (pw_cell_below HQ2.out (blk_cell SB5.out 3)), (pw_cell_below HQ2.out (blk_cell SB5.out 4)), (pw_cell_below HQ2.out (blk_cell SB5.out 5)), (pw_cell_below HQ2.out (blk_cell SB5.out 6)), (pw_cell_below HQ2.out (blk_cell SB5.out 7)), (pw_cell_below HQ2.out (blk_cell SB5.out 8)), (pw_cell_below HQ2.out (blk_cell SB5.out 9)), (pw_cell_below HQ2.out (blk_cell SB5.out 10)), (pw_cell_below HQ2.out (blk_cell SB5.out 11)), (pw_cell_below HQ2.out (blk_cell SB5.out 12))⟩ (fun hHeld => ?_)
            clear hK K
            refine norm_ (a' := ?_) ?_ ?_
            rotate_left
            · show Act.put _ (some 15) _ = _
              simp only [Act.put, List.setIfInBounds_toArray, List.set_cons_zero, List.set_cons_succ, i64_w, i32_w]
              rfl
            refine one_ (i := 9) (N := some 89) qP60 rfl rfl (by kernel_rfl) (by decide) (fun K hK => ?_)
            refine goes_ Try.func13 (by kernel_rfl) rfl #[.agg #[.slice AX lx.length cX, .int .i64 sx, .int .i64 bx], .agg #[.bool false, .bool false, .bool false, .bool false, .int .i64 0, .int .u64 7, .int .i64 0, .int .u64 7, .int .i64 0, .int .u64 7, .int .i64 e, .slice AB lx.length cB, .slice AN lx.length cN], .int .i64 (startOf (wrap64 (e + 1)) sx), v] (by rfl) rfl rfl (by simp only [List.map_toArray, List.map_cons, List.map_nil]; rfl) ?_
            with_reducible refine (advQ AX cX lx sx bx e z3 z4 AB cB AN cN (startOf (wrap64 (e + 1)) sx) v (chainOf n) _ (SP5.out.below HQ2.out) (start_range _ _)).mono ?_
            rintro x wq3 ⟨A1, d1, A2, d2, rfl, h_SJ, hb⟩
            refine ⟨_, rfl, ?_⟩
            have HQ3 := Aside0.mk (below_then HQ2.out HQ2.out.size hb)
            have SJ_3 := Aside0.mk h_SJ
            have GZ_3 := Aside0.mk (blk_below GZ_2.out hb)
            have GEGZ_3 := Aside0.mk (GEGZ_2.out)
            clear hb h_SJ
            refine hK.out _ _ ⟨(pw_cell_below HQ3.out (blk_cell BM5.out 0)), (pw_cell_below HQ3.out (blk_cell BM5.out 1)), (pw_cell_below HQ3.out (blk_cell BM5.out 2)), (pw_cell_below HQ3.out (blk_cell SB5.out 0)), (pw_cell_below HQ3.out (blk_cell SB5.out 1)), (pw_cell_below HQ3.out (blk_cell SB5.out 2)), (pw_cell_below HQ3.out (blk_cell SB5.out 3)), (pw_cell_below HQ3.out (blk_cell SB5.out 4)), (pw_cell_below HQ3.out (blk_cell SB5.out 5)), (pw_cell_below HQ3.out (blk_cell SB5.out 6)), (pw_cell_below HQ3.out (blk_cell SB5.out 7)), (pw_cell_below HQ3.out (blk_cell SB5.out 8)), (pw_cell_below HQ3.out (blk_cell SB5.out 9)), (pw_cell_below HQ3.out (blk_cell SB5.out 10)), (pw_cell_below HQ3.out (blk_cell SB5.out 11)), (pw_cell_below HQ3.out (blk_cell SB5.out 12))⟩ (fun hHeld => ?_)
            clear hK K
            refine norm_ (a' := ?_) ?_ ?_
            rotate_left
            · show Act.put _ (some 89) _ = _
              simp only [Act.put, List.setIfInBounds_toArray, List.set_cons_zero, List.set_cons_succ, i64_w, i32_w]
              rfl
            exact norm_ (by simp only [putAll, Act.put, List.setIfInBounds_toArray, List.set_cons_zero, List.set_cons_succ]) (hCont (.int .i64 (startOf (wrap64 (e + 1)) sx), .agg (stC (advTo lx sx (chainOf n) (pullS e z3 z4 lx.length lx.length) (startOf (wrap64 (e + 1)) sx)) A1 d1 A2 d2), .pointer (some ⟨g, 0, none⟩)) _ ⟨hHeld, ⟨A1, d1, A2, d2, g, rfl, SJ_3.out, GZ_3.out, GEGZ_3.out⟩, HQ3.out⟩)
        · skip
          refine alloc_step (base := w5.drew.heap.size) (w0 := w5.drew) 39 #[.bool false, .bool false, .bool false, .bool false, .int .i64 0, .int .u64 0, .int .i64 0, .int .u64 0, .int .i64 0, .int .u64 0, .int .i64 0, .slice none 0 0, .slice none 0 0] (by rfl) rfl rfl (by kernel_rfl) (Below.refl _ _) (Nat.le_refl _) ?_
          intro g wq1 h_GZ hge hb hg_
          have h_GEGZ : w5.heap.size ≤ g := Nat.le_trans (below_drew (Below.refl w5.heap.size w5)).size hge
          clear hge hg_
          have HQ1 := Aside0.mk (below_then (below_drew (Below.refl w5.heap.size w5)) (Nat.le_refl _) hb)
          have GZ_1 := Aside0.mk h_GZ
          have GEGZ_1 := Aside0.mk h_GEGZ
          clear hb h_GZ h_GEGZ
          refine hK.out _ _ ⟨(pw_cell_below HQ1.out (blk_cell BM5.out 0)), (pw_cell_below HQ1.out (blk_cell BM5.out 1)), (pw_cell_below HQ1.out (blk_cell BM5.out 2)), (pw_cell_below HQ1.out (blk_cell SB5.out 0)), (pw_cell_below HQ1.out (blk_cell SB5.out 1)), (pw_cell_below HQ1.out (blk_cell SB5.out 2)), (pw_cell_below HQ1.out (blk_cell SB5.out 3)), (pw_cell_below HQ1.out (blk_cell SB5.out 4)), (pw_cell_below HQ1.out (blk_cell SB5.out 5)), (pw_cell_below HQ1.out (blk_cell SB5.out 6)), (pw_cell_below HQ1.out (blk_cell SB5.out 7)), (pw_cell_below HQ1.out (blk_cell SB5.out 8)), (pw_cell_below HQ1.out (blk_cell SB5.out 9)), (pw_cell_below HQ1.out (blk_cell SB5.out 10)), (pw_cell_below HQ1.out (blk_cell SB5.out 11)), (pw_cell_below HQ1.out (blk_cell SB5.out 12))⟩ (fun hHeld => ?_)
          clear hK K
          refine norm_ (a' := ?_) ?_ ?_
          rotate_left
          · show Act.put _ (some 15) _ = _
            simp only [Act.put, List.setIfInBounds_toArray, List.set_cons_zero, List.set_cons_succ, i64_w, i32_w]
            rfl
          refine one_ (i := 7) (N := some 87) qP64 rfl rfl (by kernel_rfl) (by decide) (fun K hK => ?_)
          refine goes_ Try.func17 (by kernel_rfl) rfl #[.int .i64 (wrap64 (e + 1)), .int .i64 sx] (by rfl) rfl rfl (by simp only [List.map_toArray, List.map_cons, List.map_nil]; rfl) ?_
          with_reducible refine (epoch_Start.calls _ _ _ _ (start_f (wrap64 (e + 1)) sx)).mono ?_
          rintro x wq2 ⟨rfl, hb⟩
          refine ⟨_, rfl, ?_⟩
          have HQ2 := Aside0.mk (below_then HQ1.out HQ1.out.size hb)
          have GZ_2 := Aside0.mk (blk_below GZ_1.out hb)
          have GEGZ_2 := Aside0.mk (GEGZ_1.out)
          clear hb 
          refine hK.out _ _ ⟨(pw_cell_below HQ2.out (blk_cell BM5.out 0)), (pw_cell_below HQ2.out (blk_cell BM5.out 1)), (pw_cell_below HQ2.out (blk_cell BM5.out 2)), (pw_cell_below HQ2.out (blk_cell SB5.out 0)), (pw_cell_below HQ2.out (blk_cell SB5.out 1)), (pw_cell_below HQ2.out (blk_cell SB5.out 2)), (pw_cell_below HQ2.out (blk_cell SB5.out 3)), (pw_cell_below HQ2.out (blk_cell SB5.out 4)), (pw_cell_below HQ2.out (blk_cell SB5.out 5)), (pw_cell_below HQ2.out (blk_cell SB5.out 6)), (pw_cell_below HQ2.out (blk_cell SB5.out 7)), (pw_cell_below HQ2.out (blk_cell SB5.out 8)), (pw_cell_below HQ2.out (blk_cell SB5.out 9)), (pw_cell_below HQ2.out (blk_cell SB5.out 10)), (pw_cell_below HQ2.out (blk_cell SB5.out 11)), (pw_cell_below HQ2.out (blk_cell SB5.out 12))⟩ (fun hHeld => ?_)
          clear hK K
          refine norm_ (a' := ?_) ?_ ?_
          rotate_left
          · show Act.put _ (some 87) _ = _
            simp only [Act.put, List.setIfInBounds_toArray, List.set_cons_zero, List.set_cons_succ, i64_w, i32_w]
            rfl
          refine one_ (i := 9) (N := some 89) qP60 rfl rfl (by kernel_rfl) (by decide) (fun K hK => ?_)
          refine goes_ Try.func13 (by kernel_rfl) rfl #[.agg #[.slice AX lx.length cX, .int .i64 sx, .int .i64 bx], .agg #[.bool false, .bool false, .bool false, .bool false, .int .i64 0, .int .u64 7, .int .i64 0, .int .u64 7, .int .i64 0, .int .u64 7, .int .i64 e, .slice AB lx.length cB, .slice AN lx.length cN], .int .i64 (startOf (wrap64 (e + 1)) sx), v] (by rfl) rfl rfl (by simp only [List.map_toArray, List.map_cons, List.map_nil]; rfl) ?_
          with_reducible refine (advQ AX cX lx sx bx e z3 z4 AB cB AN cN (startOf (wrap64 (e + 1)) sx) v (chainOf n) _ (SP5.out.below HQ2.out) (start_range _ _)).mono ?_
          rintro x wq3 ⟨A1, d1, A2, d2, rfl, h_SJ, hb⟩
          refine ⟨_, rfl, ?_⟩
          have HQ3 := Aside0.mk (below_then HQ2.out HQ2.out.size hb)
          have SJ_3 := Aside0.mk h_SJ
          have GZ_3 := Aside0.mk (blk_below GZ_2.out hb)
          have GEGZ_3 := Aside0.mk (GEGZ_2.out)
          clear hb h_SJ
          refine hK.out _ _ ⟨(pw_cell_below HQ3.out (blk_cell BM5.out 0)), (pw_cell_below HQ3.out (blk_cell BM5.out 1)), (pw_cell_below HQ3.out (blk_cell BM5.out 2)), (pw_cell_below HQ3.out (blk_cell SB5.out 0)), (pw_cell_below HQ3.out (blk_cell SB5.out 1)), (pw_cell_below HQ3.out (blk_cell SB5.out 2)), (pw_cell_below HQ3.out (blk_cell SB5.out 3)), (pw_cell_below HQ3.out (blk_cell SB5.out 4)), (pw_cell_below HQ3.out (blk_cell SB5.out 5)), (pw_cell_below HQ3.out (blk_cell SB5.out 6)), (pw_cell_below HQ3.out (blk_cell SB5.out 7)), (pw_cell_below HQ3.out (blk_cell SB5.out 8)), (pw_cell_below HQ3.out (blk_cell SB5.out 9)), (pw_cell_below HQ3.out (blk_cell SB5.out 10)), (pw_cell_below HQ3.out (blk_cell SB5.out 11)), (pw_cell_below HQ3.out (blk_cell SB5.out 12))⟩ (fun hHeld => ?_)
          clear hK K
          refine norm_ (a' := ?_) ?_ ?_
          rotate_left
          · show Act.put _ (some 89) _ = _
            simp only [Act.put, List.setIfInBounds_toArray, List.set_cons_zero, List.set_cons_succ, i64_w, i32_w]
            rfl
          exact norm_ (by simp only [putAll, Act.put, List.setIfInBounds_toArray, List.set_cons_zero, List.set_cons_succ]) (hCont (.int .i64 (startOf (wrap64 (e + 1)) sx), .agg (stC (advTo lx sx (chainOf n) (pullS e z3 z4 lx.length lx.length) (startOf (wrap64 (e + 1)) sx)) A1 d1 A2 d2), .pointer (some ⟨g, 0, none⟩)) _ ⟨hHeld, ⟨A1, d1, A2, d2, g, rfl, SJ_3.out, GZ_3.out, GEGZ_3.out⟩, HQ3.out⟩)
      rintro s_ wj ⟨hS_, ⟨A1, d1, A2, d2, g, rfl, h_SJ, h_GZ, h_GEGZ⟩, hbj⟩
      have SJ := Aside0.mk h_SJ
      have GZ := Aside0.mk h_GZ
      have GEGZ := Aside0.mk h_GEGZ
      have HJ := Aside0.mk hbj
      clear hbj h_SJ h_GZ h_GEGZ
      have hHeld : wj.cell? ⟨xb, 0, none⟩ = some (.slice AX lx.length cX) ∧ wj.cell? ⟨xb, 1, none⟩ = some (.int .i64 sx) ∧ wj.cell? ⟨xb, 2, none⟩ = some (.int .i64 bx) ∧ wj.cell? ⟨sb, 0, none⟩ = some (.bool false) ∧ wj.cell? ⟨sb, 1, none⟩ = some (.bool false) ∧ wj.cell? ⟨sb, 2, none⟩ = some (.bool false) ∧ wj.cell? ⟨sb, 3, none⟩ = some (.bool false) ∧ wj.cell? ⟨sb, 4, none⟩ = some (.int .i64 0) ∧ wj.cell? ⟨sb, 5, none⟩ = some (.int .u64 7) ∧ wj.cell? ⟨sb, 6, none⟩ = some (.int .i64 0) ∧ wj.cell? ⟨sb, 7, none⟩ = some (.int .u64 7) ∧ wj.cell? ⟨sb, 8, none⟩ = some (.int .i64 0) ∧ wj.cell? ⟨sb, 9, none⟩ = some (.int .u64 7) ∧ wj.cell? ⟨sb, 10, none⟩ = some (.int .i64 e) ∧ wj.cell? ⟨sb, 11, none⟩ = some (.slice AB lx.length cB) ∧ wj.cell? ⟨sb, 12, none⟩ = some (.slice AN lx.length cN) := hS_
      refine norm_ (a' := ?_) ?_ ?_
      rotate_left
      · simp only [putAll, Act.put, List.setIfInBounds_toArray, List.set_cons_zero, List.set_cons_succ]
        rfl
      refine last_ (i := 11) (N := none) qP65 rfl rfl (by kernel_rfl) (by decide) (fun K hK => ?_)
      refine store_step (by rfl) rfl 39 (.tmp 15) (.tmp 89) rfl g 39 _ (stC (advTo lx sx (chainOf n) (pullS e z3 z4 lx.length lx.length) (startOf (wrap64 (e + 1)) sx)) A1 d1 A2 d2) rfl rfl GZ.out rfl (by kernel_rfl) (by simp [stC, Value.oneCell']) ?_
      intro wz hbk hgr
      have G9 := Aside0.mk hbk
      have HJZ := Aside0.mk (HJ.out.grown hgr HJ.out.size (fun k hk => by cases hk; exact GEGZ.out))
      have HZ := Aside0.mk (below_then HB5.out HB5.out.size HJZ.out)
      have BMz := Aside0.mk (blk_below BM5.out HJZ.out)
      have SBz := Aside0.mk (blk_below SB5.out HJZ.out)
      have SJz := Aside0.mk (SJ.out.over SP5.out.c GZ.out (by decide) hgr HJZ.out)
      have SPz := Aside0.mk (SP5.out.below HJZ.out)
      clear hbk hgr
      refine hK.out _ _ ?_
      clear hK K
      refine done_ (by kernel_rfl) ?_
      have e8 : wrap64 (e + 1) = e + 1 := by have := HE.out; unfold wrap64; omega
      obtain ⟨J, hJ⟩ : ∃ J, pullOf lx sx (chainOf n) (pullS e z3 z4 lx.length lx.length) = J := ⟨_, rfl⟩
      have PJ := Aside0.mk hJ
      have hst : advTo lx sx (chainOf n) (pullS e z3 z4 lx.length lx.length) (startOf (wrap64 (e + 1)) sx) = ⟨J, e + 1, rowOf z4 lx.length lx.length, List.replicate lx.length false⟩ := by
        rw [e8]
        have h1 := adv_one lx sx (chainOf n) (pullS e z3 z4 lx.length lx.length) HE.out.1 (by have := HE.out; simp only [pullS]; omega) (by have := HSL.out; omega) (by have := HSL.out; omega)
        rw [← hJ]
        exact h1
      rw [hst] at G9 SJz
      rw [hst]
      have G8 : Aside0 (wz.heap[g]? = some (.cells #[.bool J.b0, .bool J.b1, .bool J.b2, .bool J.b3, .int .i64 J.pe, .int .u64 J.pr, .int .i64 J.ce, .int .u64 J.cr, .int .i64 J.fe, .int .u64 J.fr, .int .i64 (e + 1), .slice A1 lx.length d1, .slice A2 lx.length d2] 39 (0, 0))) := ⟨by
        have h1 := G9.out
        rw [stC] at h1
        simp only [rowOf_len, List.length_replicate] at h1
        exact h1⟩
      clear hst hJ G9 hHeld GZ HJ SJ
      go_upto_region 15 with fail
      refine start_ (n := 33) (S := fun w' => w'.cell? ⟨xb, 0, none⟩ = some (.slice AX lx.length cX) ∧ w'.cell? ⟨xb, 1, none⟩ = some (.int .i64 sx) ∧ w'.cell? ⟨xb, 2, none⟩ = some (.int .i64 bx) ∧ w'.cell? ⟨sb, 0, none⟩ = some (.bool false) ∧ w'.cell? ⟨sb, 1, none⟩ = some (.bool false) ∧ w'.cell? ⟨sb, 2, none⟩ = some (.bool false) ∧ w'.cell? ⟨sb, 3, none⟩ = some (.bool false) ∧ w'.cell? ⟨sb, 4, none⟩ = some (.int .i64 0) ∧ w'.cell? ⟨sb, 5, none⟩ = some (.int .u64 7) ∧ w'.cell? ⟨sb, 6, none⟩ = some (.int .i64 0) ∧ w'.cell? ⟨sb, 7, none⟩ = some (.int .u64 7) ∧ w'.cell? ⟨sb, 8, none⟩ = some (.int .i64 0) ∧ w'.cell? ⟨sb, 9, none⟩ = some (.int .u64 7) ∧ w'.cell? ⟨sb, 10, none⟩ = some (.int .i64 e) ∧ w'.cell? ⟨sb, 11, none⟩ = some (.slice AB lx.length cB) ∧ w'.cell? ⟨sb, 12, none⟩ = some (.slice AN lx.length cN) ∧ w'.cell? ⟨g, 0, none⟩ = some (.bool J.b0) ∧ w'.cell? ⟨g, 1, none⟩ = some (.bool J.b1) ∧ w'.cell? ⟨g, 2, none⟩ = some (.bool J.b2) ∧ w'.cell? ⟨g, 3, none⟩ = some (.bool J.b3) ∧ w'.cell? ⟨g, 4, none⟩ = some (.int .i64 J.pe) ∧ w'.cell? ⟨g, 5, none⟩ = some (.int .u64 J.pr) ∧ w'.cell? ⟨g, 6, none⟩ = some (.int .i64 J.ce) ∧ w'.cell? ⟨g, 7, none⟩ = some (.int .u64 J.cr) ∧ w'.cell? ⟨g, 8, none⟩ = some (.int .i64 J.fe) ∧ w'.cell? ⟨g, 9, none⟩ = some (.int .u64 J.fr) ∧ w'.cell? ⟨g, 10, none⟩ = some (.int .i64 (e + 1)) ∧ w'.cell? ⟨g, 11, none⟩ = some (.slice A1 lx.length d1) ∧ w'.cell? ⟨g, 12, none⟩ = some (.slice A2 lx.length d2)) (ds := []) qP66 (by kernel_rfl) rfl rfl ⟨(blk_cell BMz.out 0), (blk_cell BMz.out 1), (blk_cell BMz.out 2), (blk_cell SBz.out 0), (blk_cell SBz.out 1), (blk_cell SBz.out 2), (blk_cell SBz.out 3), (blk_cell SBz.out 4), (blk_cell SBz.out 5), (blk_cell SBz.out 6), (blk_cell SBz.out 7), (blk_cell SBz.out 8), (blk_cell SBz.out 9), (blk_cell SBz.out 10), (blk_cell SBz.out 11), (blk_cell SBz.out 12), (blk_cell G8.out 0), (blk_cell G8.out 1), (blk_cell G8.out 2), (blk_cell G8.out 3), (blk_cell G8.out 4), (blk_cell G8.out 5), (blk_cell G8.out 6), (blk_cell G8.out 7), (blk_cell G8.out 8), (blk_cell G8.out 9), (blk_cell G8.out 10), (blk_cell G8.out 11), (blk_cell G8.out 12)⟩ (fun hHeld => ?_)
      refine pure_ (i := 0) (N := some 90) (v := ?_) (a' := ?_) qP67 rfl rfl (by kernel_rfl) (fun _ _ _ h => h) (Or.inl ⟨by rfl, ?_⟩) ?_ ?_
      rotate_left
      · intro w'
        go_simp
        with_reducible rfl
      rotate_left
      · simp only [Act.put, List.setIfInBounds_toArray, List.set_cons_zero, List.set_cons_succ, i64_w, i32_w]
        rfl
      refine pure_ (i := 2) (N := some 92) (v := ?_) (a' := ?_) qP68 rfl rfl (by kernel_rfl) (fun _ _ _ h => h) (Or.inl ⟨by rfl, ?_⟩) ?_ ?_
      rotate_left
      · intro w'
        go_simp
        with_reducible rfl
      rotate_left
      · simp only [Act.put, List.setIfInBounds_toArray, List.set_cons_zero, List.set_cons_succ, i64_w, i32_w]
        rfl
      refine take_ (i := 1) (N := some 91) (v := ?_) (a' := ?_) qP69 rfl rfl (by kernel_rfl) (fun _ _ _ h => h) (Or.inl ⟨by rfl, ?_⟩) hHeld ?_ ?_
      rotate_left
      · rintro w' ⟨s0, s1, s2, s3, s4, s5, s6, s7, s8, s9, s10, s11, s12, s13, s14, s15, s16, s17, s18, s19, s20, s21, s22, s23, s24, s25, s26, s27, s28⟩
        go_simp
        with_reducible rfl
      rotate_left
      · simp only [Act.put, List.setIfInBounds_toArray, List.set_cons_zero, List.set_cons_succ, i64_w, i32_w]
        rfl
      refine take_ (i := 3) (N := some 93) (v := ?_) (a' := ?_) qP70 rfl rfl (by kernel_rfl) (fun _ _ _ h => h) (Or.inl ⟨by rfl, ?_⟩) hHeld ?_ ?_
      rotate_left
      · rintro w' ⟨s0, s1, s2, s3, s4, s5, s6, s7, s8, s9, s10, s11, s12, s13, s14, s15, s16, s17, s18, s19, s20, s21, s22, s23, s24, s25, s26, s27, s28⟩
        go_simp
        with_reducible rfl
      rotate_left
      · simp only [Act.put, List.setIfInBounds_toArray, List.set_cons_zero, List.set_cons_succ, i64_w, i32_w]
        rfl
      refine pure_ (i := 4) (N := some 94) (v := ?_) (a' := ?_) qP71 rfl rfl (by kernel_rfl) (fun _ _ _ h => h) (Or.inl ⟨by rfl, ?_⟩) ?_ ?_
      rotate_left
      · intro w'
        go_simp
        with_reducible rfl
      rotate_left
      · simp only [Act.put, List.setIfInBounds_toArray, List.set_cons_zero, List.set_cons_succ, i64_w, i32_w]
        rfl
      refine pure_ (i := 5) (N := some 95) (v := ?_) (a' := ?_) qP72 rfl rfl (by kernel_rfl) (fun _ _ _ h => h) (Or.inl ⟨by rfl, ?_⟩) ?_ ?_
      rotate_left
      · intro w'
        go_simp
        with_reducible rfl
      rotate_left
      · simp only [Act.put, List.setIfInBounds_toArray, List.set_cons_zero, List.set_cons_succ, i64_w, i32_w]
        rfl
      refine pure_ (i := 6) (N := some 96) (v := ?_) (a' := ?_) qP73 rfl rfl (by kernel_rfl) (fun _ _ _ h => h) (Or.inl ⟨by rfl, ?_⟩) ?_ ?_
      rotate_left
      · intro w'
        go_simp
        with_reducible rfl
      rotate_left
      · simp only [Act.put, List.setIfInBounds_toArray, List.set_cons_zero, List.set_cons_succ, i64_w, i32_w]
        rfl
      refine pure_ (i := 7) (N := some 97) (v := ?_) (a' := ?_) qP74 rfl rfl (by kernel_rfl) (fun _ _ _ h => h) (Or.inl ⟨by rfl, ?_⟩) ?_ ?_
      rotate_left
      · intro w'
        go_simp
        with_reducible rfl
      rotate_left
      · simp only [Act.put, List.setIfInBounds_toArray, List.set_cons_zero, List.set_cons_succ, i64_w, i32_w]
        rfl
      refine pure_ (i := 11) (N := some 101) (v := ?_) (a' := ?_) qP75 rfl rfl (by kernel_rfl) (fun _ _ _ h => h) (Or.inl ⟨by rfl, ?_⟩) ?_ ?_
      rotate_left
      · intro w'
        go_simp
        with_reducible rfl
      rotate_left
      · simp only [Act.put, List.setIfInBounds_toArray, List.set_cons_zero, List.set_cons_succ, i64_w, i32_w]
        rfl
      refine take_ (i := 8) (N := some 98) (v := ?_) (a' := ?_) qP76 rfl rfl (by kernel_rfl) (fun _ _ _ h => h) (Or.inl ⟨by rfl, ?_⟩) hHeld ?_ ?_
      rotate_left
      · rintro w' ⟨s0, s1, s2, s3, s4, s5, s6, s7, s8, s9, s10, s11, s12, s13, s14, s15, s16, s17, s18, s19, s20, s21, s22, s23, s24, s25, s26, s27, s28⟩
        go_simp
        with_reducible rfl
      rotate_left
      · simp only [Act.put, List.setIfInBounds_toArray, List.set_cons_zero, List.set_cons_succ, i64_w, i32_w]
        rfl
      refine take_ (i := 9) (N := some 99) (v := ?_) (a' := ?_) qP77 rfl rfl (by kernel_rfl) (fun _ _ _ h => h) (Or.inl ⟨by rfl, ?_⟩) hHeld ?_ ?_
      rotate_left
      · rintro w' ⟨s0, s1, s2, s3, s4, s5, s6, s7, s8, s9, s10, s11, s12, s13, s14, s15, s16, s17, s18, s19, s20, s21, s22, s23, s24, s25, s26, s27, s28⟩
        go_simp
        with_reducible rfl
      rotate_left
      · simp only [Act.put, List.setIfInBounds_toArray, List.set_cons_zero, List.set_cons_succ, i64_w, i32_w]
        rfl
      refine take_ (i := 10) (N := some 100) (v := ?_) (a' := ?_) qP78 rfl rfl (by kernel_rfl) (fun _ _ _ h => h) (Or.inl ⟨by rfl, ?_⟩) hHeld ?_ ?_
      rotate_left
      · rintro w' ⟨s0, s1, s2, s3, s4, s5, s6, s7, s8, s9, s10, s11, s12, s13, s14, s15, s16, s17, s18, s19, s20, s21, s22, s23, s24, s25, s26, s27, s28⟩
        go_simp
        with_reducible rfl
      rotate_left
      · simp only [Act.put, List.setIfInBounds_toArray, List.set_cons_zero, List.set_cons_succ, i64_w, i32_w]
        rfl
      refine one_ (i := 12) (N := some 102) qP79 rfl rfl (by kernel_rfl) (by decide) (fun K hK => ?_)
      refine goes_ Try.func21 (by kernel_rfl) rfl #[.agg #[.slice AX lx.length cX, .int .i64 sx, .int .i64 bx], .agg #[.bool false, .bool false, .bool false, .bool false, .int .i64 0, .int .u64 7, .int .i64 0, .int .u64 7, .int .i64 0, .int .u64 7, .int .i64 e, .slice AB lx.length cB, .slice AN lx.length cN], v] (by rfl) rfl rfl (by simp only [List.map_toArray, List.map_cons, List.map_nil]; rfl) ?_
      with_reducible refine (pullQ AX cX lx sx bx e z3 z4 AB cB AN cN v (chainOf n) _ (SPz.out.below (below_drew (Below.refl wz.heap.size wz))) J PJ.out).mono ?_
      rintro x wq1 ⟨rfl, hb⟩
      refine ⟨_, rfl, ?_⟩
      have HQ1 := Aside0.mk (below_then (below_drew (Below.refl wz.heap.size wz)) (Nat.le_refl _) hb)
      clear hb
      refine hK.out _ _ ⟨(pw_cell_below HQ1.out (blk_cell BMz.out 0)), (pw_cell_below HQ1.out (blk_cell BMz.out 1)), (pw_cell_below HQ1.out (blk_cell BMz.out 2)), (pw_cell_below HQ1.out (blk_cell SBz.out 0)), (pw_cell_below HQ1.out (blk_cell SBz.out 1)), (pw_cell_below HQ1.out (blk_cell SBz.out 2)), (pw_cell_below HQ1.out (blk_cell SBz.out 3)), (pw_cell_below HQ1.out (blk_cell SBz.out 4)), (pw_cell_below HQ1.out (blk_cell SBz.out 5)), (pw_cell_below HQ1.out (blk_cell SBz.out 6)), (pw_cell_below HQ1.out (blk_cell SBz.out 7)), (pw_cell_below HQ1.out (blk_cell SBz.out 8)), (pw_cell_below HQ1.out (blk_cell SBz.out 9)), (pw_cell_below HQ1.out (blk_cell SBz.out 10)), (pw_cell_below HQ1.out (blk_cell SBz.out 11)), (pw_cell_below HQ1.out (blk_cell SBz.out 12)), (pw_cell_below HQ1.out (blk_cell G8.out 0)), (pw_cell_below HQ1.out (blk_cell G8.out 1)), (pw_cell_below HQ1.out (blk_cell G8.out 2)), (pw_cell_below HQ1.out (blk_cell G8.out 3)), (pw_cell_below HQ1.out (blk_cell G8.out 4)), (pw_cell_below HQ1.out (blk_cell G8.out 5)), (pw_cell_below HQ1.out (blk_cell G8.out 6)), (pw_cell_below HQ1.out (blk_cell G8.out 7)), (pw_cell_below HQ1.out (blk_cell G8.out 8)), (pw_cell_below HQ1.out (blk_cell G8.out 9)), (pw_cell_below HQ1.out (blk_cell G8.out 10)), (pw_cell_below HQ1.out (blk_cell G8.out 11)), (pw_cell_below HQ1.out (blk_cell G8.out 12))⟩ (fun hHeld => ?_)
      clear hK K
      refine norm_ (a' := ?_) ?_ ?_
      rotate_left
      · show Act.put _ (some 102) _ = _
        simp only [Act.put, List.setIfInBounds_toArray, List.set_cons_zero, List.set_cons_succ, i64_w, i32_w]
        rfl
      refine pure_ (i := 13) (N := some 103) (v := ?_) (a' := ?_) qP80 rfl rfl (by kernel_rfl) (fun _ _ _ h => h) (Or.inl ⟨by rfl, ?_⟩) ?_ ?_
      rotate_left
      · intro w'
        go_simp
        with_reducible rfl
      rotate_left
      · simp only [Act.put, List.setIfInBounds_toArray, List.set_cons_zero, List.set_cons_succ, i64_w, i32_w]
        rfl
      refine pure_ (i := 14) (N := some 104) (v := ?_) (a' := ?_) qP81 rfl rfl (by kernel_rfl) (fun _ _ _ h => h) (Or.inl ⟨by rfl, ?_⟩) ?_ ?_
      rotate_left
      · intro w'
        go_simp
        with_reducible rfl
      rotate_left
      · simp only [Act.put, List.setIfInBounds_toArray, List.set_cons_zero, List.set_cons_succ, i64_w, i32_w]
        rfl
      refine pure_ (i := 15) (N := some 105) (v := ?_) (a' := ?_) qP82 rfl rfl (by kernel_rfl) (fun _ _ _ h => h) (Or.inl ⟨by rfl, ?_⟩) ?_ ?_
      rotate_left
      · intro w'
        go_simp
        with_reducible rfl
      rotate_left
      · simp only [Act.put, List.setIfInBounds_toArray, List.set_cons_zero, List.set_cons_succ, i64_w, i32_w]
        rfl
      refine pure_ (i := 16) (N := some 106) (v := ?_) (a' := ?_) qP83 rfl rfl (by kernel_rfl) (fun _ _ _ h => h) (Or.inl ⟨by rfl, ?_⟩) ?_ ?_
      rotate_left
      · intro w'
        go_simp
        with_reducible rfl
      rotate_left
      · simp only [Act.put, List.setIfInBounds_toArray, List.set_cons_zero, List.set_cons_succ, i64_w, i32_w]
        rfl
      refine pure_ (i := 19) (N := some 109) (v := ?_) (a' := ?_) qP84 rfl rfl (by kernel_rfl) (fun _ _ _ h => h) (Or.inl ⟨by rfl, ?_⟩) ?_ ?_
      rotate_left
      · intro w'
        go_simp
        with_reducible rfl
      rotate_left
      · simp only [Act.put, List.setIfInBounds_toArray, List.set_cons_zero, List.set_cons_succ, i64_w, i32_w]
        rfl
      refine take_ (i := 17) (N := some 107) (v := ?_) (a' := ?_) qP85 rfl rfl (by kernel_rfl) (fun _ _ _ h => h) (Or.inl ⟨by rfl, ?_⟩) hHeld ?_ ?_
      rotate_left
      · rintro w' ⟨s0, s1, s2, s3, s4, s5, s6, s7, s8, s9, s10, s11, s12, s13, s14, s15, s16, s17, s18, s19, s20, s21, s22, s23, s24, s25, s26, s27, s28⟩
        go_simp
        with_reducible rfl
      rotate_left
      · simp only [Act.put, List.setIfInBounds_toArray, List.set_cons_zero, List.set_cons_succ, i64_w, i32_w]
        rfl
      refine pure_ (i := 18) (N := some 108) (v := ?_) (a' := ?_) qP86 rfl rfl (by kernel_rfl) (fun _ _ _ h => h) (Or.inl ⟨by rfl, ?_⟩) ?_ ?_
      rotate_left
      · intro w'
        go_simp
        with_reducible rfl
      rotate_left
      · simp only [Act.put, List.setIfInBounds_toArray, List.set_cons_zero, List.set_cons_succ, i64_w, i32_w]
        rfl
      refine take_ (i := 20) (N := some 110) (v := ?_) (a' := ?_) qP87 rfl rfl (by kernel_rfl) (fun _ _ _ h => h) (Or.inl ⟨by rfl, ?_⟩) hHeld ?_ ?_
      rotate_left
      · rintro w' ⟨s0, s1, s2, s3, s4, s5, s6, s7, s8, s9, s10, s11, s12, s13, s14, s15, s16, s17, s18, s19, s20, s21, s22, s23, s24, s25, s26, s27, s28⟩
        go_simp
        with_reducible rfl
      rotate_left
      · simp only [Act.put, List.setIfInBounds_toArray, List.set_cons_zero, List.set_cons_succ, i64_w, i32_w]
        rfl
      refine pure_ (i := 21) (N := some 111) (v := ?_) (a' := ?_) qP88 rfl rfl (by kernel_rfl) (fun _ _ _ h => h) (Or.inl ⟨by rfl, ?_⟩) ?_ ?_
      rotate_left
      · intro w'
        go_simp
        with_reducible rfl
      rotate_left
      · simp only [Act.put, List.setIfInBounds_toArray, List.set_cons_zero, List.set_cons_succ, i64_w, i32_w]
        rfl
      refine pure_ (i := 22) (N := some 112) (v := ?_) (a' := ?_) qP89 rfl rfl (by kernel_rfl) (fun _ _ _ h => h) (Or.inl ⟨by rfl, ?_⟩) ?_ ?_
      rotate_left
      · intro w'
        go_simp
        with_reducible rfl
      rotate_left
      · simp only [Act.put, List.setIfInBounds_toArray, List.set_cons_zero, List.set_cons_succ, i64_w, i32_w]
        rfl
      refine pure_ (i := 23) (N := some 113) (v := ?_) (a' := ?_) qP90 rfl rfl (by kernel_rfl) (fun _ _ _ h => h) (Or.inl ⟨by rfl, ?_⟩) ?_ ?_
      rotate_left
      · intro w'
        go_simp
        with_reducible rfl
      rotate_left
      · simp only [Act.put, List.setIfInBounds_toArray, List.set_cons_zero, List.set_cons_succ, i64_w, i32_w]
        rfl
      refine pure_ (i := 24) (N := some 114) (v := ?_) (a' := ?_) qP91 rfl rfl (by kernel_rfl) (fun _ _ _ h => h) (Or.inl ⟨by rfl, ?_⟩) ?_ ?_
      rotate_left
      · intro w'
        go_simp
        with_reducible rfl
      rotate_left
      · simp only [Act.put, List.setIfInBounds_toArray, List.set_cons_zero, List.set_cons_succ, i64_w, i32_w]
        rfl
      refine pure_ (i := 25) (N := some 115) (v := ?_) (a' := ?_) qP92 rfl rfl (by kernel_rfl) (fun _ _ _ h => h) (Or.inl ⟨by rfl, ?_⟩) ?_ ?_
      rotate_left
      · intro w'
        go_simp
        with_reducible rfl
      rotate_left
      · simp only [Act.put, List.setIfInBounds_toArray, List.set_cons_zero, List.set_cons_succ, i64_w, i32_w]
        rfl
      refine pure_ (i := 28) (N := some 118) (v := ?_) (a' := ?_) qP93 rfl rfl (by kernel_rfl) (fun _ _ _ h => h) (Or.inl ⟨by rfl, ?_⟩) ?_ ?_
      rotate_left
      · intro w'
        go_simp
        with_reducible rfl
      rotate_left
      · simp only [Act.put, List.setIfInBounds_toArray, List.set_cons_zero, List.set_cons_succ, i64_w, i32_w]
        rfl
      refine take_ (i := 26) (N := some 116) (v := ?_) (a' := ?_) qP94 rfl rfl (by kernel_rfl) (fun _ _ _ h => h) (Or.inl ⟨by rfl, ?_⟩) hHeld ?_ ?_
      rotate_left
      · rintro w' ⟨s0, s1, s2, s3, s4, s5, s6, s7, s8, s9, s10, s11, s12, s13, s14, s15, s16, s17, s18, s19, s20, s21, s22, s23, s24, s25, s26, s27, s28⟩
        go_simp
        with_reducible rfl
      rotate_left
      · simp only [Act.put, List.setIfInBounds_toArray, List.set_cons_zero, List.set_cons_succ, i64_w, i32_w]
        rfl
      refine pure_ (i := 27) (N := some 117) (v := ?_) (a' := ?_) qP95 rfl rfl (by kernel_rfl) (fun _ _ _ h => h) (Or.inl ⟨by rfl, ?_⟩) ?_ ?_
      rotate_left
      · intro w'
        go_simp
        with_reducible rfl
      rotate_left
      · simp only [Act.put, List.setIfInBounds_toArray, List.set_cons_zero, List.set_cons_succ, i64_w, i32_w]
        rfl
      refine take_ (i := 29) (N := some 119) (v := ?_) (a' := ?_) qP96 rfl rfl (by kernel_rfl) (fun _ _ _ h => h) (Or.inl ⟨by rfl, ?_⟩) hHeld ?_ ?_
      rotate_left
      · rintro w' ⟨s0, s1, s2, s3, s4, s5, s6, s7, s8, s9, s10, s11, s12, s13, s14, s15, s16, s17, s18, s19, s20, s21, s22, s23, s24, s25, s26, s27, s28⟩
        go_simp
        with_reducible rfl
      rotate_left
      · simp only [Act.put, List.setIfInBounds_toArray, List.set_cons_zero, List.set_cons_succ, i64_w, i32_w]
        rfl
      refine pure_ (i := 30) (N := some 120) (v := ?_) (a' := ?_) qP97 rfl rfl (by kernel_rfl) (fun _ _ _ h => h) (Or.inl ⟨by rfl, ?_⟩) ?_ ?_
      rotate_left
      · intro w'
        go_simp
        with_reducible rfl
      rotate_left
      · simp only [Act.put, List.setIfInBounds_toArray, List.set_cons_zero, List.set_cons_succ, i64_w, i32_w]
        rfl
      refine pure_ (i := 31) (N := some 121) (v := ?_) (a' := ?_) qP98 rfl rfl (by kernel_rfl) (fun _ _ _ h => h) (Or.inl ⟨by rfl, ?_⟩) ?_ ?_
      rotate_left
      · intro w'
        go_simp
        with_reducible rfl
      rotate_left
      · simp only [Act.put, List.setIfInBounds_toArray, List.set_cons_zero, List.set_cons_succ, i64_w, i32_w]
        rfl
      refine pure_ (i := 32) (N := some 122) (v := ?_) (a' := ?_) qP99 rfl rfl (by kernel_rfl) (fun _ _ _ h => h) (Or.inl ⟨by rfl, ?_⟩) ?_ ?_
      rotate_left
      · intro w'
        go_simp
        with_reducible rfl
      rotate_left
      · simp only [Act.put, List.setIfInBounds_toArray, List.set_cons_zero, List.set_cons_succ, i64_w, i32_w]
        rfl
      refine done_ (by kernel_rfl) ?_
      have BMq := Aside0.mk (blk_below BMz.out HQ1.out)
      have SBq := Aside0.mk (blk_below SBz.out HQ1.out)
      have G7 := Aside0.mk (blk_below G8.out HQ1.out)
      have hs13 := blk_cell SBq.out
      clear e8
      go_wp2_with fail
      clear hs13
      go_loopw [126] (fun v126 wr' => ∃ k : Nat, k ≤ lx.length ∧ v126 = .int .i64 k ∧ Aside0 (Below wq1.heap.size wq1 wr')) (fun v126 _ => lx.length - (RowKit.intOf v126).toNat)
      case atStart => exact ⟨0, by omega, rfl, ⟨Below.refl _ _⟩⟩
      case round =>
        obtain ⟨k, hk, rfl, HW⟩ := hrel
        have hs13 := blk_cell (blk_below SBq.out HW.out)
        have hg13 := blk_cell (blk_below G7.out HW.out)
        by_cases hlt : k < lx.length
        · have t0 : decide ((k : Int) < (lx.length : Int)) = true := decide_eq_true (by omega)
          have hwk : wrap64 ((k : Int) + 1) = ((k + 1 : Nat) : Int) := by have := HNX.out; unfold wrap64; omega
          have HWK := Aside0.mk hwk
          have i0 : (0 : Int) ≤ (k : Int) := by omega
          have i1 : (k : Int) < (lx.length : Int) := by omega
          have hB := SJz.out.hB
          have hN := SJz.out.hN
          have hs := SPz.out.hN
          simp only [rowOf_len, List.length_replicate, pullS] at hB hN hs
          have hQW := below_then HQ1.out HQ1.out.size HW.out
          obtain ⟨x1, rfl, c1⟩ := Kd.at_bool (Kd.C_below hB hQW) (k : Int) i0 i1
          obtain ⟨x2, rfl, c2⟩ := Kd.at_bool (Kd.C_below hN hQW) (k : Int) i0 i1
          obtain ⟨x3, rfl, c3⟩ := Kd.at_bool (Kd.C_below hs hQW) (k : Int) i0 i1
          rw [Int.toNat_natCast] at c1 c2 c3
          have hf : rdOf false (List.replicate lx.length false) (k : Int) = false := by simp [rdOf, List.getD_eq_getElem?_getD, hlt]
          rw [hf] at c2
          obtain ⟨bv, hbv⟩ : ∃ b, rdOf false (rowOf z4 lx.length lx.length) (k : Int) = b := ⟨_, rfl⟩
          rw [hbv] at c1 c3
          clear hbv hf hB hN hs hQW hwk
          go_wp2_with fail
          go_quiet (fail)
          go_wp2_with fail
          go_roundw
          case rel => exact ⟨k + 1, by omega, by rw [HWK.out], ⟨below_then HW.out HW.out.size (pw_below_drewN (Below.refl _ _) _)⟩⟩
          case measure => rw [HWK.out]; simp [RowKit.intOf]; omega
        · have t0 : decide ((k : Int) < (lx.length : Int)) = false := decide_eq_false (by omega)
          go_wp2_with fail
          go_ret
          exact ⟨rfl, below_then (below_then HZ.out HZ.out.size HQ1.out) (below_then HZ.out HZ.out.size HQ1.out).size HW.out⟩
theorem ledgerPull_args {A0 A3 A4 : Option Addr} {n0 c0 n3 c3 n4 c4 : Nat} {z0 : List Int} {z3 z4 : List Bool} {sl bo n e0 : Int} {w : World} (g0 : Open.ConfigArg w A0 n0 c0 z0 sl bo) (w1 : (Lit.int .u8 n).wf = true) (g2 : Open.BoolsArg w A3 n3 c3 z3) (g3 : Open.BoolsArg w A4 n4 c4 z4) (w4 : (Lit.int .u8 e0).wf = true) :
    Calls Try.prog 8 #[.agg #[.slice A0 n0 c0, .int .i64 sl, .int .i64 bo], .int .u8 n, .slice A3 n3 c3, .slice A4 n4 c4, .int .u8 e0] w fun x w' => x = .returned (.bool true) ∧ Below w.heap.size w w' :=
  ledgerPull_law A0 n0 c0 z0 sl bo n A3 n3 c3 z3 A4 n4 c4 z4 e0 w (Kd.C_of_reads (d := (0 : Int)) (h1 := fun _ => rfl) g0.row.reads) g0.row.le (by have := g0.row.size; omega) (bd_i64 g0.ws) (bd_i64 g0.wb) (fun z hz => (bd_u64 (g0.row.wf z hz)).1) (bd_u8 w1) g2.reads g3.reads (bd_u8 w4)
end Go.Proofs.Ytiklbldanidfiaa.QL
