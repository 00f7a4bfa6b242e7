/-
  DERIVED: THE SHELF's CONTRACTS AT THIS DUMP, IN PLAIN WORDS (tools/lay-plain.mjs out of 'YtegegnpjdpjgmaaShelf.lean', which tools/lay-shelf.mjs wrote): THE SAME DECLARATIONS UNDER THE SAME NAMES: 'import', 'namespace', 'open', 'def', 'theorem' AND NOTHING ELSE: no command of the shelf's: FOR A HAND-IN. Each laying: the table of numbers ('.._ren') and one theorem, a field a fact of the dump's own or the kernel's comparison; each contract: ONE APPLICATION.
-/
import Derived.Ground.SlgmProg
import Derived.Shelf.SortM.Plain
import Derived.Shelf.SortM.SortNone
import Derived.Test.YtegegnpjdpjgmaaProg
namespace Go.Proofs
open Go.Shelf
def Try.laysSlM5_f20_ren : Go.Shelf.Ren := ⟨fun | 5 => 20 | 8 => 23 | 7 => 22 | 19 => 33 | 20 => 34 | 10 => 24 | 11 => 25 | 12 => 26 | 13 => 27 | 14 => 28 | 15 => 29 | 16 => 30 | 17 => 31 | 18 => 32 | 30 => 35 | 31 => 36 | 32 => 37 | 33 => 38 | 34 => 39 | 35 => 40 | 40 => 41 | n => n, fun | 23 => 28 | 25 => 3 | 3 => 3 | 32 => 45 | 22 => 28 | 0 => 0 | 44 => 56 | 46 => 25 | 4 => 4 | 36 => 48 | 35 => 47 | 41 => 53 | 5 => 5 | 9 => 9 | 53 => 58 | 57 => 62 | 63 => 65 | 64 => 66 | n => n, fun | n => n⟩
theorem Try.laysSlM5_f20 : Go.Proofs.SlLaysM.n5 Try.prog Try.laysSlM5_f20_ren := {
  mixed := by kernel_rfl
  f5 := ⟨Try.f20.name, by decide, Try.func20.trans (congrArg some (by kernel_rfl))⟩
  f7 := ⟨Try.f22.name, by decide, Try.func22.trans (congrArg some (by kernel_rfl))⟩
  f8 := Try.func23.trans (congrArg some (by kernel_rfl))
  f10 := ⟨Try.f24.name, by decide, Try.func24.trans (congrArg some (by kernel_rfl))⟩
  f11 := ⟨Try.f25.name, by decide, Try.func25.trans (congrArg some (by kernel_rfl))⟩
  f12 := ⟨Try.f26.name, by decide, Try.func26.trans (congrArg some (by kernel_rfl))⟩
  f13 := ⟨Try.f27.name, by decide, Try.func27.trans (congrArg some (by kernel_rfl))⟩
  f14 := ⟨Try.f28.name, by decide, Try.func28.trans (congrArg some (by kernel_rfl))⟩
  f15 := ⟨Try.f29.name, by decide, Try.func29.trans (congrArg some (by kernel_rfl))⟩
  f16 := ⟨Try.f30.name, by decide, Try.func30.trans (congrArg some (by kernel_rfl))⟩
  f17 := ⟨Try.f31.name, by decide, Try.func31.trans (congrArg some (by kernel_rfl))⟩
  f18 := ⟨Try.f32.name, by decide, Try.func32.trans (congrArg some (by kernel_rfl))⟩
  f19 := Try.func33.trans (congrArg some (by kernel_rfl))
  f20 := Try.func34.trans (congrArg some (by kernel_rfl))
  f30 := ⟨Try.f35.name, by decide, Try.func35.trans (congrArg some (by kernel_rfl))⟩
  f31 := Try.func36.trans (congrArg some (by kernel_rfl))
  f32 := Try.func37.trans (congrArg some (by kernel_rfl))
  f33 := ⟨Try.f38.name, by decide, Try.func38.trans (congrArg some (by kernel_rfl))⟩
  f34 := ⟨Try.f39.name, by decide, Try.func39.trans (congrArg some (by kernel_rfl))⟩
  f35 := ⟨Try.f40.name, by decide, Try.func40.trans (congrArg some (by kernel_rfl))⟩
  f40 := ⟨Try.f41.name, by decide, Try.func41.trans (congrArg some (by kernel_rfl))⟩
  t0 := Try.underlying0
  a0 := Try.isAgg0
  z0 := Try.sizeOf0
  v0 := Try.zeroValue0
  t3 := Try.underlying3
  a3 := Try.isAgg3
  z3 := Try.sizeOf3
  v3 := Try.zeroValue3
  t4 := Try.underlying4
  a4 := Try.isAgg4
  z4 := Try.sizeOf4
  v4 := Try.zeroValue4
  t5 := Try.underlying5
  a5 := Try.isAgg5
  z5 := Try.sizeOf5
  v5 := Try.zeroValue5
  t9 := Try.underlying9
  a9 := Try.isAgg9
  z9 := Try.sizeOf9
  v9 := Try.zeroValue9
  t22 := Try.underlying28
  a22 := Try.isAgg28
  z22 := Try.sizeOf28
  v22 := Try.zeroValue28
  t23 := Try.underlying28
  a23 := Try.isAgg28
  z23 := Try.sizeOf28
  v23 := Try.zeroValue28
  t25 := Try.underlying3
  a25 := Try.isAgg3
  z25 := Try.sizeOf3
  v25 := Try.zeroValue3
  t32 := Try.underlying45
  a32 := Try.isAgg45
  z32 := Try.sizeOf45
  v32 := Try.zeroValue45
  t35 := Try.underlying47
  a35 := Try.isAgg47
  z35 := Try.sizeOf47
  v35 := Try.zeroValue47
  t36 := Try.underlying48
  a36 := Try.isAgg48
  z36 := Try.sizeOf48
  v36 := Try.zeroValue48
  t41 := Try.underlying53
  a41 := Try.isAgg53
  z41 := Try.sizeOf53
  v41 := Try.zeroValue53
  t44 := Try.underlying56
  a44 := Try.isAgg56
  z44 := Try.sizeOf56
  v44 := Try.zeroValue56
  t46 := Try.underlying25
  a46 := Try.isAgg25
  z46 := Try.sizeOf25
  v46 := Try.zeroValue25
  t53 := Try.underlying58
  a53 := Try.isAgg58
  z53 := Try.sizeOf58
  v53 := Try.zeroValue58
  t57 := Try.underlying62
  a57 := Try.isAgg62
  z57 := Try.sizeOf62
  v57 := Try.zeroValue62
  t63 := Try.underlying65
  a63 := Try.isAgg65
  z63 := Try.sizeOf65
  v63 := Try.zeroValue65
  t64 := Try.underlying66
  a64 := Try.isAgg66
  z64 := Try.sizeOf66
  v64 := Try.zeroValue66 }
open Go.Sort Go.RowKit in
theorem Try.slices_Sort_int (blk off cap : Nat) (zs : List Int) (w : World) (hH : Holds (Value.int .i64) w blk off zs.toArray) (hblk : blk < w.heap.size) (hsz : zs.length < 4611686018427387904) :
    Calls Try.prog 20 #[.slice (some ⟨blk, off, none⟩) zs.length cap] w fun e w' =>
      e = .returned (.tuple #[]) ∧ ∃ n os, w' = grow (putRow (Value.int .i64) (Sort.ahead w n) blk off (zs.mergeSort fun x y => decide (x ≤ y)).toArray) os := AnyM.slices_Sort_int Try.laysSlM5_f20 blk off cap zs w hH hblk hsz
open Go.RowKit Go.Sort in
/-- .. and plain. (LAID AT THE INSTANCE 'slices.Sort[[]int,int]': no walk: one application.) -/
theorem Try.slices_Sort_int_none (p : Option Addr) (cap : Nat) (w : World) :
    Calls Try.prog 20 #[.slice p 0 cap] w fun e w' => e = .returned (.tuple #[]) ∧ w' = w := AnyM.slices_Sort_int_none Try.laysSlM5_f20 p cap w
end Go.Proofs
