/-
  DERIVED: THE SHELF's CONTRACTS AT THIS DUMP, IN PLAIN WORDS (tools/lay-plain.mjs out of 'YtolkagkfedpjmaaDoorShelf.lean', which tools/lay-shelf.mjs wrote): THE SAME DECLARATIONS UNDER THE SAME NAMES: 'import', 'namespace', 'open', 'def', 'theorem' AND NOTHING ELSE: no command of the shelf's: FOR A HAND-IN. Each laying: the table of numbers ('.._ren') and one theorem, a field a fact of the dump's own or the kernel's comparison; each contract: ONE APPLICATION.
-/
import Derived.Ground.SlgmProg
import Derived.Shelf.SortM.Plain
import Derived.Shelf.SortM.SortNone
import Derived.Test.YtolkagkfedpjmaaDoorProg
namespace Go.Proofs
open Go.Shelf
def Tryd.laysSlM5_f21_ren : Go.Shelf.Ren := ⟨fun | 5 => 21 | 8 => 26 | 7 => 25 | 19 => 40 | 20 => 41 | 10 => 31 | 11 => 32 | 12 => 33 | 13 => 34 | 14 => 35 | 15 => 36 | 16 => 37 | 17 => 38 | 18 => 39 | 30 => 45 | 31 => 46 | 32 => 47 | 33 => 48 | 34 => 49 | 35 => 50 | 40 => 51 | n => n, fun | 23 => 28 | 25 => 3 | 3 => 3 | 32 => 56 | 22 => 28 | 0 => 0 | 44 => 79 | 46 => 25 | 4 => 4 | 36 => 71 | 35 => 70 | 41 => 76 | 5 => 5 | 9 => 9 | 53 => 95 | 57 => 99 | 63 => 102 | 64 => 103 | n => n, fun | n => n⟩
theorem Tryd.laysSlM5_f21 : Go.Proofs.SlLaysM.n5 Tryd.prog Tryd.laysSlM5_f21_ren := {
  mixed := by kernel_rfl
  f5 := ⟨Tryd.f21.name, by decide, Tryd.func21.trans (congrArg some (by kernel_rfl))⟩
  f7 := ⟨Tryd.f25.name, by decide, Tryd.func25.trans (congrArg some (by kernel_rfl))⟩
  f8 := Tryd.func26.trans (congrArg some (by kernel_rfl))
  f10 := ⟨Tryd.f31.name, by decide, Tryd.func31.trans (congrArg some (by kernel_rfl))⟩
  f11 := ⟨Tryd.f32.name, by decide, Tryd.func32.trans (congrArg some (by kernel_rfl))⟩
  f12 := ⟨Tryd.f33.name, by decide, Tryd.func33.trans (congrArg some (by kernel_rfl))⟩
  f13 := ⟨Tryd.f34.name, by decide, Tryd.func34.trans (congrArg some (by kernel_rfl))⟩
  f14 := ⟨Tryd.f35.name, by decide, Tryd.func35.trans (congrArg some (by kernel_rfl))⟩
  f15 := ⟨Tryd.f36.name, by decide, Tryd.func36.trans (congrArg some (by kernel_rfl))⟩
  f16 := ⟨Tryd.f37.name, by decide, Tryd.func37.trans (congrArg some (by kernel_rfl))⟩
  f17 := ⟨Tryd.f38.name, by decide, Tryd.func38.trans (congrArg some (by kernel_rfl))⟩
  f18 := ⟨Tryd.f39.name, by decide, Tryd.func39.trans (congrArg some (by kernel_rfl))⟩
  f19 := Tryd.func40.trans (congrArg some (by kernel_rfl))
  f20 := Tryd.func41.trans (congrArg some (by kernel_rfl))
  f30 := ⟨Tryd.f45.name, by decide, Tryd.func45.trans (congrArg some (by kernel_rfl))⟩
  f31 := Tryd.func46.trans (congrArg some (by kernel_rfl))
  f32 := Tryd.func47.trans (congrArg some (by kernel_rfl))
  f33 := ⟨Tryd.f48.name, by decide, Tryd.func48.trans (congrArg some (by kernel_rfl))⟩
  f34 := ⟨Tryd.f49.name, by decide, Tryd.func49.trans (congrArg some (by kernel_rfl))⟩
  f35 := ⟨Tryd.f50.name, by decide, Tryd.func50.trans (congrArg some (by kernel_rfl))⟩
  f40 := ⟨Tryd.f51.name, by decide, Tryd.func51.trans (congrArg some (by kernel_rfl))⟩
  t0 := Tryd.underlying0
  a0 := Tryd.isAgg0
  z0 := Tryd.sizeOf0
  v0 := Tryd.zeroValue0
  t3 := Tryd.underlying3
  a3 := Tryd.isAgg3
  z3 := Tryd.sizeOf3
  v3 := Tryd.zeroValue3
  t4 := Tryd.underlying4
  a4 := Tryd.isAgg4
  z4 := Tryd.sizeOf4
  v4 := Tryd.zeroValue4
  t5 := Tryd.underlying5
  a5 := Tryd.isAgg5
  z5 := Tryd.sizeOf5
  v5 := Tryd.zeroValue5
  t9 := Tryd.underlying9
  a9 := Tryd.isAgg9
  z9 := Tryd.sizeOf9
  v9 := Tryd.zeroValue9
  t22 := Tryd.underlying28
  a22 := Tryd.isAgg28
  z22 := Tryd.sizeOf28
  v22 := Tryd.zeroValue28
  t23 := Tryd.underlying28
  a23 := Tryd.isAgg28
  z23 := Tryd.sizeOf28
  v23 := Tryd.zeroValue28
  t25 := Tryd.underlying3
  a25 := Tryd.isAgg3
  z25 := Tryd.sizeOf3
  v25 := Tryd.zeroValue3
  t32 := Tryd.underlying56
  a32 := Tryd.isAgg56
  z32 := Tryd.sizeOf56
  v32 := Tryd.zeroValue56
  t35 := Tryd.underlying70
  a35 := Tryd.isAgg70
  z35 := Tryd.sizeOf70
  v35 := Tryd.zeroValue70
  t36 := Tryd.underlying71
  a36 := Tryd.isAgg71
  z36 := Tryd.sizeOf71
  v36 := Tryd.zeroValue71
  t41 := Tryd.underlying76
  a41 := Tryd.isAgg76
  z41 := Tryd.sizeOf76
  v41 := Tryd.zeroValue76
  t44 := Tryd.underlying79
  a44 := Tryd.isAgg79
  z44 := Tryd.sizeOf79
  v44 := Tryd.zeroValue79
  t46 := Tryd.underlying25
  a46 := Tryd.isAgg25
  z46 := Tryd.sizeOf25
  v46 := Tryd.zeroValue25
  t53 := Tryd.underlying95
  a53 := Tryd.isAgg95
  z53 := Tryd.sizeOf95
  v53 := Tryd.zeroValue95
  t57 := Tryd.underlying99
  a57 := Tryd.isAgg99
  z57 := Tryd.sizeOf99
  v57 := Tryd.zeroValue99
  t63 := Tryd.underlying102
  a63 := Tryd.isAgg102
  z63 := Tryd.sizeOf102
  v63 := Tryd.zeroValue102
  t64 := Tryd.underlying103
  a64 := Tryd.isAgg103
  z64 := Tryd.sizeOf103
  v64 := Tryd.zeroValue103 }
open Go.Sort Go.RowKit in
theorem Tryd.slices_Sort_int (blk off cap : Nat) (zs : List Int) (w : World) (hH : Holds (Value.int .i64) w blk off zs.toArray) (hblk : blk < w.heap.size) (hsz : zs.length < 4611686018427387904) :
    Calls Tryd.prog 21 #[.slice (some ⟨blk, off, none⟩) zs.length cap] w fun e w' =>
      e = .returned (.tuple #[]) ∧ ∃ n os, w' = grow (putRow (Value.int .i64) (Sort.ahead w n) blk off (zs.mergeSort fun x y => decide (x ≤ y)).toArray) os := AnyM.slices_Sort_int Tryd.laysSlM5_f21 blk off cap zs w hH hblk hsz
open Go.RowKit Go.Sort in
/-- .. and plain. (LAID AT THE INSTANCE 'slices.Sort[[]int,int]': no walk: one application.) -/
theorem Tryd.slices_Sort_int_none (p : Option Addr) (cap : Nat) (w : World) :
    Calls Tryd.prog 21 #[.slice p 0 cap] w fun e w' => e = .returned (.tuple #[]) ∧ w' = w := AnyM.slices_Sort_int_none Tryd.laysSlM5_f21 p cap w
end Go.Proofs
