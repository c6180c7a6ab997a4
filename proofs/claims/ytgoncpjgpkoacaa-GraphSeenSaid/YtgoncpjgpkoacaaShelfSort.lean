/- The shelf: sorting. -/
import Derived.Test.YtgoncpjgpkoacaaShelf
import Derived.Shelf.Sort.Plain
import Derived.Shelf.Slices.In.SortNone
namespace Go.Proofs
open Go.Shelf
def Try.lays189_ren : Go.Shelf.Ren := ⟨fun | 189 => 46 | 125 => 62 | 257 => 61 | 128 => 78 | 129 => 79 | 294 => 69 | 295 => 70 | 296 => 71 | 297 => 72 | 298 => 73 | 299 => 74 | 216 => 75 | 300 => 76 | 301 => 77 | 328 => 83 | 329 => 84 | 330 => 85 | 331 => 86 | 332 => 87 | 215 => 88 | 343 => 90 | n => n, fun | 28 => 27 | 3 => 3 | 46 => 91 | 0 => 0 | 51 => 104 | 53 => 106 | 4 => 4 | 183 => 97 | 182 => 96 | 131 => 65 | 5 => 5 | 9 => 9 | 218 => 108 | 222 => 112 | 228 => 116 | 229 => 117 | n => n, fun | n => n⟩
theorem Try.lays189 : Go.Proofs.Lays.n189 Try.prog Try.lays189_ren := {
  mixed := by kernel_rfl
  f125 := Try.func62.trans (congrArg some (by kernel_rfl))
  f128 := Try.func78.trans (congrArg some (by kernel_rfl))
  f129 := Try.func79.trans (congrArg some (by kernel_rfl))
  f189 := Try.func46.trans (congrArg some (by kernel_rfl))
  f215 := Try.func88.trans (congrArg some (by kernel_rfl))
  f216 := Try.func75.trans (congrArg some (by kernel_rfl))
  f257 := Try.func61.trans (congrArg some (by kernel_rfl))
  f294 := Try.func69.trans (congrArg some (by kernel_rfl))
  f295 := Try.func70.trans (congrArg some (by kernel_rfl))
  f296 := Try.func71.trans (congrArg some (by kernel_rfl))
  f297 := Try.func72.trans (congrArg some (by kernel_rfl))
  f298 := Try.func73.trans (congrArg some (by kernel_rfl))
  f299 := Try.func74.trans (congrArg some (by kernel_rfl))
  f300 := Try.func76.trans (congrArg some (by kernel_rfl))
  f301 := Try.func77.trans (congrArg some (by kernel_rfl))
  f328 := Try.func83.trans (congrArg some (by kernel_rfl))
  f329 := Try.func84.trans (congrArg some (by kernel_rfl))
  f330 := Try.func85.trans (congrArg some (by kernel_rfl))
  f331 := Try.func86.trans (congrArg some (by kernel_rfl))
  f332 := Try.func87.trans (congrArg some (by kernel_rfl))
  f343 := Try.func90.trans (congrArg some (by kernel_rfl))
  t0 := Try.underlying0
  a0 := Try.isAgg0
  z0 := Try.sizeOf0
  v0 := Try.zeroValue0
  t3 := Try.underlying3
  a3 := Try.isAgg3
  z3 := Try.sizeOf3
  v3 := Try.zeroValue3
  t4 := Try.underlying4
  a4 := Try.isAgg4
  z4 := Try.sizeOf4
  v4 := Try.zeroValue4
  t5 := Try.underlying5
  a5 := Try.isAgg5
  z5 := Try.sizeOf5
  v5 := Try.zeroValue5
  t9 := Try.underlying9
  a9 := Try.isAgg9
  z9 := Try.sizeOf9
  v9 := Try.zeroValue9
  t28 := Try.underlying27
  a28 := Try.isAgg27
  z28 := Try.sizeOf27
  v28 := Try.zeroValue27
  t46 := Try.underlying91
  a46 := Try.isAgg91
  z46 := Try.sizeOf91
  v46 := Try.zeroValue91
  t51 := Try.underlying104
  a51 := Try.isAgg104
  z51 := Try.sizeOf104
  v51 := Try.zeroValue104
  t53 := Try.underlying106
  a53 := Try.isAgg106
  z53 := Try.sizeOf106
  v53 := Try.zeroValue106
  t131 := Try.underlying65
  a131 := Try.isAgg65
  z131 := Try.sizeOf65
  v131 := Try.zeroValue65
  t182 := Try.underlying96
  a182 := Try.isAgg96
  z182 := Try.sizeOf96
  v182 := Try.zeroValue96
  t183 := Try.underlying97
  a183 := Try.isAgg97
  z183 := Try.sizeOf97
  v183 := Try.zeroValue97
  t218 := Try.underlying108
  a218 := Try.isAgg108
  z218 := Try.sizeOf108
  v218 := Try.zeroValue108
  t222 := Try.underlying112
  a222 := Try.isAgg112
  z222 := Try.sizeOf112
  v222 := Try.zeroValue112
  t228 := Try.underlying116
  a228 := Try.isAgg116
  z228 := Try.sizeOf116
  v228 := Try.zeroValue116
  t229 := Try.underlying117
  a229 := Try.isAgg117
  z229 := Try.sizeOf117
  v229 := Try.zeroValue117 }
open Go.Sort Go.RowKit in
theorem Try.slices_Sort_int (blk off cap : Nat) (zs : List Int) (w : World) (hH : Holds (Value.int .i64) w blk off zs.toArray) (hblk : blk < w.heap.size) (hsz : zs.length < 4611686018427387904) :
    Calls Try.prog 46 #[.slice (some ⟨blk, off, none⟩) zs.length cap] w fun e w' =>
      e = .returned (.tuple #[]) ∧ ∃ n os, w' = grow (putRow (Value.int .i64) (Sort.ahead w n) blk off (zs.mergeSort fun x y => decide (x ≤ y)).toArray) os := Any.slices_Sort_int Try.lays189 blk off cap zs w hH hblk hsz
open Go.RowKit Go.Sort in
/-- .. and plain. (LAID: no walk: one application.) -/
theorem Try.slices_Sort_int_none (p : Option Addr) (cap : Nat) (w : World) :
    Calls Try.prog 46 #[.slice p 0 cap] w fun e w' => e = .returned (.tuple #[]) ∧ w' = w := Any.slices_Sort_int_none Try.lays189 p cap w
end Go.Proofs
