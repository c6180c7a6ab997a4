/- The shelf: sorting. -/
import Derived.Test.YtbdejgbjelfbeaaShelf
import Derived.Shelf.Sort.Plain
import Derived.Shelf.Slices.In.SortNone
namespace Go.Proofs
open Go.Shelf
def Try.lays189_ren : Go.Shelf.Ren := ⟨fun | 189 => 30 | 125 => 61 | 257 => 60 | 128 => 90 | 129 => 91 | 294 => 81 | 295 => 82 | 296 => 83 | 297 => 84 | 298 => 85 | 299 => 86 | 216 => 87 | 300 => 88 | 301 => 89 | 328 => 100 | 329 => 101 | 330 => 102 | 331 => 103 | 332 => 104 | 215 => 105 | 343 => 109 | n => n, fun | 28 => 34 | 3 => 3 | 46 => 93 | 0 => 0 | 51 => 125 | 53 => 51 | 4 => 4 | 183 => 117 | 182 => 116 | 131 => 122 | 5 => 5 | 9 => 9 | 218 => 141 | 222 => 145 | 228 => 149 | 229 => 150 | n => n, fun | n => n⟩
theorem Try.lays189 : Go.Proofs.Lays.n189 Try.prog Try.lays189_ren := {
  mixed := by kernel_rfl
  f125 := Try.func61.trans (congrArg some (by kernel_rfl))
  f128 := Try.func90.trans (congrArg some (by kernel_rfl))
  f129 := Try.func91.trans (congrArg some (by kernel_rfl))
  f189 := Try.func30.trans (congrArg some (by kernel_rfl))
  f215 := Try.func105.trans (congrArg some (by kernel_rfl))
  f216 := Try.func87.trans (congrArg some (by kernel_rfl))
  f257 := Try.func60.trans (congrArg some (by kernel_rfl))
  f294 := Try.func81.trans (congrArg some (by kernel_rfl))
  f295 := Try.func82.trans (congrArg some (by kernel_rfl))
  f296 := Try.func83.trans (congrArg some (by kernel_rfl))
  f297 := Try.func84.trans (congrArg some (by kernel_rfl))
  f298 := Try.func85.trans (congrArg some (by kernel_rfl))
  f299 := Try.func86.trans (congrArg some (by kernel_rfl))
  f300 := Try.func88.trans (congrArg some (by kernel_rfl))
  f301 := Try.func89.trans (congrArg some (by kernel_rfl))
  f328 := Try.func100.trans (congrArg some (by kernel_rfl))
  f329 := Try.func101.trans (congrArg some (by kernel_rfl))
  f330 := Try.func102.trans (congrArg some (by kernel_rfl))
  f331 := Try.func103.trans (congrArg some (by kernel_rfl))
  f332 := Try.func104.trans (congrArg some (by kernel_rfl))
  f343 := Try.func109.trans (congrArg some (by kernel_rfl))
  t0 := Try.underlying0
  a0 := Try.isAgg0
  z0 := Try.sizeOf0
  v0 := Try.zeroValue0
  t3 := Try.underlying3
  a3 := Try.isAgg3
  z3 := Try.sizeOf3
  v3 := Try.zeroValue3
  t4 := Try.underlying4
  a4 := Try.isAgg4
  z4 := Try.sizeOf4
  v4 := Try.zeroValue4
  t5 := Try.underlying5
  a5 := Try.isAgg5
  z5 := Try.sizeOf5
  v5 := Try.zeroValue5
  t9 := Try.underlying9
  a9 := Try.isAgg9
  z9 := Try.sizeOf9
  v9 := Try.zeroValue9
  t28 := Try.underlying34
  a28 := Try.isAgg34
  z28 := Try.sizeOf34
  v28 := Try.zeroValue34
  t46 := Try.underlying93
  a46 := Try.isAgg93
  z46 := Try.sizeOf93
  v46 := Try.zeroValue93
  t51 := Try.underlying125
  a51 := Try.isAgg125
  z51 := Try.sizeOf125
  v51 := Try.zeroValue125
  t53 := Try.underlying51
  a53 := Try.isAgg51
  z53 := Try.sizeOf51
  v53 := Try.zeroValue51
  t131 := Try.underlying122
  a131 := Try.isAgg122
  z131 := Try.sizeOf122
  v131 := Try.zeroValue122
  t182 := Try.underlying116
  a182 := Try.isAgg116
  z182 := Try.sizeOf116
  v182 := Try.zeroValue116
  t183 := Try.underlying117
  a183 := Try.isAgg117
  z183 := Try.sizeOf117
  v183 := Try.zeroValue117
  t218 := Try.underlying141
  a218 := Try.isAgg141
  z218 := Try.sizeOf141
  v218 := Try.zeroValue141
  t222 := Try.underlying145
  a222 := Try.isAgg145
  z222 := Try.sizeOf145
  v222 := Try.zeroValue145
  t228 := Try.underlying149
  a228 := Try.isAgg149
  z228 := Try.sizeOf149
  v228 := Try.zeroValue149
  t229 := Try.underlying150
  a229 := Try.isAgg150
  z229 := Try.sizeOf150
  v229 := Try.zeroValue150 }
open Go.Sort Go.RowKit in
theorem Try.slices_Sort_int (blk off cap : Nat) (zs : List Int) (w : World) (hH : Holds (Value.int .i64) w blk off zs.toArray) (hblk : blk < w.heap.size) (hsz : zs.length < 4611686018427387904) :
    Calls Try.prog 30 #[.slice (some ⟨blk, off, none⟩) zs.length cap] w fun e w' =>
      e = .returned (.tuple #[]) ∧ ∃ n os, w' = grow (putRow (Value.int .i64) (Sort.ahead w n) blk off (zs.mergeSort fun x y => decide (x ≤ y)).toArray) os := Any.slices_Sort_int Try.lays189 blk off cap zs w hH hblk hsz
def Try.lays190_ren : Go.Shelf.Ren := ⟨fun | 190 => 107 | 125 => 61 | 258 => 111 | 128 => 90 | 129 => 91 | 302 => 112 | 303 => 113 | 304 => 114 | 305 => 115 | 306 => 116 | 307 => 117 | 308 => 118 | 309 => 119 | 310 => 120 | 333 => 121 | 329 => 101 | 330 => 102 | 334 => 122 | 335 => 123 | 336 => 124 | 344 => 125 | n => n, fun | 31 => 30 | 9 => 9 | 3 => 3 | 46 => 93 | 0 => 0 | 51 => 125 | 53 => 51 | 4 => 4 | 183 => 117 | 182 => 116 | 131 => 122 | 5 => 5 | 218 => 141 | 222 => 145 | 228 => 149 | 229 => 150 | n => n, fun | n => n⟩
theorem Try.lays190 : Go.Proofs.Lays.n190 Try.prog Try.lays190_ren := {
  mixed := by kernel_rfl
  f125 := Try.func61.trans (congrArg some (by kernel_rfl))
  f128 := Try.func90.trans (congrArg some (by kernel_rfl))
  f129 := Try.func91.trans (congrArg some (by kernel_rfl))
  f190 := Try.func107.trans (congrArg some (by kernel_rfl))
  f258 := Try.func111.trans (congrArg some (by kernel_rfl))
  f302 := Try.func112.trans (congrArg some (by kernel_rfl))
  f303 := Try.func113.trans (congrArg some (by kernel_rfl))
  f304 := Try.func114.trans (congrArg some (by kernel_rfl))
  f305 := Try.func115.trans (congrArg some (by kernel_rfl))
  f306 := Try.func116.trans (congrArg some (by kernel_rfl))
  f307 := Try.func117.trans (congrArg some (by kernel_rfl))
  f308 := Try.func118.trans (congrArg some (by kernel_rfl))
  f309 := Try.func119.trans (congrArg some (by kernel_rfl))
  f310 := Try.func120.trans (congrArg some (by kernel_rfl))
  f329 := Try.func101.trans (congrArg some (by kernel_rfl))
  f330 := Try.func102.trans (congrArg some (by kernel_rfl))
  f333 := Try.func121.trans (congrArg some (by kernel_rfl))
  f334 := Try.func122.trans (congrArg some (by kernel_rfl))
  f335 := Try.func123.trans (congrArg some (by kernel_rfl))
  f336 := Try.func124.trans (congrArg some (by kernel_rfl))
  f344 := Try.func125.trans (congrArg some (by kernel_rfl))
  t0 := Try.underlying0
  a0 := Try.isAgg0
  z0 := Try.sizeOf0
  v0 := Try.zeroValue0
  t3 := Try.underlying3
  a3 := Try.isAgg3
  z3 := Try.sizeOf3
  v3 := Try.zeroValue3
  t4 := Try.underlying4
  a4 := Try.isAgg4
  z4 := Try.sizeOf4
  v4 := Try.zeroValue4
  t5 := Try.underlying5
  a5 := Try.isAgg5
  z5 := Try.sizeOf5
  v5 := Try.zeroValue5
  t9 := Try.underlying9
  a9 := Try.isAgg9
  z9 := Try.sizeOf9
  v9 := Try.zeroValue9
  t31 := Try.underlying30
  a31 := Try.isAgg30
  z31 := Try.sizeOf30
  v31 := Try.zeroValue30
  t46 := Try.underlying93
  a46 := Try.isAgg93
  z46 := Try.sizeOf93
  v46 := Try.zeroValue93
  t51 := Try.underlying125
  a51 := Try.isAgg125
  z51 := Try.sizeOf125
  v51 := Try.zeroValue125
  t53 := Try.underlying51
  a53 := Try.isAgg51
  z53 := Try.sizeOf51
  v53 := Try.zeroValue51
  t131 := Try.underlying122
  a131 := Try.isAgg122
  z131 := Try.sizeOf122
  v131 := Try.zeroValue122
  t182 := Try.underlying116
  a182 := Try.isAgg116
  z182 := Try.sizeOf116
  v182 := Try.zeroValue116
  t183 := Try.underlying117
  a183 := Try.isAgg117
  z183 := Try.sizeOf117
  v183 := Try.zeroValue117
  t218 := Try.underlying141
  a218 := Try.isAgg141
  z218 := Try.sizeOf141
  v218 := Try.zeroValue141
  t222 := Try.underlying145
  a222 := Try.isAgg145
  z222 := Try.sizeOf145
  v222 := Try.zeroValue145
  t228 := Try.underlying149
  a228 := Try.isAgg149
  z228 := Try.sizeOf149
  v228 := Try.zeroValue149
  t229 := Try.underlying150
  a229 := Try.isAgg150
  z229 := Try.sizeOf150
  v229 := Try.zeroValue150 }
open Go.Sort Go.RowKit in
theorem Try.slices_Sort_string (blk off cap : Nat) (ss : List (List UInt8)) (w : World) (hH : Holds encStr w blk off ss.toArray) (hblk : blk < w.heap.size) (hsz : ss.length < 4611686018427387904) :
    Calls Try.prog 107 #[.slice (some ⟨blk, off, none⟩) ss.length cap] w fun e w' =>
      e = .returned (.tuple #[]) ∧ ∃ n os, w' = grow (putRow encStr (Sort.ahead w n) blk off (ss.mergeSort fun x y => decide (x ≤ y)).toArray) os := Any.slices_Sort_string Try.lays190 blk off cap ss w hH hblk hsz
open Go.RowKit Go.Sort in
/-- .. and plain. (LAID: no walk: one application.) -/
theorem Try.slices_Sort_string_none (p : Option Addr) (cap : Nat) (w : World) :
    Calls Try.prog 107 #[.slice p 0 cap] w fun e w' => e = .returned (.tuple #[]) ∧ w' = w := Any.slices_Sort_string_none Try.lays190 p cap w
open Go.RowKit Go.Sort in
/-- .. and plain. (LAID: no walk: one application.) -/
theorem Try.slices_Sort_int_none (p : Option Addr) (cap : Nat) (w : World) :
    Calls Try.prog 30 #[.slice p 0 cap] w fun e w' => e = .returned (.tuple #[]) ∧ w' = w := Any.slices_Sort_int_none Try.lays189 p cap w
end Go.Proofs
