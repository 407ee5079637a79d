/- slices.Sort at []int: the shelf's contract, laid (lay-shelf.mjs, lay-plain.mjs wrote this for seat e: the numbers are seat e's own). -/
import Derived.Shelf.Sort.Plain
import Derived.Shelf.Slices.In.SortNone
import Derived.Test.YtonfnlohbgbffaaProg
namespace Go.Proofs
open Go.Shelf
def Try.lays189_ren : Go.Shelf.Ren := ⟨fun | 189 => 85 | 125 => 95 | 257 => 94 | 128 => 110 | 129 => 111 | 294 => 101 | 295 => 102 | 296 => 103 | 297 => 104 | 298 => 105 | 299 => 106 | 216 => 107 | 300 => 108 | 301 => 109 | 328 => 112 | 329 => 113 | 330 => 114 | 331 => 115 | 332 => 116 | 215 => 117 | 343 => 118 | n => n, fun | 28 => 65 | 3 => 3 | 46 => 88 | 0 => 0 | 51 => 24 | 53 => 203 | 4 => 4 | 183 => 196 | 182 => 195 | 131 => 192 | 5 => 5 | 9 => 9 | 218 => 204 | 222 => 208 | 228 => 210 | 229 => 111 | n => n, fun | n => n⟩
theorem Try.lays189 : Go.Proofs.Lays.n189 Try.prog Try.lays189_ren := {
  mixed := by kernel_rfl
  f125 := Try.func95.trans (congrArg some (by kernel_rfl))
  f128 := Try.func110.trans (congrArg some (by kernel_rfl))
  f129 := Try.func111.trans (congrArg some (by kernel_rfl))
  f189 := Try.func85.trans (congrArg some (by kernel_rfl))
  f215 := Try.func117.trans (congrArg some (by kernel_rfl))
  f216 := Try.func107.trans (congrArg some (by kernel_rfl))
  f257 := Try.func94.trans (congrArg some (by kernel_rfl))
  f294 := Try.func101.trans (congrArg some (by kernel_rfl))
  f295 := Try.func102.trans (congrArg some (by kernel_rfl))
  f296 := Try.func103.trans (congrArg some (by kernel_rfl))
  f297 := Try.func104.trans (congrArg some (by kernel_rfl))
  f298 := Try.func105.trans (congrArg some (by kernel_rfl))
  f299 := Try.func106.trans (congrArg some (by kernel_rfl))
  f300 := Try.func108.trans (congrArg some (by kernel_rfl))
  f301 := Try.func109.trans (congrArg some (by kernel_rfl))
  f328 := Try.func112.trans (congrArg some (by kernel_rfl))
  f329 := Try.func113.trans (congrArg some (by kernel_rfl))
  f330 := Try.func114.trans (congrArg some (by kernel_rfl))
  f331 := Try.func115.trans (congrArg some (by kernel_rfl))
  f332 := Try.func116.trans (congrArg some (by kernel_rfl))
  f343 := Try.func118.trans (congrArg some (by kernel_rfl))
  t0 := Try.underlying0
  a0 := Try.isAgg0
  z0 := Try.sizeOf0
  v0 := Try.zeroValue0
  t3 := Try.underlying3
  a3 := Try.isAgg3
  z3 := Try.sizeOf3
  v3 := Try.zeroValue3
  t4 := Try.underlying4
  a4 := Try.isAgg4
  z4 := Try.sizeOf4
  v4 := Try.zeroValue4
  t5 := Try.underlying5
  a5 := Try.isAgg5
  z5 := Try.sizeOf5
  v5 := Try.zeroValue5
  t9 := Try.underlying9
  a9 := Try.isAgg9
  z9 := Try.sizeOf9
  v9 := Try.zeroValue9
  t28 := Try.underlying65
  a28 := Try.isAgg65
  z28 := Try.sizeOf65
  v28 := Try.zeroValue65
  t46 := Try.underlying88
  a46 := Try.isAgg88
  z46 := Try.sizeOf88
  v46 := Try.zeroValue88
  t51 := Try.underlying24
  a51 := Try.isAgg24
  z51 := Try.sizeOf24
  v51 := Try.zeroValue24
  t53 := Try.underlying203
  a53 := Try.isAgg203
  z53 := Try.sizeOf203
  v53 := Try.zeroValue203
  t131 := Try.underlying192
  a131 := Try.isAgg192
  z131 := Try.sizeOf192
  v131 := Try.zeroValue192
  t182 := Try.underlying195
  a182 := Try.isAgg195
  z182 := Try.sizeOf195
  v182 := Try.zeroValue195
  t183 := Try.underlying196
  a183 := Try.isAgg196
  z183 := Try.sizeOf196
  v183 := Try.zeroValue196
  t218 := Try.underlying204
  a218 := Try.isAgg204
  z218 := Try.sizeOf204
  v218 := Try.zeroValue204
  t222 := Try.underlying208
  a222 := Try.isAgg208
  z222 := Try.sizeOf208
  v222 := Try.zeroValue208
  t228 := Try.underlying210
  a228 := Try.isAgg210
  z228 := Try.sizeOf210
  v228 := Try.zeroValue210
  t229 := Try.underlying111
  a229 := Try.isAgg111
  z229 := Try.sizeOf111
  v229 := Try.zeroValue111 }
open Go.Sort Go.RowKit in
theorem Try.slices_Sort_int (blk off cap : Nat) (zs : List Int) (w : World) (hH : Holds (Value.int .i64) w blk off zs.toArray) (hblk : blk < w.heap.size) (hsz : zs.length < 4611686018427387904) :
    Calls Try.prog 85 #[.slice (some ⟨blk, off, none⟩) zs.length cap] w fun e w' =>
      e = .returned (.tuple #[]) ∧ ∃ n os, w' = grow (putRow (Value.int .i64) (Sort.ahead w n) blk off (zs.mergeSort fun x y => decide (x ≤ y)).toArray) os := Any.slices_Sort_int Try.lays189 blk off cap zs w hH hblk hsz
open Go.RowKit Go.Sort in
/-- .. and plain. (LAID: no walk: one application.) -/
theorem Try.slices_Sort_int_none (p : Option Addr) (cap : Nat) (w : World) :
    Calls Try.prog 85 #[.slice p 0 cap] w fun e w' => e = .returned (.tuple #[]) ∧ w' = w := Any.slices_Sort_int_none Try.lays189 p cap w
end Go.Proofs
