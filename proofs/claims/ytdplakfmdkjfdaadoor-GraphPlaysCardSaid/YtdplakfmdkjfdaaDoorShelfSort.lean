/- Contracts of Go's library that the kit's tools laid at this seat: those that are used. -/
import Derived.Shelf.Sort.Plain
import Derived.Shelf.Slices.CompactI
import Derived.Shelf.Slices.In.SortNone
import Derived.Shelf.LaysM
import Derived.Test.YtdplakfmdkjfdaaDoorProg
namespace Go.Proofs
open Go.Shelf
def Tryd.lays189_ren : Go.Shelf.Ren := ⟨fun | 189 => 77 | 125 => 88 | 257 => 87 | 128 => 108 | 129 => 109 | 294 => 99 | 295 => 100 | 296 => 101 | 297 => 102 | 298 => 103 | 299 => 104 | 216 => 105 | 300 => 106 | 301 => 107 | 328 => 121 | 329 => 122 | 330 => 123 | 331 => 124 | 332 => 125 | 215 => 126 | 343 => 138 | n => n, fun | 28 => 39 | 3 => 3 | 46 => 124 | 0 => 0 | 51 => 144 | 53 => 115 | 4 => 4 | 183 => 137 | 182 => 136 | 131 => 105 | 5 => 5 | 9 => 9 | 218 => 160 | 222 => 97 | 228 => 173 | 229 => 55 | n => n, fun | n => n⟩
theorem Tryd.lays189 : Go.Proofs.Lays.n189 Tryd.prog Tryd.lays189_ren := {
  mixed := by kernel_rfl
  f125 := Tryd.func88.trans (congrArg some (by kernel_rfl))
  f128 := Tryd.func108.trans (congrArg some (by kernel_rfl))
  f129 := Tryd.func109.trans (congrArg some (by kernel_rfl))
  f189 := Tryd.func77.trans (congrArg some (by kernel_rfl))
  f215 := Tryd.func126.trans (congrArg some (by kernel_rfl))
  f216 := Tryd.func105.trans (congrArg some (by kernel_rfl))
  f257 := Tryd.func87.trans (congrArg some (by kernel_rfl))
  f294 := Tryd.func99.trans (congrArg some (by kernel_rfl))
  f295 := Tryd.func100.trans (congrArg some (by kernel_rfl))
  f296 := Tryd.func101.trans (congrArg some (by kernel_rfl))
  f297 := Tryd.func102.trans (congrArg some (by kernel_rfl))
  f298 := Tryd.func103.trans (congrArg some (by kernel_rfl))
  f299 := Tryd.func104.trans (congrArg some (by kernel_rfl))
  f300 := Tryd.func106.trans (congrArg some (by kernel_rfl))
  f301 := Tryd.func107.trans (congrArg some (by kernel_rfl))
  f328 := Tryd.func121.trans (congrArg some (by kernel_rfl))
  f329 := Tryd.func122.trans (congrArg some (by kernel_rfl))
  f330 := Tryd.func123.trans (congrArg some (by kernel_rfl))
  f331 := Tryd.func124.trans (congrArg some (by kernel_rfl))
  f332 := Tryd.func125.trans (congrArg some (by kernel_rfl))
  f343 := Tryd.func138.trans (congrArg some (by kernel_rfl))
  t0 := Tryd.underlying0
  a0 := Tryd.isAgg0
  z0 := Tryd.sizeOf0
  v0 := Tryd.zeroValue0
  t3 := Tryd.underlying3
  a3 := Tryd.isAgg3
  z3 := Tryd.sizeOf3
  v3 := Tryd.zeroValue3
  t4 := Tryd.underlying4
  a4 := Tryd.isAgg4
  z4 := Tryd.sizeOf4
  v4 := Tryd.zeroValue4
  t5 := Tryd.underlying5
  a5 := Tryd.isAgg5
  z5 := Tryd.sizeOf5
  v5 := Tryd.zeroValue5
  t9 := Tryd.underlying9
  a9 := Tryd.isAgg9
  z9 := Tryd.sizeOf9
  v9 := Tryd.zeroValue9
  t28 := Tryd.underlying39
  a28 := Tryd.isAgg39
  z28 := Tryd.sizeOf39
  v28 := Tryd.zeroValue39
  t46 := Tryd.underlying124
  a46 := Tryd.isAgg124
  z46 := Tryd.sizeOf124
  v46 := Tryd.zeroValue124
  t51 := Tryd.underlying144
  a51 := Tryd.isAgg144
  z51 := Tryd.sizeOf144
  v51 := Tryd.zeroValue144
  t53 := Tryd.underlying115
  a53 := Tryd.isAgg115
  z53 := Tryd.sizeOf115
  v53 := Tryd.zeroValue115
  t131 := Tryd.underlying105
  a131 := Tryd.isAgg105
  z131 := Tryd.sizeOf105
  v131 := Tryd.zeroValue105
  t182 := Tryd.underlying136
  a182 := Tryd.isAgg136
  z182 := Tryd.sizeOf136
  v182 := Tryd.zeroValue136
  t183 := Tryd.underlying137
  a183 := Tryd.isAgg137
  z183 := Tryd.sizeOf137
  v183 := Tryd.zeroValue137
  t218 := Tryd.underlying160
  a218 := Tryd.isAgg160
  z218 := Tryd.sizeOf160
  v218 := Tryd.zeroValue160
  t222 := Tryd.underlying97
  a222 := Tryd.isAgg97
  z222 := Tryd.sizeOf97
  v222 := Tryd.zeroValue97
  t228 := Tryd.underlying173
  a228 := Tryd.isAgg173
  z228 := Tryd.sizeOf173
  v228 := Tryd.zeroValue173
  t229 := Tryd.underlying55
  a229 := Tryd.isAgg55
  z229 := Tryd.sizeOf55
  v229 := Tryd.zeroValue55 }
open Go.Sort Go.RowKit in
theorem Tryd.slices_Sort_int (blk off cap : Nat) (zs : List Int) (w : World) (hH : Holds (Value.int .i64) w blk off zs.toArray) (hblk : blk < w.heap.size) (hsz : zs.length < 4611686018427387904) :
    Calls Tryd.prog 77 #[.slice (some ⟨blk, off, none⟩) zs.length cap] w fun e w' =>
      e = .returned (.tuple #[]) ∧ ∃ n os, w' = grow (putRow (Value.int .i64) (Sort.ahead w n) blk off (zs.mergeSort fun x y => decide (x ≤ y)).toArray) os := Any.slices_Sort_int Tryd.lays189 blk off cap zs w hH hblk hsz
def Tryd.laysNm220_ren : Go.Shelf.Ren := ⟨fun | 20 => 78 | n => n, fun | 22 => 39 | 3 => 3 | 4 => 4 | 0 => 0 | n => n, fun | n => n⟩
theorem Tryd.laysNm220 : Go.Proofs.Lays2.n20 Tryd.prog Tryd.laysNm220_ren := {
  mixed := by kernel_rfl
  f20 := Tryd.func78.trans (congrArg some (by kernel_rfl))
  t0 := Tryd.underlying0
  a0 := Tryd.isAgg0
  z0 := Tryd.sizeOf0
  v0 := Tryd.zeroValue0
  t3 := Tryd.underlying3
  a3 := Tryd.isAgg3
  z3 := Tryd.sizeOf3
  v3 := Tryd.zeroValue3
  t4 := Tryd.underlying4
  a4 := Tryd.isAgg4
  z4 := Tryd.sizeOf4
  v4 := Tryd.zeroValue4
  t22 := Tryd.underlying39
  a22 := Tryd.isAgg39
  z22 := Tryd.sizeOf39
  v22 := Tryd.zeroValue39
  i3 := by kernel_rfl }
open Go.RowKit Go.Lib Go.Sort in
theorem Tryd.slices_Compact_int (blk off cap : Nat) (zs : List Int) (w : World) (hH : Holds (Value.int .i64) w blk off zs.toArray) (hsz : zs.length ≤ 9223372036854775807) (hcap : zs.length ≤ cap) :
    Calls Tryd.prog 78 #[.slice (some ⟨blk, off, none⟩) zs.length cap] w fun e w' => e = .returned (.slice (some ⟨blk, off, none⟩) (Lib.compact zs).length cap) ∧ ∃ q, w' = putRow (Value.int .i64) (Sort.ahead w q) blk off (Lib.compact zs ++ List.replicate (zs.length - (Lib.compact zs).length) 0).toArray := Any.slices_Compact_int Tryd.laysNm220 blk off cap zs w hH hsz hcap
open Go.RowKit Go.Lib Go.Sort in
theorem Tryd.slices_Compact_int_empty (a : Option Addr) (cap : Nat) (w : World) :
    Calls Tryd.prog 78 #[.slice a 0 cap] w fun e w' => e = .returned (.slice a 0 cap) ∧ w' = w := Any.slices_Compact_int_empty Tryd.laysNm220 a cap w
open Go.RowKit Go.Sort in
theorem Tryd.slices_Sort_int_none (p : Option Addr) (cap : Nat) (w : World) :
    Calls Tryd.prog 77 #[.slice p 0 cap] w fun e w' => e = .returned (.tuple #[]) ∧ w' = w := Any.slices_Sort_int_none Tryd.lays189 p cap w

end Go.Proofs
