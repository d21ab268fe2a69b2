/-
  Contracts of Go's library at this seat's translation, laid by the kit's own command in its plain mode.
-/
import Derived.Test.YtkpoidlohgnbpaaProg
import Derived.Shelf.Small.Bits
import Derived.Shelf.Strconv.Itoa0
import Derived.Shelf.Sort.Plain
import Derived.Ground.Names2Prog
import Derived.Shelf.Slices.SearchI
import Derived.Shelf.Slices.In.SortNone
import Derived.Shelf.Slices.Empties
namespace Go.Proofs
open Go.Shelf
def Try.lays189_ren : Go.Shelf.Ren := ⟨fun | 189 => 19 | 125 => 23 | 257 => 22 | 128 => 34 | 129 => 35 | 294 => 26 | 295 => 27 | 296 => 28 | 297 => 29 | 298 => 30 | 299 => 31 | 216 => 24 | 300 => 32 | 301 => 33 | 328 => 37 | 329 => 38 | 330 => 39 | 331 => 40 | 332 => 41 | 215 => 36 | 343 => 42 | n => n, fun | 28 => 51 | 3 => 3 | 46 => 58 | 0 => 0 | 51 => 69 | 53 => 71 | 4 => 4 | 183 => 63 | 182 => 62 | 131 => 53 | 5 => 5 | 9 => 9 | 218 => 72 | 222 => 76 | 228 => 78 | 229 => 79 | n => n, fun | n => n⟩
theorem Try.lays189 : Go.Proofs.Lays.n189 Try.prog Try.lays189_ren := {
  mixed := by kernel_rfl
  f125 := Try.func23.trans (congrArg some (by kernel_rfl))
  f128 := Try.func34.trans (congrArg some (by kernel_rfl))
  f129 := Try.func35.trans (congrArg some (by kernel_rfl))
  f189 := Try.func19.trans (congrArg some (by kernel_rfl))
  f215 := Try.func36.trans (congrArg some (by kernel_rfl))
  f216 := Try.func24.trans (congrArg some (by kernel_rfl))
  f257 := Try.func22.trans (congrArg some (by kernel_rfl))
  f294 := Try.func26.trans (congrArg some (by kernel_rfl))
  f295 := Try.func27.trans (congrArg some (by kernel_rfl))
  f296 := Try.func28.trans (congrArg some (by kernel_rfl))
  f297 := Try.func29.trans (congrArg some (by kernel_rfl))
  f298 := Try.func30.trans (congrArg some (by kernel_rfl))
  f299 := Try.func31.trans (congrArg some (by kernel_rfl))
  f300 := Try.func32.trans (congrArg some (by kernel_rfl))
  f301 := Try.func33.trans (congrArg some (by kernel_rfl))
  f328 := Try.func37.trans (congrArg some (by kernel_rfl))
  f329 := Try.func38.trans (congrArg some (by kernel_rfl))
  f330 := Try.func39.trans (congrArg some (by kernel_rfl))
  f331 := Try.func40.trans (congrArg some (by kernel_rfl))
  f332 := Try.func41.trans (congrArg some (by kernel_rfl))
  f343 := Try.func42.trans (congrArg some (by kernel_rfl))
  t0 := Try.underlying0
  a0 := Try.isAgg0
  z0 := Try.sizeOf0
  v0 := Try.zeroValue0
  t3 := Try.underlying3
  a3 := Try.isAgg3
  z3 := Try.sizeOf3
  v3 := Try.zeroValue3
  t4 := Try.underlying4
  a4 := Try.isAgg4
  z4 := Try.sizeOf4
  v4 := Try.zeroValue4
  t5 := Try.underlying5
  a5 := Try.isAgg5
  z5 := Try.sizeOf5
  v5 := Try.zeroValue5
  t9 := Try.underlying9
  a9 := Try.isAgg9
  z9 := Try.sizeOf9
  v9 := Try.zeroValue9
  t28 := Try.underlying51
  a28 := Try.isAgg51
  z28 := Try.sizeOf51
  v28 := Try.zeroValue51
  t46 := Try.underlying58
  a46 := Try.isAgg58
  z46 := Try.sizeOf58
  v46 := Try.zeroValue58
  t51 := Try.underlying69
  a51 := Try.isAgg69
  z51 := Try.sizeOf69
  v51 := Try.zeroValue69
  t53 := Try.underlying71
  a53 := Try.isAgg71
  z53 := Try.sizeOf71
  v53 := Try.zeroValue71
  t131 := Try.underlying53
  a131 := Try.isAgg53
  z131 := Try.sizeOf53
  v131 := Try.zeroValue53
  t182 := Try.underlying62
  a182 := Try.isAgg62
  z182 := Try.sizeOf62
  v182 := Try.zeroValue62
  t183 := Try.underlying63
  a183 := Try.isAgg63
  z183 := Try.sizeOf63
  v183 := Try.zeroValue63
  t218 := Try.underlying72
  a218 := Try.isAgg72
  z218 := Try.sizeOf72
  v218 := Try.zeroValue72
  t222 := Try.underlying76
  a222 := Try.isAgg76
  z222 := Try.sizeOf76
  v222 := Try.zeroValue76
  t228 := Try.underlying78
  a228 := Try.isAgg78
  z228 := Try.sizeOf78
  v228 := Try.zeroValue78
  t229 := Try.underlying79
  a229 := Try.isAgg79
  z229 := Try.sizeOf79
  v229 := Try.zeroValue79 }
open Go.Sort Go.RowKit in
theorem Try.slices_Sort_int (blk off cap : Nat) (zs : List Int) (w : World) (hH : Holds (Value.int .i64) w blk off zs.toArray) (hblk : blk < w.heap.size) (hsz : zs.length < 4611686018427387904) :
    Calls Try.prog 19 #[.slice (some ⟨blk, off, none⟩) zs.length cap] w fun e w' =>
      e = .returned (.tuple #[]) ∧ ∃ n os, w' = grow (putRow (Value.int .i64) (Sort.ahead w n) blk off (zs.mergeSort fun x y => decide (x ≤ y)).toArray) os := Any.slices_Sort_int Try.lays189 blk off cap zs w hH hblk hsz
def Try.laysNm225_ren : Go.Shelf.Ren := ⟨fun | 25 => 21 | 31 => 24 | 32 => 25 | 37 => 36 | n => n, fun | 22 => 51 | 3 => 3 | 4 => 4 | 40 => 58 | 0 => 0 | n => n, fun | n => n⟩
theorem Try.laysNm225 : Go.Proofs.Lays2.n25 Try.prog Try.laysNm225_ren := {
  mixed := by kernel_rfl
  f25 := Try.func21.trans (congrArg some (by kernel_rfl))
  f31 := Try.func24.trans (congrArg some (by kernel_rfl))
  f32 := Try.func25.trans (congrArg some (by kernel_rfl))
  f37 := Try.func36.trans (congrArg some (by kernel_rfl))
  t0 := Try.underlying0
  a0 := Try.isAgg0
  z0 := Try.sizeOf0
  v0 := Try.zeroValue0
  t3 := Try.underlying3
  a3 := Try.isAgg3
  z3 := Try.sizeOf3
  v3 := Try.zeroValue3
  t4 := Try.underlying4
  a4 := Try.isAgg4
  z4 := Try.sizeOf4
  v4 := Try.zeroValue4
  t22 := Try.underlying51
  a22 := Try.isAgg51
  z22 := Try.sizeOf51
  v22 := Try.zeroValue51
  t40 := Try.underlying58
  a40 := Try.isAgg58
  z40 := Try.sizeOf58
  v40 := Try.zeroValue58 }
open Go.RowKit Go.Lib in
/-- slices.BinarySearch at []int: "BinarySearch searches for target in a sorted slice and returns the earliest position where target is found, or the position where target would appear in the sort order; it also returns a bool saying whether the target is really found in the slice. The slice must be sorted in increasing order.": OF A SORTED SLICE IT RETURNS how many elements are less than the target, and whether the target is among the elements; the world is as it was but for the count of draws. 'zs': what the cells behind the slice's address hold; 'zs.take n': its elements. (Of a slice that is not sorted: no contract here.) (LAID: no walk: one application.) -/
theorem Try.slices_BinarySearch_int (b off n c : Nat) (zs : List Int) (x : Int) (w : World) (hz : n ≤ zs.length) (hbig : n < 4611686018427387904) (hc : ∀ j, j < zs.length → w.cell? ⟨b, off + j, none⟩ = some (.int .i64 (zs.getD j 0))) (hs : (zs.take n).Pairwise (· ≤ ·)) :
    Calls Try.prog 21 #[.slice (some ⟨b, off, none⟩) n c, .int .i64 x] w fun e w' => e = .returned (.tuple #[.int .i64 ((zs.take n).countP (· < x) : Nat), .bool ((zs.take n).contains x)]) ∧ ∃ q, w' = w.drewN q := Any.slices_BinarySearch_int Try.laysNm225 b off n c zs x w hz hbig hc hs
open Go.RowKit Go.Sort in
/-- .. and plain. (LAID: no walk: one application.) -/
theorem Try.slices_Sort_int_none (p : Option Addr) (cap : Nat) (w : World) :
    Calls Try.prog 19 #[.slice p 0 cap] w fun e w' => e = .returned (.tuple #[]) ∧ w' = w := Any.slices_Sort_int_none Try.lays189 p cap w
open Go.RowKit Go.Lib in
/-- slices.BinarySearch at []int of no element: position 0, not found; the world is as it was. (LAID: no walk: one application.) -/
theorem Try.slices_BinarySearch_int_empty (a : Option Addr) (c : Nat) (x : Int) (w : World) :
    Calls Try.prog 21 #[.slice a 0 c, .int .i64 x] w fun e w' => e = .returned (.tuple #[.int .i64 0, .bool false]) ∧ w' = w := Any.slices_BinarySearch_int_empty Try.laysNm225 a c x w
end Go.Proofs
