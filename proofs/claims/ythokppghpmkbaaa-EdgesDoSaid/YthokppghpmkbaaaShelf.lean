/-
  DERIVED: THE SHELF's CONTRACTS AT THIS DUMP, IN PLAIN WORDS (tools/lay-plain.mjs out of 'TryShelf.lean', which tools/lay-shelf.mjs wrote): THE SAME DECLARATIONS UNDER THE SAME NAMES: 'import', 'namespace', 'open', 'def', 'theorem' AND NOTHING ELSE: no command of the shelf's: FOR A HAND-IN. Each laying: the table of numbers ('.._ren') and one theorem, a field a fact of the dump's own or the kernel's comparison; each contract: ONE APPLICATION.
-/
import Derived.Shelf.Small.Bits
import Derived.Shelf.Small.Wraps
import Derived.Shelf.Strconv.Itoa0
import Derived.Shelf.Sort.Plain
import Derived.Ground.Names2Prog
import Derived.Shelf.Slices.SearchI
import Derived.Shelf.Slices.In.SortNone
import Derived.Shelf.Slices.Empties
import Derived.Shelf.SlSorted.Search
import Derived.Ground.SlsoProg
import Derived.Test.YthokppghpmkbaaaProg
namespace Go.Proofs
open Go.Shelf
def Try.lays189_ren : Go.Shelf.Ren := ⟨fun | 189 => 125 | 125 => 160 | 257 => 159 | 128 => 187 | 129 => 188 | 294 => 179 | 295 => 180 | 296 => 181 | 297 => 182 | 298 => 183 | 299 => 184 | 216 => 177 | 300 => 185 | 301 => 186 | 328 => 196 | 329 => 197 | 330 => 198 | 331 => 199 | 332 => 200 | 215 => 195 | 343 => 202 | n => n, fun | 28 => 28 | 3 => 3 | 46 => 226 | 0 => 0 | 51 => 222 | 53 => 46 | 4 => 4 | 183 => 262 | 182 => 261 | 131 => 201 | 5 => 5 | 9 => 9 | 218 => 274 | 222 => 277 | 228 => 280 | 229 => 127 | n => n, fun | n => n⟩
theorem Try.lays189 : Go.Proofs.Lays.n189 Try.prog Try.lays189_ren := {
  mixed := by kernel_rfl
  f125 := Try.func160.trans (congrArg some (by kernel_rfl))
  f128 := Try.func187.trans (congrArg some (by kernel_rfl))
  f129 := Try.func188.trans (congrArg some (by kernel_rfl))
  f189 := Try.func125.trans (congrArg some (by kernel_rfl))
  f215 := Try.func195.trans (congrArg some (by kernel_rfl))
  f216 := Try.func177.trans (congrArg some (by kernel_rfl))
  f257 := Try.func159.trans (congrArg some (by kernel_rfl))
  f294 := Try.func179.trans (congrArg some (by kernel_rfl))
  f295 := Try.func180.trans (congrArg some (by kernel_rfl))
  f296 := Try.func181.trans (congrArg some (by kernel_rfl))
  f297 := Try.func182.trans (congrArg some (by kernel_rfl))
  f298 := Try.func183.trans (congrArg some (by kernel_rfl))
  f299 := Try.func184.trans (congrArg some (by kernel_rfl))
  f300 := Try.func185.trans (congrArg some (by kernel_rfl))
  f301 := Try.func186.trans (congrArg some (by kernel_rfl))
  f328 := Try.func196.trans (congrArg some (by kernel_rfl))
  f329 := Try.func197.trans (congrArg some (by kernel_rfl))
  f330 := Try.func198.trans (congrArg some (by kernel_rfl))
  f331 := Try.func199.trans (congrArg some (by kernel_rfl))
  f332 := Try.func200.trans (congrArg some (by kernel_rfl))
  f343 := Try.func202.trans (congrArg some (by kernel_rfl))
  t0 := Try.underlying0
  a0 := Try.isAgg0
  z0 := Try.sizeOf0
  v0 := Try.zeroValue0
  t3 := Try.underlying3
  a3 := Try.isAgg3
  z3 := Try.sizeOf3
  v3 := Try.zeroValue3
  t4 := Try.underlying4
  a4 := Try.isAgg4
  z4 := Try.sizeOf4
  v4 := Try.zeroValue4
  t5 := Try.underlying5
  a5 := Try.isAgg5
  z5 := Try.sizeOf5
  v5 := Try.zeroValue5
  t9 := Try.underlying9
  a9 := Try.isAgg9
  z9 := Try.sizeOf9
  v9 := Try.zeroValue9
  t28 := Try.underlying28
  a28 := Try.isAgg28
  z28 := Try.sizeOf28
  v28 := Try.zeroValue28
  t46 := Try.underlying226
  a46 := Try.isAgg226
  z46 := Try.sizeOf226
  v46 := Try.zeroValue226
  t51 := Try.underlying222
  a51 := Try.isAgg222
  z51 := Try.sizeOf222
  v51 := Try.zeroValue222
  t53 := Try.underlying46
  a53 := Try.isAgg46
  z53 := Try.sizeOf46
  v53 := Try.zeroValue46
  t131 := Try.underlying201
  a131 := Try.isAgg201
  z131 := Try.sizeOf201
  v131 := Try.zeroValue201
  t182 := Try.underlying261
  a182 := Try.isAgg261
  z182 := Try.sizeOf261
  v182 := Try.zeroValue261
  t183 := Try.underlying262
  a183 := Try.isAgg262
  z183 := Try.sizeOf262
  v183 := Try.zeroValue262
  t218 := Try.underlying274
  a218 := Try.isAgg274
  z218 := Try.sizeOf274
  v218 := Try.zeroValue274
  t222 := Try.underlying277
  a222 := Try.isAgg277
  z222 := Try.sizeOf277
  v222 := Try.zeroValue277
  t228 := Try.underlying280
  a228 := Try.isAgg280
  z228 := Try.sizeOf280
  v228 := Try.zeroValue280
  t229 := Try.underlying127
  a229 := Try.isAgg127
  z229 := Try.sizeOf127
  v229 := Try.zeroValue127 }
open Go.Sort Go.RowKit in
theorem Try.slices_Sort_int (blk off cap : Nat) (zs : List Int) (w : World) (hH : Holds (Value.int .i64) w blk off zs.toArray) (hblk : blk < w.heap.size) (hsz : zs.length < 4611686018427387904) :
    Calls Try.prog 125 #[.slice (some ⟨blk, off, none⟩) zs.length cap] w fun e w' =>
      e = .returned (.tuple #[]) ∧ ∃ n os, w' = grow (putRow (Value.int .i64) (Sort.ahead w n) blk off (zs.mergeSort fun x y => decide (x ≤ y)).toArray) os := Any.slices_Sort_int Try.lays189 blk off cap zs w hH hblk hsz
def Try.laysNm225_ren : Go.Shelf.Ren := ⟨fun | 25 => 158 | 31 => 177 | 32 => 178 | 37 => 195 | n => n, fun | 22 => 28 | 3 => 3 | 4 => 4 | 40 => 226 | 0 => 0 | n => n, fun | n => n⟩
theorem Try.laysNm225 : Go.Proofs.Lays2.n25 Try.prog Try.laysNm225_ren := {
  mixed := by kernel_rfl
  f25 := Try.func158.trans (congrArg some (by kernel_rfl))
  f31 := Try.func177.trans (congrArg some (by kernel_rfl))
  f32 := Try.func178.trans (congrArg some (by kernel_rfl))
  f37 := Try.func195.trans (congrArg some (by kernel_rfl))
  t0 := Try.underlying0
  a0 := Try.isAgg0
  z0 := Try.sizeOf0
  v0 := Try.zeroValue0
  t3 := Try.underlying3
  a3 := Try.isAgg3
  z3 := Try.sizeOf3
  v3 := Try.zeroValue3
  t4 := Try.underlying4
  a4 := Try.isAgg4
  z4 := Try.sizeOf4
  v4 := Try.zeroValue4
  t22 := Try.underlying28
  a22 := Try.isAgg28
  z22 := Try.sizeOf28
  v22 := Try.zeroValue28
  t40 := Try.underlying226
  a40 := Try.isAgg226
  z40 := Try.sizeOf226
  v40 := Try.zeroValue226 }
open Go.RowKit Go.Lib in
/-- slices.BinarySearch at []int: "BinarySearch searches for target in a sorted slice and returns the earliest position where target is found, or the position where target would appear in the sort order; it also returns a bool saying whether the target is really found in the slice. The slice must be sorted in increasing order.": OF A SORTED SLICE IT RETURNS how many elements are less than the target, and whether the target is among the elements; the world is as it was but for the count of draws. 'zs': what the cells behind the slice's address hold; 'zs.take n': its elements. (Of a slice that is not sorted: no contract here.) (LAID: no walk: one application.) -/
theorem Try.slices_BinarySearch_int (b off n c : Nat) (zs : List Int) (x : Int) (w : World) (hz : n ≤ zs.length) (hbig : n < 4611686018427387904) (hc : ∀ j, j < zs.length → w.cell? ⟨b, off + j, none⟩ = some (.int .i64 (zs.getD j 0))) (hs : (zs.take n).Pairwise (· ≤ ·)) :
    Calls Try.prog 158 #[.slice (some ⟨b, off, none⟩) n c, .int .i64 x] w fun e w' => e = .returned (.tuple #[.int .i64 ((zs.take n).countP (· < x) : Nat), .bool ((zs.take n).contains x)]) ∧ ∃ q, w' = w.drewN q := Any.slices_BinarySearch_int Try.laysNm225 b off n c zs x w hz hbig hc hs
open Go.RowKit Go.Sort in
/-- .. and plain. (LAID: no walk: one application.) -/
theorem Try.slices_Sort_int_none (p : Option Addr) (cap : Nat) (w : World) :
    Calls Try.prog 125 #[.slice p 0 cap] w fun e w' => e = .returned (.tuple #[]) ∧ w' = w := Any.slices_Sort_int_none Try.lays189 p cap w
open Go.RowKit Go.Lib in
/-- slices.BinarySearch at []int of no element: position 0, not found; the world is as it was. (LAID: no walk: one application.) -/
theorem Try.slices_BinarySearch_int_empty (a : Option Addr) (c : Nat) (x : Int) (w : World) :
    Calls Try.prog 158 #[.slice a 0 c, .int .i64 x] w fun e w' => e = .returned (.tuple #[.int .i64 0, .bool false]) ∧ w' = w := Any.slices_BinarySearch_int_empty Try.laysNm225 a c x w
def Try.laysSearch_ren : Go.Shelf.Ren := ⟨fun | 16 => 172 | n => n, fun | 3 => 3 | 35 => 39 | 4 => 4 | 38 => 226 | n => n, fun | n => n⟩
theorem Try.laysSearch : Go.Proofs.SlLaysO.n16 Try.prog Try.laysSearch_ren := {
  mixed := by kernel_rfl
  f16 := Try.func172.trans (congrArg some (by kernel_rfl))
  t3 := Try.underlying3
  a3 := Try.isAgg3
  z3 := Try.sizeOf3
  v3 := Try.zeroValue3
  t4 := Try.underlying4
  a4 := Try.isAgg4
  z4 := Try.sizeOf4
  v4 := Try.zeroValue4
  t35 := Try.underlying39
  a35 := Try.isAgg39
  z35 := Try.sizeOf39
  v35 := Try.zeroValue39
  t38 := Try.underlying226
  a38 := Try.isAgg226
  z38 := Try.sizeOf226
  v38 := Try.zeroValue226 }
end Go.Proofs
