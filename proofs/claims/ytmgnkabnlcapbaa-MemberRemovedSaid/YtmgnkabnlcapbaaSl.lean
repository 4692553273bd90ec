/-
  DERIVED: THE SHELF's CONTRACTS AT THIS DUMP, IN PLAIN WORDS (tools/lay-plain.mjs out of 'TryShelf.lean', which tools/lay-shelf.mjs wrote): THE SAME DECLARATIONS UNDER THE SAME NAMES: 'import', 'namespace', 'open', 'def', 'theorem' AND NOTHING ELSE: no command of the shelf's: FOR A HAND-IN. Each laying: the table of numbers ('.._ren') and one theorem, a field a fact of the dump's own or the kernel's comparison; each contract: ONE APPLICATION.
-/
import Derived.Shelf.Small.Wraps
import Derived.Shelf.Sort.Plain
import Derived.Shelf.Slices.Turned
import Derived.Shelf.Slices.Reverse
import Derived.Ground.Names2Prog
import Derived.Shelf.Slices.SearchI
import Derived.Shelf.Slices.Cells
import Derived.Shelf.Slices.In.SortNone
import Derived.Shelf.Slices.Empties
import Derived.Test.YtmgnkabnlcapbaaProg
namespace Go.Proofs
open Go.Shelf
def Try.lays189_ren : Go.Shelf.Ren := ⟨fun | 189 => 58 | 125 => 82 | 257 => 81 | 128 => 106 | 129 => 107 | 294 => 97 | 295 => 98 | 296 => 99 | 297 => 100 | 298 => 101 | 299 => 102 | 216 => 103 | 300 => 104 | 301 => 105 | 328 => 114 | 329 => 115 | 330 => 116 | 331 => 117 | 332 => 118 | 215 => 108 | 343 => 121 | n => n, fun | 28 => 31 | 3 => 3 | 46 => 116 | 0 => 0 | 51 => 137 | 53 => 102 | 4 => 4 | 183 => 130 | 182 => 129 | 131 => 120 | 5 => 5 | 9 => 9 | 218 => 141 | 222 => 101 | 228 => 146 | 229 => 147 | n => n, fun | n => n⟩
theorem Try.lays189 : Go.Proofs.Lays.n189 Try.prog Try.lays189_ren := {
  mixed := by kernel_rfl
  f125 := Try.func82.trans (congrArg some (by kernel_rfl))
  f128 := Try.func106.trans (congrArg some (by kernel_rfl))
  f129 := Try.func107.trans (congrArg some (by kernel_rfl))
  f189 := Try.func58.trans (congrArg some (by kernel_rfl))
  f215 := Try.func108.trans (congrArg some (by kernel_rfl))
  f216 := Try.func103.trans (congrArg some (by kernel_rfl))
  f257 := Try.func81.trans (congrArg some (by kernel_rfl))
  f294 := Try.func97.trans (congrArg some (by kernel_rfl))
  f295 := Try.func98.trans (congrArg some (by kernel_rfl))
  f296 := Try.func99.trans (congrArg some (by kernel_rfl))
  f297 := Try.func100.trans (congrArg some (by kernel_rfl))
  f298 := Try.func101.trans (congrArg some (by kernel_rfl))
  f299 := Try.func102.trans (congrArg some (by kernel_rfl))
  f300 := Try.func104.trans (congrArg some (by kernel_rfl))
  f301 := Try.func105.trans (congrArg some (by kernel_rfl))
  f328 := Try.func114.trans (congrArg some (by kernel_rfl))
  f329 := Try.func115.trans (congrArg some (by kernel_rfl))
  f330 := Try.func116.trans (congrArg some (by kernel_rfl))
  f331 := Try.func117.trans (congrArg some (by kernel_rfl))
  f332 := Try.func118.trans (congrArg some (by kernel_rfl))
  f343 := Try.func121.trans (congrArg some (by kernel_rfl))
  t0 := Try.underlying0
  a0 := Try.isAgg0
  z0 := Try.sizeOf0
  v0 := Try.zeroValue0
  t3 := Try.underlying3
  a3 := Try.isAgg3
  z3 := Try.sizeOf3
  v3 := Try.zeroValue3
  t4 := Try.underlying4
  a4 := Try.isAgg4
  z4 := Try.sizeOf4
  v4 := Try.zeroValue4
  t5 := Try.underlying5
  a5 := Try.isAgg5
  z5 := Try.sizeOf5
  v5 := Try.zeroValue5
  t9 := Try.underlying9
  a9 := Try.isAgg9
  z9 := Try.sizeOf9
  v9 := Try.zeroValue9
  t28 := Try.underlying31
  a28 := Try.isAgg31
  z28 := Try.sizeOf31
  v28 := Try.zeroValue31
  t46 := Try.underlying116
  a46 := Try.isAgg116
  z46 := Try.sizeOf116
  v46 := Try.zeroValue116
  t51 := Try.underlying137
  a51 := Try.isAgg137
  z51 := Try.sizeOf137
  v51 := Try.zeroValue137
  t53 := Try.underlying102
  a53 := Try.isAgg102
  z53 := Try.sizeOf102
  v53 := Try.zeroValue102
  t131 := Try.underlying120
  a131 := Try.isAgg120
  z131 := Try.sizeOf120
  v131 := Try.zeroValue120
  t182 := Try.underlying129
  a182 := Try.isAgg129
  z182 := Try.sizeOf129
  v182 := Try.zeroValue129
  t183 := Try.underlying130
  a183 := Try.isAgg130
  z183 := Try.sizeOf130
  v183 := Try.zeroValue130
  t218 := Try.underlying141
  a218 := Try.isAgg141
  z218 := Try.sizeOf141
  v218 := Try.zeroValue141
  t222 := Try.underlying101
  a222 := Try.isAgg101
  z222 := Try.sizeOf101
  v222 := Try.zeroValue101
  t228 := Try.underlying146
  a228 := Try.isAgg146
  z228 := Try.sizeOf146
  v228 := Try.zeroValue146
  t229 := Try.underlying147
  a229 := Try.isAgg147
  z229 := Try.sizeOf147
  v229 := Try.zeroValue147 }
open Go.Sort Go.RowKit in
theorem Try.slices_Sort_int (blk off cap : Nat) (zs : List Int) (w : World) (hH : Holds (Value.int .i64) w blk off zs.toArray) (hblk : blk < w.heap.size) (hsz : zs.length < 4611686018427387904) :
    Calls Try.prog 58 #[.slice (some ⟨blk, off, none⟩) zs.length cap] w fun e w' =>
      e = .returned (.tuple #[]) ∧ ∃ n os, w' = grow (putRow (Value.int .i64) (Sort.ahead w n) blk off (zs.mergeSort fun x y => decide (x ≤ y)).toArray) os := Any.slices_Sort_int Try.lays189 blk off cap zs w hH hblk hsz
open Go.RowKit Go.Sort in
/-- .. and plain. (LAID: no walk: one application.) -/
theorem Try.slices_Sort_int_none (p : Option Addr) (cap : Nat) (w : World) :
    Calls Try.prog 58 #[.slice p 0 cap] w fun e w' => e = .returned (.tuple #[]) ∧ w' = w := Any.slices_Sort_int_none Try.lays189 p cap w
end Go.Proofs
