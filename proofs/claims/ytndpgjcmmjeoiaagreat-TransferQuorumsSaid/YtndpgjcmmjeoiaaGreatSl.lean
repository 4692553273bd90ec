/-
  DERIVED: THE SHELF's CONTRACTS AT THIS DUMP, IN PLAIN WORDS (tools/lay-plain.mjs out of 'TryzShelf.lean', which tools/lay-shelf.mjs wrote): THE SAME DECLARATIONS UNDER THE SAME NAMES: 'import', 'namespace', 'open', 'def', 'theorem' AND NOTHING ELSE: no command of the shelf's: FOR A HAND-IN. Each laying: the table of numbers ('.._ren') and one theorem, a field a fact of the dump's own or the kernel's comparison; each contract: ONE APPLICATION.
-/
import Derived.Shelf.Small.Wraps
import Derived.Shelf.Sort.Plain
import Derived.Shelf.Slices.Turned
import Derived.Shelf.Slices.Reverse
import Derived.Ground.Names2Prog
import Derived.Shelf.Slices.CompactI
import Derived.Shelf.Slices.SearchI
import Derived.Shelf.Slices.Cells
import Derived.Shelf.Slices.In.SortNone
import Derived.Shelf.Slices.Empties
import Derived.Test.YtndpgjcmmjeoiaaGreatProg
namespace Go.Proofs
open Go.Shelf
def Tryz.lays189_ren : Go.Shelf.Ren := ⟨fun | 189 => 199 | 125 => 234 | 257 => 233 | 128 => 265 | 129 => 266 | 294 => 256 | 295 => 257 | 296 => 258 | 297 => 259 | 298 => 260 | 299 => 261 | 216 => 262 | 300 => 263 | 301 => 264 | 328 => 282 | 329 => 283 | 330 => 284 | 331 => 285 | 332 => 286 | 215 => 229 | 343 => 295 | n => n, fun | 28 => 46 | 3 => 3 | 46 => 250 | 0 => 0 | 51 => 284 | 53 => 286 | 4 => 4 | 183 => 278 | 182 => 277 | 131 => 172 | 5 => 5 | 9 => 9 | 218 => 300 | 222 => 304 | 228 => 311 | 229 => 312 | n => n, fun | n => n⟩
theorem Tryz.lays189 : Go.Proofs.Lays.n189 Tryz.prog Tryz.lays189_ren := {
  mixed := by kernel_rfl
  f125 := Tryz.func234.trans (congrArg some (by kernel_rfl))
  f128 := Tryz.func265.trans (congrArg some (by kernel_rfl))
  f129 := Tryz.func266.trans (congrArg some (by kernel_rfl))
  f189 := Tryz.func199.trans (congrArg some (by kernel_rfl))
  f215 := Tryz.func229.trans (congrArg some (by kernel_rfl))
  f216 := Tryz.func262.trans (congrArg some (by kernel_rfl))
  f257 := Tryz.func233.trans (congrArg some (by kernel_rfl))
  f294 := Tryz.func256.trans (congrArg some (by kernel_rfl))
  f295 := Tryz.func257.trans (congrArg some (by kernel_rfl))
  f296 := Tryz.func258.trans (congrArg some (by kernel_rfl))
  f297 := Tryz.func259.trans (congrArg some (by kernel_rfl))
  f298 := Tryz.func260.trans (congrArg some (by kernel_rfl))
  f299 := Tryz.func261.trans (congrArg some (by kernel_rfl))
  f300 := Tryz.func263.trans (congrArg some (by kernel_rfl))
  f301 := Tryz.func264.trans (congrArg some (by kernel_rfl))
  f328 := Tryz.func282.trans (congrArg some (by kernel_rfl))
  f329 := Tryz.func283.trans (congrArg some (by kernel_rfl))
  f330 := Tryz.func284.trans (congrArg some (by kernel_rfl))
  f331 := Tryz.func285.trans (congrArg some (by kernel_rfl))
  f332 := Tryz.func286.trans (congrArg some (by kernel_rfl))
  f343 := Tryz.func295.trans (congrArg some (by kernel_rfl))
  t0 := Tryz.underlying0
  a0 := Tryz.isAgg0
  z0 := Tryz.sizeOf0
  v0 := Tryz.zeroValue0
  t3 := Tryz.underlying3
  a3 := Tryz.isAgg3
  z3 := Tryz.sizeOf3
  v3 := Tryz.zeroValue3
  t4 := Tryz.underlying4
  a4 := Tryz.isAgg4
  z4 := Tryz.sizeOf4
  v4 := Tryz.zeroValue4
  t5 := Tryz.underlying5
  a5 := Tryz.isAgg5
  z5 := Tryz.sizeOf5
  v5 := Tryz.zeroValue5
  t9 := Tryz.underlying9
  a9 := Tryz.isAgg9
  z9 := Tryz.sizeOf9
  v9 := Tryz.zeroValue9
  t28 := Tryz.underlying46
  a28 := Tryz.isAgg46
  z28 := Tryz.sizeOf46
  v28 := Tryz.zeroValue46
  t46 := Tryz.underlying250
  a46 := Tryz.isAgg250
  z46 := Tryz.sizeOf250
  v46 := Tryz.zeroValue250
  t51 := Tryz.underlying284
  a51 := Tryz.isAgg284
  z51 := Tryz.sizeOf284
  v51 := Tryz.zeroValue284
  t53 := Tryz.underlying286
  a53 := Tryz.isAgg286
  z53 := Tryz.sizeOf286
  v53 := Tryz.zeroValue286
  t131 := Tryz.underlying172
  a131 := Tryz.isAgg172
  z131 := Tryz.sizeOf172
  v131 := Tryz.zeroValue172
  t182 := Tryz.underlying277
  a182 := Tryz.isAgg277
  z182 := Tryz.sizeOf277
  v182 := Tryz.zeroValue277
  t183 := Tryz.underlying278
  a183 := Tryz.isAgg278
  z183 := Tryz.sizeOf278
  v183 := Tryz.zeroValue278
  t218 := Tryz.underlying300
  a218 := Tryz.isAgg300
  z218 := Tryz.sizeOf300
  v218 := Tryz.zeroValue300
  t222 := Tryz.underlying304
  a222 := Tryz.isAgg304
  z222 := Tryz.sizeOf304
  v222 := Tryz.zeroValue304
  t228 := Tryz.underlying311
  a228 := Tryz.isAgg311
  z228 := Tryz.sizeOf311
  v228 := Tryz.zeroValue311
  t229 := Tryz.underlying312
  a229 := Tryz.isAgg312
  z229 := Tryz.sizeOf312
  v229 := Tryz.zeroValue312 }
open Go.Sort Go.RowKit in
theorem Tryz.slices_Sort_int (blk off cap : Nat) (zs : List Int) (w : World) (hH : Holds (Value.int .i64) w blk off zs.toArray) (hblk : blk < w.heap.size) (hsz : zs.length < 4611686018427387904) :
    Calls Tryz.prog 199 #[.slice (some ⟨blk, off, none⟩) zs.length cap] w fun e w' =>
      e = .returned (.tuple #[]) ∧ ∃ n os, w' = grow (putRow (Value.int .i64) (Sort.ahead w n) blk off (zs.mergeSort fun x y => decide (x ≤ y)).toArray) os := Any.slices_Sort_int Tryz.lays189 blk off cap zs w hH hblk hsz
def Tryz.laysNm220_ren : Go.Shelf.Ren := ⟨fun | 20 => 200 | n => n, fun | 22 => 46 | 3 => 3 | 4 => 4 | 0 => 0 | n => n, fun | n => n⟩
theorem Tryz.laysNm220 : Go.Proofs.Lays2.n20 Tryz.prog Tryz.laysNm220_ren := {
  mixed := by kernel_rfl
  f20 := Tryz.func200.trans (congrArg some (by kernel_rfl))
  t0 := Tryz.underlying0
  a0 := Tryz.isAgg0
  z0 := Tryz.sizeOf0
  v0 := Tryz.zeroValue0
  t3 := Tryz.underlying3
  a3 := Tryz.isAgg3
  z3 := Tryz.sizeOf3
  v3 := Tryz.zeroValue3
  t4 := Tryz.underlying4
  a4 := Tryz.isAgg4
  z4 := Tryz.sizeOf4
  v4 := Tryz.zeroValue4
  t22 := Tryz.underlying46
  a22 := Tryz.isAgg46
  z22 := Tryz.sizeOf46
  v22 := Tryz.zeroValue46
  i3 := by kernel_rfl }
open Go.RowKit Go.Lib Go.Sort in
/-- slices.Compact at []int, over an array: the library's two loops are walked. (LAID: no walk: one application.) -/
theorem Tryz.slices_Compact_int_arr (blk off cap : Nat) (d : Array Int) (w : World) (hH : Holds encI w blk off d) (hsz : d.size ≤ 9223372036854775807) (hcap : d.size ≤ cap) :
    Calls Tryz.prog 200 #[.slice (some ⟨blk, off, none⟩) d.size cap] w fun e w' => e = .returned (.slice (some ⟨blk, off, none⟩) (compactUpTo d d.size).length cap) ∧ ∃ q, w' = putRow encI (Sort.ahead w q) blk off (compactUpTo d d.size ++ List.replicate (d.size - (compactUpTo d d.size).length) 0).toArray := Any.slices_Compact_int_arr Tryz.laysNm220 blk off cap d w hH hsz hcap
open Go.RowKit Go.Lib Go.Sort in
/-- slices.Compact at []int: "Compact replaces consecutive runs of equal elements with a single copy. This is like the uniq command found on Unix. Compact modifies the contents of the slice s and returns the modified slice, which may have a smaller length. Compact zeroes the elements between the new length and the original length. The result preserves the nilness of s.": IT RETURNS THE SLICE CUT TO 'Lib.compact zs'; ITS CELLS HOLD 'Lib.compact zs', THEN ZERO VALUES up to the old length; all else is as it was, but for the count of draws. IN THE WORDS OF slices.Sort's CONTRACT ('Holds', 'putRow'): so the everyday 'slices.Sort(xs); xs = slices.Compact(xs)' goes from the one contract to the other. It asks 'zs.length ≤ cap' (every slice's: the reslicing 's[:k]' looks at it). Length 0, nil: '.._empty'. (LAID: no walk: one application.) -/
theorem Tryz.slices_Compact_int (blk off cap : Nat) (zs : List Int) (w : World) (hH : Holds (Value.int .i64) w blk off zs.toArray) (hsz : zs.length ≤ 9223372036854775807) (hcap : zs.length ≤ cap) :
    Calls Tryz.prog 200 #[.slice (some ⟨blk, off, none⟩) zs.length cap] w fun e w' => e = .returned (.slice (some ⟨blk, off, none⟩) (Lib.compact zs).length cap) ∧ ∃ q, w' = putRow (Value.int .i64) (Sort.ahead w q) blk off (Lib.compact zs ++ List.replicate (zs.length - (Lib.compact zs).length) 0).toArray := Any.slices_Compact_int Tryz.laysNm220 blk off cap zs w hH hsz hcap
open Go.RowKit Go.Lib Go.Sort in
/-- The same at a slice of length 0, a nil one too: it comes back as it is. (LAID: no walk: one application.) -/
theorem Tryz.slices_Compact_int_empty (a : Option Addr) (cap : Nat) (w : World) :
    Calls Tryz.prog 200 #[.slice a 0 cap] w fun e w' => e = .returned (.slice a 0 cap) ∧ w' = w := Any.slices_Compact_int_empty Tryz.laysNm220 a cap w
open Go.RowKit Go.Sort in
/-- .. and plain. (LAID: no walk: one application.) -/
theorem Tryz.slices_Sort_int_none (p : Option Addr) (cap : Nat) (w : World) :
    Calls Tryz.prog 199 #[.slice p 0 cap] w fun e w' => e = .returned (.tuple #[]) ∧ w' = w := Any.slices_Sort_int_none Tryz.lays189 p cap w
end Go.Proofs
