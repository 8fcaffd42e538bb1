/-
  The library contracts of this seat, in plain words: written by the kit's lay-shelf.mjs and lay-plain.mjs, cut down to what is used.
-/
import Derived.Test.YtnppicekfjdefaaDoorShelf
import Derived.Shelf.Strings.Builder1
import Derived.Shelf.Strings.Builder2
import Derived.Shelf.Strings.OnBuilder
import Derived.Shelf.Small.Strs
import Derived.Shelf.Strconv.Itoa0
import Derived.Shelf.Strings.Search1
import Derived.Shelf.Strings.Search2
import Derived.Shelf.Strings.Search3
import Derived.Shelf.Strings.Cut
import Derived.Shelf.Strings.Count
import Derived.Shelf.LaysM
import Derived.Shelf.Strings.Shaped
import Derived.Shelf.Sort.Plain
import Derived.Shelf.Strings.Prefix
import Derived.Shelf.Strings.Split
import Derived.Shelf.Strings.SplitShaped
import Derived.Shelf.Unicode.Decode
import Derived.Shelf.Strings.RuneCount
import Derived.Shelf.Strings.Explode
import Derived.Shelf.Unicode.DecodeSlow
import Derived.Shelf.Slices.Turned
import Derived.Shelf.Slices.Equal
import Derived.Shelf.Slices.In.SortNone
import Derived.Shelf.Slices.Empties2
import Derived.Test.YtnppicekfjdefaaDoorProg
namespace Go.Proofs
open Go.Shelf
def Tryd.lays190_ren : Go.Shelf.Ren := ⟨fun | 190 => 60 | 125 => 73 | 258 => 72 | 128 => 89 | 129 => 90 | 302 => 80 | 303 => 81 | 304 => 82 | 305 => 83 | 306 => 84 | 307 => 85 | 308 => 86 | 309 => 87 | 310 => 88 | 333 => 99 | 329 => 100 | 330 => 101 | 334 => 102 | 335 => 103 | 336 => 104 | 344 => 107 | n => n, fun | 31 => 24 | 9 => 9 | 3 => 3 | 46 => 116 | 0 => 0 | 51 => 138 | 53 => 140 | 4 => 4 | 183 => 131 | 182 => 130 | 131 => 135 | 5 => 5 | 218 => 147 | 222 => 151 | 228 => 155 | 229 => 156 | n => n, fun | n => n⟩
theorem Tryd.lays190 : Go.Proofs.Lays.n190 Tryd.prog Tryd.lays190_ren := {
  mixed := by kernel_rfl
  f125 := Tryd.func73.trans (congrArg some (by kernel_rfl))
  f128 := Tryd.func89.trans (congrArg some (by kernel_rfl))
  f129 := Tryd.func90.trans (congrArg some (by kernel_rfl))
  f190 := Tryd.func60.trans (congrArg some (by kernel_rfl))
  f258 := Tryd.func72.trans (congrArg some (by kernel_rfl))
  f302 := Tryd.func80.trans (congrArg some (by kernel_rfl))
  f303 := Tryd.func81.trans (congrArg some (by kernel_rfl))
  f304 := Tryd.func82.trans (congrArg some (by kernel_rfl))
  f305 := Tryd.func83.trans (congrArg some (by kernel_rfl))
  f306 := Tryd.func84.trans (congrArg some (by kernel_rfl))
  f307 := Tryd.func85.trans (congrArg some (by kernel_rfl))
  f308 := Tryd.func86.trans (congrArg some (by kernel_rfl))
  f309 := Tryd.func87.trans (congrArg some (by kernel_rfl))
  f310 := Tryd.func88.trans (congrArg some (by kernel_rfl))
  f329 := Tryd.func100.trans (congrArg some (by kernel_rfl))
  f330 := Tryd.func101.trans (congrArg some (by kernel_rfl))
  f333 := Tryd.func99.trans (congrArg some (by kernel_rfl))
  f334 := Tryd.func102.trans (congrArg some (by kernel_rfl))
  f335 := Tryd.func103.trans (congrArg some (by kernel_rfl))
  f336 := Tryd.func104.trans (congrArg some (by kernel_rfl))
  f344 := Tryd.func107.trans (congrArg some (by kernel_rfl))
  t0 := Tryd.underlying0
  a0 := Tryd.isAgg0
  z0 := Tryd.sizeOf0
  v0 := Tryd.zeroValue0
  t3 := Tryd.underlying3
  a3 := Tryd.isAgg3
  z3 := Tryd.sizeOf3
  v3 := Tryd.zeroValue3
  t4 := Tryd.underlying4
  a4 := Tryd.isAgg4
  z4 := Tryd.sizeOf4
  v4 := Tryd.zeroValue4
  t5 := Tryd.underlying5
  a5 := Tryd.isAgg5
  z5 := Tryd.sizeOf5
  v5 := Tryd.zeroValue5
  t9 := Tryd.underlying9
  a9 := Tryd.isAgg9
  z9 := Tryd.sizeOf9
  v9 := Tryd.zeroValue9
  t31 := Tryd.underlying24
  a31 := Tryd.isAgg24
  z31 := Tryd.sizeOf24
  v31 := Tryd.zeroValue24
  t46 := Tryd.underlying116
  a46 := Tryd.isAgg116
  z46 := Tryd.sizeOf116
  v46 := Tryd.zeroValue116
  t51 := Tryd.underlying138
  a51 := Tryd.isAgg138
  z51 := Tryd.sizeOf138
  v51 := Tryd.zeroValue138
  t53 := Tryd.underlying140
  a53 := Tryd.isAgg140
  z53 := Tryd.sizeOf140
  v53 := Tryd.zeroValue140
  t131 := Tryd.underlying135
  a131 := Tryd.isAgg135
  z131 := Tryd.sizeOf135
  v131 := Tryd.zeroValue135
  t182 := Tryd.underlying130
  a182 := Tryd.isAgg130
  z182 := Tryd.sizeOf130
  v182 := Tryd.zeroValue130
  t183 := Tryd.underlying131
  a183 := Tryd.isAgg131
  z183 := Tryd.sizeOf131
  v183 := Tryd.zeroValue131
  t218 := Tryd.underlying147
  a218 := Tryd.isAgg147
  z218 := Tryd.sizeOf147
  v218 := Tryd.zeroValue147
  t222 := Tryd.underlying151
  a222 := Tryd.isAgg151
  z222 := Tryd.sizeOf151
  v222 := Tryd.zeroValue151
  t228 := Tryd.underlying155
  a228 := Tryd.isAgg155
  z228 := Tryd.sizeOf155
  v228 := Tryd.zeroValue155
  t229 := Tryd.underlying156
  a229 := Tryd.isAgg156
  z229 := Tryd.sizeOf156
  v229 := Tryd.zeroValue156 }
open Go.Sort Go.RowKit in
theorem Tryd.slices_Sort_string (blk off cap : Nat) (ss : List (List UInt8)) (w : World) (hH : Holds encStr w blk off ss.toArray) (hblk : blk < w.heap.size) (hsz : ss.length < 4611686018427387904) :
    Calls Tryd.prog 60 #[.slice (some ⟨blk, off, none⟩) ss.length cap] w fun e w' =>
      e = .returned (.tuple #[]) ∧ ∃ n os, w' = grow (putRow encStr (Sort.ahead w n) blk off (ss.mergeSort fun x y => decide (x ≤ y)).toArray) os := Any.slices_Sort_string Tryd.lays190 blk off cap ss w hH hblk hsz
def Tryd.lays110_ren : Go.Shelf.Ren := ⟨fun | 110 => 33 | 109 => 47 | n => n, fun | 31 => 24 | 9 => 9 | 4 => 4 | 3 => 3 | 0 => 0 | n => n, fun | n => n⟩
theorem Tryd.lays110 : Go.Proofs.Lays.n110 Tryd.prog Tryd.lays110_ren := {
  mixed := by kernel_rfl
  f109 := Tryd.func47.trans (congrArg some (by kernel_rfl))
  f110 := Tryd.func33.trans (congrArg some (by kernel_rfl))
  t0 := Tryd.underlying0
  a0 := Tryd.isAgg0
  z0 := Tryd.sizeOf0
  v0 := Tryd.zeroValue0
  t3 := Tryd.underlying3
  a3 := Tryd.isAgg3
  z3 := Tryd.sizeOf3
  v3 := Tryd.zeroValue3
  t4 := Tryd.underlying4
  a4 := Tryd.isAgg4
  z4 := Tryd.sizeOf4
  v4 := Tryd.zeroValue4
  t9 := Tryd.underlying9
  a9 := Tryd.isAgg9
  z9 := Tryd.sizeOf9
  v9 := Tryd.zeroValue9
  t31 := Tryd.underlying24
  a31 := Tryd.isAgg24
  z31 := Tryd.sizeOf24
  v31 := Tryd.zeroValue24 }
open Go.Lib in
theorem Tryd.slices_Contains_string (b off n c : Nat) (zs : List ByteArray) (x : ByteArray) (w : World) (hz : n ≤ zs.length) (hbig : n ≤ 9223372036854775807) (hc : ∀ j, j < zs.length → w.cell? ⟨b, off + j, none⟩ = some (.string (zs.getD j ByteArray.empty))) :
    Calls Tryd.prog 33 #[.slice (some ⟨b, off, none⟩) n c, .string x] w fun e w' => e = .returned (.bool (Lib.containsS (zs.take n) x)) ∧ w' = w := Any.slices_Contains_string Tryd.lays110 b off n c zs x w hz hbig hc
open Go.Lib in
theorem Tryd.slices_Contains_string_empty (a : Option Addr) (c : Nat) (x : ByteArray) (w : World) :
    Calls Tryd.prog 33 #[.slice a 0 c, .string x] w fun e w' => e = .returned (.bool false) ∧ w' = w := Any.slices_Contains_string_empty Tryd.lays110 a c x w
def Tryd.lays193_ren : Go.Shelf.Ren := ⟨fun | 193 => 50 | n => n, fun | 31 => 24 | 9 => 9 | 4 => 4 | 3 => 3 | 0 => 0 | n => n, fun | n => n⟩
theorem Tryd.lays193 : Go.Proofs.Lays.n193 Tryd.prog Tryd.lays193_ren := {
  mixed := by kernel_rfl
  f193 := Tryd.func50.trans (congrArg some (by kernel_rfl))
  t0 := Tryd.underlying0
  a0 := Tryd.isAgg0
  z0 := Tryd.sizeOf0
  v0 := Tryd.zeroValue0
  t3 := Tryd.underlying3
  a3 := Tryd.isAgg3
  z3 := Tryd.sizeOf3
  v3 := Tryd.zeroValue3
  t4 := Tryd.underlying4
  a4 := Tryd.isAgg4
  z4 := Tryd.sizeOf4
  v4 := Tryd.zeroValue4
  t9 := Tryd.underlying9
  a9 := Tryd.isAgg9
  z9 := Tryd.sizeOf9
  v9 := Tryd.zeroValue9
  t31 := Tryd.underlying24
  a31 := Tryd.isAgg24
  z31 := Tryd.sizeOf24
  v31 := Tryd.zeroValue24 }
open Go.RowKit Go.Lib in
theorem Tryd.slices_Equal_string (b1 o1 n c b2 o2 m d : Nat) (xs ys : List ByteArray) (w : World) (hx : n ≤ xs.length) (hy : m ≤ ys.length) (hbig : n ≤ 9223372036854775807) (hbig2 : m ≤ 9223372036854775807) (hc1 : ∀ j, j < xs.length → w.cell? ⟨b1, o1 + j, none⟩ = some (.string (xs.getD j ByteArray.empty))) (hc2 : ∀ j, j < ys.length → w.cell? ⟨b2, o2 + j, none⟩ = some (.string (ys.getD j ByteArray.empty))) :
    Calls Tryd.prog 50 #[.slice (some ⟨b1, o1, none⟩) n c, .slice (some ⟨b2, o2, none⟩) m d] w fun e w' => e = .returned (.bool (decide (xs.take n = ys.take m))) ∧ ∃ q, w' = w.drewN q := Any.slices_Equal_string Tryd.lays193 b1 o1 n c b2 o2 m d xs ys w hx hy hbig hbig2 hc1 hc2
open Go.RowKit Go.Lib in
theorem Tryd.slices_Equal_string_empty (a1 a2 : Option Addr) (c m d : Nat) (w : World) (hbig2 : m ≤ 9223372036854775807) :
    Calls Tryd.prog 50 #[.slice a1 0 c, .slice a2 m d] w fun e w' => e = .returned (.bool (decide (m = 0))) ∧ w' = w := Any.slices_Equal_string_empty Tryd.lays193 a1 a2 c m d w hbig2
open Go.RowKit Go.Sort in
theorem Tryd.slices_Sort_string_none (p : Option Addr) (cap : Nat) (w : World) :
    Calls Tryd.prog 60 #[.slice p 0 cap] w fun e w' => e = .returned (.tuple #[]) ∧ w' = w := Any.slices_Sort_string_none Tryd.lays190 p cap w
open Go.RowKit Go.Lib in
theorem Tryd.slices_Equal_string_lens (a1 a2 : Option Addr) (n c m d : Nat) (w : World) (hnm : n ≠ m) :
    Calls Tryd.prog 50 #[.slice a1 n c, .slice a2 m d] w fun e w' => e = .returned (.bool false) ∧ w' = w := Any.slices_Equal_string_lens Tryd.lays193 a1 a2 n c m d w hnm
end Go.Proofs
