/-
  The library contracts of this seat, in plain words: written by the kit's lay-shelf.mjs and lay-plain.mjs, cut down to what is used.
-/
import Derived.Test.YtbnjajpencahfaaGreatDoorShelf
import Derived.Shelf.Strings.Builder1
import Derived.Shelf.Strings.Builder2
import Derived.Shelf.Strings.OnBuilder
import Derived.Shelf.Small.Strs
import Derived.Shelf.Strconv.Atoi
import Derived.Shelf.Strconv.Itoa0
import Derived.Shelf.Strconv.Itoa1
import Derived.Shelf.LaysM
import Derived.Shelf.Strconv.Itoa2
import Derived.Shelf.Strconv.Itoa3
import Derived.Shelf.Strconv.AtoiErrFast
import Derived.Shelf.Strconv.ParseIntEmpty
import Derived.Shelf.Strconv.AtoiFail
import Derived.Shelf.Strconv.Clone
import Derived.Shelf.Strconv.SyntaxError
import Derived.Shelf.LaysC
import Derived.Shelf.Strconv.ToError
import Derived.Shelf.Strconv.Lower
import Derived.Shelf.Strconv.ParseUint10
import Derived.Shelf.Strconv.ParseUint10Empty
import Derived.Shelf.Strconv.ParseUint10Any
import Derived.Shelf.Strconv.ParseInt10
import Derived.Shelf.Strconv.AtoiLong
import Derived.Shelf.Strconv.AtoiInnerAll
import Derived.Shelf.Strconv.RangeError
import Derived.Shelf.Strconv.ToErrorRange
import Derived.Shelf.Strconv.AtoiAll
import Derived.Shelf.Strconv.ErrVarAll
import Derived.Shelf.Strings.Search1
import Derived.Shelf.Strings.Search2
import Derived.Shelf.Strings.Search3
import Derived.Shelf.Strings.Cut
import Derived.Shelf.Strings.Count
import Derived.Shelf.Strings.Shaped
import Derived.Shelf.Sort.Plain
import Derived.Shelf.Strings.Prefix
import Derived.Shelf.Strings.Split
import Derived.Shelf.Strings.SplitShaped
import Derived.Shelf.Unicode.Decode
import Derived.Shelf.Strings.RuneCount
import Derived.Shelf.Strings.Explode
import Derived.Shelf.Unicode.DecodeSlow
import Derived.Shelf.Slices.Turned
import Derived.Shelf.Slices.Equal
import Derived.Shelf.Slices.In.SortNone
import Derived.Shelf.Slices.Empties2
import Derived.Test.YtbnjajpencahfaaGreatDoorProg
namespace Go.Proofs
open Go.Shelf
def Tryz.lays171_ren : Go.Shelf.Ren := ⟨fun | 171 => 26 | 243 => 41 | 246 => 57 | 283 => 82 | 284 => 83 | 285 => 84 | 286 => 85 | 129 => 100 | 317 => 99 | 318 => 101 | 319 => 102 | 320 => 103 | 337 => 122 | 338 => 123 | n => n, fun | 3 => 3 | 9 => 9 | 2 => 2 | 4 => 4 | 171 => 109 | 0 => 0 | 53 => 110 | 37 => 62 | 5 => 5 | 173 => 113 | 212 => 126 | 51 => 127 | 20 => 20 | 213 => 128 | 46 => 98 | 232 => 157 | 233 => 158 | n => n, fun | 17 => 4 | 18 => 5 | 19 => 6 | n => n⟩
theorem Tryz.lays171 : Go.Proofs.Lays.n171 Tryz.prog Tryz.lays171_ren := {
  mixed := by kernel_rfl
  f129 := Tryz.func100.trans (congrArg some (by kernel_rfl))
  f171 := Tryz.func26.trans (congrArg some (by kernel_rfl))
  f243 := Tryz.func41.trans (congrArg some (by kernel_rfl))
  f246 := Tryz.func57.trans (congrArg some (by kernel_rfl))
  f283 := Tryz.func82.trans (congrArg some (by kernel_rfl))
  f284 := Tryz.func83.trans (congrArg some (by kernel_rfl))
  f285 := Tryz.func84.trans (congrArg some (by kernel_rfl))
  f286 := Tryz.func85.trans (congrArg some (by kernel_rfl))
  f317 := Tryz.func99.trans (congrArg some (by kernel_rfl))
  f318 := Tryz.func101.trans (congrArg some (by kernel_rfl))
  f319 := Tryz.func102.trans (congrArg some (by kernel_rfl))
  f320 := Tryz.func103.trans (congrArg some (by kernel_rfl))
  f337 := Tryz.func122.trans (congrArg some (by kernel_rfl))
  f338 := Tryz.func123.trans (congrArg some (by kernel_rfl))
  t0 := Tryz.underlying0
  a0 := Tryz.isAgg0
  z0 := Tryz.sizeOf0
  v0 := Tryz.zeroValue0
  t2 := Tryz.underlying2
  a2 := Tryz.isAgg2
  z2 := Tryz.sizeOf2
  v2 := Tryz.zeroValue2
  t3 := Tryz.underlying3
  a3 := Tryz.isAgg3
  z3 := Tryz.sizeOf3
  v3 := Tryz.zeroValue3
  t4 := Tryz.underlying4
  a4 := Tryz.isAgg4
  z4 := Tryz.sizeOf4
  v4 := Tryz.zeroValue4
  t5 := Tryz.underlying5
  a5 := Tryz.isAgg5
  z5 := Tryz.sizeOf5
  v5 := Tryz.zeroValue5
  t9 := Tryz.underlying9
  a9 := Tryz.isAgg9
  z9 := Tryz.sizeOf9
  v9 := Tryz.zeroValue9
  t20 := Tryz.underlying20
  a20 := Tryz.isAgg20
  z20 := Tryz.sizeOf20
  v20 := Tryz.zeroValue20
  t37 := Tryz.underlying62
  a37 := Tryz.isAgg62
  z37 := Tryz.sizeOf62
  v37 := Tryz.zeroValue62
  t46 := Tryz.underlying98
  a46 := Tryz.isAgg98
  z46 := Tryz.sizeOf98
  v46 := Tryz.zeroValue98
  t51 := Tryz.underlying127
  a51 := Tryz.isAgg127
  z51 := Tryz.sizeOf127
  v51 := Tryz.zeroValue127
  t53 := Tryz.underlying110
  a53 := Tryz.isAgg110
  z53 := Tryz.sizeOf110
  v53 := Tryz.zeroValue110
  t171 := Tryz.underlying109
  a171 := Tryz.isAgg109
  z171 := Tryz.sizeOf109
  v171 := Tryz.zeroValue109
  t173 := Tryz.underlying113
  a173 := Tryz.isAgg113
  z173 := Tryz.sizeOf113
  v173 := Tryz.zeroValue113
  t212 := Tryz.underlying126
  a212 := Tryz.isAgg126
  z212 := Tryz.sizeOf126
  v212 := Tryz.zeroValue126
  t213 := Tryz.underlying128
  a213 := Tryz.isAgg128
  z213 := Tryz.sizeOf128
  t232 := Tryz.underlying157
  a232 := Tryz.isAgg157
  z232 := Tryz.sizeOf157
  v232 := Tryz.zeroValue157
  t233 := Tryz.underlying158
  a233 := Tryz.isAgg158
  z233 := Tryz.sizeOf158
  v233 := Tryz.zeroValue158
  g17 := by kernel_rfl
  g18 := by kernel_rfl
  g19 := by kernel_rfl }
open Go.RowKit Go.Sort Go.Lib in
theorem Tryz.strconv_Itoa_small (i : Nat) (hi : i < 100) (w : World) :
    Calls Tryz.prog 26 #[.int .i64 i] w fun e w' => e = .returned (.string ⟨(Lib.decDigits i).toArray⟩) ∧ w' = w := Any.strconv_Itoa_small Tryz.lays171 i hi w
def Tryz.lays190_ren : Go.Shelf.Ren := ⟨fun | 190 => 73 | 125 => 98 | 258 => 97 | 128 => 121 | 129 => 100 | 302 => 112 | 303 => 113 | 304 => 114 | 305 => 115 | 306 => 116 | 307 => 117 | 308 => 118 | 309 => 119 | 310 => 120 | 333 => 125 | 329 => 126 | 330 => 127 | 334 => 128 | 335 => 129 | 336 => 130 | 344 => 131 | n => n, fun | 31 => 24 | 9 => 9 | 3 => 3 | 46 => 98 | 0 => 0 | 51 => 127 | 53 => 110 | 4 => 4 | 183 => 144 | 182 => 143 | 131 => 148 | 5 => 5 | 218 => 151 | 222 => 155 | 228 => 163 | 229 => 164 | n => n, fun | n => n⟩
theorem Tryz.lays190 : Go.Proofs.Lays.n190 Tryz.prog Tryz.lays190_ren := {
  mixed := by kernel_rfl
  f125 := Tryz.func98.trans (congrArg some (by kernel_rfl))
  f128 := Tryz.func121.trans (congrArg some (by kernel_rfl))
  f129 := Tryz.func100.trans (congrArg some (by kernel_rfl))
  f190 := Tryz.func73.trans (congrArg some (by kernel_rfl))
  f258 := Tryz.func97.trans (congrArg some (by kernel_rfl))
  f302 := Tryz.func112.trans (congrArg some (by kernel_rfl))
  f303 := Tryz.func113.trans (congrArg some (by kernel_rfl))
  f304 := Tryz.func114.trans (congrArg some (by kernel_rfl))
  f305 := Tryz.func115.trans (congrArg some (by kernel_rfl))
  f306 := Tryz.func116.trans (congrArg some (by kernel_rfl))
  f307 := Tryz.func117.trans (congrArg some (by kernel_rfl))
  f308 := Tryz.func118.trans (congrArg some (by kernel_rfl))
  f309 := Tryz.func119.trans (congrArg some (by kernel_rfl))
  f310 := Tryz.func120.trans (congrArg some (by kernel_rfl))
  f329 := Tryz.func126.trans (congrArg some (by kernel_rfl))
  f330 := Tryz.func127.trans (congrArg some (by kernel_rfl))
  f333 := Tryz.func125.trans (congrArg some (by kernel_rfl))
  f334 := Tryz.func128.trans (congrArg some (by kernel_rfl))
  f335 := Tryz.func129.trans (congrArg some (by kernel_rfl))
  f336 := Tryz.func130.trans (congrArg some (by kernel_rfl))
  f344 := Tryz.func131.trans (congrArg some (by kernel_rfl))
  t0 := Tryz.underlying0
  a0 := Tryz.isAgg0
  z0 := Tryz.sizeOf0
  v0 := Tryz.zeroValue0
  t3 := Tryz.underlying3
  a3 := Tryz.isAgg3
  z3 := Tryz.sizeOf3
  v3 := Tryz.zeroValue3
  t4 := Tryz.underlying4
  a4 := Tryz.isAgg4
  z4 := Tryz.sizeOf4
  v4 := Tryz.zeroValue4
  t5 := Tryz.underlying5
  a5 := Tryz.isAgg5
  z5 := Tryz.sizeOf5
  v5 := Tryz.zeroValue5
  t9 := Tryz.underlying9
  a9 := Tryz.isAgg9
  z9 := Tryz.sizeOf9
  v9 := Tryz.zeroValue9
  t31 := Tryz.underlying24
  a31 := Tryz.isAgg24
  z31 := Tryz.sizeOf24
  v31 := Tryz.zeroValue24
  t46 := Tryz.underlying98
  a46 := Tryz.isAgg98
  z46 := Tryz.sizeOf98
  v46 := Tryz.zeroValue98
  t51 := Tryz.underlying127
  a51 := Tryz.isAgg127
  z51 := Tryz.sizeOf127
  v51 := Tryz.zeroValue127
  t53 := Tryz.underlying110
  a53 := Tryz.isAgg110
  z53 := Tryz.sizeOf110
  v53 := Tryz.zeroValue110
  t131 := Tryz.underlying148
  a131 := Tryz.isAgg148
  z131 := Tryz.sizeOf148
  v131 := Tryz.zeroValue148
  t182 := Tryz.underlying143
  a182 := Tryz.isAgg143
  z182 := Tryz.sizeOf143
  v182 := Tryz.zeroValue143
  t183 := Tryz.underlying144
  a183 := Tryz.isAgg144
  z183 := Tryz.sizeOf144
  v183 := Tryz.zeroValue144
  t218 := Tryz.underlying151
  a218 := Tryz.isAgg151
  z218 := Tryz.sizeOf151
  v218 := Tryz.zeroValue151
  t222 := Tryz.underlying155
  a222 := Tryz.isAgg155
  z222 := Tryz.sizeOf155
  v222 := Tryz.zeroValue155
  t228 := Tryz.underlying163
  a228 := Tryz.isAgg163
  z228 := Tryz.sizeOf163
  v228 := Tryz.zeroValue163
  t229 := Tryz.underlying164
  a229 := Tryz.isAgg164
  z229 := Tryz.sizeOf164
  v229 := Tryz.zeroValue164 }
open Go.Sort Go.RowKit in
theorem Tryz.slices_Sort_string (blk off cap : Nat) (ss : List (List UInt8)) (w : World) (hH : Holds encStr w blk off ss.toArray) (hblk : blk < w.heap.size) (hsz : ss.length < 4611686018427387904) :
    Calls Tryz.prog 73 #[.slice (some ⟨blk, off, none⟩) ss.length cap] w fun e w' =>
      e = .returned (.tuple #[]) ∧ ∃ n os, w' = grow (putRow encStr (Sort.ahead w n) blk off (ss.mergeSort fun x y => decide (x ≤ y)).toArray) os := Any.slices_Sort_string Tryz.lays190 blk off cap ss w hH hblk hsz
def Tryz.lays110_ren : Go.Shelf.Ren := ⟨fun | 110 => 21 | 109 => 30 | n => n, fun | 31 => 24 | 9 => 9 | 4 => 4 | 3 => 3 | 0 => 0 | n => n, fun | n => n⟩
theorem Tryz.lays110 : Go.Proofs.Lays.n110 Tryz.prog Tryz.lays110_ren := {
  mixed := by kernel_rfl
  f109 := Tryz.func30.trans (congrArg some (by kernel_rfl))
  f110 := Tryz.func21.trans (congrArg some (by kernel_rfl))
  t0 := Tryz.underlying0
  a0 := Tryz.isAgg0
  z0 := Tryz.sizeOf0
  v0 := Tryz.zeroValue0
  t3 := Tryz.underlying3
  a3 := Tryz.isAgg3
  z3 := Tryz.sizeOf3
  v3 := Tryz.zeroValue3
  t4 := Tryz.underlying4
  a4 := Tryz.isAgg4
  z4 := Tryz.sizeOf4
  v4 := Tryz.zeroValue4
  t9 := Tryz.underlying9
  a9 := Tryz.isAgg9
  z9 := Tryz.sizeOf9
  v9 := Tryz.zeroValue9
  t31 := Tryz.underlying24
  a31 := Tryz.isAgg24
  z31 := Tryz.sizeOf24
  v31 := Tryz.zeroValue24 }
open Go.Lib in
theorem Tryz.slices_Contains_string (b off n c : Nat) (zs : List ByteArray) (x : ByteArray) (w : World) (hz : n ≤ zs.length) (hbig : n ≤ 9223372036854775807) (hc : ∀ j, j < zs.length → w.cell? ⟨b, off + j, none⟩ = some (.string (zs.getD j ByteArray.empty))) :
    Calls Tryz.prog 21 #[.slice (some ⟨b, off, none⟩) n c, .string x] w fun e w' => e = .returned (.bool (Lib.containsS (zs.take n) x)) ∧ w' = w := Any.slices_Contains_string Tryz.lays110 b off n c zs x w hz hbig hc
open Go.Lib in
theorem Tryz.slices_Contains_string_empty (a : Option Addr) (c : Nat) (x : ByteArray) (w : World) :
    Calls Tryz.prog 21 #[.slice a 0 c, .string x] w fun e w' => e = .returned (.bool false) ∧ w' = w := Any.slices_Contains_string_empty Tryz.lays110 a c x w
def Tryz.lays193_ren : Go.Shelf.Ren := ⟨fun | 193 => 51 | n => n, fun | 31 => 24 | 9 => 9 | 4 => 4 | 3 => 3 | 0 => 0 | n => n, fun | n => n⟩
theorem Tryz.lays193 : Go.Proofs.Lays.n193 Tryz.prog Tryz.lays193_ren := {
  mixed := by kernel_rfl
  f193 := Tryz.func51.trans (congrArg some (by kernel_rfl))
  t0 := Tryz.underlying0
  a0 := Tryz.isAgg0
  z0 := Tryz.sizeOf0
  v0 := Tryz.zeroValue0
  t3 := Tryz.underlying3
  a3 := Tryz.isAgg3
  z3 := Tryz.sizeOf3
  v3 := Tryz.zeroValue3
  t4 := Tryz.underlying4
  a4 := Tryz.isAgg4
  z4 := Tryz.sizeOf4
  v4 := Tryz.zeroValue4
  t9 := Tryz.underlying9
  a9 := Tryz.isAgg9
  z9 := Tryz.sizeOf9
  v9 := Tryz.zeroValue9
  t31 := Tryz.underlying24
  a31 := Tryz.isAgg24
  z31 := Tryz.sizeOf24
  v31 := Tryz.zeroValue24 }
open Go.RowKit Go.Lib in
theorem Tryz.slices_Equal_string (b1 o1 n c b2 o2 m d : Nat) (xs ys : List ByteArray) (w : World) (hx : n ≤ xs.length) (hy : m ≤ ys.length) (hbig : n ≤ 9223372036854775807) (hbig2 : m ≤ 9223372036854775807) (hc1 : ∀ j, j < xs.length → w.cell? ⟨b1, o1 + j, none⟩ = some (.string (xs.getD j ByteArray.empty))) (hc2 : ∀ j, j < ys.length → w.cell? ⟨b2, o2 + j, none⟩ = some (.string (ys.getD j ByteArray.empty))) :
    Calls Tryz.prog 51 #[.slice (some ⟨b1, o1, none⟩) n c, .slice (some ⟨b2, o2, none⟩) m d] w fun e w' => e = .returned (.bool (decide (xs.take n = ys.take m))) ∧ ∃ q, w' = w.drewN q := Any.slices_Equal_string Tryz.lays193 b1 o1 n c b2 o2 m d xs ys w hx hy hbig hbig2 hc1 hc2
open Go.RowKit Go.Lib in
theorem Tryz.slices_Equal_string_empty (a1 a2 : Option Addr) (c m d : Nat) (w : World) (hbig2 : m ≤ 9223372036854775807) :
    Calls Tryz.prog 51 #[.slice a1 0 c, .slice a2 m d] w fun e w' => e = .returned (.bool (decide (m = 0))) ∧ w' = w := Any.slices_Equal_string_empty Tryz.lays193 a1 a2 c m d w hbig2
open Go.RowKit Go.Sort in
theorem Tryz.slices_Sort_string_none (p : Option Addr) (cap : Nat) (w : World) :
    Calls Tryz.prog 73 #[.slice p 0 cap] w fun e w' => e = .returned (.tuple #[]) ∧ w' = w := Any.slices_Sort_string_none Tryz.lays190 p cap w
open Go.RowKit Go.Lib in
theorem Tryz.slices_Equal_string_lens (a1 a2 : Option Addr) (n c m d : Nat) (w : World) (hnm : n ≠ m) :
    Calls Tryz.prog 51 #[.slice a1 n c, .slice a2 m d] w fun e w' => e = .returned (.bool false) ∧ w' = w := Any.slices_Equal_string_lens Tryz.lays193 a1 a2 n c m d w hnm
end Go.Proofs
