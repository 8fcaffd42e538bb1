/-
  The library contracts of this seat, in plain words: written by the kit's lay-shelf.mjs and lay-plain.mjs, cut down to what is used.
-/
import Derived.Test.YtofancbnaeabhaaDoorShelf
import Derived.Shelf.Strings.Builder1
import Derived.Shelf.Strings.Builder2
import Derived.Shelf.Strings.OnBuilder
import Derived.Shelf.Small.Bits
import Derived.Shelf.Small.Strs
import Derived.Shelf.Strings.BuilderF
import Derived.Shelf.Strings.BuilderK
import Derived.Shelf.Utf8.RuneCount
import Derived.Shelf.Strings.Builder2Cap
import Derived.Shelf.Strconv.Itoa0
import Derived.Shelf.Strconv.Itoa1
import Derived.Shelf.LaysM
import Derived.Shelf.Strconv.Itoa2
import Derived.Shelf.Strconv.Itoa3
import Derived.Shelf.Strings.Search1
import Derived.Shelf.Strings.Search2
import Derived.Shelf.Strings.Search3
import Derived.Shelf.Strings.Cut
import Derived.Shelf.Strings.Count
import Derived.Shelf.Strings.Shaped
import Derived.Shelf.Sort.Plain
import Derived.Shelf.Strings.Prefix
import Derived.Shelf.Strings.Split
import Derived.Shelf.Strings.SplitShaped
import Derived.Shelf.Unicode.Decode
import Derived.Shelf.Strings.RuneCount
import Derived.Shelf.Strings.Explode
import Derived.Shelf.Unicode.DecodeSlow
import Derived.Shelf.Unicode.DecodeAny
import Derived.Shelf.Strings.BuilderCap
import Derived.Shelf.Slices.Turned
import Derived.Shelf.Slices.Equal
import Derived.Shelf.Slices.In.SortNone
import Derived.Shelf.Slices.Empties2
import Derived.Test.YtofancbnaeabhaaDoorProg
namespace Go.Proofs
open Go.Shelf
def Tryd.lays171_ren : Go.Shelf.Ren := ⟨fun | 171 => 87 | 243 => 100 | 246 => 117 | 283 => 141 | 284 => 142 | 285 => 143 | 286 => 144 | 129 => 134 | 317 => 159 | 318 => 160 | 319 => 161 | 320 => 162 | 337 => 166 | 338 => 167 | n => n, fun | 3 => 3 | 9 => 9 | 2 => 2 | 4 => 4 | 171 => 190 | 0 => 0 | 53 => 186 | 37 => 164 | 5 => 5 | 173 => 192 | 212 => 207 | 51 => 184 | 20 => 20 | 213 => 208 | 46 => 162 | 232 => 217 | 233 => 218 | n => n, fun | 17 => 2 | 18 => 5 | 19 => 6 | n => n⟩
theorem Tryd.lays171 : Go.Proofs.Lays.n171 Tryd.prog Tryd.lays171_ren := {
  mixed := by kernel_rfl
  f129 := Tryd.func134.trans (congrArg some (by kernel_rfl))
  f171 := Tryd.func87.trans (congrArg some (by kernel_rfl))
  f243 := Tryd.func100.trans (congrArg some (by kernel_rfl))
  f246 := Tryd.func117.trans (congrArg some (by kernel_rfl))
  f283 := Tryd.func141.trans (congrArg some (by kernel_rfl))
  f284 := Tryd.func142.trans (congrArg some (by kernel_rfl))
  f285 := Tryd.func143.trans (congrArg some (by kernel_rfl))
  f286 := Tryd.func144.trans (congrArg some (by kernel_rfl))
  f317 := Tryd.func159.trans (congrArg some (by kernel_rfl))
  f318 := Tryd.func160.trans (congrArg some (by kernel_rfl))
  f319 := Tryd.func161.trans (congrArg some (by kernel_rfl))
  f320 := Tryd.func162.trans (congrArg some (by kernel_rfl))
  f337 := Tryd.func166.trans (congrArg some (by kernel_rfl))
  f338 := Tryd.func167.trans (congrArg some (by kernel_rfl))
  t0 := Tryd.underlying0
  a0 := Tryd.isAgg0
  z0 := Tryd.sizeOf0
  v0 := Tryd.zeroValue0
  t2 := Tryd.underlying2
  a2 := Tryd.isAgg2
  z2 := Tryd.sizeOf2
  v2 := Tryd.zeroValue2
  t3 := Tryd.underlying3
  a3 := Tryd.isAgg3
  z3 := Tryd.sizeOf3
  v3 := Tryd.zeroValue3
  t4 := Tryd.underlying4
  a4 := Tryd.isAgg4
  z4 := Tryd.sizeOf4
  v4 := Tryd.zeroValue4
  t5 := Tryd.underlying5
  a5 := Tryd.isAgg5
  z5 := Tryd.sizeOf5
  v5 := Tryd.zeroValue5
  t9 := Tryd.underlying9
  a9 := Tryd.isAgg9
  z9 := Tryd.sizeOf9
  v9 := Tryd.zeroValue9
  t20 := Tryd.underlying20
  a20 := Tryd.isAgg20
  z20 := Tryd.sizeOf20
  v20 := Tryd.zeroValue20
  t37 := Tryd.underlying164
  a37 := Tryd.isAgg164
  z37 := Tryd.sizeOf164
  v37 := Tryd.zeroValue164
  t46 := Tryd.underlying162
  a46 := Tryd.isAgg162
  z46 := Tryd.sizeOf162
  v46 := Tryd.zeroValue162
  t51 := Tryd.underlying184
  a51 := Tryd.isAgg184
  z51 := Tryd.sizeOf184
  v51 := Tryd.zeroValue184
  t53 := Tryd.underlying186
  a53 := Tryd.isAgg186
  z53 := Tryd.sizeOf186
  v53 := Tryd.zeroValue186
  t171 := Tryd.underlying190
  a171 := Tryd.isAgg190
  z171 := Tryd.sizeOf190
  v171 := Tryd.zeroValue190
  t173 := Tryd.underlying192
  a173 := Tryd.isAgg192
  z173 := Tryd.sizeOf192
  v173 := Tryd.zeroValue192
  t212 := Tryd.underlying207
  a212 := Tryd.isAgg207
  z212 := Tryd.sizeOf207
  v212 := Tryd.zeroValue207
  t213 := Tryd.underlying208
  a213 := Tryd.isAgg208
  z213 := Tryd.sizeOf208
  t232 := Tryd.underlying217
  a232 := Tryd.isAgg217
  z232 := Tryd.sizeOf217
  v232 := Tryd.zeroValue217
  t233 := Tryd.underlying218
  a233 := Tryd.isAgg218
  z233 := Tryd.sizeOf218
  v233 := Tryd.zeroValue218
  g17 := by kernel_rfl
  g18 := by kernel_rfl
  g19 := by kernel_rfl }
open Go.RowKit Go.Sort Go.Lib in
theorem Tryd.strconv_Itoa_small (i : Nat) (hi : i < 100) (w : World) :
    Calls Tryd.prog 87 #[.int .i64 i] w fun e w' => e = .returned (.string ⟨(Lib.decDigits i).toArray⟩) ∧ w' = w := Any.strconv_Itoa_small Tryd.lays171 i hi w
def Tryd.lays190_ren : Go.Shelf.Ren := ⟨fun | 190 => 91 | 125 => 105 | 258 => 104 | 128 => 133 | 129 => 134 | 302 => 124 | 303 => 125 | 304 => 126 | 305 => 127 | 306 => 128 | 307 => 129 | 308 => 130 | 309 => 131 | 310 => 132 | 333 => 145 | 329 => 146 | 330 => 147 | 334 => 148 | 335 => 149 | 336 => 150 | 344 => 163 | n => n, fun | 31 => 64 | 9 => 9 | 3 => 3 | 46 => 162 | 0 => 0 | 51 => 184 | 53 => 186 | 4 => 4 | 183 => 177 | 182 => 176 | 131 => 181 | 5 => 5 | 218 => 194 | 222 => 198 | 228 => 209 | 229 => 62 | n => n, fun | n => n⟩
theorem Tryd.lays190 : Go.Proofs.Lays.n190 Tryd.prog Tryd.lays190_ren := {
  mixed := by kernel_rfl
  f125 := Tryd.func105.trans (congrArg some (by kernel_rfl))
  f128 := Tryd.func133.trans (congrArg some (by kernel_rfl))
  f129 := Tryd.func134.trans (congrArg some (by kernel_rfl))
  f190 := Tryd.func91.trans (congrArg some (by kernel_rfl))
  f258 := Tryd.func104.trans (congrArg some (by kernel_rfl))
  f302 := Tryd.func124.trans (congrArg some (by kernel_rfl))
  f303 := Tryd.func125.trans (congrArg some (by kernel_rfl))
  f304 := Tryd.func126.trans (congrArg some (by kernel_rfl))
  f305 := Tryd.func127.trans (congrArg some (by kernel_rfl))
  f306 := Tryd.func128.trans (congrArg some (by kernel_rfl))
  f307 := Tryd.func129.trans (congrArg some (by kernel_rfl))
  f308 := Tryd.func130.trans (congrArg some (by kernel_rfl))
  f309 := Tryd.func131.trans (congrArg some (by kernel_rfl))
  f310 := Tryd.func132.trans (congrArg some (by kernel_rfl))
  f329 := Tryd.func146.trans (congrArg some (by kernel_rfl))
  f330 := Tryd.func147.trans (congrArg some (by kernel_rfl))
  f333 := Tryd.func145.trans (congrArg some (by kernel_rfl))
  f334 := Tryd.func148.trans (congrArg some (by kernel_rfl))
  f335 := Tryd.func149.trans (congrArg some (by kernel_rfl))
  f336 := Tryd.func150.trans (congrArg some (by kernel_rfl))
  f344 := Tryd.func163.trans (congrArg some (by kernel_rfl))
  t0 := Tryd.underlying0
  a0 := Tryd.isAgg0
  z0 := Tryd.sizeOf0
  v0 := Tryd.zeroValue0
  t3 := Tryd.underlying3
  a3 := Tryd.isAgg3
  z3 := Tryd.sizeOf3
  v3 := Tryd.zeroValue3
  t4 := Tryd.underlying4
  a4 := Tryd.isAgg4
  z4 := Tryd.sizeOf4
  v4 := Tryd.zeroValue4
  t5 := Tryd.underlying5
  a5 := Tryd.isAgg5
  z5 := Tryd.sizeOf5
  v5 := Tryd.zeroValue5
  t9 := Tryd.underlying9
  a9 := Tryd.isAgg9
  z9 := Tryd.sizeOf9
  v9 := Tryd.zeroValue9
  t31 := Tryd.underlying64
  a31 := Tryd.isAgg64
  z31 := Tryd.sizeOf64
  v31 := Tryd.zeroValue64
  t46 := Tryd.underlying162
  a46 := Tryd.isAgg162
  z46 := Tryd.sizeOf162
  v46 := Tryd.zeroValue162
  t51 := Tryd.underlying184
  a51 := Tryd.isAgg184
  z51 := Tryd.sizeOf184
  v51 := Tryd.zeroValue184
  t53 := Tryd.underlying186
  a53 := Tryd.isAgg186
  z53 := Tryd.sizeOf186
  v53 := Tryd.zeroValue186
  t131 := Tryd.underlying181
  a131 := Tryd.isAgg181
  z131 := Tryd.sizeOf181
  v131 := Tryd.zeroValue181
  t182 := Tryd.underlying176
  a182 := Tryd.isAgg176
  z182 := Tryd.sizeOf176
  v182 := Tryd.zeroValue176
  t183 := Tryd.underlying177
  a183 := Tryd.isAgg177
  z183 := Tryd.sizeOf177
  v183 := Tryd.zeroValue177
  t218 := Tryd.underlying194
  a218 := Tryd.isAgg194
  z218 := Tryd.sizeOf194
  v218 := Tryd.zeroValue194
  t222 := Tryd.underlying198
  a222 := Tryd.isAgg198
  z222 := Tryd.sizeOf198
  v222 := Tryd.zeroValue198
  t228 := Tryd.underlying209
  a228 := Tryd.isAgg209
  z228 := Tryd.sizeOf209
  v228 := Tryd.zeroValue209
  t229 := Tryd.underlying62
  a229 := Tryd.isAgg62
  z229 := Tryd.sizeOf62
  v229 := Tryd.zeroValue62 }
open Go.Sort Go.RowKit in
theorem Tryd.slices_Sort_string (blk off cap : Nat) (ss : List (List UInt8)) (w : World) (hH : Holds encStr w blk off ss.toArray) (hblk : blk < w.heap.size) (hsz : ss.length < 4611686018427387904) :
    Calls Tryd.prog 91 #[.slice (some ⟨blk, off, none⟩) ss.length cap] w fun e w' =>
      e = .returned (.tuple #[]) ∧ ∃ n os, w' = grow (putRow encStr (Sort.ahead w n) blk off (ss.mergeSort fun x y => decide (x ≤ y)).toArray) os := Any.slices_Sort_string Tryd.lays190 blk off cap ss w hH hblk hsz
def Tryd.lays109_ren : Go.Shelf.Ren := ⟨fun | 109 => 85 | n => n, fun | 31 => 64 | 9 => 9 | 3 => 3 | 0 => 0 | 4 => 4 | n => n, fun | n => n⟩
theorem Tryd.lays109 : Go.Proofs.Lays.n109 Tryd.prog Tryd.lays109_ren := {
  mixed := by kernel_rfl
  f109 := Tryd.func85.trans (congrArg some (by kernel_rfl))
  t0 := Tryd.underlying0
  a0 := Tryd.isAgg0
  z0 := Tryd.sizeOf0
  v0 := Tryd.zeroValue0
  t3 := Tryd.underlying3
  a3 := Tryd.isAgg3
  z3 := Tryd.sizeOf3
  v3 := Tryd.zeroValue3
  t4 := Tryd.underlying4
  a4 := Tryd.isAgg4
  z4 := Tryd.sizeOf4
  v4 := Tryd.zeroValue4
  t9 := Tryd.underlying9
  a9 := Tryd.isAgg9
  z9 := Tryd.sizeOf9
  v9 := Tryd.zeroValue9
  t31 := Tryd.underlying64
  a31 := Tryd.isAgg64
  z31 := Tryd.sizeOf64
  v31 := Tryd.zeroValue64 }
open Go.Lib in
theorem Tryd.slices_Index_string (b off n c : Nat) (zs : List ByteArray) (x : ByteArray) (w : World) (hz : n ≤ zs.length) (hbig : n ≤ 9223372036854775807) (hc : ∀ j, j < zs.length → w.cell? ⟨b, off + j, none⟩ = some (.string (zs.getD j ByteArray.empty))) :
    Calls Tryd.prog 85 #[.slice (some ⟨b, off, none⟩) n c, .string x] w fun e w' => e = .returned (.int .i64 (Lib.idxOfS (zs.take n) x)) ∧ w' = w := Any.slices_Index_string Tryd.lays109 b off n c zs x w hz hbig hc
open Go.Lib in
theorem Tryd.slices_Index_string_empty (a : Option Addr) (c : Nat) (x : ByteArray) (w : World) :
    Calls Tryd.prog 85 #[.slice a 0 c, .string x] w fun e w' => e = .returned (.int .i64 (Lib.idxOfS [] x)) ∧ w' = w := Any.slices_Index_string_empty Tryd.lays109 a c x w
def Tryd.lays110_ren : Go.Shelf.Ren := ⟨fun | 110 => 68 | 109 => 85 | n => n, fun | 31 => 64 | 9 => 9 | 4 => 4 | 3 => 3 | 0 => 0 | n => n, fun | n => n⟩
theorem Tryd.lays110 : Go.Proofs.Lays.n110 Tryd.prog Tryd.lays110_ren := {
  mixed := by kernel_rfl
  f109 := Tryd.func85.trans (congrArg some (by kernel_rfl))
  f110 := Tryd.func68.trans (congrArg some (by kernel_rfl))
  t0 := Tryd.underlying0
  a0 := Tryd.isAgg0
  z0 := Tryd.sizeOf0
  v0 := Tryd.zeroValue0
  t3 := Tryd.underlying3
  a3 := Tryd.isAgg3
  z3 := Tryd.sizeOf3
  v3 := Tryd.zeroValue3
  t4 := Tryd.underlying4
  a4 := Tryd.isAgg4
  z4 := Tryd.sizeOf4
  v4 := Tryd.zeroValue4
  t9 := Tryd.underlying9
  a9 := Tryd.isAgg9
  z9 := Tryd.sizeOf9
  v9 := Tryd.zeroValue9
  t31 := Tryd.underlying64
  a31 := Tryd.isAgg64
  z31 := Tryd.sizeOf64
  v31 := Tryd.zeroValue64 }
open Go.Lib in
theorem Tryd.slices_Contains_string (b off n c : Nat) (zs : List ByteArray) (x : ByteArray) (w : World) (hz : n ≤ zs.length) (hbig : n ≤ 9223372036854775807) (hc : ∀ j, j < zs.length → w.cell? ⟨b, off + j, none⟩ = some (.string (zs.getD j ByteArray.empty))) :
    Calls Tryd.prog 68 #[.slice (some ⟨b, off, none⟩) n c, .string x] w fun e w' => e = .returned (.bool (Lib.containsS (zs.take n) x)) ∧ w' = w := Any.slices_Contains_string Tryd.lays110 b off n c zs x w hz hbig hc
open Go.Lib in
theorem Tryd.slices_Contains_string_empty (a : Option Addr) (c : Nat) (x : ByteArray) (w : World) :
    Calls Tryd.prog 68 #[.slice a 0 c, .string x] w fun e w' => e = .returned (.bool false) ∧ w' = w := Any.slices_Contains_string_empty Tryd.lays110 a c x w
def Tryd.lays193_ren : Go.Shelf.Ren := ⟨fun | 193 => 80 | n => n, fun | 31 => 64 | 9 => 9 | 4 => 4 | 3 => 3 | 0 => 0 | n => n, fun | n => n⟩
theorem Tryd.lays193 : Go.Proofs.Lays.n193 Tryd.prog Tryd.lays193_ren := {
  mixed := by kernel_rfl
  f193 := Tryd.func80.trans (congrArg some (by kernel_rfl))
  t0 := Tryd.underlying0
  a0 := Tryd.isAgg0
  z0 := Tryd.sizeOf0
  v0 := Tryd.zeroValue0
  t3 := Tryd.underlying3
  a3 := Tryd.isAgg3
  z3 := Tryd.sizeOf3
  v3 := Tryd.zeroValue3
  t4 := Tryd.underlying4
  a4 := Tryd.isAgg4
  z4 := Tryd.sizeOf4
  v4 := Tryd.zeroValue4
  t9 := Tryd.underlying9
  a9 := Tryd.isAgg9
  z9 := Tryd.sizeOf9
  v9 := Tryd.zeroValue9
  t31 := Tryd.underlying64
  a31 := Tryd.isAgg64
  z31 := Tryd.sizeOf64
  v31 := Tryd.zeroValue64 }
open Go.RowKit Go.Lib in
theorem Tryd.slices_Equal_string (b1 o1 n c b2 o2 m d : Nat) (xs ys : List ByteArray) (w : World) (hx : n ≤ xs.length) (hy : m ≤ ys.length) (hbig : n ≤ 9223372036854775807) (hbig2 : m ≤ 9223372036854775807) (hc1 : ∀ j, j < xs.length → w.cell? ⟨b1, o1 + j, none⟩ = some (.string (xs.getD j ByteArray.empty))) (hc2 : ∀ j, j < ys.length → w.cell? ⟨b2, o2 + j, none⟩ = some (.string (ys.getD j ByteArray.empty))) :
    Calls Tryd.prog 80 #[.slice (some ⟨b1, o1, none⟩) n c, .slice (some ⟨b2, o2, none⟩) m d] w fun e w' => e = .returned (.bool (decide (xs.take n = ys.take m))) ∧ ∃ q, w' = w.drewN q := Any.slices_Equal_string Tryd.lays193 b1 o1 n c b2 o2 m d xs ys w hx hy hbig hbig2 hc1 hc2
open Go.RowKit Go.Lib in
theorem Tryd.slices_Equal_string_empty (a1 a2 : Option Addr) (c m d : Nat) (w : World) (hbig2 : m ≤ 9223372036854775807) :
    Calls Tryd.prog 80 #[.slice a1 0 c, .slice a2 m d] w fun e w' => e = .returned (.bool (decide (m = 0))) ∧ w' = w := Any.slices_Equal_string_empty Tryd.lays193 a1 a2 c m d w hbig2
open Go.RowKit Go.Sort in
theorem Tryd.slices_Sort_string_none (p : Option Addr) (cap : Nat) (w : World) :
    Calls Tryd.prog 91 #[.slice p 0 cap] w fun e w' => e = .returned (.tuple #[]) ∧ w' = w := Any.slices_Sort_string_none Tryd.lays190 p cap w
open Go.RowKit Go.Lib in
theorem Tryd.slices_Equal_string_lens (a1 a2 : Option Addr) (n c m d : Nat) (w : World) (hnm : n ≠ m) :
    Calls Tryd.prog 80 #[.slice a1 n c, .slice a2 m d] w fun e w' => e = .returned (.bool false) ∧ w' = w := Any.slices_Equal_string_lens Tryd.lays193 a1 a2 n c m d w hnm
end Go.Proofs
