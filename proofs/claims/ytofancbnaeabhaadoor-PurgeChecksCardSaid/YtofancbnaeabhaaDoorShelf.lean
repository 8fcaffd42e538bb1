/-
  The library contracts of this seat, in plain words: written by the kit's lay-shelf.mjs and lay-plain.mjs, cut down to what is used.
-/
import Derived.Shelf.Strings.Builder1
import Derived.Shelf.Strings.Builder2
import Derived.Shelf.Strings.OnBuilder
import Derived.Shelf.Small.Bits
import Derived.Shelf.Small.Strs
import Derived.Shelf.Strings.BuilderF
import Derived.Shelf.Strings.BuilderK
import Derived.Shelf.Utf8.RuneCount
import Derived.Shelf.Strings.Builder2Cap
import Derived.Shelf.Strconv.Itoa0
import Derived.Shelf.Strconv.Itoa1
import Derived.Shelf.LaysM
import Derived.Shelf.Strconv.Itoa2
import Derived.Shelf.Strconv.Itoa3
import Derived.Shelf.Strings.Search1
import Derived.Shelf.Strings.Search2
import Derived.Shelf.Strings.Search3
import Derived.Shelf.Strings.Cut
import Derived.Shelf.Strings.Count
import Derived.Shelf.Strings.Shaped
import Derived.Shelf.Strings.Prefix
import Derived.Shelf.Strings.Split
import Derived.Shelf.Strings.SplitShaped
import Derived.Shelf.Unicode.Decode
import Derived.Shelf.Strings.RuneCount
import Derived.Shelf.Strings.Explode
import Derived.Shelf.Unicode.DecodeSlow
import Derived.Shelf.Unicode.DecodeAny
import Derived.Shelf.Strings.BuilderCap
import Derived.Test.YtofancbnaeabhaaDoorProg
namespace Go.Proofs
open Go.Shelf
def Tryd.lays156_ren : Go.Shelf.Ren := ⟨fun | 156 => 97 | 165 => 112 | 166 => 113 | 169 => 114 | 240 => 139 | 241 => 140 | 276 => 157 | 277 => 158 | n => n, fun | 31 => 64 | 9 => 9 | 3 => 3 | 4 => 4 | 0 => 0 | 20 => 20 | 72 => 168 | 76 => 42 | 70 => 166 | 37 => 164 | 75 => 25 | 127 => 189 | 164 => 203 | 5 => 5 | 80 => 170 | n => n, fun | n => n⟩
theorem Tryd.lays156 : Go.Proofs.Lays.n156 Tryd.prog Tryd.lays156_ren := {
  mixed := by kernel_rfl
  f156 := Tryd.func97.trans (congrArg some (by kernel_rfl))
  f165 := Tryd.func112.trans (congrArg some (by kernel_rfl))
  f166 := Tryd.func113.trans (congrArg some (by kernel_rfl))
  f169 := Tryd.func114.trans (congrArg some (by kernel_rfl))
  f240 := Tryd.func139.trans (congrArg some (by kernel_rfl))
  f241 := Tryd.func140.trans (congrArg some (by kernel_rfl))
  f276 := Tryd.func157.trans (congrArg some (by kernel_rfl))
  f277 := Tryd.func158.trans (congrArg some (by kernel_rfl))
  t0 := Tryd.underlying0
  a0 := Tryd.isAgg0
  z0 := Tryd.sizeOf0
  v0 := Tryd.zeroValue0
  t3 := Tryd.underlying3
  a3 := Tryd.isAgg3
  z3 := Tryd.sizeOf3
  v3 := Tryd.zeroValue3
  t4 := Tryd.underlying4
  a4 := Tryd.isAgg4
  z4 := Tryd.sizeOf4
  v4 := Tryd.zeroValue4
  t9 := Tryd.underlying9
  a9 := Tryd.isAgg9
  z9 := Tryd.sizeOf9
  v9 := Tryd.zeroValue9
  t20 := Tryd.underlying20
  a20 := Tryd.isAgg20
  z20 := Tryd.sizeOf20
  v20 := Tryd.zeroValue20
  t31 := Tryd.underlying64
  a31 := Tryd.isAgg64
  z31 := Tryd.sizeOf64
  v31 := Tryd.zeroValue64
  t37 := Tryd.underlying164
  a37 := Tryd.isAgg164
  z37 := Tryd.sizeOf164
  v37 := Tryd.zeroValue164
  t70 := Tryd.underlying166
  a70 := Tryd.isAgg166
  z70 := Tryd.sizeOf166
  v70 := Tryd.zeroValue166
  t72 := Tryd.underlying168
  a72 := Tryd.isAgg168
  z72 := Tryd.sizeOf168
  v72 := Tryd.zeroValue168
  t75 := Tryd.underlying25
  a75 := Tryd.isAgg25
  z75 := Tryd.sizeOf25
  v75 := Tryd.zeroValue25
  t76 := Tryd.underlying42
  a76 := Tryd.isAgg42
  z76 := Tryd.sizeOf42
  v76 := Tryd.zeroValue42
  t127 := Tryd.underlying189
  a127 := Tryd.isAgg189
  z127 := Tryd.sizeOf189
  v127 := Tryd.zeroValue189
  t164 := Tryd.underlying203
  a164 := Tryd.isAgg203
  z164 := Tryd.sizeOf203
  v164 := Tryd.zeroValue203 }
theorem Tryd.Builder_Extra_156 : Builder.Extra Tryd.prog Tryd.lays156_ren := {
  sizeBuilder := by kernel_rfl
  liesBuilder := by kernel_rfl
  t5 := Tryd.underlying5
  a5 := Tryd.isAgg5
  z5 := Tryd.sizeOf5
  v5 := Tryd.zeroValue5
  infoByte := by kernel_rfl
  cellsByte := by kernel_rfl
  sizeByte := by kernel_rfl
  neB5 := by decide }
open Go.RowKit in
theorem Tryd.strings_Join_none (a : Option Addr) (c : Nat) (sep : ByteArray) (w : World) :
    Calls Tryd.prog 97 #[.slice a 0 c, .string sep] w fun e w' => e = .returned (.string ⟨#[]⟩) ∧ w' = w := Any.strings_Join_none Tryd.lays156 Tryd.Builder_Extra_156 a c sep w
open Go.RowKit in
theorem Tryd.strings_Join (bk o c : Nat) (xs : List ByteArray) (sep : ByteArray) (w : World) (hcells : ∀ (j : Nat) x, xs[j]? = some x → w.cell? ⟨bk, o + j, none⟩ = some (.string x)) (hbk : bk < w.heap.size) (hN : xs.length ≤ 140737488355328) (hcap : xs.length ≤ c) (hlen : (Lib.join (xs.map (·.data.toList)) sep.data.toList).length ≤ 140737488355328) :
    Calls Tryd.prog 97 #[.slice (some ⟨bk, o, none⟩) xs.length c, .string sep] w fun e w' => e = .returned (.string ⟨(Lib.join (xs.map (·.data.toList)) sep.data.toList).toArray⟩) ∧ Below w.heap.size w w' := Any.strings_Join Tryd.lays156 Tryd.Builder_Extra_156 bk o c xs sep w hcells hbk hN hcap hlen
def Tryd.lays137_ren : Go.Shelf.Ren := ⟨fun | 137 => 81 | 217 => 92 | 266 => 106 | n => n, fun | 9 => 9 | 5 => 5 | 3 => 3 | n => n, fun | n => n⟩
theorem Tryd.lays137 : Go.Proofs.Lays.n137 Tryd.prog Tryd.lays137_ren := {
  mixed := by kernel_rfl
  f137 := Tryd.func81.trans (congrArg some (by kernel_rfl))
  f217 := Tryd.func92.trans (congrArg some (by kernel_rfl))
  f266 := Tryd.func106.trans (congrArg some (by kernel_rfl))
  t3 := Tryd.underlying3
  a3 := Tryd.isAgg3
  z3 := Tryd.sizeOf3
  v3 := Tryd.zeroValue3
  t5 := Tryd.underlying5
  a5 := Tryd.isAgg5
  z5 := Tryd.sizeOf5
  v5 := Tryd.zeroValue5
  t9 := Tryd.underlying9
  a9 := Tryd.isAgg9
  z9 := Tryd.sizeOf9
  v9 := Tryd.zeroValue9 }
open Go.RowKit in
theorem Tryd.strings_IndexByte (s : ByteArray) (c : Int) (w : World) :
    Calls Tryd.prog 81 #[.string s, .int .u8 c] w fun e w' => e = .returned (.int .i64 (Lib.indexByte s.data.toList c.toNat.toUInt8)) ∧ w' = w := Any.strings_IndexByte Tryd.lays137 s c w
def Tryd.lays145_ren : Go.Shelf.Ren := ⟨fun | 145 => 94 | 220 => 108 | 219 => 135 | 217 => 92 | 225 => 151 | 224 => 152 | 267 => 153 | 266 => 106 | 314 => 164 | n => n, fun | 9 => 9 | 4 => 4 | 59 => 153 | 3 => 3 | 5 => 5 | 46 => 162 | 146 => 211 | 51 => 184 | n => n, fun | 1 => 1 | n => n⟩
theorem Tryd.lays145 : Go.Proofs.Lays.n145 Tryd.prog Tryd.lays145_ren := {
  mixed := by kernel_rfl
  f145 := Tryd.func94.trans (congrArg some (by kernel_rfl))
  f217 := Tryd.func92.trans (congrArg some (by kernel_rfl))
  f219 := Tryd.func135.trans (congrArg some (by kernel_rfl))
  f220 := Tryd.func108.trans (congrArg some (by kernel_rfl))
  f224 := Tryd.func152.trans (congrArg some (by kernel_rfl))
  f225 := Tryd.func151.trans (congrArg some (by kernel_rfl))
  f266 := Tryd.func106.trans (congrArg some (by kernel_rfl))
  f267 := Tryd.func153.trans (congrArg some (by kernel_rfl))
  f314 := Tryd.func164.trans (congrArg some (by kernel_rfl))
  t3 := Tryd.underlying3
  a3 := Tryd.isAgg3
  z3 := Tryd.sizeOf3
  v3 := Tryd.zeroValue3
  t4 := Tryd.underlying4
  a4 := Tryd.isAgg4
  z4 := Tryd.sizeOf4
  v4 := Tryd.zeroValue4
  t5 := Tryd.underlying5
  a5 := Tryd.isAgg5
  z5 := Tryd.sizeOf5
  v5 := Tryd.zeroValue5
  t9 := Tryd.underlying9
  a9 := Tryd.isAgg9
  z9 := Tryd.sizeOf9
  v9 := Tryd.zeroValue9
  t46 := Tryd.underlying162
  a46 := Tryd.isAgg162
  z46 := Tryd.sizeOf162
  v46 := Tryd.zeroValue162
  t51 := Tryd.underlying184
  a51 := Tryd.isAgg184
  z51 := Tryd.sizeOf184
  v51 := Tryd.zeroValue184
  t59 := Tryd.underlying153
  a59 := Tryd.isAgg153
  z59 := Tryd.sizeOf153
  v59 := Tryd.zeroValue153
  t146 := Tryd.underlying211
  a146 := Tryd.isAgg211
  z146 := Tryd.sizeOf211
  v146 := Tryd.zeroValue211
  g1 := by kernel_rfl }
open Go.RowKit Go.Lib in
theorem Tryd.strings_Cut (s sep : ByteArray) (m : Int) (w : World) (hs : s.size < 4294967281) (hm : w.cell? ⟨1, 0, none⟩ = some (.int .i64 m)) :
    Calls Tryd.prog 94 #[.string s, .string sep] w fun e w' => e = .returned (.tuple #[.string ⟨(Lib.cut s.data.toList sep.data.toList).1.toArray⟩, .string ⟨(Lib.cut s.data.toList sep.data.toList).2.1.toArray⟩, .bool (Lib.cut s.data.toList sep.data.toList).2.2]) ∧ ∃ n, w' = w.drewN n := Any.strings_Cut Tryd.lays145 s sep m w hs hm
def Tryd.laysM145_ren : Go.Shelf.Ren := ⟨fun | 145 => 94 | 220 => 108 | 219 => 135 | 217 => 92 | 225 => 151 | 224 => 152 | 267 => 153 | 266 => 106 | 314 => 164 | n => n, fun | 9 => 9 | 4 => 4 | 59 => 153 | 3 => 3 | 5 => 5 | 46 => 162 | 146 => 211 | 51 => 184 | n => n, fun | 1 => 1 | n => n⟩
theorem Tryd.laysM145 : Go.Proofs.LaysM.n145 Tryd.prog Tryd.laysM145_ren := {
  mixed := by kernel_rfl
  f145 := Tryd.func94.trans (congrArg some (by kernel_rfl))
  f217 := Tryd.func92.trans (congrArg some (by kernel_rfl))
  f219 := Tryd.func135.trans (congrArg some (by kernel_rfl))
  f220 := Tryd.func108.trans (congrArg some (by kernel_rfl))
  f224 := Tryd.func152.trans (congrArg some (by kernel_rfl))
  f225 := Tryd.func151.trans (congrArg some (by kernel_rfl))
  f266 := Tryd.func106.trans (congrArg some (by kernel_rfl))
  f267 := Tryd.func153.trans (congrArg some (by kernel_rfl))
  f314 := Tryd.func164.trans (congrArg some (by kernel_rfl))
  t3 := Tryd.underlying3
  a3 := Tryd.isAgg3
  z3 := Tryd.sizeOf3
  v3 := Tryd.zeroValue3
  t4 := Tryd.underlying4
  a4 := Tryd.isAgg4
  z4 := Tryd.sizeOf4
  v4 := Tryd.zeroValue4
  t5 := Tryd.underlying5
  a5 := Tryd.isAgg5
  z5 := Tryd.sizeOf5
  v5 := Tryd.zeroValue5
  t9 := Tryd.underlying9
  a9 := Tryd.isAgg9
  z9 := Tryd.sizeOf9
  v9 := Tryd.zeroValue9
  t46 := Tryd.underlying162
  a46 := Tryd.isAgg162
  z46 := Tryd.sizeOf162
  v46 := Tryd.zeroValue162
  t51 := Tryd.underlying184
  a51 := Tryd.isAgg184
  z51 := Tryd.sizeOf184
  v51 := Tryd.zeroValue184
  t59 := Tryd.underlying153
  a59 := Tryd.isAgg153
  z59 := Tryd.sizeOf153
  v59 := Tryd.zeroValue153
  t146 := Tryd.underlying211
  a146 := Tryd.isAgg211
  z146 := Tryd.sizeOf211
  v146 := Tryd.zeroValue211
  g1 := by kernel_rfl
  i3 := by kernel_rfl
  i4 := by kernel_rfl
  i5 := by kernel_rfl
  i9 := by kernel_rfl
  i46 := by kernel_rfl
  i51 := by kernel_rfl
  i59 := by kernel_rfl
  i146 := by kernel_rfl
  m1 := by kernel_rfl
  s1_3 := fun w h => Go.Proofs.cell_of_shapedOpen_int (zero := #[.int .i64 0]) (t := 3) h (of_decide_eq_true (by kernel_rfl)) (by kernel_rfl) rfl (by kernel_rfl) (by kernel_rfl) Tryd.underlying3 }
open Go.RowKit Go.Lib in
theorem Tryd.strings_Cut_shaped (s sep : ByteArray) (w : World) (h : w.ShapedOpen Tryd.prog) (hs : s.size < 4294967281) :
    Calls Tryd.prog 94 #[.string s, .string sep] w fun e w' => e = .returned (.tuple #[.string ⟨(Lib.cut s.data.toList sep.data.toList).1.toArray⟩, .string ⟨(Lib.cut s.data.toList sep.data.toList).2.1.toArray⟩, .bool (Lib.cut s.data.toList sep.data.toList).2.2]) ∧ ∃ n, w' = w.drewN n := Any.strings_Cut_shaped Tryd.laysM145 s sep w h hs
def Tryd.lays99_ren : Go.Shelf.Ren := ⟨fun | 99 => 98 | 206 => 115 | n => n, fun | 9 => 9 | 4 => 4 | 3 => 3 | n => n, fun | n => n⟩
theorem Tryd.lays99 : Go.Proofs.Lays.n99 Tryd.prog Tryd.lays99_ren := {
  mixed := by kernel_rfl
  f99 := Tryd.func98.trans (congrArg some (by kernel_rfl))
  f206 := Tryd.func115.trans (congrArg some (by kernel_rfl))
  t3 := Tryd.underlying3
  a3 := Tryd.isAgg3
  z3 := Tryd.sizeOf3
  v3 := Tryd.zeroValue3
  t4 := Tryd.underlying4
  a4 := Tryd.isAgg4
  z4 := Tryd.sizeOf4
  v4 := Tryd.zeroValue4
  t9 := Tryd.underlying9
  a9 := Tryd.isAgg9
  z9 := Tryd.sizeOf9
  v9 := Tryd.zeroValue9 }
open Go.RowKit Go.Lib in
theorem Tryd.strings_HasPrefix (s p : ByteArray) (w : World) :
    Calls Tryd.prog 98 #[.string s, .string p] w fun e w' => e = .returned (.bool (Lib.hasPrefix s.data.toList p.data.toList)) ∧ w' = w := Any.strings_HasPrefix Tryd.lays99 s p w
def Tryd.lays100_ren : Go.Shelf.Ren := ⟨fun | 100 => 99 | 207 => 116 | n => n, fun | 9 => 9 | 4 => 4 | 3 => 3 | n => n, fun | n => n⟩
theorem Tryd.lays100 : Go.Proofs.Lays.n100 Tryd.prog Tryd.lays100_ren := {
  mixed := by kernel_rfl
  f100 := Tryd.func99.trans (congrArg some (by kernel_rfl))
  f207 := Tryd.func116.trans (congrArg some (by kernel_rfl))
  t3 := Tryd.underlying3
  a3 := Tryd.isAgg3
  z3 := Tryd.sizeOf3
  v3 := Tryd.zeroValue3
  t4 := Tryd.underlying4
  a4 := Tryd.isAgg4
  z4 := Tryd.sizeOf4
  v4 := Tryd.zeroValue4
  t9 := Tryd.underlying9
  a9 := Tryd.isAgg9
  z9 := Tryd.sizeOf9
  v9 := Tryd.zeroValue9 }
open Go.RowKit Go.Lib in
theorem Tryd.strings_HasSuffix (s p : ByteArray) (w : World) (hs : s.size ≤ 9223372036854775807) :
    Calls Tryd.prog 99 #[.string s, .string p] w fun e w' => e = .returned (.bool (Lib.hasSuffix s.data.toList p.data.toList)) ∧ w' = w := Any.strings_HasSuffix Tryd.lays100 s p w hs
def Tryd.lays146_ren : Go.Shelf.Ren := ⟨fun | 146 => 96 | 221 => 111 | 268 => 136 | 138 => 137 | 143 => 138 | 195 => 154 | 197 => 155 | 218 => 156 | 219 => 135 | 260 => 165 | 217 => 92 | 225 => 151 | 224 => 152 | 267 => 153 | 266 => 106 | 314 => 164 | n => n, fun | 9 => 9 | 31 => 64 | 3 => 3 | 4 => 4 | 0 => 0 | 105 => 201 | 21 => 21 | 5 => 5 | 46 => 162 | 119 => 213 | 139 => 216 | 138 => 215 | 146 => 211 | 51 => 184 | n => n, fun | 1 => 1 | 3 => 3 | 4 => 4 | n => n⟩
theorem Tryd.lays146 : Go.Proofs.Lays.n146 Tryd.prog Tryd.lays146_ren := {
  mixed := by kernel_rfl
  f138 := Tryd.func137.trans (congrArg some (by kernel_rfl))
  f143 := Tryd.func138.trans (congrArg some (by kernel_rfl))
  f146 := Tryd.func96.trans (congrArg some (by kernel_rfl))
  f195 := Tryd.func154.trans (congrArg some (by kernel_rfl))
  f197 := Tryd.func155.trans (congrArg some (by kernel_rfl))
  f217 := Tryd.func92.trans (congrArg some (by kernel_rfl))
  f218 := Tryd.func156.trans (congrArg some (by kernel_rfl))
  f219 := Tryd.func135.trans (congrArg some (by kernel_rfl))
  f221 := Tryd.func111.trans (congrArg some (by kernel_rfl))
  f224 := Tryd.func152.trans (congrArg some (by kernel_rfl))
  f225 := Tryd.func151.trans (congrArg some (by kernel_rfl))
  f260 := Tryd.func165.trans (congrArg some (by kernel_rfl))
  f266 := Tryd.func106.trans (congrArg some (by kernel_rfl))
  f267 := Tryd.func153.trans (congrArg some (by kernel_rfl))
  f268 := Tryd.func136.trans (congrArg some (by kernel_rfl))
  f314 := Tryd.func164.trans (congrArg some (by kernel_rfl))
  t0 := Tryd.underlying0
  a0 := Tryd.isAgg0
  z0 := Tryd.sizeOf0
  v0 := Tryd.zeroValue0
  t3 := Tryd.underlying3
  a3 := Tryd.isAgg3
  z3 := Tryd.sizeOf3
  v3 := Tryd.zeroValue3
  t4 := Tryd.underlying4
  a4 := Tryd.isAgg4
  z4 := Tryd.sizeOf4
  v4 := Tryd.zeroValue4
  t5 := Tryd.underlying5
  a5 := Tryd.isAgg5
  z5 := Tryd.sizeOf5
  v5 := Tryd.zeroValue5
  t9 := Tryd.underlying9
  a9 := Tryd.isAgg9
  z9 := Tryd.sizeOf9
  v9 := Tryd.zeroValue9
  t21 := Tryd.underlying21
  a21 := Tryd.isAgg21
  z21 := Tryd.sizeOf21
  v21 := Tryd.zeroValue21
  t31 := Tryd.underlying64
  a31 := Tryd.isAgg64
  z31 := Tryd.sizeOf64
  v31 := Tryd.zeroValue64
  t46 := Tryd.underlying162
  a46 := Tryd.isAgg162
  z46 := Tryd.sizeOf162
  v46 := Tryd.zeroValue162
  t51 := Tryd.underlying184
  a51 := Tryd.isAgg184
  z51 := Tryd.sizeOf184
  v51 := Tryd.zeroValue184
  t105 := Tryd.underlying201
  a105 := Tryd.isAgg201
  z105 := Tryd.sizeOf201
  v105 := Tryd.zeroValue201
  t119 := Tryd.underlying213
  a119 := Tryd.isAgg213
  z119 := Tryd.sizeOf213
  t138 := Tryd.underlying215
  a138 := Tryd.isAgg215
  z138 := Tryd.sizeOf215
  v138 := Tryd.zeroValue215
  t139 := Tryd.underlying216
  a139 := Tryd.isAgg216
  z139 := Tryd.sizeOf216
  v139 := Tryd.zeroValue216
  t146 := Tryd.underlying211
  a146 := Tryd.isAgg211
  z146 := Tryd.sizeOf211
  v146 := Tryd.zeroValue211
  g1 := by kernel_rfl
  g3 := by kernel_rfl
  g4 := by kernel_rfl }
open Go.RowKit Go.Lib in
theorem Tryd.strings_Split (s sep : ByteArray) (m : Int) (w : World) (hs : s.size < 4294967281) (hm : w.cell? ⟨1, 0, none⟩ = some (.int .i64 m)) (h1 : 1 ≤ sep.size) :
    Calls Tryd.prog 96 #[.string s, .string sep] w fun e w' =>
      e = .returned (.slice (some ⟨w.heap.size, 0, none⟩) (Lib.countB s sep + 1) (Lib.countB s sep + 1)) ∧ w' = w.alloc (.cells ((Lib.splitB sep 0 (Lib.countB s sep) s).map Value.string).toArray 9) := Any.strings_Split Tryd.lays146 (by kernel_rfl) s sep m w hs hm h1
end Go.Proofs
