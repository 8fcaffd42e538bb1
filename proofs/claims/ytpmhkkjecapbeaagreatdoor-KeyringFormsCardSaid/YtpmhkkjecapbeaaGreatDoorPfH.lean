/- Contracts and plain facts that the statement's proof leans on (texts joined). No condition beyond those that each names. -/
import Derived.Shelf.Strings.Builder1
import Derived.Shelf.Strings.Builder2
import Derived.Shelf.Strings.OnBuilder
import Derived.Shelf.Small.Strs
import Derived.Shelf.Strconv.Atoi
import Derived.Shelf.Strconv.Itoa0
import Derived.Shelf.Strconv.Itoa1
import Derived.Shelf.LaysM
import Derived.Shelf.Strconv.Itoa2
import Derived.Shelf.Strconv.Itoa3
import Derived.Shelf.Strconv.AtoiErrFast
import Derived.Shelf.Strconv.ParseIntEmpty
import Derived.Shelf.Strconv.AtoiFail
import Derived.Shelf.Strconv.Clone
import Derived.Shelf.Strconv.SyntaxError
import Derived.Shelf.LaysC
import Derived.Shelf.Strconv.ToError
import Derived.Shelf.Strconv.Lower
import Derived.Shelf.Strconv.ParseUint10
import Derived.Shelf.Strconv.ParseUint10Empty
import Derived.Shelf.Strconv.ParseUint10Any
import Derived.Shelf.Strconv.ParseInt10
import Derived.Shelf.Strconv.AtoiLong
import Derived.Shelf.Strconv.AtoiInnerAll
import Derived.Shelf.Strconv.RangeError
import Derived.Shelf.Strconv.ToErrorRange
import Derived.Shelf.Strconv.AtoiAll
import Derived.Shelf.Strconv.ErrVarAll
import Derived.Shelf.Strings.Search1
import Derived.Shelf.Strings.Search2
import Derived.Shelf.Strings.Search3
import Derived.Shelf.Strings.Cut
import Derived.Shelf.Strings.Count
import Derived.Shelf.Strings.Shaped
import Derived.Shelf.Sort.Plain
import Derived.Shelf.Strings.Prefix
import Derived.Shelf.Strings.Split
import Derived.Shelf.Strings.SplitShaped
import Derived.Shelf.Unicode.Decode
import Derived.Shelf.Strings.RuneCount
import Derived.Shelf.Strings.Explode
import Derived.Shelf.Unicode.DecodeSlow
import Derived.Shelf.Slices.In.SortNone
import Derived.Test.YtpmhkkjecapbeaaGreatDoorProg
import Derived.Laws.Rows
import Derived.WalkKit
import Derived.Deep.QuietTactic
import Derived.BigQuiet
import Derived.Great.BuildSlice
import Derived.Deep.WholeRow
import Derived.Deep.LoopGhost
import Derived.StillTailTactics
import Derived.Test.YtpmhkkjecapbeaaGreatDoorPfE
import Derived.Test.YtpmhkkjecapbeaaGreatDoorPfG
section
namespace Go.Proofs
open Go.Shelf
def Tryz.laysC172_ren : Go.Shelf.Ren := ⟨fun | 172 => 70 | 244 => 108 | 245 => 109 | 247 => 139 | 279 => 140 | 280 => 141 | 281 => 142 | 282 => 143 | 287 => 168 | 316 => 169 | 171 => 57 | 205 => 170 | 321 => 186 | 322 => 187 | 243 => 100 | 246 => 124 | 283 => 158 | 284 => 159 | 285 => 160 | 286 => 161 | 129 => 135 | 317 => 181 | 318 => 182 | 319 => 183 | 320 => 184 | 337 => 191 | 338 => 192 | n => n, fun | 9 => 9 | 3 => 3 | 75 => 29 | 76 => 139 | 4 => 4 | 5 => 5 | 167 => 194 | 37 => 45 | 0 => 0 | 85 => 195 | 2 => 2 | 168 => 197 | 53 => 193 | 175 => 220 | 46 => 147 | 210 => 224 | 127 => 181 | 145 => 238 | 143 => 236 | 21 => 21 | 171 => 210 | 173 => 212 | 212 => 230 | 51 => 171 | 20 => 20 | 213 => 231 | 232 => 245 | 233 => 246 | 80 => 166 | n => n, fun | 15 => 2 | 16 => 3 | 17 => 4 | 18 => 7 | 19 => 8 | n => n⟩
theorem Tryz.laysC172 : Go.Proofs.LaysC.n172 Tryz.prog Tryz.laysC172_ren := {
  mixed := by kernel_rfl
  f129 := Tryz.func135.trans (congrArg some (by kernel_rfl))
  f171 := Tryz.func57.trans (congrArg some (by kernel_rfl))
  f172 := Tryz.func70.trans (congrArg some (by kernel_rfl))
  f205 := Tryz.func170.trans (congrArg some (by kernel_rfl))
  f243 := Tryz.func100.trans (congrArg some (by kernel_rfl))
  f244 := Tryz.func108.trans (congrArg some (by kernel_rfl))
  f245 := Tryz.func109.trans (congrArg some (by kernel_rfl))
  f246 := Tryz.func124.trans (congrArg some (by kernel_rfl))
  f247 := Tryz.func139.trans (congrArg some (by kernel_rfl))
  f279 := Tryz.func140.trans (congrArg some (by kernel_rfl))
  f280 := Tryz.func141.trans (congrArg some (by kernel_rfl))
  f281 := Tryz.func142.trans (congrArg some (by kernel_rfl))
  f282 := Tryz.func143.trans (congrArg some (by kernel_rfl))
  f283 := Tryz.func158.trans (congrArg some (by kernel_rfl))
  f284 := Tryz.func159.trans (congrArg some (by kernel_rfl))
  f285 := Tryz.func160.trans (congrArg some (by kernel_rfl))
  f286 := Tryz.func161.trans (congrArg some (by kernel_rfl))
  f287 := Tryz.func168.trans (congrArg some (by kernel_rfl))
  f316 := Tryz.func169.trans (congrArg some (by kernel_rfl))
  f317 := Tryz.func181.trans (congrArg some (by kernel_rfl))
  f318 := Tryz.func182.trans (congrArg some (by kernel_rfl))
  f319 := Tryz.func183.trans (congrArg some (by kernel_rfl))
  f320 := Tryz.func184.trans (congrArg some (by kernel_rfl))
  f321 := Tryz.func186.trans (congrArg some (by kernel_rfl))
  f322 := Tryz.func187.trans (congrArg some (by kernel_rfl))
  f337 := Tryz.func191.trans (congrArg some (by kernel_rfl))
  f338 := Tryz.func192.trans (congrArg some (by kernel_rfl))
  t0 := Tryz.underlying0
  a0 := Tryz.isAgg0
  z0 := Tryz.sizeOf0
  v0 := Tryz.zeroValue0
  t2 := Tryz.underlying2
  a2 := Tryz.isAgg2
  z2 := Tryz.sizeOf2
  v2 := Tryz.zeroValue2
  t3 := Tryz.underlying3
  a3 := Tryz.isAgg3
  z3 := Tryz.sizeOf3
  v3 := Tryz.zeroValue3
  t4 := Tryz.underlying4
  a4 := Tryz.isAgg4
  z4 := Tryz.sizeOf4
  v4 := Tryz.zeroValue4
  t5 := Tryz.underlying5
  a5 := Tryz.isAgg5
  z5 := Tryz.sizeOf5
  v5 := Tryz.zeroValue5
  t9 := Tryz.underlying9
  a9 := Tryz.isAgg9
  z9 := Tryz.sizeOf9
  v9 := Tryz.zeroValue9
  t20 := Tryz.underlying20
  a20 := Tryz.isAgg20
  z20 := Tryz.sizeOf20
  v20 := Tryz.zeroValue20
  t21 := Tryz.underlying21
  a21 := Tryz.isAgg21
  z21 := Tryz.sizeOf21
  v21 := Tryz.zeroValue21
  t37 := Tryz.underlying45
  a37 := Tryz.isAgg45
  z37 := Tryz.sizeOf45
  v37 := Tryz.zeroValue45
  t46 := Tryz.underlying147
  a46 := Tryz.isAgg147
  z46 := Tryz.sizeOf147
  v46 := Tryz.zeroValue147
  t51 := Tryz.underlying171
  a51 := Tryz.isAgg171
  z51 := Tryz.sizeOf171
  v51 := Tryz.zeroValue171
  t53 := Tryz.underlying193
  a53 := Tryz.isAgg193
  z53 := Tryz.sizeOf193
  v53 := Tryz.zeroValue193
  t75 := Tryz.underlying29
  a75 := Tryz.isAgg29
  z75 := Tryz.sizeOf29
  v75 := Tryz.zeroValue29
  t76 := Tryz.underlying139
  a76 := Tryz.isAgg139
  z76 := Tryz.sizeOf139
  v76 := Tryz.zeroValue139
  t85 := Tryz.underlying195
  a85 := Tryz.isAgg195
  z85 := Tryz.sizeOf195
  v85 := Tryz.zeroValue195
  t127 := Tryz.underlying181
  a127 := Tryz.isAgg181
  z127 := Tryz.sizeOf181
  v127 := Tryz.zeroValue181
  t143 := Tryz.underlying236
  a143 := Tryz.isAgg236
  z143 := Tryz.sizeOf236
  v143 := Tryz.zeroValue236
  t145 := Tryz.underlying238
  a145 := Tryz.isAgg238
  z145 := Tryz.sizeOf238
  v145 := Tryz.zeroValue238
  t167 := Tryz.underlying194
  a167 := Tryz.isAgg194
  z167 := Tryz.sizeOf194
  v167 := Tryz.zeroValue194
  t168 := Tryz.underlying197
  a168 := Tryz.isAgg197
  z168 := Tryz.sizeOf197
  v168 := Tryz.zeroValue197
  t171 := Tryz.underlying210
  a171 := Tryz.isAgg210
  z171 := Tryz.sizeOf210
  v171 := Tryz.zeroValue210
  t173 := Tryz.underlying212
  a173 := Tryz.isAgg212
  z173 := Tryz.sizeOf212
  v173 := Tryz.zeroValue212
  t175 := Tryz.underlying220
  a175 := Tryz.isAgg220
  z175 := Tryz.sizeOf220
  v175 := Tryz.zeroValue220
  t210 := Tryz.underlying224
  a210 := Tryz.isAgg224
  z210 := Tryz.sizeOf224
  v210 := Tryz.zeroValue224
  t212 := Tryz.underlying230
  a212 := Tryz.isAgg230
  z212 := Tryz.sizeOf230
  v212 := Tryz.zeroValue230
  t213 := Tryz.underlying231
  a213 := Tryz.isAgg231
  z213 := Tryz.sizeOf231
  t232 := Tryz.underlying245
  a232 := Tryz.isAgg245
  z232 := Tryz.sizeOf245
  v232 := Tryz.zeroValue245
  t233 := Tryz.underlying246
  a233 := Tryz.isAgg246
  z233 := Tryz.sizeOf246
  v233 := Tryz.zeroValue246
  g15 := by kernel_rfl
  g16 := by kernel_rfl
  g17 := by kernel_rfl
  g18 := by kernel_rfl
  g19 := by kernel_rfl
  t80 := Tryz.underlying166
  a80 := Tryz.isAgg166
  z80 := Tryz.sizeOf166
  v80 := Tryz.zeroValue166
  i0 := by kernel_rfl
  i2 := by kernel_rfl
  i3 := by kernel_rfl
  i4 := by kernel_rfl
  i5 := by kernel_rfl
  i9 := by kernel_rfl
  i20 := by kernel_rfl
  i21 := by kernel_rfl
  i37 := by kernel_rfl
  i46 := by kernel_rfl
  i51 := by kernel_rfl
  i53 := by kernel_rfl
  i75 := by kernel_rfl
  i76 := by kernel_rfl
  i80 := by kernel_rfl
  i85 := by kernel_rfl
  i127 := by kernel_rfl
  i143 := by kernel_rfl
  i145 := by kernel_rfl
  i167 := by kernel_rfl
  i168 := by kernel_rfl
  i171 := by kernel_rfl
  i173 := by kernel_rfl
  i175 := by kernel_rfl
  i210 := by kernel_rfl
  i212 := by kernel_rfl
  i232 := by kernel_rfl
  i233 := by kernel_rfl
  m15 := by kernel_rfl
  m16 := by kernel_rfl
  m17 := by kernel_rfl
  m18 := by kernel_rfl
  m19 := by kernel_rfl
  c0 := by kernel_rfl
  c2 := by kernel_rfl
  c3 := by kernel_rfl
  c4 := by kernel_rfl
  c5 := by kernel_rfl
  c9 := by kernel_rfl
  c20 := by kernel_rfl
  c21 := by kernel_rfl
  c37 := by kernel_rfl
  c46 := by kernel_rfl
  c51 := by kernel_rfl
  c53 := by kernel_rfl
  c75 := by kernel_rfl
  c76 := by kernel_rfl
  c80 := by kernel_rfl
  c85 := by kernel_rfl
  c127 := by kernel_rfl
  c143 := by kernel_rfl
  c145 := by kernel_rfl
  c167 := by kernel_rfl
  c168 := by kernel_rfl
  c171 := by kernel_rfl
  c173 := by kernel_rfl
  c175 := by kernel_rfl
  c210 := by kernel_rfl
  c212 := by kernel_rfl
  c213 := by kernel_rfl
  c232 := by kernel_rfl
  c233 := by kernel_rfl }
open Go.RowKit in
theorem Tryz.strconv_Atoi_ok (s : ByteArray) (hmax : s.size ≤ 9223372036854775806) (v : Int) (h : Lib.atoiAll s.data.toList = .ok v) (w : World) :
    Calls Tryz.prog 70 #[.string s] w fun e w' => e = .returned (.tuple #[.int .i64 v, .nilIface]) ∧ (w' = w ∨ ∃ t, w' = Lib.bytesWorld w 5 t) := Any.strconv_Atoi_ok Tryz.laysC172 s hmax v h w
open Go.RowKit in
theorem Tryz.strconv_Atoi_range_var (s : ByteArray) (hlim : s.size ≤ 281474976710656) (h : Lib.atoiAll s.data.toList = .range) (tp : TypeId) (p : Value) (w : World) (hvar : w.var? Tryz.prog "strconv.ErrRange" = some #[.iface tp p]) :
    Calls Tryz.prog 70 #[.string s] w fun e w' => ∃ N, e = .returned (.tuple #[.int .i64 (Lib.atoiSat s.data.toList), .iface 197 (.pointer (some ⟨N, 0, none⟩))]) ∧ w.heap.size ≤ N ∧ w'.heap[N]? = some (.cells #[.string ⟨#[65, 116, 111, 105]⟩, .string s, .iface tp p] 224 (0, 0)) ∧ Below w.heap.size w w' := Any.strconv_Atoi_range_var Tryz.laysC172 s hlim h tp p w hvar
end Go.Proofs
end

section
namespace Go.Proofs.YtpmhkkjecapbeaaGreatDoor
namespace Dg
open Pl Ad
set_option linter.unusedVariables false
/-! ### words -/
def kList : List Int := [1116352408, 1899447441, 3049323471, 3921009573, 961987163, 1508970993, 2453635748, 2870763221, 3624381080, 310598401, 607225278, 1426881987, 1925078388, 2162078206, 2614888103, 3248222580, 3835390401, 4022224774, 264347078, 604807628, 770255983, 1249150122, 1555081692, 1996064986, 2554220882, 2821834349, 2952996808, 3210313671, 3336571891, 3584528711, 113926993, 338241895, 666307205, 773529912, 1294757372, 1396182291, 1695183700, 1986661051, 2177026350, 2456956037, 2730485921, 2820302411, 3259730800, 3345764771, 3516065817, 3600352804, 4094571909, 275423344, 430227734, 506948616, 659060556, 883997877, 958139571, 1322822218, 1537002063, 1747873779, 1955562222, 2024104815, 2227730452, 2361852424, 2428436474, 2756734187, 3204031479, 3329325298]
def kAt (n : Nat) : Int := kList.getD n 0
def wvals (l : List Int) : Array Value := (l.map (Value.int .u32)).toArray
theorem wvals_at {l : List Int} {i : Nat} (h : i < l.length) : (wvals l)[i]? = some (.int .u32 (l.getD i 0)) := by
  simp [wvals, h]
theorem wvals_set (l : List Int) (i : Nat) (x : Int) : (wvals l).setIfInBounds i (.int .u32 x) = wvals (l.set i x) := by simp [wvals]
theorem wvals_size (l : List Int) : (wvals l).size = l.length := by simp [wvals]
theorem wvals_one (l : List Int) : (wvals l).all (·.oneCell') = true := by
  simp [wvals, Value.oneCell']
def rotN (x n : Int) : Int := bits .or .u32 (x / 2 ^ n.toNat) (x * 2 ^ (32 - n.toNat) % 4294967296)
theorem or_comm32 (x y : Int) : bits .or .u32 x y = bits .or .u32 y x := by simp only [bits, BitVec.or_comm]
def wordB (a b c d : UInt8) : Int := bits .or .u32 (bits .or .u32 (bits .or .u32 ((a.toNat : Int) * 16777216) ((b.toNat : Int) * 65536)) ((c.toNat : Int) * 256)) (d.toNat : Int)
def wAt (l : List Int) (i : Nat) : Int := l.getD i 0
/-- The next word of a schedule. -/
def sg1 (x : Int) : Int := bits .xor .u32 (bits .xor .u32 (rotN x 17) (rotN x 19)) (x / 1024)
def sg0 (y : Int) : Int := bits .xor .u32 (bits .xor .u32 (rotN y 7) (rotN y 18)) (y / 8)
def nextW (l : List Int) (t : Nat) : Int := (sg1 (wAt l (t - 2)) + wAt l (t - 7) + sg0 (wAt l (t - 15)) + wAt l (t - 16)) % 4294967296
theorem wordB_wrap (a b c d : UInt8) : bits .or .u32 (bits .or .u32 (bits .or .u32 ((a.toNat : Int) % 4294967296 * 16777216 % 4294967296) ((b.toNat : Int) % 4294967296 * 65536 % 4294967296)) ((c.toNat : Int) % 4294967296 * 256 % 4294967296)) ((d.toNat : Int) % 4294967296) = wordB a b c d := by
  have ha := byte_lt a
  have hb := byte_lt b
  have hc := byte_lt c
  have hd := byte_lt d
  rw [Int.emod_eq_of_lt (show 0 ≤ (a.toNat : Int) by omega) (by omega), Int.emod_eq_of_lt (show 0 ≤ (b.toNat : Int) by omega) (by omega), Int.emod_eq_of_lt (show 0 ≤ (c.toNat : Int) by omega) (by omega), Int.emod_eq_of_lt (show 0 ≤ (d.toNat : Int) by omega) (by omega),
    Int.emod_eq_of_lt (show 0 ≤ (a.toNat : Int) * 16777216 by omega) (by omega), Int.emod_eq_of_lt (show 0 ≤ (b.toNat : Int) * 65536 by omega) (by omega), Int.emod_eq_of_lt (show 0 ≤ (c.toNat : Int) * 256 by omega) (by omega)]
  rfl
/-- The first words of a block's schedule. -/
def schedL (b : Bs) : Nat → List Int
  | 0 => []
  | t + 1 => schedL b t ++ [if t < 16 then wordB (b.getD (4 * t) 0) (b.getD (4 * t + 1) 0) (b.getD (4 * t + 2) 0) (b.getD (4 * t + 3) 0) else nextW (schedL b t) t]
theorem schedL_len (b : Bs) (t : Nat) : (schedL b t).length = t := by
  induction t with
  | zero => rfl
  | succ t ih => rw [schedL, List.length_append, ih]; rfl
theorem getD_byte {b : Bs} {i : Nat} (h : i < b.length) : b.getD i 0 = b[i] := by simp [List.getD_eq_getElem?_getD, List.getElem?_eq_getElem h]
theorem sched_low {b : Bs} {k : Nat} (hl : b.length = 64) (hk : k < 16) : schedL b (k + 1) = schedL b k ++ [wordB (b[4 * k]'(by omega)) (b[4 * k + 1]'(by omega)) (b[4 * k + 2]'(by omega)) (b[4 * k + 3]'(by omega))] := by
  rw [schedL, if_pos hk, getD_byte (by omega), getD_byte (by omega), getD_byte (by omega), getD_byte (by omega)]
theorem sched_high {b : Bs} {k : Nat} {x y x7 x16 : Int} (hk : 16 ≤ k) (h : wAt (schedL b k) (k - 2) = x ∧ wAt (schedL b k) (k - 15) = y ∧ wAt (schedL b k) (k - 7) = x7 ∧ wAt (schedL b k) (k - 16) = x16) : schedL b (k + 1) = schedL b k ++ [(sg1 x + x7 + sg0 y + x16) % 4294967296] := by
  obtain ⟨rfl, rfl, rfl, rfl⟩ := h
  rw [schedL, if_neg (by omega)]; rfl
theorem fill_set {l : List Int} {n k : Nat} (x : Int) (hl : l.length = k) (hk : k < n) : (l ++ List.replicate (n - k) 0).set k x = (l ++ [x]) ++ List.replicate (n - (k + 1)) 0 := by
  subst hl
  obtain ⟨m, rfl⟩ : ∃ m, n = l.length + 1 + m := ⟨n - (l.length + 1), by omega⟩
  rw [show l.length + 1 + m - l.length = m + 1 by omega, show l.length + 1 + m - (l.length + 1) = m by omega, List.replicate_succ, List.set_append_right _ _ (Nat.le_refl _), Nat.sub_self, List.set_cons_zero]
  simp
theorem fill_at {l : List Int} {n k i : Nat} (hl : l.length = k) (hi : i < k) : (l ++ List.replicate (n - k) 0).getD i 0 = wAt l i := by
  unfold wAt
  simp only [List.getD_eq_getElem?_getD, List.getElem?_append_left (show i < l.length by omega)]
/-- A state of eight words. -/
structure St where
  a : Int
  b : Int
  c : Int
  d : Int
  e : Int
  f : Int
  g : Int
  h : Int
def stL (s : St) : List Int := [s.a, s.b, s.c, s.d, s.e, s.f, s.g, s.h]
def stV (s : St) : Array Value := #[.int .u32 s.a, .int .u32 s.b, .int .u32 s.c, .int .u32 s.d, .int .u32 s.e, .int .u32 s.f, .int .u32 s.g, .int .u32 s.h]
theorem stV_eq (s : St) : stV s = wvals (stL s) := rfl
def t1M (s : St) (k x : Int) : Int := (s.h + bits .xor .u32 (bits .xor .u32 (rotN s.e 6) (rotN s.e 11)) (rotN s.e 25) + bits .xor .u32 (bits .and .u32 s.e s.f) (bits .and .u32 (bits .xor .u32 IntKind.u32.max s.e) s.g) + k + x) % 4294967296
def t2M (s : St) : Int := (bits .xor .u32 (bits .xor .u32 (rotN s.a 2) (rotN s.a 13)) (rotN s.a 22) + bits .xor .u32 (bits .xor .u32 (bits .and .u32 s.a s.b) (bits .and .u32 s.a s.c)) (bits .and .u32 s.b s.c)) % 4294967296
/-- A round. -/
def roundM (s : St) (k x : Int) : St := ⟨(t1M s k x + t2M s) % 4294967296, s.a, s.b, s.c, (s.d + t1M s k x) % 4294967296, s.e, s.f, s.g⟩
def roundsM (l : List Int) (s : St) : Nat → St
  | 0 => s
  | t + 1 => roundM (roundsM l s t) (kAt t) (wAt l t)
def addW (x y : Int) : Int := (x + y) % 4294967296
def addS (v s : St) : St := ⟨addW v.a s.a, addW v.b s.b, addW v.c s.c, addW v.d s.d, addW v.e s.e, addW v.f s.f, addW v.g s.g, addW v.h s.h⟩
/-- The state after a block. -/
def mixM (s : St) (b : Bs) : St := addS (roundsM (schedL b 64) s 64) s
/-- The first i words of the sum, then those of v. -/
def sumK (v s : St) (i : Nat) : List Int := (stL (addS v s)).take i ++ (stL v).drop i
theorem sumK_len (v s : St) (i : Nat) (h : i ≤ 8) : (sumK v s i).length = 8 := by
  unfold sumK
  rw [List.length_append, List.length_take, List.length_drop]
  simp only [stL, List.length_cons, List.length_nil]
  omega
theorem sumK_set (v s : St) {i : Nat} (h : i < 8) : (sumK v s i).set i (addW ((stL v).getD i 0) ((stL s).getD i 0)) = sumK v s (i + 1) := by
  match i, h with
  | 0, _ => rfl
  | 1, _ => rfl
  | 2, _ => rfl
  | 3, _ => rfl
  | 4, _ => rfl
  | 5, _ => rfl
  | 6, _ => rfl
  | 7, _ => rfl
theorem sumK_at (v s : St) {i : Nat} (h : i < 8) : (sumK v s i).getD i 0 = (stL v).getD i 0 := by
  match i, h with
  | 0, _ => rfl
  | 1, _ => rfl
  | 2, _ => rfl
  | 3, _ => rfl
  | 4, _ => rfl
  | 5, _ => rfl
  | 6, _ => rfl
  | 7, _ => rfl
/-- All whole blocks of p, one after the other; what is left. -/
def runL (mx : St → Bs → St) (s : St) (p : Bs) : St × Bs :=
  if 64 ≤ p.length then runL mx (mx s (p.take 64)) (p.drop 64) else (s, p)
termination_by p.length
decreasing_by rw [List.length_drop]; omega
section
variable {mx : St → Bs → St}
theorem runL_end {s : St} {p : Bs} (h : ¬ 64 ≤ p.length) : runL mx s p = (s, p) := by rw [runL, if_neg h]
theorem runL_go {s : St} {p : Bs} (h : 64 ≤ p.length) : runL mx s p = runL mx (mx s (p.take 64)) (p.drop 64) := by rw [runL, if_pos h]
theorem runL_append (q : Bs) : ∀ (n : Nat) (s : St) (p : Bs), p.length ≤ n → runL mx s (p ++ q) = runL mx (runL mx s p).1 ((runL mx s p).2 ++ q) := by
  intro n
  induction n with
  | zero =>
    intro s p hp
    rw [runL_end (p := p) (by omega)]
  | succ n ih =>
    intro s p hp
    by_cases h : 64 ≤ p.length
    · rw [runL_go h, runL_go (p := p ++ q) (by rw [List.length_append]; omega), List.take_append_of_le_length h, List.drop_append_of_le_length h]
      exact ih _ _ (by rw [List.length_drop]; omega)
    · rw [runL_end h]
theorem runL_rest : ∀ (n : Nat) (s : St) (p : Bs), p.length ≤ n → (runL mx s p).2.length = p.length % 64 := by
  intro n
  induction n with
  | zero =>
    intro s p hp
    rw [runL_end (by omega)]
    simp only
    omega
  | succ n ih =>
    intro s p hp
    by_cases h : 64 ≤ p.length
    · rw [runL_go h, ih _ _ (by rw [List.length_drop]; omega), List.length_drop]; omega
    · rw [runL_end h]; simp only; omega
end
/-- Eight bytes of a number, the greatest first. -/
def be8 (n : Nat) : Bs := [56, 48, 40, 32, 24, 16, 8, 0].map fun k => UInt8.ofNat (n / 2 ^ k)
def zerosN (n : Nat) : Nat := (119 - n % 64) % 64
def tailM (n : Nat) : Bs := 128 :: (List.replicate (zerosN n) 0 ++ be8 (8 * n))
theorem tailM_len (n : Nat) : (n + (tailM n).length) % 64 = 0 := by
  unfold tailM zerosN be8
  simp only [List.length_cons, List.length_append, List.length_replicate, List.length_map, List.length_nil]
  omega
def initS : St := ⟨1779033703, 3144134277, 1013904242, 2773480762, 1359893119, 2600822924, 528734635, 1541459225⟩
def word4 (x : Int) : Bs := [UInt8.ofNat (x / 16777216 % 256).toNat, UInt8.ofNat (x / 65536 % 256).toNat, UInt8.ofNat (x / 256 % 256).toNat, UInt8.ofNat (x % 256).toNat]
def outM (s : St) : Bs := word4 s.a ++ word4 s.b ++ word4 s.c ++ word4 s.d ++ word4 s.e ++ word4 s.f ++ word4 s.g ++ word4 s.h
def sumM (mx : St → Bs → St) (m : Bs) : Bs := outM (runL mx initS (m ++ tailM m.length)).1
theorem sumM_len (mx : St → Bs → St) (m : Bs) : (sumM mx m).length = 32 := rfl
def padK (k : Bs) (x : UInt8) : Bs := (k ++ List.replicate (64 - k.length) 0).map (· ^^^ x)
def keyM (mx : St → Bs → St) (k : Bs) : Bs := if 64 < k.length then sumM mx k else k
theorem keyM_len (mx : St → Bs → St) (k : Bs) : (keyM mx k).length ≤ 64 := by
  unfold keyM; split
  · rw [sumM_len]; omega
  · omega
def hmacM (mx : St → Bs → St) (key t : Bs) : Bs := sumM mx (padK (keyM mx key) 92 ++ sumM mx (padK (keyM mx key) 54 ++ t))
theorem hmacM_len (mx : St → Bs → St) (key t : Bs) : (hmacM mx key t).length = 32 := rfl
def hexDig : Bs := [48, 49, 50, 51, 52, 53, 54, 55, 56, 57, 97, 98, 99, 100, 101, 102]
def hexL (l : Bs) : Bs := l.flatMap fun b => [hexDig.getD (b.toNat / 16) 0, hexDig.getD (b.toNat % 16) 0]
theorem hexL_snoc (l : Bs) (b : UInt8) : hexL (l ++ [b]) = hexL l ++ [hexDig.getD (b.toNat / 16) 0, hexDig.getD (b.toNat % 16) 0] := by simp [hexL]
/-- The signature of a text. -/
def sigM (mx : St → Bs → St) (sec t : Bs) : Bs := hexL ((hmacM mx sec t).take 16)
end Dg
end Go.Proofs.YtpmhkkjecapbeaaGreatDoor
end

section
namespace Go.Proofs.YtpmhkkjecapbeaaGreatDoor
open Go.RowKit Pl Ad
set_option maxRecDepth 100000
set_option maxHeartbeats 4000000
set_option linter.unusedVariables false
set_option linter.unusedSimpArgs false
namespace Dg
theorem ret_w {x y : Int} (h : x = y) : Ending.returned (.int .u32 x) = Ending.returned (.int .u32 y) := by rw [h]
theorem rl_2 (x : Int) (w : World) : Calls Tryz.prog 171 #[.int .u32 x, .int .i64 (-2)] w fun e w' => e = .returned (.int .u32 (rotN x 2)) ∧ w = w' := by
  have hk : bits BinOp.and IntKind.u64 (IntKind.u64.wrap (-2)) 31 = 30 := by decide +kernel
  go_enter Tryz.func171, Tryz.ntmps171
  go_wp2
  go_ret
  exact ⟨ret_w (or_comm32 _ _), rfl⟩
theorem dr_2 (x : Int) (w : World) : Calls Tryz.prog 145 #[.int .u32 x, .int .i64 2] w fun e w' => e = .returned (.int .u32 (rotN x 2)) ∧ w = w' := by
  go_enter Tryz.func145, Tryz.ntmps145
  go_wp2_with (go_at_call 171; refine (rl_2 x _).mono ?_; rintro e w' ⟨rfl, rfl⟩)
  go_ret
  exact ⟨rfl, rfl⟩
theorem rl_6 (x : Int) (w : World) : Calls Tryz.prog 171 #[.int .u32 x, .int .i64 (-6)] w fun e w' => e = .returned (.int .u32 (rotN x 6)) ∧ w = w' := by
  have hk : bits BinOp.and IntKind.u64 (IntKind.u64.wrap (-6)) 31 = 26 := by decide +kernel
  go_enter Tryz.func171, Tryz.ntmps171
  go_wp2
  go_ret
  exact ⟨ret_w (or_comm32 _ _), rfl⟩
theorem dr_6 (x : Int) (w : World) : Calls Tryz.prog 145 #[.int .u32 x, .int .i64 6] w fun e w' => e = .returned (.int .u32 (rotN x 6)) ∧ w = w' := by
  go_enter Tryz.func145, Tryz.ntmps145
  go_wp2_with (go_at_call 171; refine (rl_6 x _).mono ?_; rintro e w' ⟨rfl, rfl⟩)
  go_ret
  exact ⟨rfl, rfl⟩
theorem rl_7 (x : Int) (w : World) : Calls Tryz.prog 171 #[.int .u32 x, .int .i64 (-7)] w fun e w' => e = .returned (.int .u32 (rotN x 7)) ∧ w = w' := by
  have hk : bits BinOp.and IntKind.u64 (IntKind.u64.wrap (-7)) 31 = 25 := by decide +kernel
  go_enter Tryz.func171, Tryz.ntmps171
  go_wp2
  go_ret
  exact ⟨ret_w (or_comm32 _ _), rfl⟩
theorem dr_7 (x : Int) (w : World) : Calls Tryz.prog 145 #[.int .u32 x, .int .i64 7] w fun e w' => e = .returned (.int .u32 (rotN x 7)) ∧ w = w' := by
  go_enter Tryz.func145, Tryz.ntmps145
  go_wp2_with (go_at_call 171; refine (rl_7 x _).mono ?_; rintro e w' ⟨rfl, rfl⟩)
  go_ret
  exact ⟨rfl, rfl⟩
theorem rl_11 (x : Int) (w : World) : Calls Tryz.prog 171 #[.int .u32 x, .int .i64 (-11)] w fun e w' => e = .returned (.int .u32 (rotN x 11)) ∧ w = w' := by
  have hk : bits BinOp.and IntKind.u64 (IntKind.u64.wrap (-11)) 31 = 21 := by decide +kernel
  go_enter Tryz.func171, Tryz.ntmps171
  go_wp2
  go_ret
  exact ⟨ret_w (or_comm32 _ _), rfl⟩
theorem dr_11 (x : Int) (w : World) : Calls Tryz.prog 145 #[.int .u32 x, .int .i64 11] w fun e w' => e = .returned (.int .u32 (rotN x 11)) ∧ w = w' := by
  go_enter Tryz.func145, Tryz.ntmps145
  go_wp2_with (go_at_call 171; refine (rl_11 x _).mono ?_; rintro e w' ⟨rfl, rfl⟩)
  go_ret
  exact ⟨rfl, rfl⟩
theorem rl_13 (x : Int) (w : World) : Calls Tryz.prog 171 #[.int .u32 x, .int .i64 (-13)] w fun e w' => e = .returned (.int .u32 (rotN x 13)) ∧ w = w' := by
  have hk : bits BinOp.and IntKind.u64 (IntKind.u64.wrap (-13)) 31 = 19 := by decide +kernel
  go_enter Tryz.func171, Tryz.ntmps171
  go_wp2
  go_ret
  exact ⟨ret_w (or_comm32 _ _), rfl⟩
theorem dr_13 (x : Int) (w : World) : Calls Tryz.prog 145 #[.int .u32 x, .int .i64 13] w fun e w' => e = .returned (.int .u32 (rotN x 13)) ∧ w = w' := by
  go_enter Tryz.func145, Tryz.ntmps145
  go_wp2_with (go_at_call 171; refine (rl_13 x _).mono ?_; rintro e w' ⟨rfl, rfl⟩)
  go_ret
  exact ⟨rfl, rfl⟩
theorem rl_17 (x : Int) (w : World) : Calls Tryz.prog 171 #[.int .u32 x, .int .i64 (-17)] w fun e w' => e = .returned (.int .u32 (rotN x 17)) ∧ w = w' := by
  have hk : bits BinOp.and IntKind.u64 (IntKind.u64.wrap (-17)) 31 = 15 := by decide +kernel
  go_enter Tryz.func171, Tryz.ntmps171
  go_wp2
  go_ret
  exact ⟨ret_w (or_comm32 _ _), rfl⟩
theorem dr_17 (x : Int) (w : World) : Calls Tryz.prog 145 #[.int .u32 x, .int .i64 17] w fun e w' => e = .returned (.int .u32 (rotN x 17)) ∧ w = w' := by
  go_enter Tryz.func145, Tryz.ntmps145
  go_wp2_with (go_at_call 171; refine (rl_17 x _).mono ?_; rintro e w' ⟨rfl, rfl⟩)
  go_ret
  exact ⟨rfl, rfl⟩
theorem rl_18 (x : Int) (w : World) : Calls Tryz.prog 171 #[.int .u32 x, .int .i64 (-18)] w fun e w' => e = .returned (.int .u32 (rotN x 18)) ∧ w = w' := by
  have hk : bits BinOp.and IntKind.u64 (IntKind.u64.wrap (-18)) 31 = 14 := by decide +kernel
  go_enter Tryz.func171, Tryz.ntmps171
  go_wp2
  go_ret
  exact ⟨ret_w (or_comm32 _ _), rfl⟩
theorem dr_18 (x : Int) (w : World) : Calls Tryz.prog 145 #[.int .u32 x, .int .i64 18] w fun e w' => e = .returned (.int .u32 (rotN x 18)) ∧ w = w' := by
  go_enter Tryz.func145, Tryz.ntmps145
  go_wp2_with (go_at_call 171; refine (rl_18 x _).mono ?_; rintro e w' ⟨rfl, rfl⟩)
  go_ret
  exact ⟨rfl, rfl⟩
theorem rl_19 (x : Int) (w : World) : Calls Tryz.prog 171 #[.int .u32 x, .int .i64 (-19)] w fun e w' => e = .returned (.int .u32 (rotN x 19)) ∧ w = w' := by
  have hk : bits BinOp.and IntKind.u64 (IntKind.u64.wrap (-19)) 31 = 13 := by decide +kernel
  go_enter Tryz.func171, Tryz.ntmps171
  go_wp2
  go_ret
  exact ⟨ret_w (or_comm32 _ _), rfl⟩
theorem dr_19 (x : Int) (w : World) : Calls Tryz.prog 145 #[.int .u32 x, .int .i64 19] w fun e w' => e = .returned (.int .u32 (rotN x 19)) ∧ w = w' := by
  go_enter Tryz.func145, Tryz.ntmps145
  go_wp2_with (go_at_call 171; refine (rl_19 x _).mono ?_; rintro e w' ⟨rfl, rfl⟩)
  go_ret
  exact ⟨rfl, rfl⟩
theorem rl_22 (x : Int) (w : World) : Calls Tryz.prog 171 #[.int .u32 x, .int .i64 (-22)] w fun e w' => e = .returned (.int .u32 (rotN x 22)) ∧ w = w' := by
  have hk : bits BinOp.and IntKind.u64 (IntKind.u64.wrap (-22)) 31 = 10 := by decide +kernel
  go_enter Tryz.func171, Tryz.ntmps171
  go_wp2
  go_ret
  exact ⟨ret_w (or_comm32 _ _), rfl⟩
theorem dr_22 (x : Int) (w : World) : Calls Tryz.prog 145 #[.int .u32 x, .int .i64 22] w fun e w' => e = .returned (.int .u32 (rotN x 22)) ∧ w = w' := by
  go_enter Tryz.func145, Tryz.ntmps145
  go_wp2_with (go_at_call 171; refine (rl_22 x _).mono ?_; rintro e w' ⟨rfl, rfl⟩)
  go_ret
  exact ⟨rfl, rfl⟩
theorem rl_25 (x : Int) (w : World) : Calls Tryz.prog 171 #[.int .u32 x, .int .i64 (-25)] w fun e w' => e = .returned (.int .u32 (rotN x 25)) ∧ w = w' := by
  have hk : bits BinOp.and IntKind.u64 (IntKind.u64.wrap (-25)) 31 = 7 := by decide +kernel
  go_enter Tryz.func171, Tryz.ntmps171
  go_wp2
  go_ret
  exact ⟨ret_w (or_comm32 _ _), rfl⟩
theorem dr_25 (x : Int) (w : World) : Calls Tryz.prog 145 #[.int .u32 x, .int .i64 25] w fun e w' => e = .returned (.int .u32 (rotN x 25)) ∧ w = w' := by
  go_enter Tryz.func145, Tryz.ntmps145
  go_wp2_with (go_at_call 171; refine (rl_25 x _).mono ?_; rintro e w' ⟨rfl, rfl⟩)
  go_ret
  exact ⟨rfl, rfl⟩
def rots : List Int := [2, 6, 7, 11, 13, 17, 18, 19, 22, 25]
theorem dRotr (x n : Int) (w : World) (h : n ∈ rots) : Calls Tryz.prog 145 #[.int .u32 x, .int .i64 n] w fun e w' => e = .returned (.int .u32 (rotN x n)) ∧ w = w' := by
  simp only [rots, List.mem_cons, List.not_mem_nil, or_false] at h
  rcases h with rfl | rfl | rfl | rfl | rfl | rfl | rfl | rfl | rfl | rfl
  · exact dr_2 x w
  · exact dr_6 x w
  · exact dr_7 x w
  · exact dr_11 x w
  · exact dr_13 x w
  · exact dr_17 x w
  · exact dr_18 x w
  · exact dr_19 x w
  · exact dr_22 x w
  · exact dr_25 x w
end Dg
end Go.Proofs.YtpmhkkjecapbeaaGreatDoor
end

section
namespace Go.Proofs.YtpmhkkjecapbeaaGreatDoor
open Go.RowKit Pl Ad
set_option maxRecDepth 100000
set_option maxHeartbeats 4000000
set_option linter.unusedVariables false
set_option linter.unusedSimpArgs false
namespace Dg
open Kr
theorem below_setRow {B : Nat} {w w' : World} {g : Nat} (h : Below B w w') (hg : B ≤ g) (cs : Array Value) : Below B w (w'.setRow g cs) := by
  exact h.trans ⟨rfl, rfl, rfl, by simp, fun k hk => setRow_other w' g k cs (by omega)⟩
theorem sched_any (b : Bs) (g o c : Nat) (w : World) (hl : b.length = 64) (hb : ∀ (i : Nat) (h : i < b.length), w.cell? ⟨g, o + i, none⟩ = some (.int .u8 (b[i].toNat : Int))) (hg : g < w.heap.size) :
    Calls Tryz.prog 144 #[.slice (some ⟨g, o, none⟩) 64 c] w fun e w' => e = .returned (.agg (wvals (schedL b 64))) ∧ Below w.heap.size w w' := by
  have HX2 := Lib.hid ((Bx.new w 200 (wvals (List.replicate 64 0))).older ((Below.refl _ _).alloc (Nat.le_refl _) (.cells (wvals (List.replicate 64 0)) 200)))
  have HX3 := Lib.hid (Bx.new (w.alloc (.cells (wvals (List.replicate 64 0)) 200)) 200 (wvals (List.replicate 64 0)))
  have HB := Lib.hid (((Below.refl w.heap.size w).alloc (Nat.le_refl _) (.cells (wvals (List.replicate 64 0)) 200)).alloc (by simp) (.cells (wvals (List.replicate 64 0)) 200))
  have hs : (w.alloc (.cells (wvals (List.replicate 64 0)) 200)).heap.size = w.heap.size + 1 := by simp
  rw [hs] at HX3
  clear hs
  have HBB := Lib.hid hb
  clear hb
  go_enter Tryz.func144, Tryz.ntmps144
  go_wp2_with fail
  go_loopg [10, 4] 16 (fun q iv s4 wr => ∃ k : Nat, iv = .int .i64 k ∧ k ≤ 16 ∧ Hid (16 ≤ q + k) ∧ Bx wr w.heap.size 200 (wvals (List.replicate 64 0)) ∧ Bx wr (w.heap.size + 1) 200 (wvals (schedL b k ++ List.replicate (64 - k) 0)) ∧ Below w.heap.size w wr)
  case atStart => exact ⟨0, rfl, Nat.zero_le _, Lib.hid (by omega), HX2.out, HX3.out, HB.out⟩
  case round =>
    obtain ⟨k, rfl, hk, HQ, hx2, hx3, hbel⟩ := hrel
    clear HX2 HX3 HB
    have HX2 := Lib.hid hx2
    have HX3 := Lib.hid hx3
    have HB := Lib.hid hbel
    have hz3 := hx3.lt
    by_cases hlt : k < 16
    · have d0 := hx3.cell (i := k) (wvals_at (by rw [List.length_append, schedL_len, List.length_replicate]; omega))
      have f0 := hx3.frz k
      have c0 := (hbel.cell (p := ⟨g, o + 4 * k, none⟩) hg).trans (HBB.out (4 * k) (by omega))
      have c1 := (hbel.cell (p := ⟨g, o + (4 * k + 1), none⟩) hg).trans (HBB.out (4 * k + 1) (by omega))
      have c2 := (hbel.cell (p := ⟨g, o + (4 * k + 2), none⟩) hg).trans (HBB.out (4 * k + 2) (by omega))
      have c3 := (hbel.cell (p := ⟨g, o + (4 * k + 3), none⟩) hg).trans (HBB.out (4 * k + 3) (by omega))
      have HS := Lib.hid (sched_low hl hlt)
      generalize b[4 * k] = b0 at c0 HS
      generalize b[4 * k + 1] = b1 at c1 HS
      generalize b[4 * k + 2] = b2 at c2 HS
      generalize b[4 * k + 3] = b3 at c3 HS
      have HW := Lib.hid (wordB_wrap b0 b1 b2 b3)
      have hk64 : (k : Int) < 64 := by omega
      have hk0 : (0 : Int) ≤ (k : Int) := by omega
      have hk1 : (k : Int) < 16 := by omega
      have hk2 : (4 * k : Int) < 64 := by omega
      have hk3 : (4 * k + 1 : Int) < 64 := by omega
      have hk4 : (4 * k + 2 : Int) < 64 := by omega
      have hk5 : (4 * k + 3 : Int) < 64 := by omega
      have hw0 : IntKind.i64.wrap (4 * (k : Int)) = 4 * (k : Int) := by rw [IntKind.wrap_i64]; omega
      have hw1 : IntKind.i64.wrap (4 * (k : Int) + 1) = 4 * (k : Int) + 1 := by rw [IntKind.wrap_i64]; omega
      have hw2 : IntKind.i64.wrap (4 * (k : Int) + 2) = 4 * (k : Int) + 2 := by rw [IntKind.wrap_i64]; omega
      have hw3 : IntKind.i64.wrap (4 * (k : Int) + 3) = 4 * (k : Int) + 3 := by rw [IntKind.wrap_i64]; omega
      have hv0 : (0 : Int) ≤ 4 * (k : Int) := by omega
      have hv1 : (0 : Int) ≤ 4 * (k : Int) + 1 := by omega
      have hv2 : (0 : Int) ≤ 4 * (k : Int) + 2 := by omega
      have hv3 : (0 : Int) ≤ 4 * (k : Int) + 3 := by omega
      have hn0 : (4 * (k : Int)).toNat = 4 * k := by omega
      have hn1 : (4 * (k : Int) + 1).toNat = 4 * k + 1 := by omega
      have hn2 : (4 * (k : Int) + 2).toNat = 4 * k + 2 := by omega
      have hn3 : (4 * (k : Int) + 3).toNat = 4 * k + 3 := by omega
      clear hx2 hx3 hbel
      go_wp2_with fail
      go_still_tail 35, (by kernel_rfl)
      change wpList _ _ _ _ _ wr.drew
      generalize hw8 : wr.drew = w8
      have hb8 : Below wr.heap.size wr w8 := by rw [← hw8]; exact (Below.refl _ _).drew
      have HX28 := Lib.hid (HX2.out.older hb8)
      have HX38 := Lib.hid (HX3.out.older hb8)
      have HB8 := Lib.hid (HB.out.trans (hb8.mono HB.out.size))
      clear hw8 hb8 d0 f0
      have d0 := HX38.out.cell (i := k) (wvals_at (by rw [List.length_append, schedL_len, List.length_replicate]; omega))
      have f0 := HX38.out.frz k
      go_wp2_with fail
      go_roundg (gk - 1)
      case rel =>
        refine ⟨k + 1, by go_num, by omega, Lib.hid (by have := HQ.out; omega), HX28.out.touch (touch_set1 _ _ _ _) (by omega), ?_, HB8.out.setCell (p := ⟨w.heap.size + 1, k, none⟩) (by simp) _⟩
        have h9 := HX38.out.set k (.int .u32 (wordB b0 b1 b2 b3))
        rw [wvals_set, fill_set _ (schedL_len b k) (by omega), ← HS.out] at h9
        rw [HW.out]
        exact h9
      case measure => have := HQ.out; omega
    · have hk16 : k = 16 := by omega
      subst hk16
      clear hx2 hx3 hbel
      go_wp2_with fail
      go_loopg [5, 6, 7, 8, 9] 48 (fun q iv s6 s7 s8 s9 wr => ∃ k : Nat, iv = .int .i64 k ∧ k ≤ 64 ∧ 16 ≤ k ∧ Hid (64 ≤ q + k) ∧ Bx wr w.heap.size 200 (wvals (List.replicate 64 0)) ∧ Bx wr (w.heap.size + 1) 200 (wvals (schedL b k ++ List.replicate (64 - k) 0)) ∧ Below w.heap.size w wr)
      case atStart => exact ⟨16, rfl, by omega, Nat.le_refl _, Lib.hid (by omega), HX2.out, HX3.out, HB.out⟩
      case round =>
        obtain ⟨k, rfl, hk, hk16, HQ, hx2, hx3, hbel⟩ := hrel
        clear HX2 HX3 HB
        have HX2 := Lib.hid hx2
        have HX3 := Lib.hid hx3
        have HB := Lib.hid hbel
        have hz3 := hx3.lt
        by_cases hlt : k < 64
        · have hlen : ∀ i, i < k → i < (schedL b k ++ List.replicate (64 - k) 0).length := fun i hi => by rw [List.length_append, schedL_len, List.length_replicate]; omega
          have d2 := hx3.cell (i := k - 2) (wvals_at (hlen _ (by omega)))
          have d15 := hx3.cell (i := k - 15) (wvals_at (hlen _ (by omega)))
          rw [fill_at (schedL_len b k) (by omega)] at d2 d15
          obtain ⟨x, hx⟩ : ∃ x, wAt (schedL b k) (k - 2) = x := ⟨_, rfl⟩
          obtain ⟨y, hy⟩ : ∃ x, wAt (schedL b k) (k - 15) = x := ⟨_, rfl⟩
          obtain ⟨x7, hx7⟩ : ∃ x, wAt (schedL b k) (k - 7) = x := ⟨_, rfl⟩
          obtain ⟨x16, hx16⟩ : ∃ x, wAt (schedL b k) (k - 16) = x := ⟨_, rfl⟩
          rw [hx] at d2
          rw [hy] at d15
          have HXV := Lib.hid (And.intro hx (And.intro hy (And.intro hx7 hx16)))
          have HS := Lib.hid (sched_high hk16 HXV.out)
          have HLEN := Lib.hid hlen
          clear hx hy hx7 hx16 hlen
          have b2 : (0 : Int) ≤ (k : Int) - 2 := by omega
          have b7 : (0 : Int) ≤ (k : Int) - 7 := by omega
          have b15 : (0 : Int) ≤ (k : Int) - 15 := by omega
          have b16 : (0 : Int) ≤ (k : Int) - 16 := by omega
          have e2 : (k : Int) - 2 < 64 := by omega
          have e7 : (k : Int) - 7 < 64 := by omega
          have e15 : (k : Int) - 15 < 64 := by omega
          have e16 : (k : Int) - 16 < 64 := by omega
          have n2 : ((k : Int) - 2).toNat = k - 2 := by omega
          have n7 : ((k : Int) - 7).toNat = k - 7 := by omega
          have n15 : ((k : Int) - 15).toNat = k - 15 := by omega
          have n16 : ((k : Int) - 16).toNat = k - 16 := by omega
          have hw2 : IntKind.i64.wrap ((k : Int) - 2) = (k : Int) - 2 := by rw [IntKind.wrap_i64]; omega
          have hw7 : IntKind.i64.wrap ((k : Int) - 7) = (k : Int) - 7 := by rw [IntKind.wrap_i64]; omega
          have hw15 : IntKind.i64.wrap ((k : Int) - 15) = (k : Int) - 15 := by rw [IntKind.wrap_i64]; omega
          have hw16 : IntKind.i64.wrap ((k : Int) - 16) = (k : Int) - 16 := by rw [IntKind.wrap_i64]; omega
          have hk0 : (0 : Int) ≤ (k : Int) := by omega
          have hk64 : (k : Int) < 64 := by omega
          clear hx2 hx3 hbel
          go_wp2_with fail
          go_quiet (fail)
          generalize hw8 : wr.drewN nq = w8
          have hb8 : Below wr.heap.size wr w8 := by rw [← hw8]; exact below_drewN (Below.refl _ _) _
          have HX28 := Lib.hid (HX2.out.older hb8)
          have HX38 := Lib.hid (HX3.out.older hb8)
          have HB8 := Lib.hid (HB.out.trans (hb8.mono HB.out.size))
          clear hw8 hb8 d2 d15
          go_wp2_with (go_at_call 145; refine (dRotr _ _ _ (by decide)).mono ?_; rintro e w' ⟨rfl, rfl⟩)
          have hz8 := HX38.out.lt
          have b7' : (7 : Int) ≤ (k : Int) := by omega
          have b16' : (16 : Int) ≤ (k : Int) := by omega
          have e7' : (k : Int) < 71 := by omega
          have e16' : (k : Int) < 80 := by omega
          have d7 := HX38.out.cell (i := k - 7) (wvals_at (HLEN.out _ (by omega)))
          have d16 := HX38.out.cell (i := k - 16) (wvals_at (HLEN.out _ (by omega)))
          rw [fill_at (schedL_len b k) (by omega)] at d7 d16
          rw [HXV.out.2.2.1] at d7
          rw [HXV.out.2.2.2] at d16
          go_still_tail 15, (by kernel_rfl)
          change wpList _ _ _ _ _ w8.drew
          generalize hw9 : w8.drew = w9
          have hb9 : Below w8.heap.size w8 w9 := by rw [← hw9]; exact (Below.refl _ _).drew
          have HX29 := Lib.hid (HX28.out.older hb9)
          have HX39 := Lib.hid (HX38.out.older hb9)
          have HB9 := Lib.hid (HB8.out.trans (hb9.mono HB8.out.size))
          clear hw9 hb9 d7 d16
          have d0 := HX39.out.cell (i := k) (wvals_at (by rw [List.length_append, schedL_len, List.length_replicate]; omega))
          have f0 := HX39.out.frz k
          have hz9 := HX39.out.lt
          go_wp2_with fail
          go_roundg (gk - 1)
          case rel =>
            refine ⟨k + 1, by go_num, by omega, by omega, Lib.hid (by have := HQ.out; omega), HX29.out.touch (touch_set1 _ _ _ _) (by omega), ?_, HB9.out.setCell (p := ⟨w.heap.size + 1, k, none⟩) (by simp) _⟩
            have h9 := HX39.out.set k (.int .u32 ((sg1 x + x7 + sg0 y + x16) % 4294967296))
            rw [wvals_set, fill_set _ (schedL_len b k) (by omega), ← HS.out] at h9
            exact h9
          case measure => have := HQ.out; omega
        · have hk64 : k = 64 := by omega
          subst hk64
          have hx3' : Bx wr (w.heap.size + 1) 200 (wvals (schedL b 64)) := by have h9 := hx3; rw [show 64 - 64 = 0 from rfl, List.replicate_zero, List.append_nil] at h9; exact h9
          have HX3F := Lib.hid hx3'
          have hi : (Tryz.prog.info? 200).map (·.size) = some (wvals (schedL b 64)).size := by rw [wvals_size, schedL_len]; kernel_rfl
          have HI := Lib.hid hi
          have hsz : (wvals (List.replicate 64 0)).size = (wvals (schedL b 64)).size := by rw [wvals_size, wvals_size, schedL_len, List.length_replicate]
          have HSZ := Lib.hid hsz
          have hb9 := HB.out
          have HBF := Lib.hid (show Below w.heap.size w (wr.setRow w.heap.size (wvals (schedL b 64))) from below_setRow hb9 (Nat.le_refl _) _)
          have HXF := Lib.hid (setRow_heap wr w.heap.size _ (wvals (schedL b 64)) _ _ HX2.out)
          clear hx2 hx3 hbel hx3' hi hsz hb9
          go_wp2_with (first
            | (refine wpList_load_row rfl 200 _ rfl (w.heap.size + 1) rfl 200 _ (0, 0) _ HX3F.out Tryz.underlying200 rfl HI.out ?_)
            | (refine wpList_store_rowTo rfl 200 _ _ rfl rfl w.heap.size (wvals (schedL b 64)) rfl rfl 200 _ HX2.out HI.out HSZ.out (wvals_one _) ?_))
          exact bodyPost_ret (v := .agg (wvals (schedL b 64))) (results_cell_row Tryz.results144 _ _ w.heap.size 200 _ (0, 0) _ rfl HXF.out Tryz.underlying200 rfl HI.out) rfl ⟨rfl, HBF.out⟩
end Dg
end Go.Proofs.YtpmhkkjecapbeaaGreatDoor
end

