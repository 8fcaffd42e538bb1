/- Contracts and plain facts that the statement's proof leans on (texts joined). No condition beyond those that each names. -/
import Derived.Shelf.Strings.Builder1
import Derived.Shelf.Strings.Builder2
import Derived.Shelf.Strings.OnBuilder
import Derived.Shelf.Small.Strs
import Derived.Shelf.Strconv.Atoi
import Derived.Shelf.Strconv.Itoa0
import Derived.Shelf.Strconv.Itoa1
import Derived.Shelf.LaysM
import Derived.Shelf.Strconv.Itoa2
import Derived.Shelf.Strconv.Itoa3
import Derived.Shelf.Strconv.AtoiErrFast
import Derived.Shelf.Strconv.ParseIntEmpty
import Derived.Shelf.Strconv.AtoiFail
import Derived.Shelf.Strconv.Clone
import Derived.Shelf.Strconv.SyntaxError
import Derived.Shelf.LaysC
import Derived.Shelf.Strconv.ToError
import Derived.Shelf.Strconv.Lower
import Derived.Shelf.Strconv.ParseUint10
import Derived.Shelf.Strconv.ParseUint10Empty
import Derived.Shelf.Strconv.ParseUint10Any
import Derived.Shelf.Strconv.ParseInt10
import Derived.Shelf.Strconv.AtoiLong
import Derived.Shelf.Strconv.AtoiInnerAll
import Derived.Shelf.Strconv.RangeError
import Derived.Shelf.Strconv.ToErrorRange
import Derived.Shelf.Strconv.AtoiAll
import Derived.Shelf.Strconv.ErrVarAll
import Derived.Shelf.Strings.Search1
import Derived.Shelf.Strings.Search2
import Derived.Shelf.Strings.Search3
import Derived.Shelf.Strings.Cut
import Derived.Shelf.Strings.Count
import Derived.Shelf.Strings.Shaped
import Derived.Shelf.Sort.Plain
import Derived.Shelf.Strings.Prefix
import Derived.Shelf.Strings.Split
import Derived.Shelf.Strings.SplitShaped
import Derived.Shelf.Unicode.Decode
import Derived.Shelf.Strings.RuneCount
import Derived.Shelf.Strings.Explode
import Derived.Shelf.Unicode.DecodeSlow
import Derived.Shelf.Slices.Turned
import Derived.Shelf.Slices.Equal
import Derived.Shelf.Slices.In.SortNone
import Derived.Shelf.Slices.Empties2
import Derived.Shelf.Bytes.SlEqualAll
import Derived.Shelf.Bytes.Small
import Derived.Test.YtjijijjkkhpjnaaGreatDoorProg
import Derived.Stop.LaidErr
import Derived.Deep.Slices
import Derived.Deep.Fields
import Derived.ChangeSame
import Derived.Lib.SmallJoins
import Derived.Below
import Derived.SliceStrings
import Derived.BigQuiet
import Derived.Deep.QuietTactic
import Derived.Deep.LoopGhost
import Derived.Test.YtjijijjkkhpjnaaGreatDoorQgA
import Derived.Test.YtjijijjkkhpjnaaGreatDoorQgB
import Derived.Test.YtjijijjkkhpjnaaGreatDoorQgD
import Derived.Test.YtjijijjkkhpjnaaGreatDoorQgE
import Derived.Test.YtjijijjkkhpjnaaGreatDoorQgF
section
namespace Go.Proofs
open Go.Shelf
def Tryz.laysC172_ren : Go.Shelf.Ren := ⟨fun | 172 => 51 | 244 => 76 | 245 => 77 | 247 => 106 | 279 => 107 | 280 => 108 | 281 => 109 | 282 => 110 | 287 => 132 | 316 => 133 | 171 => 49 | 205 => 134 | 321 => 151 | 322 => 152 | 243 => 74 | 246 => 104 | 283 => 125 | 284 => 126 | 285 => 127 | 286 => 128 | 129 => 99 | 317 => 146 | 318 => 147 | 319 => 148 | 320 => 149 | 337 => 158 | 338 => 159 | n => n, fun | 9 => 9 | 3 => 3 | 75 => 28 | 76 => 37 | 4 => 4 | 5 => 5 | 167 => 180 | 37 => 84 | 0 => 0 | 85 => 181 | 2 => 2 | 168 => 183 | 53 => 173 | 175 => 202 | 46 => 140 | 210 => 206 | 127 => 225 | 145 => 228 | 143 => 226 | 21 => 21 | 171 => 198 | 173 => 200 | 212 => 220 | 51 => 171 | 20 => 20 | 213 => 221 | 232 => 236 | 233 => 237 | 80 => 218 | n => n, fun | 15 => 2 | 16 => 3 | 17 => 4 | 18 => 5 | 19 => 6 | n => n⟩
theorem Tryz.laysC172 : Go.Proofs.LaysC.n172 Tryz.prog Tryz.laysC172_ren := {
  mixed := by kernel_rfl
  f129 := Tryz.func99.trans (congrArg some (by kernel_rfl))
  f171 := Tryz.func49.trans (congrArg some (by kernel_rfl))
  f172 := Tryz.func51.trans (congrArg some (by kernel_rfl))
  f205 := Tryz.func134.trans (congrArg some (by kernel_rfl))
  f243 := Tryz.func74.trans (congrArg some (by kernel_rfl))
  f244 := Tryz.func76.trans (congrArg some (by kernel_rfl))
  f245 := Tryz.func77.trans (congrArg some (by kernel_rfl))
  f246 := Tryz.func104.trans (congrArg some (by kernel_rfl))
  f247 := Tryz.func106.trans (congrArg some (by kernel_rfl))
  f279 := Tryz.func107.trans (congrArg some (by kernel_rfl))
  f280 := Tryz.func108.trans (congrArg some (by kernel_rfl))
  f281 := Tryz.func109.trans (congrArg some (by kernel_rfl))
  f282 := Tryz.func110.trans (congrArg some (by kernel_rfl))
  f283 := Tryz.func125.trans (congrArg some (by kernel_rfl))
  f284 := Tryz.func126.trans (congrArg some (by kernel_rfl))
  f285 := Tryz.func127.trans (congrArg some (by kernel_rfl))
  f286 := Tryz.func128.trans (congrArg some (by kernel_rfl))
  f287 := Tryz.func132.trans (congrArg some (by kernel_rfl))
  f316 := Tryz.func133.trans (congrArg some (by kernel_rfl))
  f317 := Tryz.func146.trans (congrArg some (by kernel_rfl))
  f318 := Tryz.func147.trans (congrArg some (by kernel_rfl))
  f319 := Tryz.func148.trans (congrArg some (by kernel_rfl))
  f320 := Tryz.func149.trans (congrArg some (by kernel_rfl))
  f321 := Tryz.func151.trans (congrArg some (by kernel_rfl))
  f322 := Tryz.func152.trans (congrArg some (by kernel_rfl))
  f337 := Tryz.func158.trans (congrArg some (by kernel_rfl))
  f338 := Tryz.func159.trans (congrArg some (by kernel_rfl))
  t0 := Tryz.underlying0
  a0 := Tryz.isAgg0
  z0 := Tryz.sizeOf0
  v0 := Tryz.zeroValue0
  t2 := Tryz.underlying2
  a2 := Tryz.isAgg2
  z2 := Tryz.sizeOf2
  v2 := Tryz.zeroValue2
  t3 := Tryz.underlying3
  a3 := Tryz.isAgg3
  z3 := Tryz.sizeOf3
  v3 := Tryz.zeroValue3
  t4 := Tryz.underlying4
  a4 := Tryz.isAgg4
  z4 := Tryz.sizeOf4
  v4 := Tryz.zeroValue4
  t5 := Tryz.underlying5
  a5 := Tryz.isAgg5
  z5 := Tryz.sizeOf5
  v5 := Tryz.zeroValue5
  t9 := Tryz.underlying9
  a9 := Tryz.isAgg9
  z9 := Tryz.sizeOf9
  v9 := Tryz.zeroValue9
  t20 := Tryz.underlying20
  a20 := Tryz.isAgg20
  z20 := Tryz.sizeOf20
  v20 := Tryz.zeroValue20
  t21 := Tryz.underlying21
  a21 := Tryz.isAgg21
  z21 := Tryz.sizeOf21
  v21 := Tryz.zeroValue21
  t37 := Tryz.underlying84
  a37 := Tryz.isAgg84
  z37 := Tryz.sizeOf84
  v37 := Tryz.zeroValue84
  t46 := Tryz.underlying140
  a46 := Tryz.isAgg140
  z46 := Tryz.sizeOf140
  v46 := Tryz.zeroValue140
  t51 := Tryz.underlying171
  a51 := Tryz.isAgg171
  z51 := Tryz.sizeOf171
  v51 := Tryz.zeroValue171
  t53 := Tryz.underlying173
  a53 := Tryz.isAgg173
  z53 := Tryz.sizeOf173
  v53 := Tryz.zeroValue173
  t75 := Tryz.underlying28
  a75 := Tryz.isAgg28
  z75 := Tryz.sizeOf28
  v75 := Tryz.zeroValue28
  t76 := Tryz.underlying37
  a76 := Tryz.isAgg37
  z76 := Tryz.sizeOf37
  v76 := Tryz.zeroValue37
  t85 := Tryz.underlying181
  a85 := Tryz.isAgg181
  z85 := Tryz.sizeOf181
  v85 := Tryz.zeroValue181
  t127 := Tryz.underlying225
  a127 := Tryz.isAgg225
  z127 := Tryz.sizeOf225
  v127 := Tryz.zeroValue225
  t143 := Tryz.underlying226
  a143 := Tryz.isAgg226
  z143 := Tryz.sizeOf226
  v143 := Tryz.zeroValue226
  t145 := Tryz.underlying228
  a145 := Tryz.isAgg228
  z145 := Tryz.sizeOf228
  v145 := Tryz.zeroValue228
  t167 := Tryz.underlying180
  a167 := Tryz.isAgg180
  z167 := Tryz.sizeOf180
  v167 := Tryz.zeroValue180
  t168 := Tryz.underlying183
  a168 := Tryz.isAgg183
  z168 := Tryz.sizeOf183
  v168 := Tryz.zeroValue183
  t171 := Tryz.underlying198
  a171 := Tryz.isAgg198
  z171 := Tryz.sizeOf198
  v171 := Tryz.zeroValue198
  t173 := Tryz.underlying200
  a173 := Tryz.isAgg200
  z173 := Tryz.sizeOf200
  v173 := Tryz.zeroValue200
  t175 := Tryz.underlying202
  a175 := Tryz.isAgg202
  z175 := Tryz.sizeOf202
  v175 := Tryz.zeroValue202
  t210 := Tryz.underlying206
  a210 := Tryz.isAgg206
  z210 := Tryz.sizeOf206
  v210 := Tryz.zeroValue206
  t212 := Tryz.underlying220
  a212 := Tryz.isAgg220
  z212 := Tryz.sizeOf220
  v212 := Tryz.zeroValue220
  t213 := Tryz.underlying221
  a213 := Tryz.isAgg221
  z213 := Tryz.sizeOf221
  t232 := Tryz.underlying236
  a232 := Tryz.isAgg236
  z232 := Tryz.sizeOf236
  v232 := Tryz.zeroValue236
  t233 := Tryz.underlying237
  a233 := Tryz.isAgg237
  z233 := Tryz.sizeOf237
  v233 := Tryz.zeroValue237
  g15 := by kernel_rfl
  g16 := by kernel_rfl
  g17 := by kernel_rfl
  g18 := by kernel_rfl
  g19 := by kernel_rfl
  t80 := Tryz.underlying218
  a80 := Tryz.isAgg218
  z80 := Tryz.sizeOf218
  v80 := Tryz.zeroValue218
  i0 := by kernel_rfl
  i2 := by kernel_rfl
  i3 := by kernel_rfl
  i4 := by kernel_rfl
  i5 := by kernel_rfl
  i9 := by kernel_rfl
  i20 := by kernel_rfl
  i21 := by kernel_rfl
  i37 := by kernel_rfl
  i46 := by kernel_rfl
  i51 := by kernel_rfl
  i53 := by kernel_rfl
  i75 := by kernel_rfl
  i76 := by kernel_rfl
  i80 := by kernel_rfl
  i85 := by kernel_rfl
  i127 := by kernel_rfl
  i143 := by kernel_rfl
  i145 := by kernel_rfl
  i167 := by kernel_rfl
  i168 := by kernel_rfl
  i171 := by kernel_rfl
  i173 := by kernel_rfl
  i175 := by kernel_rfl
  i210 := by kernel_rfl
  i212 := by kernel_rfl
  i232 := by kernel_rfl
  i233 := by kernel_rfl
  m15 := by kernel_rfl
  m16 := by kernel_rfl
  m17 := by kernel_rfl
  m18 := by kernel_rfl
  m19 := by kernel_rfl
  c0 := by kernel_rfl
  c2 := by kernel_rfl
  c3 := by kernel_rfl
  c4 := by kernel_rfl
  c5 := by kernel_rfl
  c9 := by kernel_rfl
  c20 := by kernel_rfl
  c21 := by kernel_rfl
  c37 := by kernel_rfl
  c46 := by kernel_rfl
  c51 := by kernel_rfl
  c53 := by kernel_rfl
  c75 := by kernel_rfl
  c76 := by kernel_rfl
  c80 := by kernel_rfl
  c85 := by kernel_rfl
  c127 := by kernel_rfl
  c143 := by kernel_rfl
  c145 := by kernel_rfl
  c167 := by kernel_rfl
  c168 := by kernel_rfl
  c171 := by kernel_rfl
  c173 := by kernel_rfl
  c175 := by kernel_rfl
  c210 := by kernel_rfl
  c212 := by kernel_rfl
  c213 := by kernel_rfl
  c232 := by kernel_rfl
  c233 := by kernel_rfl }
open Go.RowKit in
theorem Tryz.strconv_Atoi_ok (s : ByteArray) (hmax : s.size ≤ 9223372036854775806) (v : Int) (h : Lib.atoiAll s.data.toList = .ok v) (w : World) :
    Calls Tryz.prog 51 #[.string s] w fun e w' => e = .returned (.tuple #[.int .i64 v, .nilIface]) ∧ (w' = w ∨ ∃ t, w' = Lib.bytesWorld w 5 t) := Any.strconv_Atoi_ok Tryz.laysC172 s hmax v h w
open Go.RowKit in
theorem Tryz.strconv_Atoi_range_var (s : ByteArray) (hlim : s.size ≤ 281474976710656) (h : Lib.atoiAll s.data.toList = .range) (tp : TypeId) (p : Value) (w : World) (hvar : w.var? Tryz.prog "strconv.ErrRange" = some #[.iface tp p]) :
    Calls Tryz.prog 51 #[.string s] w fun e w' => ∃ N, e = .returned (.tuple #[.int .i64 (Lib.atoiSat s.data.toList), .iface 183 (.pointer (some ⟨N, 0, none⟩))]) ∧ w.heap.size ≤ N ∧ w'.heap[N]? = some (.cells #[.string ⟨#[65, 116, 111, 105]⟩, .string s, .iface tp p] 206 (0, 0)) ∧ Below w.heap.size w w' := Any.strconv_Atoi_range_var Tryz.laysC172 s hlim h tp p w hvar
def Tryz.lays109_ren : Go.Shelf.Ren := ⟨fun | 109 => 52 | n => n, fun | 31 => 42 | 9 => 9 | 3 => 3 | 0 => 0 | 4 => 4 | n => n, fun | n => n⟩
theorem Tryz.lays109 : Go.Proofs.Lays.n109 Tryz.prog Tryz.lays109_ren := {
  mixed := by kernel_rfl
  f109 := Tryz.func52.trans (congrArg some (by kernel_rfl))
  t0 := Tryz.underlying0
  a0 := Tryz.isAgg0
  z0 := Tryz.sizeOf0
  v0 := Tryz.zeroValue0
  t3 := Tryz.underlying3
  a3 := Tryz.isAgg3
  z3 := Tryz.sizeOf3
  v3 := Tryz.zeroValue3
  t4 := Tryz.underlying4
  a4 := Tryz.isAgg4
  z4 := Tryz.sizeOf4
  v4 := Tryz.zeroValue4
  t9 := Tryz.underlying9
  a9 := Tryz.isAgg9
  z9 := Tryz.sizeOf9
  v9 := Tryz.zeroValue9
  t31 := Tryz.underlying42
  a31 := Tryz.isAgg42
  z31 := Tryz.sizeOf42
  v31 := Tryz.zeroValue42 }
open Go.Lib in
theorem Tryz.slices_Index_string (b off n c : Nat) (zs : List ByteArray) (x : ByteArray) (w : World) (hz : n ≤ zs.length) (hbig : n ≤ 9223372036854775807) (hc : ∀ j, j < zs.length → w.cell? ⟨b, off + j, none⟩ = some (.string (zs.getD j ByteArray.empty))) :
    Calls Tryz.prog 52 #[.slice (some ⟨b, off, none⟩) n c, .string x] w fun e w' => e = .returned (.int .i64 (Lib.idxOfS (zs.take n) x)) ∧ w' = w := Any.slices_Index_string Tryz.lays109 b off n c zs x w hz hbig hc
def Tryz.lays115_ren : Go.Shelf.Ren := ⟨fun | 115 => 111 | n => n, fun | 37 => 84 | 4 => 4 | 9 => 9 | 5 => 5 | n => n, fun | n => n⟩
theorem Tryz.lays115 : Go.Proofs.Lays.n115 Tryz.prog Tryz.lays115_ren := {
  mixed := by kernel_rfl
  f115 := Tryz.func111.trans (congrArg some (by kernel_rfl))
  t4 := Tryz.underlying4
  a4 := Tryz.isAgg4
  z4 := Tryz.sizeOf4
  v4 := Tryz.zeroValue4
  t9 := Tryz.underlying9
  a9 := Tryz.isAgg9
  z9 := Tryz.sizeOf9
  v9 := Tryz.zeroValue9
  t37 := Tryz.underlying84
  a37 := Tryz.isAgg84
  z37 := Tryz.sizeOf84
  v37 := Tryz.zeroValue84 }
theorem Tryz.bytes_Equal (v1 v2 : Value) (xs ys : List Int) (w : World) (h1 : (convert 84 9 v1).run Tryz.prog w = .ok (.string (strOfNums xs)) w) (h2 : (convert 84 9 v2).run Tryz.prog w = .ok (.string (strOfNums ys)) w) :
    Calls Tryz.prog 111 #[v1, v2] w fun e w' => e = .returned (.bool (Lib.bytesOf xs == Lib.bytesOf ys)) ∧ w' = w := Any.bytes_Equal Tryz.lays115 v1 v2 xs ys w h1 h2
end Go.Proofs
end

section
namespace Go.Proofs.YtjijijjkkhpjnaaGreatDoor
open Go.RowKit Pl Ad Go.Shelf
attribute [local go_sem] ba_get ba_append ba_extract_end ba_extract_zero ba_extract
set_option maxRecDepth 100000
set_option maxHeartbeats 4000000
set_option linter.unusedVariables false
namespace A1

theorem var_below {P : Program} {w w' : World} {n : String} {cs : Array Value} (h : w.var? P n = some cs) (hb : Below w.heap.size w w') : w'.var? P n = some cs := by
  unfold World.var? at h ⊢
  cases hg : P.globalNamed n with
  | none => simp [hg] at h
  | some g =>
    simp only [hg, Option.bind_some] at h ⊢
    have hlt : g < w.heap.size := by
      rcases Nat.lt_or_ge g w.heap.size with h' | h'
      · exact h'
      · simp [Array.getElem?_eq_none h'] at h
    rw [hb.block g hlt]
    exact h
/-- The variables that Parse reads. -/
structure ParseAt (w : World) : Prop where
  words : WordsAt w
  c0 : w.cell? ⟨0, 0, none⟩ = some (.string ⟨([] : Bs).toArray⟩)
  stx : ∃ tp p, w.var? Tryz.prog "strconv.ErrSyntax" = some #[.iface tp p]
  rng : ∃ tp p, w.var? Tryz.prog "strconv.ErrRange" = some #[.iface tp p]
theorem ParseAt.below {w w' : World} (h : ParseAt w) (hb : Below w.heap.size w w') : ParseAt w' :=
  ⟨h.words.below hb, (hb.cell (p := ⟨0, 0, none⟩) h.words.lt).trans h.c0, by obtain ⟨tp, p, h1⟩ := h.stx; exact ⟨tp, p, var_below h1 hb⟩, by obtain ⟨tp, p, h1⟩ := h.rng; exact ⟨tp, p, var_below h1 hb⟩⟩

/-- An error of Atoi. -/
def AtoiNo (e : Ending) : Prop := ∃ n p, e = .returned (.tuple #[.int .i64 n, .iface 183 p])
theorem atoi_yes (s : Bs) (n : Int) (w : World) (h : Lib.atoiAll s = .ok n) (hl : s.length ≤ 134217728) :
    Calls Tryz.prog 51 #[.string ⟨s.toArray⟩] w fun e w' => e = .returned (.tuple #[.int .i64 n, .nilIface]) ∧ Below w.heap.size w w' :=
  (Tryz.strconv_Atoi_ok ⟨s.toArray⟩ (by rw [size_str]; omega) n h w).mono fun e w' hx => by
    obtain ⟨rfl, rfl | ⟨t, rfl⟩⟩ := hx
    · exact ⟨rfl, Below.refl _ _⟩
    · exact ⟨rfl, Lib.bytesWorld_below _ _ _⟩
theorem atoi_no (s : Bs) (w : World) (h : ∀ n, Lib.atoiAll s ≠ .ok n) (hp : ParseAt w) (hl : s.length ≤ 134217728) :
    Calls Tryz.prog 51 #[.string ⟨s.toArray⟩] w fun e w' => AtoiNo e ∧ Below w.heap.size w w' := by
  cases ha : Lib.atoiAll s
  · exact absurd ha (h _)
  · obtain ⟨tp, p, hv⟩ := hp.stx
    exact (Any.strconv_Atoi_syntax_var Tryz.laysC172 ⟨s.toArray⟩ (by rw [size_str]; omega) ha tp p w hv).mono fun e w' hx => by
      obtain ⟨N, rfl, _, _, hb⟩ := hx
      exact ⟨⟨_, _, rfl⟩, hb⟩
  · obtain ⟨tp, p, hv⟩ := hp.rng
    exact (Tryz.strconv_Atoi_range_var ⟨s.toArray⟩ (by rw [size_str]; omega) ha tp p w hv).mono fun e w' hx => by
      obtain ⟨N, rfl, _, _, hb⟩ := hx
      exact ⟨⟨_, _, rfl⟩, hb⟩
theorem index_any (x : Bs) (w : World) (h : ParseAt w) :
    Calls Tryz.prog 52 #[.slice (some ⟨0, 0, none⟩) 4 4, .string ⟨x.toArray⟩] w fun e w' => e = .returned (.int .i64 (kindOf x)) ∧ w = w' :=
  (Tryz.slices_Index_string 0 0 4 4 wordsL ⟨x.toArray⟩ w (by decide) (by decide) (fun j hj => by
    have hj4 : j < 4 := hj
    have c : j = 0 ∨ j = 1 ∨ j = 2 ∨ j = 3 := by omega
    rcases c with rfl | rfl | rfl | rfl
    · exact h.c0
    · exact h.words.c1
    · exact h.words.c2
    · exact h.words.c3)).mono fun e w' hx => ⟨by rw [hx.1]; rfl, hx.2.symm⟩

/-- What Parse answers. -/
def parV (r : Option Pg) : Value := match r with
  | some p => .tuple #[pgV p, .nilIface]
  | none => .tuple #[.agg #[.int .i64 0, .int .i64 0, .string ⟨#[]⟩], .iface 108 (.int .i64 2)]
theorem ret_par {r r' : Option Pg} (h : r = r') : Ending.returned (parV r) = Ending.returned (parV r') := by rw [h]

theorem parse_noatoi (s : Bs) (w : World) (hr : Ready w) (hp : ParseAt w) (hl : s.length ≤ 134217728) (h : ∀ n, Lib.atoiAll (cutAt 32 (restOf s)).1 ≠ .ok n) :
    Calls Tryz.prog 26 #[.string ⟨s.toArray⟩] w fun e w' => e = .returned (parV (parseO s)) ∧ Below w.heap.size w w' := by
  have HPO := Lib.hid (parseO_no1 h)
  have HNO := Lib.hid h
  have HX := Lib.hid (box3_new w 40 (.int .i64 0) (.int .i64 0) (.string ⟨#[]⟩))
  have HB := Lib.hid ((Below.refl w.heap.size w).alloc (Nat.le_refl _) (.cells #[.int .i64 0, .int .i64 0, .string ⟨#[]⟩] 40))
  have hr1 := restOf_len s
  have hr2 := cutAt_len 32 (restOf s)
  have HR := Lib.hid (hr.below HB.out)
  have HP := Lib.hid (hp.below HB.out)
  clear h hp
  go_enter Tryz.func26, Tryz.ntmps26
  go_wp2_with fail
  refine (cut_any s 32 _ (by omega) HR.out).mono ?_
  rintro e w1 ⟨rfl, hb1⟩
  rw [show (cutAt 32 s).2.1 = restOf s from rfl]
  have HR1 := Lib.hid (HR.out.below hb1)
  have HP1 := Lib.hid (HP.out.below hb1)
  have HX1 := Lib.hid (HX.out.older hb1)
  have HB1 := Lib.hid (HB.out.trans (hb1.mono (by simp)))
  clear hb1
  go_wp2_with fail
  refine (cut_any (restOf s) 32 _ (by omega) HR1.out).mono ?_
  rintro e w2 ⟨rfl, hb2⟩
  have HP2 := Lib.hid (HP1.out.below hb2)
  have HX2 := Lib.hid (HX1.out.older hb2)
  have HB2 := Lib.hid (HB1.out.trans (hb2.mono HB1.out.size))
  clear hb2
  go_wp2_with fail
  refine (atoi_no _ _ HNO.out HP2.out (by omega)).mono ?_
  rintro e w3 ⟨⟨n, p, rfl⟩, hb3⟩
  have hX3 := HX2.out.older hb3
  have HB3 := Lib.hid (HB2.out.trans (hb3.mono HB2.out.size))
  obtain ⟨⟨c0, c1, c2⟩, ⟨f0, f1, f2⟩, hz⟩ := hX3.facts
  clear hb3 hX3
  go_wp2_with fail
  refine bodyPost_ret (v := parV none) (by simp [results, Tryz.results26, go_sem, parV, c0, c1, c2]) rfl ⟨ret_par HPO.out.symm, below_set3 HB3.out (Nat.le_refl _) _ _ _⟩

theorem parse_bad (s : Bs) (n : Int) (w : World) (hr : Ready w) (hp : ParseAt w) (hl : s.length ≤ 134217728) (hn : Lib.atoiAll (cutAt 32 (restOf s)).1 = .ok n) (hc : ¬ checkN (tryP s n) = 0) :
    Calls Tryz.prog 26 #[.string ⟨s.toArray⟩] w fun e w' => e = .returned (parV (parseO s)) ∧ Below w.heap.size w w' := by
  have HPO := Lib.hid (parseO_no2 hn hc)
  have HN := Lib.hid hn
  have HC := Lib.hid hc
  have HTR := Lib.hid (show tryP s n = ⟨kindOf (cutAt 32 s).1, n, (cutAt 32 (restOf s)).2.1⟩ from rfl)
  have HX := Lib.hid (box3_new w 40 (.int .i64 0) (.int .i64 0) (.string ⟨#[]⟩))
  have HB := Lib.hid ((Below.refl w.heap.size w).alloc (Nat.le_refl _) (.cells #[.int .i64 0, .int .i64 0, .string ⟨#[]⟩] 40))
  have hr1 := restOf_len s
  have hr2 := cutAt_len 32 (restOf s)
  have HR := Lib.hid (hr.below HB.out)
  have HP := Lib.hid (hp.below HB.out)
  clear hn hp hc
  go_enter Tryz.func26, Tryz.ntmps26
  go_wp2_with fail
  refine (cut_any s 32 _ (by omega) HR.out).mono ?_
  rintro e w1 ⟨rfl, hb1⟩
  rw [show (cutAt 32 s).2.1 = restOf s from rfl]
  have HR1 := Lib.hid (HR.out.below hb1)
  have HP1 := Lib.hid (HP.out.below hb1)
  have HX1 := Lib.hid (HX.out.older hb1)
  have HB1 := Lib.hid (HB.out.trans (hb1.mono (by simp)))
  clear hb1
  go_wp2_with fail
  refine (cut_any (restOf s) 32 _ (by omega) HR1.out).mono ?_
  rintro e w2 ⟨rfl, hb2⟩
  have HR2 := Lib.hid (HR1.out.below hb2)
  have HP2 := Lib.hid (HP1.out.below hb2)
  have HX2 := Lib.hid (HX1.out.older hb2)
  have HB2 := Lib.hid (HB1.out.trans (hb2.mono HB1.out.size))
  clear hb2
  go_wp2_with fail
  refine (atoi_yes _ n _ HN.out (by omega)).mono ?_
  rintro e w3 ⟨rfl, hb3⟩
  have HR3 := Lib.hid (HR2.out.below hb3)
  have HP3 := Lib.hid (HP2.out.below hb3)
  have HX3 := Lib.hid (HX2.out.older hb3)
  have HB3 := Lib.hid (HB2.out.trans (hb3.mono HB2.out.size))
  clear hb3
  have hvl : ((cutAt 32 (restOf s)).2.1).length ≤ 134217728 := by omega
  generalize hw9 : (cutAt 32 s).1 = word at HTR
  generalize hv9 : (cutAt 32 (restOf s)).2.1 = val at HTR hvl
  have HW9 := Lib.hid hw9
  have HV9 := Lib.hid hv9
  clear hw9 hv9 hr1 hr2
  have HY := Lib.hid (box3_new w3 40 (.int .i64 (kindOf word)) (.int .i64 n) (.string ⟨val.toArray⟩))
  have hA : Below w3.heap.size w3 (w3.alloc (.cells #[.int .i64 (kindOf word), .int .i64 n, .string ⟨val.toArray⟩] 40)) := (Below.refl _ _).alloc (Nat.le_refl _) _
  have HR4 := Lib.hid (HR3.out.below hA)
  have HP4 := Lib.hid (HP3.out.below hA)
  have HX4 := Lib.hid (HX3.out.older hA)
  have HB4 := Lib.hid (HB3.out.trans (hA.mono HB3.out.size))
  clear hA
  go_wp2_with (go_at_call 52; with_reducible refine (index_any word _ HP3.out).mono ?_; rintro e w9 ⟨rfl, rfl⟩)
  refine (format_err ⟨kindOf word, n, val⟩ _ HR4.out hvl (by rw [← HTR.out]; exact HC.out)).mono ?_
  rintro e w5 ⟨rfl, hb5⟩
  have hX5 := HX4.out.older hb5
  have HB5 := Lib.hid (HB4.out.trans (hb5.mono HB4.out.size))
  obtain ⟨⟨c0, c1, c2⟩, ⟨f0, f1, f2⟩, hz⟩ := hX5.facts
  clear hb5 hX5
  go_wp2_with fail
  exact bodyPost_ret (v := parV none) (by simp [results, Tryz.results26, go_sem, parV, c0, c1, c2]) rfl ⟨ret_par HPO.out.symm, below_set3 HB5.out (Nat.le_refl _) _ _ _⟩

theorem parse_other (s : Bs) (n : Int) (w : World) (hr : Ready w) (hp : ParseAt w) (hl : s.length ≤ 134217728) (hn : Lib.atoiAll (cutAt 32 (restOf s)).1 = .ok n) (hc : checkN (tryP s n) = 0) (hf : ¬ fmtT (tryP s n) = s) :
    Calls Tryz.prog 26 #[.string ⟨s.toArray⟩] w fun e w' => e = .returned (parV (parseO s)) ∧ Below w.heap.size w w' := by
  have HPO := Lib.hid (parseO_no3 hn hf)
  have HN := Lib.hid hn
  have HC := Lib.hid hc
  have HF := Lib.hid hf
  have HTR := Lib.hid (show tryP s n = ⟨kindOf (cutAt 32 s).1, n, (cutAt 32 (restOf s)).2.1⟩ from rfl)
  have HX := Lib.hid (box3_new w 40 (.int .i64 0) (.int .i64 0) (.string ⟨#[]⟩))
  have HB := Lib.hid ((Below.refl w.heap.size w).alloc (Nat.le_refl _) (.cells #[.int .i64 0, .int .i64 0, .string ⟨#[]⟩] 40))
  have hr1 := restOf_len s
  have hr2 := cutAt_len 32 (restOf s)
  have HR := Lib.hid (hr.below HB.out)
  have HP := Lib.hid (hp.below HB.out)
  clear hn hp hc hf
  go_enter Tryz.func26, Tryz.ntmps26
  go_wp2_with fail
  refine (cut_any s 32 _ (by omega) HR.out).mono ?_
  rintro e w1 ⟨rfl, hb1⟩
  rw [show (cutAt 32 s).2.1 = restOf s from rfl]
  have HR1 := Lib.hid (HR.out.below hb1)
  have HP1 := Lib.hid (HP.out.below hb1)
  have HX1 := Lib.hid (HX.out.older hb1)
  have HB1 := Lib.hid (HB.out.trans (hb1.mono (by simp)))
  clear hb1
  go_wp2_with fail
  refine (cut_any (restOf s) 32 _ (by omega) HR1.out).mono ?_
  rintro e w2 ⟨rfl, hb2⟩
  have HR2 := Lib.hid (HR1.out.below hb2)
  have HP2 := Lib.hid (HP1.out.below hb2)
  have HX2 := Lib.hid (HX1.out.older hb2)
  have HB2 := Lib.hid (HB1.out.trans (hb2.mono HB1.out.size))
  clear hb2
  go_wp2_with fail
  refine (atoi_yes _ n _ HN.out (by omega)).mono ?_
  rintro e w3 ⟨rfl, hb3⟩
  have HR3 := Lib.hid (HR2.out.below hb3)
  have HP3 := Lib.hid (HP2.out.below hb3)
  have HX3 := Lib.hid (HX2.out.older hb3)
  have HB3 := Lib.hid (HB2.out.trans (hb3.mono HB2.out.size))
  clear hb3
  have hvl : ((cutAt 32 (restOf s)).2.1).length ≤ 134217728 := by omega
  generalize hw9 : (cutAt 32 s).1 = word at HTR
  generalize hv9 : (cutAt 32 (restOf s)).2.1 = val at HTR hvl
  have HW9 := Lib.hid hw9
  have HV9 := Lib.hid hv9
  clear hw9 hv9 hr1 hr2
  have HY := Lib.hid (box3_new w3 40 (.int .i64 (kindOf word)) (.int .i64 n) (.string ⟨val.toArray⟩))
  have hA : Below w3.heap.size w3 (w3.alloc (.cells #[.int .i64 (kindOf word), .int .i64 n, .string ⟨val.toArray⟩] 40)) := (Below.refl _ _).alloc (Nat.le_refl _) _
  have HR4 := Lib.hid (HR3.out.below hA)
  have HP4 := Lib.hid (HP3.out.below hA)
  have HX4 := Lib.hid (HX3.out.older hA)
  have HB4 := Lib.hid (HB3.out.trans (hA.mono HB3.out.size))
  clear hA
  go_wp2_with (go_at_call 52; with_reducible refine (index_any word _ HP3.out).mono ?_; rintro e w9 ⟨rfl, rfl⟩)
  refine (format_ok ⟨kindOf word, n, val⟩ _ HR4.out HP4.out.words hvl (by rw [← HTR.out]; exact HC.out)).mono ?_
  rintro e w5 ⟨rfl, hb5⟩
  rw [← HTR.out]
  have hX5 := HX4.out.older hb5
  have hY5 := HY.out.older hb5
  have HB5 := Lib.hid (HB4.out.trans (hb5.mono HB4.out.size))
  obtain ⟨⟨c0, c1, c2⟩, ⟨f0, f1, f2⟩, hz⟩ := hX5.facts
  obtain ⟨⟨d0, d1, d2⟩, _, hz2⟩ := hY5.facts
  clear hb5 hX5 hY5
  generalize hg : fmtT (tryP s n) = txt at HF
  have HG := Lib.hid hg
  clear hg
  obtain hF := HF.out
  have hq : (!(txt == s)) = true := by rw [beq_eq_false_iff_ne.2 hF]; rfl
  clear hF
  go_wp2_with fail
  exact bodyPost_ret (v := parV none) (by simp [results, Tryz.results26, go_sem, parV, c0, c1, c2]) rfl ⟨ret_par HPO.out.symm, below_set3 HB5.out (Nat.le_refl _) _ _ _⟩

theorem parse_same (s : Bs) (n : Int) (w : World) (hr : Ready w) (hp : ParseAt w) (hl : s.length ≤ 134217728) (hn : Lib.atoiAll (cutAt 32 (restOf s)).1 = .ok n) (hc : checkN (tryP s n) = 0) (hf : fmtT (tryP s n) = s) :
    Calls Tryz.prog 26 #[.string ⟨s.toArray⟩] w fun e w' => e = .returned (parV (parseO s)) ∧ Below w.heap.size w w' := by
  have HPO := Lib.hid (parseO_yes hn hc hf)
  have HN := Lib.hid hn
  have HC := Lib.hid hc
  have HF := Lib.hid hf
  have HTR := Lib.hid (show tryP s n = ⟨kindOf (cutAt 32 s).1, n, (cutAt 32 (restOf s)).2.1⟩ from rfl)
  have HX := Lib.hid (box3_new w 40 (.int .i64 0) (.int .i64 0) (.string ⟨#[]⟩))
  have HB := Lib.hid ((Below.refl w.heap.size w).alloc (Nat.le_refl _) (.cells #[.int .i64 0, .int .i64 0, .string ⟨#[]⟩] 40))
  have hr1 := restOf_len s
  have hr2 := cutAt_len 32 (restOf s)
  have HR := Lib.hid (hr.below HB.out)
  have HP := Lib.hid (hp.below HB.out)
  clear hn hp hc hf
  go_enter Tryz.func26, Tryz.ntmps26
  go_wp2_with fail
  refine (cut_any s 32 _ (by omega) HR.out).mono ?_
  rintro e w1 ⟨rfl, hb1⟩
  rw [show (cutAt 32 s).2.1 = restOf s from rfl]
  have HR1 := Lib.hid (HR.out.below hb1)
  have HP1 := Lib.hid (HP.out.below hb1)
  have HX1 := Lib.hid (HX.out.older hb1)
  have HB1 := Lib.hid (HB.out.trans (hb1.mono (by simp)))
  clear hb1
  go_wp2_with fail
  refine (cut_any (restOf s) 32 _ (by omega) HR1.out).mono ?_
  rintro e w2 ⟨rfl, hb2⟩
  have HR2 := Lib.hid (HR1.out.below hb2)
  have HP2 := Lib.hid (HP1.out.below hb2)
  have HX2 := Lib.hid (HX1.out.older hb2)
  have HB2 := Lib.hid (HB1.out.trans (hb2.mono HB1.out.size))
  clear hb2
  go_wp2_with fail
  refine (atoi_yes _ n _ HN.out (by omega)).mono ?_
  rintro e w3 ⟨rfl, hb3⟩
  have HR3 := Lib.hid (HR2.out.below hb3)
  have HP3 := Lib.hid (HP2.out.below hb3)
  have HX3 := Lib.hid (HX2.out.older hb3)
  have HB3 := Lib.hid (HB2.out.trans (hb3.mono HB2.out.size))
  clear hb3
  have hvl : ((cutAt 32 (restOf s)).2.1).length ≤ 134217728 := by omega
  generalize hw9 : (cutAt 32 s).1 = word at HTR
  generalize hv9 : (cutAt 32 (restOf s)).2.1 = val at HTR hvl
  have HW9 := Lib.hid hw9
  have HV9 := Lib.hid hv9
  clear hw9 hv9 hr1 hr2
  have HY := Lib.hid (box3_new w3 40 (.int .i64 (kindOf word)) (.int .i64 n) (.string ⟨val.toArray⟩))
  have hA : Below w3.heap.size w3 (w3.alloc (.cells #[.int .i64 (kindOf word), .int .i64 n, .string ⟨val.toArray⟩] 40)) := (Below.refl _ _).alloc (Nat.le_refl _) _
  have HR4 := Lib.hid (HR3.out.below hA)
  have HP4 := Lib.hid (HP3.out.below hA)
  have HX4 := Lib.hid (HX3.out.older hA)
  have HB4 := Lib.hid (HB3.out.trans (hA.mono HB3.out.size))
  clear hA
  go_wp2_with (go_at_call 52; with_reducible refine (index_any word _ HP3.out).mono ?_; rintro e w9 ⟨rfl, rfl⟩)
  refine (format_ok ⟨kindOf word, n, val⟩ _ HR4.out HP4.out.words hvl (by rw [← HTR.out]; exact HC.out)).mono ?_
  rintro e w5 ⟨rfl, hb5⟩
  rw [← HTR.out]
  have hX5 := HX4.out.older hb5
  have hY5 := HY.out.older hb5
  have HB5 := Lib.hid (HB4.out.trans (hb5.mono HB4.out.size))
  obtain ⟨⟨c0, c1, c2⟩, ⟨f0, f1, f2⟩, hz⟩ := hX5.facts
  obtain ⟨⟨d0, d1, d2⟩, _, hz2⟩ := hY5.facts
  clear hb5 hX5 hY5
  generalize hg : fmtT (tryP s n) = txt at HF
  have HG := Lib.hid hg
  clear hg
  obtain hF := HF.out
  have hq : (!(txt == s)) = false := by rw [beq_iff_eq.2 hF]; rfl
  clear hF
  go_wp2_with fail
  exact bodyPost_ret (v := parV (some ⟨kindOf word, n, val⟩)) (by simp [results, Tryz.results26, go_sem, parV, c0, c1, c2]) rfl ⟨ret_par (by rw [HPO.out, HTR.out]), below_set3 HB5.out (Nat.le_refl _) _ _ _⟩

theorem pparse_any (s : Bs) (w : World) (hr : Ready w) (hp : ParseAt w) (hl : s.length ≤ 134217728) :
    Calls Tryz.prog 26 #[.string ⟨s.toArray⟩] w fun e w' => e = .returned (parV (parseO s)) ∧ Below w.heap.size w w' := by
  by_cases h : ∃ n, Lib.atoiAll (cutAt 32 (restOf s)).1 = .ok n
  · obtain ⟨n, hn⟩ := h
    by_cases hc : checkN (tryP s n) = 0
    · by_cases hf : fmtT (tryP s n) = s
      · exact parse_same s n w hr hp hl hn hc hf
      · exact parse_other s n w hr hp hl hn hc hf
    · exact parse_bad s n w hr hp hl hn hc
  · exact parse_noatoi s w hr hp hl (fun n hn => h ⟨n, hn⟩)
end A1
end Go.Proofs.YtjijijjkkhpjnaaGreatDoor
end

section
namespace Go.Proofs.YtjijijjkkhpjnaaGreatDoor.Fr
open Go.ChangeShapes Go.WideShapes Go.ChangeAt Go.RowKit

/-- A sentinel: a block more with its text, the variable's cell pointing there. -/
noncomputable def layTwo (h : Array Obj) (x : String × DataW Unit) : Array Obj :=
  match x.2, Tryz.prog.globalNamed x.1 with
  | .iface _ (.ptr d), some g => (h.modify g (holds #[.iface 226 (.pointer (some ⟨h.size, 0, none⟩))])).push (.cells (cellsD d).toArray 228 (0, 0))
  | _, _ => layOne h x
noncomputable def laidE (laid : List (String × DataW Unit)) (os : Os) : World :=
  { World.holding Tryz.prog os ⟨#[], #[], []⟩ with heap := laid.foldl layTwo (World.holding Tryz.prog os ⟨#[], #[], []⟩).heap }

theorem sentinel_laid {w : World} {name nm : String} {d : DataW Unit} {g : Nat} (hg : Tryz.prog.globalNamed name = some g) (ht : (Tryz.prog.globals[g]?).map (·.type) = some 28)
    (h : ∃ g t cs fuel p, Tryz.prog.globalNamed name = some g ∧ (Tryz.prog.globals[g]?).map (·.type) = some t ∧ w.var? Tryz.prog name = some cs ∧ DataW.trod (fun _ => ()) Tryz.prog w 0 (fun _ => true) false fuel t cs.toList = some (.iface nm d, p)) :
    ∃ tp p, w.var? Tryz.prog name = some #[.iface tp p] := by
  obtain ⟨g', t', cs, fuel, p, hg', ht', hv, hd⟩ := h
  obtain rfl := Option.some.inj (hg.symm.trans hg')
  obtain rfl := Option.some.inj (ht.symm.trans ht')
  obtain ⟨_, u, v, hcs, _⟩ := iface_of_trod Tryz.underlying28 hd
  obtain ⟨l⟩ := cs
  simp only at hcs
  subst hcs
  exact ⟨u, v, hv⟩

theorem parse_laid {w : World} {laid : List (String × DataW Unit)} (h : laidMetH Tryz.prog laid w) (hp : (laid.all fun x => x.2.handleName?.isNone) = true) (hm : ("quayside/purge.words", Rows.laid_quayside_purge_words) ∈ laid)
    (hs : ("strconv.ErrSyntax", Rows.laid_strconv_ErrSyntax) ∈ laid) (hr : ("strconv.ErrRange", Rows.laid_strconv_ErrRange) ∈ laid) : A1.ParseAt w := by
  have hw := words_laid h hp hm
  rw [Go.MakeChecks.laidMetH_plain Tryz.prog laid w hp] at h
  obtain ⟨ps, hv, _⟩ := h
  have hc := strings_laid (name := "quayside/purge.words") (g := 0) (ls := [[], [101, 120, 97, 99, 116], [112, 114, 101, 102, 105, 120], [116, 97, 103]]) (by kernel_rfl) (by kernel_rfl) Tryz.underlying123 (laid_reads hv _ _ hm)
  exact ⟨hw, hc 0 _ rfl, sentinel_laid (name := "strconv.ErrSyntax") (g := 2) (by kernel_rfl) (by kernel_rfl) (laid_reads hv _ _ hs), sentinel_laid (name := "strconv.ErrRange") (g := 3) (by kernel_rfl) (by kernel_rfl) (laid_reads hv _ _ hr)⟩
end Go.Proofs.YtjijijjkkhpjnaaGreatDoor.Fr
end

section
namespace Go.Proofs.YtjijijjkkhpjnaaGreatDoor
set_option maxRecDepth 100000
theorem Op.andT {a b : Bool} (ha : a = true) (hb : b = true) : (a && b) = true := by rw [ha, hb]; rfl
namespace Fr
theorem sf_laidOut : laidOutB Tryz.prog = true := by kernel_rfl
theorem sf_mapsRowed : mapsRowed Tryz.prog = true := by kernel_rfl
theorem sf_stops : (Tryz.prog.stops == []) = true := by kernel_rfl
theorem sf_stopKnobs : (Tryz.prog.stopKnobs == []) = true := by kernel_rfl
theorem sf_plainKeys : (Rows.wholeCoverRow.plainKeys == Tryz.prog.plainKeys) = true := by kernel_rfl
theorem sf_heard : Tryz.prog.stopsHeard = true := by kernel_rfl
theorem sf_mayEnter : Tryz.prog.mayEnter = true := by kernel_rfl
theorem sf_lifted : (Rows.wholeCoverRow.lifted == Tryz.prog.liftsFinal) = true := by kernel_rfl
theorem sf_make : (Tryz.prog.make == some Rows.wholeCoverRow.make) = true := by kernel_rfl
end Fr
end Go.Proofs.YtjijijjkkhpjnaaGreatDoor
end

section
namespace Go.Proofs.YtjijijjkkhpjnaaGreatDoor
open Pl Ad
namespace Hy
/-- A representation that the origin has had; its body's value. -/
structure PubM where
  at_ : Int
  lim : Int
  addr : Bs
  tag : Bs
  bodyV : Value
  body : Bs
structure PrgM where
  text : Bs
  ord : Int
  stl : Int
structure PartM where
  at_ : Int
  off : Int
  dV : Value
  data : Bs
structure SrvM where
  edge : Bs
  addr : Bs
  tag : Bs
  ten : Int
  ask : Int
  at_ : Int
  frm : Int
  til : Int
  tagsV : Value
  tags : List Bs
  partsV : Value
  parts : List PartM
  ended : Bool
structure FetM where
  node : Bs
  key : Bs
  tag : Bs
  at_ : Int
  piece : Int
  failed : Bool
structure DroM where
  node : Bs
  key : Bs
  at_ : Int
structure HisM where
  pubs : List PubM
  prgs : List PrgM
  srvs : List SrvM
  fets : List FetM
  dros : List DroM
  bound : Int
  fin : Int
/-- A violation: the rule, the element, the text. -/
structure VioM where
  rule : Int
  idx : Int
  text : Bs
deriving DecidableEq
def pubR (p : PubM) : List Value := [.int .i64 p.at_, .int .i64 p.lim, .string ⟨p.addr.toArray⟩, .string ⟨p.tag.toArray⟩, p.bodyV]
def prgR (g : PrgM) : List Value := [.string ⟨g.text.toArray⟩, .int .i64 g.ord, .int .i64 g.stl]
def partR (x : PartM) : List Value := [.int .i64 x.at_, .int .i64 x.off, x.dV]
def srvR (s : SrvM) : List Value := [.string ⟨s.edge.toArray⟩, .string ⟨s.addr.toArray⟩, .string ⟨s.tag.toArray⟩, .int .i64 s.ten, .int .i64 s.ask, .int .i64 s.at_, .int .i64 s.frm, .int .i64 s.til, s.tagsV, s.partsV, .bool s.ended]
def fetR (f : FetM) : List Value := [.string ⟨f.node.toArray⟩, .string ⟨f.key.toArray⟩, .string ⟨f.tag.toArray⟩, .int .i64 f.at_, .int .i64 f.piece, .bool f.failed]
def droR (d : DroM) : List Value := [.string ⟨d.node.toArray⟩, .string ⟨d.key.toArray⟩, .int .i64 d.at_]
def vioR (v : VioM) : List Value := [.int .i64 v.rule, .int .i64 v.idx, .string ⟨v.text.toArray⟩]
def vvals : List VioM → List Value
  | [] => []
  | v :: r => vioR v ++ vvals r
theorem vvals_len : ∀ l : List VioM, (vvals l).length = l.length * 3
  | [] => rfl
  | v :: r => by simp [vvals, vioR, vvals_len r]; omega
theorem vvals_append : ∀ a b : List VioM, vvals (a ++ b) = vvals a ++ vvals b
  | [], b => rfl
  | v :: r, b => by simp [vvals, vvals_append r b]
theorem vvals_one (v : VioM) : vvals [v] = vioR v := by simp [vvals]
structure SpanM where
  frm : Int
  til : Int
  ends : Bool
/-- The first element from number k on with an address. -/
def fstI (ps : List PubM) (a : Bs) (k : Nat) : Option Nat := ((ps.drop k).findIdx? fun q => q.addr == a).map (· + k)
theorem fstI_end {ps : List PubM} {a : Bs} {k : Nat} (h : ps.length ≤ k) : fstI ps a k = none := by
  unfold fstI
  rw [List.drop_eq_nil_of_le h]; rfl
theorem fstI_hit {ps : List PubM} {a : Bs} {k : Nat} {p : PubM} (h : ps[k]? = some p) (ha : p.addr = a) : fstI ps a k = some k := by
  obtain ⟨hk, rfl⟩ := List.getElem?_eq_some_iff.1 h
  unfold fstI
  rw [List.drop_eq_getElem_cons hk, List.findIdx?_cons]
  simp [ha]
theorem fstI_miss {ps : List PubM} {a : Bs} {k : Nat} {p : PubM} (h : ps[k]? = some p) (ha : ¬ p.addr = a) : fstI ps a k = fstI ps a (k + 1) := by
  obtain ⟨hk, rfl⟩ := List.getElem?_eq_some_iff.1 h
  unfold fstI
  rw [List.drop_eq_getElem_cons hk, List.findIdx?_cons]
  have : (ps[k].addr == a) = false := beq_eq_false_iff_ne.2 ha
  rw [this]
  simp only [Bool.false_eq_true, if_false, Option.map_map]
  congr 1
  funext x
  simp only [Function.comp]; omega
theorem fstI_lt {ps : List PubM} {a : Bs} {k j : Nat} (h : fstI ps a k = some j) : k ≤ j ∧ j < ps.length := by
  unfold fstI at h
  cases hx : (ps.drop k).findIdx? (fun q => q.addr == a) with
  | none => rw [hx] at h; cases h
  | some x =>
    rw [hx] at h
    simp only [Option.map_some, Option.some.injEq] at h
    obtain ⟨hl, _⟩ := List.findIdx?_eq_some_iff_getElem.1 hx
    rw [List.length_drop] at hl
    omega
/-- The time at which element i ceases to be current. -/
def endO (ps : List PubM) (i : Nat) : Option Int := match ps[i]? with
  | none => none
  | some p => match fstI ps p.addr (i + 1) with
    | none => none
    | some k => (ps[k]?).map PubM.at_
theorem endO_none {ps : List PubM} {i : Nat} {p : PubM} (h : ps[i]? = some p) (h2 : fstI ps p.addr (i + 1) = none) : endO ps i = none := by
  unfold endO; rw [h]; simp only [h2]
theorem endO_some {ps : List PubM} {i k : Nat} {p q : PubM} (h : ps[i]? = some p) (h2 : fstI ps p.addr (i + 1) = some k) (h3 : ps[k]? = some q) : endO ps i = some q.at_ := by
  unfold endO; rw [h]; simp only [h2, h3, Option.map_some]
def spanI (ps : List PubM) (i : Nat) : SpanM := ⟨match ps[i]? with | some p => p.at_ | none => 0, (endO ps i).getD 0, (endO ps i).isSome⟩
theorem spanI_at {ps : List PubM} {i : Nat} {p : PubM} (h : ps[i]? = some p) : spanI ps i = ⟨p.at_, (endO ps i).getD 0, (endO ps i).isSome⟩ := by
  unfold spanI; rw [h]
def spanR (x : SpanM) : List Value := [.int .i64 x.frm, .int .i64 x.til, .bool x.ends]
/-- The last time up to u at which an element was current. -/
def lastM (x : SpanM) (u : Int) : Int × Bool :=
  if x.ends = true ∧ x.til ≤ u then (if x.til ≤ x.frm then (0, false) else (x.til - 1, decide (x.frm ≤ x.til - 1))) else (u, decide (x.frm ≤ u))
def afterM (x : SpanM) (f : Int) : Bool := if x.ends = true then decide (max x.frm f < x.til) else true
/-! ### the versions of a response -/
def isV (p : PubM) (a t : Bs) : Bool := p.addr == a && p.tag == t
/-- The versions with numbers from k on. -/
def versF (a t : Bs) : List PubM → Nat → List Nat
  | [], _ => []
  | p :: r, k => if isV p a t then k :: versF a t r (k + 1) else versF a t r (k + 1)
def versM (ps : List PubM) (a t : Bs) : List Nat := versF a t ps 0
theorem versF_drop {ps : List PubM} {a t : Bs} {k : Nat} {p : PubM} (h : ps[k]? = some p) : versF a t (ps.drop k) k = if isV p a t then k :: versF a t (ps.drop (k + 1)) (k + 1) else versF a t (ps.drop (k + 1)) (k + 1) := by
  obtain ⟨hk, rfl⟩ := List.getElem?_eq_some_iff.1 h
  rw [List.drop_eq_getElem_cons hk, versF]
theorem versF_mem {a t : Bs} : ∀ {ps : List PubM} {k i : Nat}, i ∈ versF a t ps k ↔ k ≤ i ∧ ∃ p, ps[i - k]? = some p ∧ isV p a t = true
  | [], k, i => by simp [versF]
  | q :: r, k, i => by
    have ih := versF_mem (a := a) (t := t) (ps := r) (k := k + 1) (i := i)
    unfold versF
    by_cases hq : isV q a t = true
    · rw [if_pos hq, List.mem_cons, ih]
      constructor
      · rintro (rfl | ⟨h1, p, h2, h3⟩)
        · exact ⟨Nat.le_refl _, q, by simp, hq⟩
        · exact ⟨by omega, p, by rw [show i - k = (i - (k + 1)) + 1 by omega]; simpa using h2, h3⟩
      · rintro ⟨h1, p, h2, h3⟩
        rcases Nat.eq_or_lt_of_le h1 with rfl | hlt
        · exact .inl rfl
        · refine .inr ⟨by omega, p, ?_, h3⟩
          rw [show i - k = (i - (k + 1)) + 1 by omega] at h2
          simpa using h2
    · rw [if_neg hq, ih]
      constructor
      · rintro ⟨h1, p, h2, h3⟩
        exact ⟨by omega, p, by rw [show i - k = (i - (k + 1)) + 1 by omega]; simpa using h2, h3⟩
      · rintro ⟨h1, p, h2, h3⟩
        rcases Nat.eq_or_lt_of_le h1 with rfl | hlt
        · simp at h2; subst h2; exact absurd h3 hq
        · refine ⟨by omega, p, ?_, h3⟩
          rw [show i - k = (i - (k + 1)) + 1 by omega] at h2
          simpa using h2
theorem versM_mem {ps : List PubM} {a t : Bs} {i : Nat} : i ∈ versM ps a t ↔ ∃ p, ps[i]? = some p ∧ isV p a t = true := by
  unfold versM
  rw [versF_mem]
  simp
/-! ### the rules -/
/-- Does the text of a purge match a response? -/
def hitB (g : PrgM) (s : SrvM) : Bool := match parseO g.text with
  | none => false
  | some p => matchB p ⟨s.ten, s.addr, s.tags⟩
def lateP (g : PrgM) (s : SrvM) : Bool := s.parts.any fun x => decide (g.stl < x.at_)
def fineB (h : HisM) (s : SrvM) (g : PrgM) : Bool := (versM h.pubs s.addr s.tag).any fun i => afterM (spanI h.pubs i) g.ord
def purgedB (h : HisM) (s : SrvM) : Bool := !(versM h.pubs s.addr s.tag).isEmpty && h.prgs.any fun g => decide (0 ≤ g.stl) && lateP g s && hitB g s && !fineB h s g
def lateB (h : HisM) (g : PrgM) : Bool := decide ((if g.stl < 0 then h.fin else g.stl) > g.ord + h.bound)
def inLimB (h : HisM) (s : SrvM) (i : Nat) : Bool := match h.pubs[i]? with
  | none => false
  | some p => (lastM (spanI h.pubs i) s.at_).2 && decide (s.ask - (lastM (spanI h.pubs i) s.at_).1 ≤ p.lim)
def oldB (h : HisM) (s : SrvM) : Bool := !(versM h.pubs s.addr s.tag).isEmpty && (versM h.pubs s.addr s.tag).all fun i => !inLimB h s i
/-- The parts' walk along a body: where it ends. -/
def runP (body : Bs) (til : Int) : Int → List PartM → Option Int
  | at_, [] => some at_
  | at_, x :: r => if x.off = at_ ∧ (x.data.length : Int) ≤ til - at_ ∧ x.data = (body.drop at_.toNat).take x.data.length then runP body til (at_ + x.data.length) r else none
def fitsB (body : Bs) (s : SrvM) : Bool := decide (0 ≤ s.frm) && decide (s.frm ≤ s.til) && decide (s.til ≤ (body.length : Int)) && (match runP body s.til s.frm s.parts with
  | none => false
  | some e => !s.ended || decide (e = s.til))
def fitI (h : HisM) (s : SrvM) (i : Nat) : Bool := match h.pubs[i]? with
  | none => false
  | some p => fitsB p.body s
def mixedB (h : HisM) (s : SrvM) : Bool := (versM h.pubs s.addr s.tag).all fun i => !fitI h s i
def sameF (f x : FetM) : Bool := !x.failed && x.node == f.node && x.key == f.key && x.tag == f.tag && decide (x.piece = f.piece)
def dropB (ds : List DroM) (f x : FetM) : Bool := ds.any fun d => d.node == f.node && d.key == f.key && decide (x.at_ ≤ d.at_) && decide (d.at_ ≤ f.at_)
/-- The last fetch before number k of the same piece: was it fetched again without a reason? -/
def agF (h : HisM) (f : FetM) : Nat → Bool
  | 0 => false
  | k + 1 => match h.fets[k]? with
    | none => false
    | some x => if sameF f x then !dropB h.dros f x else agF h f k
def againB (h : HisM) (i : Nat) : Bool := match h.fets[i]? with
  | none => false
  | some f => !f.failed && agF h f i
def tx1 : Bs := [115, 101, 114, 118, 101, 100, 32, 97, 102, 116, 101, 114, 32, 97, 32, 112, 117, 114, 103, 101]
def tx2 : Bs := [112, 117, 114, 103, 101, 32, 110, 111, 116, 32, 97, 110, 115, 119, 101, 114, 101, 100, 32, 105, 110, 32, 116, 105, 109, 101]
def tx3 : Bs := [115, 101, 114, 118, 101, 100, 32, 98, 101, 121, 111, 110, 100, 32, 105, 116, 115, 32, 108, 105, 109, 105, 116]
def tx4 : Bs := [110, 111, 116, 32, 116, 104, 101, 32, 98, 111, 100, 121, 32, 111, 102, 32, 116, 104, 101, 32, 118, 101, 114, 115, 105, 111, 110]
def tx5 : Bs := [102, 101, 116, 99, 104, 101, 100, 32, 97, 103, 97, 105, 110]
/-- The violations of a rule among the elements from number k on. -/
def vioF {α : Type} (r : Int) (tx : Bs) (bad : Nat → α → Bool) : List α → Nat → List VioM
  | [], _ => []
  | x :: l, k => if bad k x then ⟨r, k, tx⟩ :: vioF r tx bad l (k + 1) else vioF r tx bad l (k + 1)
theorem vioF_drop {α : Type} {r : Int} {tx : Bs} {bad : Nat → α → Bool} {l : List α} {k : Nat} {x : α} (h : l[k]? = some x) :
    vioF r tx bad (l.drop k) k = if bad k x then ⟨r, k, tx⟩ :: vioF r tx bad (l.drop (k + 1)) (k + 1) else vioF r tx bad (l.drop (k + 1)) (k + 1) := by
  obtain ⟨hk, rfl⟩ := List.getElem?_eq_some_iff.1 h
  rw [List.drop_eq_getElem_cons hk, vioF]
theorem vioF_end {α : Type} {r : Int} {tx : Bs} {bad : Nat → α → Bool} {l : List α} {k : Nat} (h : l.length ≤ k) : vioF r tx bad (l.drop k) k = [] := by
  rw [List.drop_eq_nil_of_le h]; rfl
theorem vioF_len {α : Type} {r : Int} {tx : Bs} {bad : Nat → α → Bool} : ∀ {l : List α} {k : Nat}, (vioF r tx bad l k).length ≤ l.length
  | [], _ => Nat.le_refl _
  | x :: l, k => by
    have := vioF_len (r := r) (tx := tx) (bad := bad) (l := l) (k := k + 1)
    unfold vioF
    split <;> simp <;> omega
def vio1 (h : HisM) : List VioM := vioF 1 tx1 (fun _ s => purgedB h s) h.srvs 0
def vio2 (h : HisM) : List VioM := vioF 2 tx2 (fun _ g => lateB h g) h.prgs 0
def vio3 (h : HisM) : List VioM := vioF 3 tx3 (fun _ s => oldB h s) h.srvs 0
def vio4 (h : HisM) : List VioM := vioF 4 tx4 (fun _ s => mixedB h s) h.srvs 0
def vio5 (h : HisM) : List VioM := vioF 5 tx5 (fun i _ => againB h i) h.fets 0
def ruleL (h : HisM) (r : Int) : List VioM := if r = 1 then vio1 h else if r = 2 then vio2 h else if r = 3 then vio3 h else if r = 4 then vio4 h else if r = 5 then vio5 h else []
def checkL (h : HisM) : List VioM := vio1 h ++ vio2 h ++ vio3 h ++ vio4 h ++ vio5 h
/-- The bounds within which the chapter's laws use histories. -/
def inB (n : Int) : Prop := -1152921504606846976 ≤ n ∧ n ≤ 1152921504606846976
structure HisM.Small (h : HisM) : Prop where
  pubs : ∀ p ∈ h.pubs, inB p.at_ ∧ inB p.lim
  prgs : ∀ g ∈ h.prgs, inB g.ord ∧ inB g.stl
  srvs : ∀ s ∈ h.srvs, inB s.at_ ∧ inB s.ask ∧ ∀ x ∈ s.parts, inB x.at_
  fets : ∀ f ∈ h.fets, inB f.at_
  dros : ∀ d ∈ h.dros, inB d.at_
  bound : inB h.bound
  fin : inB h.fin
  npub : h.pubs.length ≤ 1000
  nprg : h.prgs.length ≤ 1000
  nsrv : h.srvs.length ≤ 1000
  nfet : h.fets.length ≤ 1000
  ndro : h.dros.length ≤ 1000
def farN : Int := 2305843009213693952
def clipN (n : Int) : Int := max (-farN) (min n farN)
theorem clipN_in {n : Int} (h : inB n) : clipN n = n := by
  unfold clipN farN; unfold inB at h; omega
end Hy
end Go.Proofs.YtjijijjkkhpjnaaGreatDoor
end

section
section
namespace Go.Proofs.YtjijijjkkhpjnaaGreatDoor.Op
open Go.ChangeShapes Go.WideShapes Go.Deep

theorem list_of {α : Type} {R : Nat → α → Prop} : ∀ (n : Nat), (∀ i, i < n → ∃ x, R i x) → ∃ l : List α, l.length = n ∧ ∀ (i : Nat) (h : i < l.length), R i l[i]
  | 0, _ => ⟨[], rfl, fun i h => absurd h (Nat.not_lt_zero _)⟩
  | n + 1, h => by
    obtain ⟨l, hl, hR⟩ := list_of n fun i hi => h i (by omega)
    obtain ⟨x, hx⟩ := h n (by omega)
    refine ⟨l ++ [x], by simp [hl], fun i hi => ?_⟩
    by_cases hn : i < l.length
    · rw [List.getElem_append_left hn]; exact hR i hn
    · have e : i = n := by simp at hi; omega
      subst e
      rw [List.getElem_append_right (by omega)]
      simpa using hx

theorem cell_lt {w : World} {b o : Nat} {v : Value} (h : w.cell? ⟨b, o, none⟩ = some v) : b < w.heap.size := by
  unfold World.cell? at h
  split at h
  · rename_i h3; exact (Array.getElem?_eq_some_iff.1 h3).1
  · cases h

section
variable {H : Type} {enc : TypeId × Value → H} {P : Program} {w : World} {base : Nat} {spare : Nat → Bool} {held : Bool}
end

theorem add_off {b o k : Nat} : (⟨b, o, none⟩ : Addr).add k = ⟨b, o + k, none⟩ := by unfold Addr.add; split <;> simp_all
end Go.Proofs.YtjijijjkkhpjnaaGreatDoor.Op
end

section
namespace Go.Proofs.YtjijijjkkhpjnaaGreatDoor.Op
open Go.ChangeShapes Go.WideShapes Go.Deep Go.RowKit Pl A1
end Go.Proofs.YtjijijjkkhpjnaaGreatDoor.Op
end

section
namespace Go.Proofs.YtjijijjkkhpjnaaGreatDoor.Op
open Go.ChangeShapes Go.WideShapes Go.Deep Go.RowKit Pl A1
set_option maxRecDepth 100000
end Go.Proofs.YtjijijjkkhpjnaaGreatDoor.Op
end
end

section
namespace Go.Proofs.YtjijijjkkhpjnaaGreatDoor
open Go.RowKit Pl
namespace A1
/-- A value holds these rows: R tells an element's cells, k how many. -/
def RowsV {α : Type} (R : α → List Value) (k : Nat) (w : World) (v : Value) (xs : List α) : Prop :=
  (xs = [] ∧ (v = .slice none 0 0 ∨ ∃ a c, v = .slice (some a) 0 c)) ∨
  ∃ b o c : Nat, v = .slice (some ⟨b, o, none⟩) xs.length c ∧ xs.length ≤ c ∧ b < w.heap.size ∧ ∀ i x, xs[i]? = some x → ∀ j u, (R x)[j]? = some u → w.cell? ⟨b, o + (i * k + j), none⟩ = some u
section
variable {α : Type} {R : α → List Value} {k : Nat} {w w' : World} {v : Value} {xs : List α}
theorem RowsV.below (h : RowsV R k w v xs) (hb : Below w.heap.size w w') : RowsV R k w' v xs := by
  rcases h with h | ⟨b, o, c, h1, h2, h3, h4⟩
  · exact .inl h
  · exact .inr ⟨b, o, c, h1, h2, Nat.lt_of_lt_of_le h3 hb.size, fun i x hx j u hu => by rw [hb.cell (p := ⟨b, _, none⟩) h3]; exact h4 i x hx j u hu⟩
theorem RowsV.drew (h : RowsV R k w v xs) : RowsV R k w.drew v xs := h.below (Below.refl _ _).drew
theorem RowsV.drewN (h : RowsV R k w v xs) (q : Nat) : RowsV R k (w.drewN q) v xs := h.below (below_drewN (Below.refl _ _) q)
theorem RowsV.alloc (h : RowsV R k w v xs) (o : Obj) : RowsV R k (w.alloc o) v xs := h.below ((Below.refl _ _).alloc (Nat.le_refl _) o)
theorem RowsV.form (h : RowsV R k w v xs) : ∃ a c, v = .slice a xs.length c ∧ xs.length ≤ c := by
  rcases h with ⟨rfl, rfl | ⟨a, c, rfl⟩⟩ | ⟨b, o, c, rfl, h, _⟩
  · exact ⟨_, _, rfl, Nat.le_refl _⟩
  · exact ⟨_, _, rfl, Nat.zero_le _⟩
  · exact ⟨_, _, rfl, h⟩
theorem RowsV.nil : RowsV R k w (.slice none 0 0) [] := .inl ⟨rfl, .inl rfl⟩
theorem RowsV.touch {S : Nat → Prop} (h : RowsV R k w v xs) (ht : Touch S w w') (hn : ∀ q, v.ownBlock = some q → ¬ S q) : RowsV R k w' v xs := by
  rcases h with h | ⟨b, o, c, h1, h2, h3, h4⟩
  · exact .inl h
  · refine .inr ⟨b, o, c, h1, h2, Nat.lt_of_lt_of_le h3 ht.size, fun i x hx j u hu => ht.cell (h4 i x hx j u hu) (hn b ?_)⟩
    rw [h1]; rfl
end
end A1
namespace Op
open Go.ChangeShapes Go.WideShapes Go.Deep A1
set_option maxRecDepth 100000
end Op
end Go.Proofs.YtjijijjkkhpjnaaGreatDoor
end

section
namespace Go.Proofs.YtjijijjkkhpjnaaGreatDoor
open Go.RowKit Pl Ad
attribute [local go_sem] ba_get ba_append ba_extract conv_one
set_option maxRecDepth 100000
set_option maxHeartbeats 4000000
set_option linter.unusedVariables false
set_option linter.unusedSimpArgs false
namespace Hy
open A1
@[reducible] def spV (x : SpanM) : Value := .agg #[.int .i64 x.frm, .int .i64 x.til, .bool x.ends]
theorem hclip_any (n : Int) (w : World) : Calls Tryz.prog 57 #[.int .i64 n] w fun e w' => e = .returned (.int .i64 (clipN n)) ∧ w = w' := by
  go_enter Tryz.func57, Tryz.ntmps57
  go_wp2
  go_ret
  exact ⟨rfl, rfl⟩
theorem rclip_any (n : Int) (w : World) : Calls Tryz.prog 84 #[.int .i64 n] w fun e w' => e = .returned (.int .i64 (clipN n)) ∧ w = w' := by
  go_enter Tryz.func84, Tryz.ntmps84
  go_wp2
  go_ret
  exact ⟨rfl, rfl⟩
theorem after_any (x : SpanM) (f : Int) (w : World) : Calls Tryz.prog 79 #[spV x, .int .i64 f] w fun e w' => e = .returned (.bool (afterM x f)) ∧ Below w.heap.size w w' := by
  obtain ⟨fr, tl, en⟩ := x
  have HB := Lib.hid ((Below.refl w.heap.size w).alloc (Nat.le_refl _) (.cells #[.int .i64 fr, .int .i64 tl, .bool en] 154))
  cases en with
  | false =>
    go_enter Tryz.func79, Tryz.ntmps79
    go_wp2_with fail
    go_ret
    exact ⟨rfl, HB.out⟩
  | true =>
    go_enter Tryz.func79, Tryz.ntmps79
    go_wp2_with fail
    go_ret
    exact ⟨rfl, HB.out⟩
theorem last_any (x : SpanM) (u : Int) (w : World) (hx : -4611686018427387904 ≤ x.til) (hx2 : x.til ≤ 4611686018427387904) : Calls Tryz.prog 80 #[spV x, .int .i64 u] w fun e w' => e = .returned (.tuple #[.int .i64 (lastM x u).1, .bool (lastM x u).2]) ∧ Below w.heap.size w w' := by
  obtain ⟨fr, tl, en⟩ := x
  simp only at hx hx2
  have HB := Lib.hid ((Below.refl w.heap.size w).alloc (Nat.le_refl _) (.cells #[.int .i64 fr, .int .i64 tl, .bool en] 154))
  have i1 : IntKind.i64.wrap (tl - 1) = tl - 1 := IntWalk.i64_in _ (by omega)
  clear hx hx2
  cases en with
  | false =>
    have HL := Lib.hid (show lastM ⟨fr, tl, false⟩ u = (u, decide (fr ≤ u)) from if_neg (by simp))
    go_enter Tryz.func80, Tryz.ntmps80
    go_wp2_with fail
    go_quiet (fail)
    go_wp2_with fail
    refine bodyPost_ret (v := .tuple #[.int .i64 (u), .bool (decide (fr ≤ u))]) (by simp [results, Tryz.results80, go_sem]) rfl ⟨by rw [HL.out], below_drewN HB.out _⟩
  | true =>
    by_cases h1 : tl ≤ u
    · by_cases h2 : tl ≤ fr
      · have HL := Lib.hid (show lastM ⟨fr, tl, true⟩ u = (0, false) by unfold lastM; rw [if_pos ⟨rfl, h1⟩, if_pos h2])
        go_enter Tryz.func80, Tryz.ntmps80
        go_wp2_with fail
        refine bodyPost_ret (v := .tuple #[.int .i64 (0), .bool (false)]) (by simp [results, Tryz.results80, go_sem]) rfl ⟨by rw [HL.out], HB.out⟩
      · have HL := Lib.hid (show lastM ⟨fr, tl, true⟩ u = (tl - 1, decide (fr ≤ tl - 1)) by unfold lastM; rw [if_pos ⟨rfl, h1⟩, if_neg h2])
        go_enter Tryz.func80, Tryz.ntmps80
        go_wp2_with fail
        go_quiet (fail)
        go_wp2_with fail
        refine bodyPost_ret (v := .tuple #[.int .i64 (tl - 1), .bool (decide (fr ≤ tl - 1))]) (by simp [results, Tryz.results80, go_sem]) rfl ⟨by rw [HL.out], below_drewN HB.out _⟩
    · have hd1 : decide (tl ≤ u) = false := decide_eq_false h1
      have HL := Lib.hid (show lastM ⟨fr, tl, true⟩ u = (u, decide (fr ≤ u)) by unfold lastM; rw [if_neg (fun h => h1 h.2)])
      go_enter Tryz.func80, Tryz.ntmps80
      go_wp2_with fail
      go_quiet (fail)
      go_wp2_with fail
      refine bodyPost_ret (v := .tuple #[.int .i64 (u), .bool (decide (fr ≤ u))]) (by simp [results, Tryz.results80, go_sem]) rfl ⟨by rw [HL.out], below_drewN HB.out _⟩
end Hy
end Go.Proofs.YtjijijjkkhpjnaaGreatDoor
end

section
namespace Go.Proofs.YtjijijjkkhpjnaaGreatDoor
open Go.RowKit Pl
namespace Sg
open Go.ChangeShapes Go.WideShapes Go.Deep A1
set_option maxRecDepth 100000
def byteC (b : UInt8) : List Value := [.int .u8 (b.toNat : Int)]
theorem rows_src {w : World} {v : Value} {xs : Bs} (h : RowsV byteC 1 w v xs) : SrcAt w v xs.length (bvals xs) := by
  rcases h with ⟨rfl, rfl | ⟨a, c, rfl⟩⟩ | ⟨b, o, c, rfl, hc, _, hcell⟩
  · exact .inl ⟨rfl, rfl, rfl⟩
  · exact .inr ⟨a, c, rfl, fun j x hx => by simp [bvals] at hx⟩
  · refine .inr ⟨⟨b, o, none⟩, c, rfl, fun j x hx => ?_⟩
    simp only [bvals, List.getElem?_map, Option.map_eq_some_iff] at hx
    obtain ⟨y, hy, rfl⟩ := hx
    have h9 := hcell j y hy 0 _ rfl
    rw [Op.add_off]
    simpa using h9
theorem src_form {w : World} {v : Value} {m : Nat} {C : List Value} (h : SrcAt w v m C) : ∃ a c, v = .slice a m c := by
  rcases h with ⟨rfl, rfl, _⟩ | ⟨a, c, rfl, _⟩
  · exact ⟨_, _, rfl⟩
  · exact ⟨_, _, rfl⟩
theorem byte_trod {H : Type} {enc : TypeId × Value → H} {w : World} {base n : Nat} {spare : Nat → Bool} {held : Bool} {cs : List Value} {y : DataW H × List MemPlace} (_hl : cs.length = 1)
    (h : DataW.trod enc Tryz.prog w base spare held n 5 cs = some y) : ∃ b : UInt8, cs = byteC b := by
  obtain ⟨d, p⟩ := y
  obtain ⟨k, e, _, hw⟩ := DataW.trod_int Tryz.underlying5 h
  have e1 : IntKind.min .u8 = 0 := rfl
  have e2 : IntKind.max .u8 = 255 := rfl
  simp only [Lit.wf, Bool.and_eq_true, decide_eq_true_eq, e1, e2] at hw
  refine ⟨UInt8.ofNat k.toNat, ?_⟩
  rw [e]
  unfold byteC
  rw [UInt8.toNat_ofNat', Nat.mod_eq_of_lt (by omega), Int.toNat_of_nonneg (by omega)]
end Sg
end Go.Proofs.YtjijijjkkhpjnaaGreatDoor
end

