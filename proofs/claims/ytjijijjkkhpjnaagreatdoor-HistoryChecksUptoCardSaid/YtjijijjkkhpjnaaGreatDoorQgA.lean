/- Contracts and plain facts that the statement's proof leans on (texts joined). No condition beyond those that each names. -/
import Derived.Lib.Split
import Derived.Lib.Join
import Derived.Lib.Strings
import Derived.Lib.Bytealg
import Derived.Shelf.Strings.Builder1
import Derived.Shelf.Strings.Builder2
import Derived.Shelf.Strings.OnBuilder
import Derived.Shelf.Small.Strs
import Derived.Shelf.Strconv.Atoi
import Derived.Shelf.Strconv.Itoa0
import Derived.Shelf.Strconv.Itoa1
import Derived.Shelf.LaysM
import Derived.Shelf.Strconv.Itoa2
import Derived.Shelf.Strconv.Itoa3
import Derived.Shelf.Strconv.AtoiErrFast
import Derived.Shelf.Strconv.ParseIntEmpty
import Derived.Shelf.Strconv.AtoiFail
import Derived.Shelf.Strconv.Clone
import Derived.Shelf.Strconv.SyntaxError
import Derived.Shelf.LaysC
import Derived.Shelf.Strconv.ToError
import Derived.Shelf.Strconv.Lower
import Derived.Shelf.Strconv.ParseUint10
import Derived.Shelf.Strconv.ParseUint10Empty
import Derived.Shelf.Strconv.ParseUint10Any
import Derived.Shelf.Strconv.ParseInt10
import Derived.Shelf.Strconv.AtoiLong
import Derived.Shelf.Strconv.AtoiInnerAll
import Derived.Shelf.Strconv.RangeError
import Derived.Shelf.Strconv.ToErrorRange
import Derived.Shelf.Strconv.AtoiAll
import Derived.Shelf.Strconv.ErrVarAll
import Derived.Shelf.Strings.Search1
import Derived.Shelf.Strings.Search2
import Derived.Shelf.Strings.Search3
import Derived.Shelf.Strings.Cut
import Derived.Shelf.Strings.Count
import Derived.Shelf.Strings.Shaped
import Derived.Shelf.Strings.Prefix
import Derived.Shelf.Strings.Split
import Derived.Shelf.Strings.SplitShaped
import Derived.Shelf.Unicode.Decode
import Derived.Shelf.Strings.RuneCount
import Derived.Shelf.Strings.Explode
import Derived.Shelf.Unicode.DecodeSlow
import Derived.Test.YtjijijjkkhpjnaaGreatDoorProg
import Derived.Below
import Derived.WalkSmall
import Derived.WalkKit
import Derived.Test.YtjijijjkkhpjnaaGreatDoorCards
import Derived.Test.YtjijijjkkhpjnaaGreatDoorTie
import Derived.ProofKit
import Derived.OpenShut
import Derived.Deep.DeepHandedRow
import Derived.Lib.LaidTab
import Derived.Carry
import Derived.Lib.SmallJoins
import Derived.Deep.RegionLaw
import Derived.Lib.ItoaNum
section
namespace Go.Proofs.YtjijijjkkhpjnaaGreatDoor

abbrev Bs := List UInt8
/-- A string value out of a list of bytes. -/
@[reducible] def str (l : Bs) : Value := .string ⟨l.toArray⟩

namespace Pl

theorem drop_cons {α : Type} {l : List α} {k : Nat} (h : k < l.length) : l.drop k = l[k] :: l.drop (k + 1) := by simp

theorem take_snoc {α : Type} {l : List α} {k : Nat} (h : k < l.length) : l.take (k + 1) = l.take k ++ [l[k]] := by simp

/-- The loop that splits at a byte: acc is what has been read since the last separator. -/
def splitAcc (c : UInt8) : Bs → Bs → List Bs
  | acc, [] => [acc]
  | acc, b :: t => if b = c then acc :: splitAcc c [] t else splitAcc c (acc ++ [b]) t

def splitOn (c : UInt8) (l : Bs) : List Bs := splitAcc c [] l

theorem splitAcc_miss (c : UInt8) : ∀ (acc l : Bs), c ∉ l → splitAcc c acc l = [acc ++ l]
  | acc, [], _ => by simp [splitAcc]
  | acc, b :: t, h => by
    simp only [List.mem_cons, not_or] at h
    rw [splitAcc, if_neg (fun e => h.1 e.symm), splitAcc_miss c _ t h.2]; simp

theorem splitAcc_hit (c : UInt8) : ∀ (acc p q : Bs), c ∉ p → splitAcc c acc (p ++ c :: q) = (acc ++ p) :: splitAcc c [] q
  | acc, [], q, _ => by simp [splitAcc]
  | acc, b :: t, q, h => by
    simp only [List.mem_cons, not_or] at h
    rw [List.cons_append, splitAcc, if_neg (fun e => h.1 e.symm), splitAcc_hit c _ t q h.2]; simp

theorem splitAcc_ne_nil (c : UInt8) : ∀ (acc l : Bs), splitAcc c acc l ≠ []
  | acc, [] => by simp [splitAcc]
  | acc, b :: t => by
    rw [splitAcc]; split
    · simp
    · exact splitAcc_ne_nil c _ t

theorem splitOn_ne_nil (c : UInt8) (l : Bs) : splitOn c l ≠ [] := splitAcc_ne_nil c [] l

theorem splitAcc_acc (c : UInt8) : ∀ (acc l : Bs), ∃ h r, splitAcc c [] l = h :: r ∧ splitAcc c acc l = (acc ++ h) :: r
  | acc, [] => ⟨[], [], rfl, by simp [splitAcc]⟩
  | acc, b :: t => by
    by_cases e : b = c
    · exact ⟨[], splitAcc c [] t, by simp [splitAcc, e], by simp [splitAcc, e]⟩
    · obtain ⟨h, r, h1, h2⟩ := splitAcc_acc c (acc ++ [b]) t
      obtain ⟨h', r', h1', h2'⟩ := splitAcc_acc c [b] t
      rw [h1] at h1'
      obtain ⟨rfl, rfl⟩ := List.cons.inj h1'
      exact ⟨[b] ++ h, r, by rw [splitAcc, if_neg e]; simpa using h2', by rw [splitAcc, if_neg e, h2]; simp⟩

theorem splitOn_cons_eq (c : UInt8) (t : Bs) : splitOn c (c :: t) = [] :: splitOn c t := by simp [splitOn, splitAcc]
theorem splitOn_cons_ne (c b : UInt8) (t : Bs) (h : b ≠ c) : ∃ x r, splitOn c t = x :: r ∧ splitOn c (b :: t) = (b :: x) :: r := by
  obtain ⟨x, r, h1, h2⟩ := splitAcc_acc c [b] t
  exact ⟨x, r, h1, by rw [splitOn, splitAcc, if_neg h]; simpa using h2⟩

/-- The place of a byte, as a split of the list. -/
theorem index_one (c : UInt8) : ∀ l : Bs, (Lib.index l [c] = -1 ∧ c ∉ l) ∨ ∃ p q, l = p ++ c :: q ∧ c ∉ p ∧ Lib.index l [c] = (p.length : Nat)
  | [] => .inl ⟨rfl, by simp⟩
  | b :: t => by
    by_cases e : b = c
    · subst e
      exact .inr ⟨[], t, rfl, by simp, by simp [Lib.index]⟩
    · have h0 : ([c] : Bs).isPrefixOf (b :: t) = false := by simp [List.isPrefixOf]; exact fun h => e h.symm
      rcases index_one c t with ⟨h1, h2⟩ | ⟨p, q, rfl, h2, h3⟩
      · exact .inl ⟨by unfold Lib.index; rw [h0, h1]; rfl, by simp only [List.mem_cons, not_or]; exact ⟨fun h => e h.symm, h2⟩⟩
      · refine .inr ⟨b :: p, q, rfl, by simp only [List.mem_cons, not_or]; exact ⟨fun h => e h.symm, h2⟩, ?_⟩
        unfold Lib.index
        rw [h0, h3]
        have : ¬ ((p.length : Int) == -1) = true := by simp
        simp only [Bool.false_eq_true, if_false, if_neg this, List.length_cons]
        omega

theorem indexByte_one (c : UInt8) : ∀ l : Bs, (Lib.indexByte l c = -1 ∧ c ∉ l) ∨ ∃ p q, l = p ++ c :: q ∧ c ∉ p ∧ Lib.indexByte l c = (p.length : Nat)
  | [] => .inl ⟨rfl, by simp⟩
  | b :: t => by
    by_cases e : b = c
    · subst e
      exact .inr ⟨[], t, rfl, by simp, by simp [Lib.indexByte]⟩
    · have h0 : (b == c) = false := by simpa using e
      rcases indexByte_one c t with ⟨h1, h2⟩ | ⟨p, q, rfl, h2, h3⟩
      · exact .inl ⟨by unfold Lib.indexByte; rw [h0, h1]; rfl, by simp only [List.mem_cons, not_or]; exact ⟨fun h => e h.symm, h2⟩⟩
      · refine .inr ⟨b :: p, q, rfl, by simp only [List.mem_cons, not_or]; exact ⟨fun h => e h.symm, h2⟩, ?_⟩
        unfold Lib.indexByte
        rw [h0, h3]
        have : ¬ ((p.length : Int) == -1) = true := by simp
        simp only [Bool.false_eq_true, if_false, if_neg this, List.length_cons]
        omega

theorem mem_iff_indexByte (c : UInt8) (l : Bs) : Lib.indexByte l c < 0 ↔ c ∉ l := by
  rcases indexByte_one c l with ⟨h1, h2⟩ | ⟨p, q, rfl, _, h3⟩
  · exact ⟨fun _ => h2, fun _ => by omega⟩
  · exact ⟨fun h => by omega, fun h => absurd (by simp) h⟩

/-- strings.Split at one byte, in the words of the loop. -/
theorem splitK_eq (c : UInt8) : ∀ (n : Nat) (l : Bs), l.length ≤ n → Lib.splitK [c] 0 (Lib.count l [c]) l = splitOn c l ∧ Lib.count l [c] + 1 = (splitOn c l).length
  | n, l, hn => by
    rcases index_one c l with ⟨h1, h2⟩ | ⟨p, q, rfl, h2, h3⟩
    · rw [Lib.count_miss h1, splitOn, splitAcc_miss c [] l h2]
      exact ⟨rfl, rfl⟩
    · have hd : (p ++ c :: q).drop (p.length + ([c] : Bs).length) = q := by
        simp [List.drop_append]
      have hc := Lib.count_hit (i := p.length) (sub := [c]) (s := p ++ c :: q) (by simp) h3
      rw [hd] at hc
      rw [hc, Nat.add_comm 1]
      have hl : (p ++ c :: q).length = p.length + q.length + 1 := by simp; omega
      match n, hn with
      | 0, hn => omega
      | n + 1, hn =>
        obtain ⟨i1, i2⟩ := splitK_eq c n q (by omega)
        rw [Lib.splitK, h3]
        have hne : ¬ ((p.length : Int) == -1) = true := by simp
        rw [if_neg hne]
        have e1 : ((p.length : Nat) : Int).toNat = p.length := by omega
        have e2 : splitOn c (p ++ c :: q) = p :: splitOn c q := by rw [splitOn, splitAcc_hit c [] p q h2]; rfl
        rw [e1, hd, i1, e2]
        refine ⟨by simp, ?_⟩
        simp only [List.length_cons]
        omega

theorem split_str (c : UInt8) (l : Bs) : (Lib.splitB ⟨#[c]⟩ 0 (Lib.countB ⟨l.toArray⟩ ⟨#[c]⟩) ⟨l.toArray⟩).map Value.string = (splitOn c l).map str ∧ Lib.countB ⟨l.toArray⟩ ⟨#[c]⟩ + 1 = (splitOn c l).length := by
  obtain ⟨h1, h2⟩ := splitK_eq c l.length l (Nat.le_refl _)
  refine ⟨?_, h2⟩
  rw [← h1]
  have h3 := Lib.splitB_data ⟨#[c]⟩ 0 (Lib.countB ⟨l.toArray⟩ ⟨#[c]⟩) ⟨l.toArray⟩
  show _ = List.map str (Lib.splitK (⟨#[c]⟩ : ByteArray).data.toList 0 (Lib.countB ⟨l.toArray⟩ ⟨#[c]⟩) (⟨l.toArray⟩ : ByteArray).data.toList)
  rw [← h3, List.map_map]
  rfl

/-- strings.Cut at one byte. -/
def cutAt (c : UInt8) : Bs → Bs × Bs × Bool
  | [] => ([], [], false)
  | b :: t => if b = c then ([], t, true) else (b :: (cutAt c t).1, (cutAt c t).2.1, (cutAt c t).2.2)

theorem cutAt_miss (c : UInt8) : ∀ l : Bs, c ∉ l → cutAt c l = (l, [], false)
  | [], _ => rfl
  | b :: t, h => by
    simp only [List.mem_cons, not_or] at h
    rw [cutAt, if_neg (fun e => h.1 e.symm), cutAt_miss c t h.2]
theorem cutAt_hit (c : UInt8) (q : Bs) : ∀ p : Bs, c ∉ p → cutAt c (p ++ c :: q) = (p, q, true)
  | [], _ => by simp [cutAt]
  | b :: t, h => by
    simp only [List.mem_cons, not_or] at h
    rw [List.cons_append, cutAt, if_neg (fun e => h.1 e.symm), cutAt_hit c q t h.2]

theorem cut_eq (c : UInt8) (l : Bs) : Lib.cut l [c] = cutAt c l := by
  rcases index_one c l with ⟨h1, h2⟩ | ⟨p, q, rfl, h2, h3⟩
  · rw [cutAt_miss c l h2, Lib.cut, h1]; rfl
  · rw [cutAt_hit c q p h2, Lib.cut, h3]
    simp [List.drop_append]

/-- Each byte of a list is below 256, in the walk's words. -/
theorem byte_lt (b : UInt8) : (b.toNat : Int) < 256 := by have := b.toNat_lt; omega

end Pl
end Go.Proofs.YtjijijjkkhpjnaaGreatDoor
end

section
namespace Go.Proofs
open Go.Shelf
def Tryz.lays156_ren : Go.Shelf.Ren := ⟨fun | 156 => 122 | 165 => 141 | 166 => 142 | 169 => 143 | 240 => 156 | 241 => 157 | 276 => 163 | 277 => 164 | n => n, fun | 31 => 42 | 9 => 9 | 3 => 3 | 4 => 4 | 0 => 0 | 20 => 20 | 72 => 216 | 76 => 37 | 70 => 214 | 37 => 84 | 75 => 28 | 127 => 225 | 164 => 233 | 5 => 5 | 80 => 218 | n => n, fun | n => n⟩
theorem Tryz.lays156 : Go.Proofs.Lays.n156 Tryz.prog Tryz.lays156_ren := {
  mixed := by kernel_rfl
  f156 := Tryz.func122.trans (congrArg some (by kernel_rfl))
  f165 := Tryz.func141.trans (congrArg some (by kernel_rfl))
  f166 := Tryz.func142.trans (congrArg some (by kernel_rfl))
  f169 := Tryz.func143.trans (congrArg some (by kernel_rfl))
  f240 := Tryz.func156.trans (congrArg some (by kernel_rfl))
  f241 := Tryz.func157.trans (congrArg some (by kernel_rfl))
  f276 := Tryz.func163.trans (congrArg some (by kernel_rfl))
  f277 := Tryz.func164.trans (congrArg some (by kernel_rfl))
  t0 := Tryz.underlying0
  a0 := Tryz.isAgg0
  z0 := Tryz.sizeOf0
  v0 := Tryz.zeroValue0
  t3 := Tryz.underlying3
  a3 := Tryz.isAgg3
  z3 := Tryz.sizeOf3
  v3 := Tryz.zeroValue3
  t4 := Tryz.underlying4
  a4 := Tryz.isAgg4
  z4 := Tryz.sizeOf4
  v4 := Tryz.zeroValue4
  t9 := Tryz.underlying9
  a9 := Tryz.isAgg9
  z9 := Tryz.sizeOf9
  v9 := Tryz.zeroValue9
  t20 := Tryz.underlying20
  a20 := Tryz.isAgg20
  z20 := Tryz.sizeOf20
  v20 := Tryz.zeroValue20
  t31 := Tryz.underlying42
  a31 := Tryz.isAgg42
  z31 := Tryz.sizeOf42
  v31 := Tryz.zeroValue42
  t37 := Tryz.underlying84
  a37 := Tryz.isAgg84
  z37 := Tryz.sizeOf84
  v37 := Tryz.zeroValue84
  t70 := Tryz.underlying214
  a70 := Tryz.isAgg214
  z70 := Tryz.sizeOf214
  v70 := Tryz.zeroValue214
  t72 := Tryz.underlying216
  a72 := Tryz.isAgg216
  z72 := Tryz.sizeOf216
  v72 := Tryz.zeroValue216
  t75 := Tryz.underlying28
  a75 := Tryz.isAgg28
  z75 := Tryz.sizeOf28
  v75 := Tryz.zeroValue28
  t76 := Tryz.underlying37
  a76 := Tryz.isAgg37
  z76 := Tryz.sizeOf37
  v76 := Tryz.zeroValue37
  t127 := Tryz.underlying225
  a127 := Tryz.isAgg225
  z127 := Tryz.sizeOf225
  v127 := Tryz.zeroValue225
  t164 := Tryz.underlying233
  a164 := Tryz.isAgg233
  z164 := Tryz.sizeOf233
  v164 := Tryz.zeroValue233 }
theorem Tryz.Builder_Extra_156 : Builder.Extra Tryz.prog Tryz.lays156_ren := {
  sizeBuilder := by kernel_rfl
  liesBuilder := by kernel_rfl
  t5 := Tryz.underlying5
  a5 := Tryz.isAgg5
  z5 := Tryz.sizeOf5
  v5 := Tryz.zeroValue5
  infoByte := by kernel_rfl
  cellsByte := by kernel_rfl
  sizeByte := by kernel_rfl
  neB5 := by decide }
open Go.RowKit in
theorem Tryz.strings_Join (bk o c : Nat) (xs : List ByteArray) (sep : ByteArray) (w : World) (hcells : ∀ (j : Nat) x, xs[j]? = some x → w.cell? ⟨bk, o + j, none⟩ = some (.string x)) (hbk : bk < w.heap.size) (hN : xs.length ≤ 140737488355328) (hcap : xs.length ≤ c) (hlen : (Lib.join (xs.map (·.data.toList)) sep.data.toList).length ≤ 140737488355328) :
    Calls Tryz.prog 122 #[.slice (some ⟨bk, o, none⟩) xs.length c, .string sep] w fun e w' => e = .returned (.string ⟨(Lib.join (xs.map (·.data.toList)) sep.data.toList).toArray⟩) ∧ Below w.heap.size w w' := Any.strings_Join Tryz.lays156 Tryz.Builder_Extra_156 bk o c xs sep w hcells hbk hN hcap hlen
def Tryz.lays137_ren : Go.Shelf.Ren := ⟨fun | 137 => 100 | 217 => 118 | 266 => 136 | n => n, fun | 9 => 9 | 5 => 5 | 3 => 3 | n => n, fun | n => n⟩
theorem Tryz.lays137 : Go.Proofs.Lays.n137 Tryz.prog Tryz.lays137_ren := {
  mixed := by kernel_rfl
  f137 := Tryz.func100.trans (congrArg some (by kernel_rfl))
  f217 := Tryz.func118.trans (congrArg some (by kernel_rfl))
  f266 := Tryz.func136.trans (congrArg some (by kernel_rfl))
  t3 := Tryz.underlying3
  a3 := Tryz.isAgg3
  z3 := Tryz.sizeOf3
  v3 := Tryz.zeroValue3
  t5 := Tryz.underlying5
  a5 := Tryz.isAgg5
  z5 := Tryz.sizeOf5
  v5 := Tryz.zeroValue5
  t9 := Tryz.underlying9
  a9 := Tryz.isAgg9
  z9 := Tryz.sizeOf9
  v9 := Tryz.zeroValue9 }
open Go.RowKit in
theorem Tryz.strings_IndexByte (s : ByteArray) (c : Int) (w : World) :
    Calls Tryz.prog 100 #[.string s, .int .u8 c] w fun e w' => e = .returned (.int .i64 (Lib.indexByte s.data.toList c.toNat.toUInt8)) ∧ w' = w := Any.strings_IndexByte Tryz.lays137 s c w
def Tryz.lays145_ren : Go.Shelf.Ren := ⟨fun | 145 => 50 | 220 => 75 | 219 => 105 | 217 => 118 | 225 => 129 | 224 => 130 | 267 => 131 | 266 => 136 | 314 => 150 | n => n, fun | 9 => 9 | 4 => 4 | 59 => 124 | 3 => 3 | 5 => 5 | 46 => 140 | 146 => 222 | 51 => 171 | n => n, fun | 1 => 1 | n => n⟩
theorem Tryz.lays145 : Go.Proofs.Lays.n145 Tryz.prog Tryz.lays145_ren := {
  mixed := by kernel_rfl
  f145 := Tryz.func50.trans (congrArg some (by kernel_rfl))
  f217 := Tryz.func118.trans (congrArg some (by kernel_rfl))
  f219 := Tryz.func105.trans (congrArg some (by kernel_rfl))
  f220 := Tryz.func75.trans (congrArg some (by kernel_rfl))
  f224 := Tryz.func130.trans (congrArg some (by kernel_rfl))
  f225 := Tryz.func129.trans (congrArg some (by kernel_rfl))
  f266 := Tryz.func136.trans (congrArg some (by kernel_rfl))
  f267 := Tryz.func131.trans (congrArg some (by kernel_rfl))
  f314 := Tryz.func150.trans (congrArg some (by kernel_rfl))
  t3 := Tryz.underlying3
  a3 := Tryz.isAgg3
  z3 := Tryz.sizeOf3
  v3 := Tryz.zeroValue3
  t4 := Tryz.underlying4
  a4 := Tryz.isAgg4
  z4 := Tryz.sizeOf4
  v4 := Tryz.zeroValue4
  t5 := Tryz.underlying5
  a5 := Tryz.isAgg5
  z5 := Tryz.sizeOf5
  v5 := Tryz.zeroValue5
  t9 := Tryz.underlying9
  a9 := Tryz.isAgg9
  z9 := Tryz.sizeOf9
  v9 := Tryz.zeroValue9
  t46 := Tryz.underlying140
  a46 := Tryz.isAgg140
  z46 := Tryz.sizeOf140
  v46 := Tryz.zeroValue140
  t51 := Tryz.underlying171
  a51 := Tryz.isAgg171
  z51 := Tryz.sizeOf171
  v51 := Tryz.zeroValue171
  t59 := Tryz.underlying124
  a59 := Tryz.isAgg124
  z59 := Tryz.sizeOf124
  v59 := Tryz.zeroValue124
  t146 := Tryz.underlying222
  a146 := Tryz.isAgg222
  z146 := Tryz.sizeOf222
  v146 := Tryz.zeroValue222
  g1 := by kernel_rfl }
open Go.RowKit Go.Lib in
theorem Tryz.strings_Cut (s sep : ByteArray) (m : Int) (w : World) (hs : s.size < 4294967281) (hm : w.cell? ⟨1, 0, none⟩ = some (.int .i64 m)) :
    Calls Tryz.prog 50 #[.string s, .string sep] w fun e w' => e = .returned (.tuple #[.string ⟨(Lib.cut s.data.toList sep.data.toList).1.toArray⟩, .string ⟨(Lib.cut s.data.toList sep.data.toList).2.1.toArray⟩, .bool (Lib.cut s.data.toList sep.data.toList).2.2]) ∧ ∃ n, w' = w.drewN n := Any.strings_Cut Tryz.lays145 s sep m w hs hm
def Tryz.laysM145_ren : Go.Shelf.Ren := ⟨fun | 145 => 50 | 220 => 75 | 219 => 105 | 217 => 118 | 225 => 129 | 224 => 130 | 267 => 131 | 266 => 136 | 314 => 150 | n => n, fun | 9 => 9 | 4 => 4 | 59 => 124 | 3 => 3 | 5 => 5 | 46 => 140 | 146 => 222 | 51 => 171 | n => n, fun | 1 => 1 | n => n⟩
theorem Tryz.laysM145 : Go.Proofs.LaysM.n145 Tryz.prog Tryz.laysM145_ren := {
  mixed := by kernel_rfl
  f145 := Tryz.func50.trans (congrArg some (by kernel_rfl))
  f217 := Tryz.func118.trans (congrArg some (by kernel_rfl))
  f219 := Tryz.func105.trans (congrArg some (by kernel_rfl))
  f220 := Tryz.func75.trans (congrArg some (by kernel_rfl))
  f224 := Tryz.func130.trans (congrArg some (by kernel_rfl))
  f225 := Tryz.func129.trans (congrArg some (by kernel_rfl))
  f266 := Tryz.func136.trans (congrArg some (by kernel_rfl))
  f267 := Tryz.func131.trans (congrArg some (by kernel_rfl))
  f314 := Tryz.func150.trans (congrArg some (by kernel_rfl))
  t3 := Tryz.underlying3
  a3 := Tryz.isAgg3
  z3 := Tryz.sizeOf3
  v3 := Tryz.zeroValue3
  t4 := Tryz.underlying4
  a4 := Tryz.isAgg4
  z4 := Tryz.sizeOf4
  v4 := Tryz.zeroValue4
  t5 := Tryz.underlying5
  a5 := Tryz.isAgg5
  z5 := Tryz.sizeOf5
  v5 := Tryz.zeroValue5
  t9 := Tryz.underlying9
  a9 := Tryz.isAgg9
  z9 := Tryz.sizeOf9
  v9 := Tryz.zeroValue9
  t46 := Tryz.underlying140
  a46 := Tryz.isAgg140
  z46 := Tryz.sizeOf140
  v46 := Tryz.zeroValue140
  t51 := Tryz.underlying171
  a51 := Tryz.isAgg171
  z51 := Tryz.sizeOf171
  v51 := Tryz.zeroValue171
  t59 := Tryz.underlying124
  a59 := Tryz.isAgg124
  z59 := Tryz.sizeOf124
  v59 := Tryz.zeroValue124
  t146 := Tryz.underlying222
  a146 := Tryz.isAgg222
  z146 := Tryz.sizeOf222
  v146 := Tryz.zeroValue222
  g1 := by kernel_rfl
  i3 := by kernel_rfl
  i4 := by kernel_rfl
  i5 := by kernel_rfl
  i9 := by kernel_rfl
  i46 := by kernel_rfl
  i51 := by kernel_rfl
  i59 := by kernel_rfl
  i146 := by kernel_rfl
  m1 := by kernel_rfl
  s1_3 := fun w h => Go.Proofs.cell_of_shapedOpen_int (zero := #[.int .i64 0]) (t := 3) h (of_decide_eq_true (by kernel_rfl)) (by kernel_rfl) rfl (by kernel_rfl) (by kernel_rfl) Tryz.underlying3 }
def Tryz.lays99_ren : Go.Shelf.Ren := ⟨fun | 99 => 123 | 206 => 144 | n => n, fun | 9 => 9 | 4 => 4 | 3 => 3 | n => n, fun | n => n⟩
theorem Tryz.lays99 : Go.Proofs.Lays.n99 Tryz.prog Tryz.lays99_ren := {
  mixed := by kernel_rfl
  f99 := Tryz.func123.trans (congrArg some (by kernel_rfl))
  f206 := Tryz.func144.trans (congrArg some (by kernel_rfl))
  t3 := Tryz.underlying3
  a3 := Tryz.isAgg3
  z3 := Tryz.sizeOf3
  v3 := Tryz.zeroValue3
  t4 := Tryz.underlying4
  a4 := Tryz.isAgg4
  z4 := Tryz.sizeOf4
  v4 := Tryz.zeroValue4
  t9 := Tryz.underlying9
  a9 := Tryz.isAgg9
  z9 := Tryz.sizeOf9
  v9 := Tryz.zeroValue9 }
open Go.RowKit Go.Lib in
theorem Tryz.strings_HasPrefix (s p : ByteArray) (w : World) :
    Calls Tryz.prog 123 #[.string s, .string p] w fun e w' => e = .returned (.bool (Lib.hasPrefix s.data.toList p.data.toList)) ∧ w' = w := Any.strings_HasPrefix Tryz.lays99 s p w
def Tryz.lays100_ren : Go.Shelf.Ren := ⟨fun | 100 => 124 | 207 => 145 | n => n, fun | 9 => 9 | 4 => 4 | 3 => 3 | n => n, fun | n => n⟩
theorem Tryz.lays100 : Go.Proofs.Lays.n100 Tryz.prog Tryz.lays100_ren := {
  mixed := by kernel_rfl
  f100 := Tryz.func124.trans (congrArg some (by kernel_rfl))
  f207 := Tryz.func145.trans (congrArg some (by kernel_rfl))
  t3 := Tryz.underlying3
  a3 := Tryz.isAgg3
  z3 := Tryz.sizeOf3
  v3 := Tryz.zeroValue3
  t4 := Tryz.underlying4
  a4 := Tryz.isAgg4
  z4 := Tryz.sizeOf4
  v4 := Tryz.zeroValue4
  t9 := Tryz.underlying9
  a9 := Tryz.isAgg9
  z9 := Tryz.sizeOf9
  v9 := Tryz.zeroValue9 }
open Go.RowKit Go.Lib in
theorem Tryz.strings_HasSuffix (s p : ByteArray) (w : World) (hs : s.size ≤ 9223372036854775807) :
    Calls Tryz.prog 124 #[.string s, .string p] w fun e w' => e = .returned (.bool (Lib.hasSuffix s.data.toList p.data.toList)) ∧ w' = w := Any.strings_HasSuffix Tryz.lays100 s p w hs
def Tryz.lays146_ren : Go.Shelf.Ren := ⟨fun | 146 => 121 | 221 => 140 | 268 => 153 | 138 => 154 | 143 => 155 | 195 => 160 | 197 => 161 | 218 => 162 | 219 => 105 | 260 => 165 | 217 => 118 | 225 => 129 | 224 => 130 | 267 => 131 | 266 => 136 | 314 => 150 | n => n, fun | 9 => 9 | 31 => 42 | 3 => 3 | 4 => 4 | 0 => 0 | 105 => 231 | 21 => 21 | 5 => 5 | 46 => 140 | 119 => 238 | 139 => 241 | 138 => 240 | 146 => 222 | 51 => 171 | n => n, fun | 1 => 1 | 3 => 7 | 4 => 8 | n => n⟩
theorem Tryz.lays146 : Go.Proofs.Lays.n146 Tryz.prog Tryz.lays146_ren := {
  mixed := by kernel_rfl
  f138 := Tryz.func154.trans (congrArg some (by kernel_rfl))
  f143 := Tryz.func155.trans (congrArg some (by kernel_rfl))
  f146 := Tryz.func121.trans (congrArg some (by kernel_rfl))
  f195 := Tryz.func160.trans (congrArg some (by kernel_rfl))
  f197 := Tryz.func161.trans (congrArg some (by kernel_rfl))
  f217 := Tryz.func118.trans (congrArg some (by kernel_rfl))
  f218 := Tryz.func162.trans (congrArg some (by kernel_rfl))
  f219 := Tryz.func105.trans (congrArg some (by kernel_rfl))
  f221 := Tryz.func140.trans (congrArg some (by kernel_rfl))
  f224 := Tryz.func130.trans (congrArg some (by kernel_rfl))
  f225 := Tryz.func129.trans (congrArg some (by kernel_rfl))
  f260 := Tryz.func165.trans (congrArg some (by kernel_rfl))
  f266 := Tryz.func136.trans (congrArg some (by kernel_rfl))
  f267 := Tryz.func131.trans (congrArg some (by kernel_rfl))
  f268 := Tryz.func153.trans (congrArg some (by kernel_rfl))
  f314 := Tryz.func150.trans (congrArg some (by kernel_rfl))
  t0 := Tryz.underlying0
  a0 := Tryz.isAgg0
  z0 := Tryz.sizeOf0
  v0 := Tryz.zeroValue0
  t3 := Tryz.underlying3
  a3 := Tryz.isAgg3
  z3 := Tryz.sizeOf3
  v3 := Tryz.zeroValue3
  t4 := Tryz.underlying4
  a4 := Tryz.isAgg4
  z4 := Tryz.sizeOf4
  v4 := Tryz.zeroValue4
  t5 := Tryz.underlying5
  a5 := Tryz.isAgg5
  z5 := Tryz.sizeOf5
  v5 := Tryz.zeroValue5
  t9 := Tryz.underlying9
  a9 := Tryz.isAgg9
  z9 := Tryz.sizeOf9
  v9 := Tryz.zeroValue9
  t21 := Tryz.underlying21
  a21 := Tryz.isAgg21
  z21 := Tryz.sizeOf21
  v21 := Tryz.zeroValue21
  t31 := Tryz.underlying42
  a31 := Tryz.isAgg42
  z31 := Tryz.sizeOf42
  v31 := Tryz.zeroValue42
  t46 := Tryz.underlying140
  a46 := Tryz.isAgg140
  z46 := Tryz.sizeOf140
  v46 := Tryz.zeroValue140
  t51 := Tryz.underlying171
  a51 := Tryz.isAgg171
  z51 := Tryz.sizeOf171
  v51 := Tryz.zeroValue171
  t105 := Tryz.underlying231
  a105 := Tryz.isAgg231
  z105 := Tryz.sizeOf231
  v105 := Tryz.zeroValue231
  t119 := Tryz.underlying238
  a119 := Tryz.isAgg238
  z119 := Tryz.sizeOf238
  t138 := Tryz.underlying240
  a138 := Tryz.isAgg240
  z138 := Tryz.sizeOf240
  v138 := Tryz.zeroValue240
  t139 := Tryz.underlying241
  a139 := Tryz.isAgg241
  z139 := Tryz.sizeOf241
  v139 := Tryz.zeroValue241
  t146 := Tryz.underlying222
  a146 := Tryz.isAgg222
  z146 := Tryz.sizeOf222
  v146 := Tryz.zeroValue222
  g1 := by kernel_rfl
  g3 := by kernel_rfl
  g4 := by kernel_rfl }
open Go.RowKit Go.Lib in
theorem Tryz.strings_Split (s sep : ByteArray) (m : Int) (w : World) (hs : s.size < 4294967281) (hm : w.cell? ⟨1, 0, none⟩ = some (.int .i64 m)) (h1 : 1 ≤ sep.size) :
    Calls Tryz.prog 121 #[.string s, .string sep] w fun e w' =>
      e = .returned (.slice (some ⟨w.heap.size, 0, none⟩) (Lib.countB s sep + 1) (Lib.countB s sep + 1)) ∧ w' = w.alloc (.cells ((Lib.splitB sep 0 (Lib.countB s sep) s).map Value.string).toArray 9) := Any.strings_Split Tryz.lays146 (by kernel_rfl) s sep m w hs hm h1
end Go.Proofs
end

section
namespace Go.Proofs.YtjijijjkkhpjnaaGreatDoor
open Go.RowKit

/-- The variable MaxLen of the library holds some int. -/
structure Ready (w : World) : Prop where
  lt : 1 < w.heap.size
  cell : ∃ m, w.cell? ⟨1, 0, none⟩ = some (.int .i64 m)

theorem Ready.below {w w' : World} (h : Ready w) (hb : Below w.heap.size w w') : Ready w' :=
  ⟨Nat.lt_of_lt_of_le h.lt hb.size, by obtain ⟨m, hm⟩ := h.cell; exact ⟨m, by rw [hb.cell (p := ⟨_, 0, none⟩) h.lt]; exact hm⟩⟩

/-- From the number k on the cells of block b hold the strings xs. -/
def CellsAt (w : World) (b o : Nat) (xs : List Bs) : Prop := ∀ (k : Nat) x, xs[k]? = some x → w.cell? ⟨b, o + k, none⟩ = some (.string ⟨x.toArray⟩)

theorem CellsAt.below {w w' : World} {B b o : Nat} {xs : List Bs} (h : CellsAt w b o xs) (hb : Below B w w') (hB : b < B) : CellsAt w' b o xs :=
  fun k x hx => by rw [hb.cell (p := ⟨b, o + k, none⟩) hB]; exact h k x hx

/-- A new slice of strings, read to its end. -/
def NewStrs (w : World) (xs : List Bs) (e : Ending) (w' : World) : Prop :=
  ∃ b c : Nat, e = .returned (.slice (some ⟨b, 0, none⟩) xs.length c) ∧ xs.length ≤ c ∧ w.heap.size ≤ b ∧ b < w'.heap.size ∧ CellsAt w' b 0 xs ∧ Below w.heap.size w w'

/-- A byte of a string, in the words of its list. -/
theorem ba_get (l : Bs) (k : Nat) (h : k < (⟨l.toArray⟩ : ByteArray).size) : (⟨l.toArray⟩ : ByteArray)[k]'h = l[k]'h := rfl
theorem ba_append (a b : Bs) : (⟨a.toArray⟩ : ByteArray) ++ (⟨b.toArray⟩ : ByteArray) = ⟨(a ++ b).toArray⟩ := by
  apply ByteArray.ext
  simp
theorem ba_ext {a b : ByteArray} (h : a.data.toList = b.data.toList) : a = b := by
  apply ByteArray.ext
  rw [← Array.toList_inj]
  exact h
/-- A piece of a string, in the words of its list. -/
theorem ba_extract (l : Bs) (a b : Nat) : (⟨l.toArray⟩ : ByteArray).extract a b = ⟨((l.drop a).take (b - a)).toArray⟩ :=
  ba_ext (by rw [Lib.extract_data])
theorem ba_extract_end (l : Bs) (a : Nat) : (⟨l.toArray⟩ : ByteArray).extract a l.length = ⟨(l.drop a).toArray⟩ :=
  ba_ext (by rw [Lib.extract_data]; exact List.take_of_length_le (by simp))
theorem ba_extract_zero (l : Bs) (b : Nat) : (⟨l.toArray⟩ : ByteArray).extract 0 b = ⟨(l.take b).toArray⟩ :=
  ba_ext (by rw [Lib.extract_data]; simp)
theorem size_str (l : Bs) : (⟨l.toArray⟩ : ByteArray).size = l.length := rfl
theorem and15 (m : Nat) (h : m ≤ 255) : bits .and .u8 (m : Int) 15 = (m : Int) % 16 := by
  have h2 : ∀ d : Fin 256, bits .and .u8 (d.val : Int) 15 = (d.val : Int) % 16 := by decide +kernel
  exact h2 ⟨m, by omega⟩

/-- A contract that leaves the world alone, inside a region that draws its order. -/
theorem quiet_eq {P : Program} {f : FuncId} {args : Array Value} {w : World} {n : Nat} {v : Value}
    (h : Calls P f args (w.drewN n) fun e w' => e = .returned v ∧ w.drewN n = w') : Calls P f args (w.drewN n) fun e w'' => e = .returned v ∧ ∃ m, w'' = w.drewN m :=
  h.mono fun _ _ h => ⟨h.1, n, h.2.symm⟩

/-- string([]byte{n}) -/
theorem conv_one (w : World) (n : Int) : (convert 84 9 (.slice (some ⟨w.heap.size, 0, none⟩) 1 1)).run Tryz.prog (w.alloc (.cells #[.int .u8 n] 5)) = .ok (.string ⟨[UInt8.ofNat n.toNat].toArray⟩) (w.alloc (.cells #[.int .u8 n] 5)) := by
  rw [run_convert_bytes_string _ 84 9 5 _ _ _ Tryz.underlying84 Tryz.underlying5 Tryz.underlying9]
  have hl := run_loadCells_list (P := Tryz.prog) (w.alloc (.cells #[.int .u8 n] 5)) ⟨w.heap.size, 0, none⟩ ([n].map (Value.int .u8)) (fun j v hj => by
    have hj' : j = 0 := by
      have := (List.getElem?_eq_some_iff.1 hj).1
      simp at this; exact this
    subst hj'
    simp at hj
    subst hj
    show (w.alloc _).cell? ⟨w.heap.size, 0, none⟩ = _
    unfold World.cell?
    rw [heap_alloc_new]
    rfl)
  exact run_bytesToString _ ⟨w.heap.size, 0, none⟩ 1 1 [n] hl

theorem conv_one_drewN (w : World) (n : Int) (q : Nat) : (convert 84 9 (.slice (some ⟨w.heap.size, 0, none⟩) 1 1)).run Tryz.prog ((w.drewN q).alloc (.cells #[.int .u8 n] 5)) = .ok (.string ⟨[UInt8.ofNat n.toNat].toArray⟩) ((w.drewN q).alloc (.cells #[.int .u8 n] 5)) :=
  conv_one (w.drewN q) n

theorem split_any (l : Bs) (c : UInt8) (w : World) (hl : l.length ≤ 2147483648) (hr : Ready w) :
    Calls Tryz.prog 121 #[.string ⟨l.toArray⟩, .string ⟨#[c]⟩] w (NewStrs w (Pl.splitOn c l)) := by
  obtain ⟨m, hm⟩ := hr.cell
  refine (Tryz.strings_Split ⟨l.toArray⟩ ⟨#[c]⟩ m w (by rw [size_str]; omega) hm (Nat.le_refl 1)).mono fun e w' h => ?_
  obtain ⟨rfl, rfl⟩ := h
  obtain ⟨h1, h2⟩ := Pl.split_str c l
  rw [h1, h2]
  refine ⟨w.heap.size, _, rfl, Nat.le_refl _, Nat.le_refl _, by simp, ?_, (Below.refl _ _).alloc (Nat.le_refl _) _⟩
  intro k x hx
  have h3 : (w.alloc (.cells ((Pl.splitOn c l).map str).toArray 9)).cell? ⟨w.heap.size, 0 + k, none⟩ = (((Pl.splitOn c l).map str).toArray)[k]? := by
    unfold World.cell?
    rw [heap_alloc_new]
    simp
  rw [h3]
  simp [hx]

theorem cut_any (l : Bs) (c : UInt8) (w : World) (hl : l.length ≤ 2147483648) (hr : Ready w) :
    Calls Tryz.prog 50 #[.string ⟨l.toArray⟩, .string ⟨#[c]⟩] w fun e w' => e = .returned (.tuple #[.string ⟨(Pl.cutAt c l).1.toArray⟩, .string ⟨(Pl.cutAt c l).2.1.toArray⟩, .bool (Pl.cutAt c l).2.2]) ∧ Below w.heap.size w w' := by
  obtain ⟨m, hm⟩ := hr.cell
  refine (Tryz.strings_Cut ⟨l.toArray⟩ ⟨#[c]⟩ m w (by rw [size_str]; omega) hm).mono fun e w' h => ?_
  obtain ⟨rfl, n, rfl⟩ := h
  rw [← Pl.cut_eq]
  exact ⟨rfl, below_drewN (Below.refl _ _) n⟩

theorem join_any (b c : Nat) (xs : List Bs) (sep : Bs) (w : World) (hc : CellsAt w b 0 xs) (hb : b < w.heap.size) (hN : xs.length ≤ 2147483648) (hcap : xs.length ≤ c) (hlen : (Lib.join xs sep).length ≤ 140737488355328) :
    Calls Tryz.prog 122 #[.slice (some ⟨b, 0, none⟩) xs.length c, .string ⟨sep.toArray⟩] w fun e w' => e = .returned (.string ⟨(Lib.join xs sep).toArray⟩) ∧ Below w.heap.size w w' := by
  have e1 : (xs.map fun x : Bs => (⟨x.toArray⟩ : ByteArray)).map (·.data.toList) = xs := by rw [List.map_map]; simp [Function.comp_def]
  have h := Tryz.strings_Join b 0 c (xs.map fun x : Bs => (⟨x.toArray⟩ : ByteArray)) ⟨sep.toArray⟩ w (fun j x hx => by
    simp only [List.getElem?_map, Option.map_eq_some_iff] at hx
    obtain ⟨y, hy, rfl⟩ := hx
    exact hc j y hy) hb (by rw [List.length_map]; omega) (by rw [List.length_map]; exact hcap) (by rw [e1]; exact hlen)
  rw [e1, List.length_map] at h
  exact h

theorem indexByte_any (l : Bs) (c : UInt8) (w : World) :
    Calls Tryz.prog 100 #[.string ⟨l.toArray⟩, .int .u8 (c.toNat : Int)] w fun e w' => e = .returned (.int .i64 (Lib.indexByte l c)) ∧ w = w' :=
  (Tryz.strings_IndexByte ⟨l.toArray⟩ (c.toNat : Int) w).mono fun _ _ h => ⟨by rw [h.1]; simp, h.2.symm⟩

theorem hasPrefix_any (l p : Bs) (w : World) :
    Calls Tryz.prog 123 #[.string ⟨l.toArray⟩, .string ⟨p.toArray⟩] w fun e w' => e = .returned (.bool (Lib.hasPrefix l p)) ∧ w = w' :=
  (Tryz.strings_HasPrefix ⟨l.toArray⟩ ⟨p.toArray⟩ w).mono fun _ _ h => ⟨h.1, h.2.symm⟩

theorem hasSuffix_any (l p : Bs) (w : World) (hl : l.length ≤ 9223372036854775807) :
    Calls Tryz.prog 124 #[.string ⟨l.toArray⟩, .string ⟨p.toArray⟩] w fun e w' => e = .returned (.bool (Lib.hasSuffix l p)) ∧ w = w' :=
  (Tryz.strings_HasSuffix ⟨l.toArray⟩ ⟨p.toArray⟩ w hl).mono fun _ _ h => ⟨h.1, h.2.symm⟩

end Go.Proofs.YtjijijjkkhpjnaaGreatDoor
end

section
namespace Go.Proofs.YtjijijjkkhpjnaaGreatDoor.Fr
open Go.ChangeShapes Go.WideShapes Go.ChangeAt Go.RowKit

theorem own : ownKnob Tryz.prog.godebug = none := by kernel_rfl

theorem ready {W : World} (h : W.ShapedOpen Tryz.prog) : Ready W := by
  obtain ⟨m, hm⟩ := Tryz.laysM145.s1_3 W h
  refine ⟨?_, m, hm⟩
  have h2 : W.cell? ⟨1, 0, none⟩ = some (.int .i64 m) := hm
  unfold World.cell? at h2
  split at h2
  · rename_i h3; exact (Array.getElem?_eq_some_iff.1 h3).1
  · cases h2

def firstCells : Array Value := (Go.Pinned.utf8FirstZ.map fun n : Nat => Value.int .u8 (n : Int)).toArray
def holds (C : Array Value) : Obj → Obj
  | .cells _ t frozen => .cells C t frozen
  | o => o
/-- Every argument reads behind the call as it read before. -/
theorem trodAll_below {P : Program} (hl : laidOutB P = true) {H : Type} {enc : TypeId × Value → H} {W W' : World} : ∀ (ts : List TypeId), (ts.all fun t => P.readableRec t && decide (t < P.types.size)) = true → ∀ {vs : List Value} {ds : List (DataW H)} {p : List MemPlace},
    DataW.TrodAll enc P W 0 (fun _ => true) true ts vs ds p → Below W.heap.size W W' → (∀ x ∈ p, x.block < W.heap.size) → DataW.TrodAll enc P W' 0 (fun b => decide (b < W.heap.size)) true ts vs ds p
  | [], _, vs, ds, p, h, _, _ => by
    obtain ⟨rfl, rfl, rfl⟩ := trodAll_nil h
    exact trodAll_mk0
  | t :: ts, hr, vs, ds, p, h, hb, hlt => by
    obtain ⟨v0, vs0, d0, ds0, p0, q0, rfl, rfl, rfl, h0, r0⟩ := trodAll_cons h
    rw [List.all_cons, Bool.and_eq_true, Bool.and_eq_true, decide_eq_true_eq] at hr
    exact trodAll_cons_mk (Below.trod hl hr.1.1 hr.1.2 h0 hb (fun x hx => hlt x (List.mem_append_left _ hx))) (trodAll_below hl ts hr.2 r0 hb fun x hx => hlt x (List.mem_append_right _ hx))
end Go.Proofs.YtjijijjkkhpjnaaGreatDoor.Fr
end

