/- Contracts and plain facts that the statement's proof leans on (texts joined). No condition beyond those that each names. -/
import Derived.Lib.Split
import Derived.Lib.Join
import Derived.Lib.Strings
import Derived.Lib.Bytealg
import Derived.Shelf.Strings.Builder1
import Derived.Shelf.Strings.Builder2
import Derived.Shelf.Strings.OnBuilder
import Derived.Shelf.Small.Strs
import Derived.Shelf.Strconv.Atoi
import Derived.Shelf.Strconv.Itoa0
import Derived.Shelf.Strconv.Itoa1
import Derived.Shelf.LaysM
import Derived.Shelf.Strconv.Itoa2
import Derived.Shelf.Strconv.Itoa3
import Derived.Shelf.Strconv.AtoiErrFast
import Derived.Shelf.Strconv.ParseIntEmpty
import Derived.Shelf.Strconv.AtoiFail
import Derived.Shelf.Strconv.Clone
import Derived.Shelf.Strconv.SyntaxError
import Derived.Shelf.LaysC
import Derived.Shelf.Strconv.ToError
import Derived.Shelf.Strconv.Lower
import Derived.Shelf.Strconv.ParseUint10
import Derived.Shelf.Strconv.ParseUint10Empty
import Derived.Shelf.Strconv.ParseUint10Any
import Derived.Shelf.Strconv.ParseInt10
import Derived.Shelf.Strconv.AtoiLong
import Derived.Shelf.Strconv.AtoiInnerAll
import Derived.Shelf.Strconv.RangeError
import Derived.Shelf.Strconv.ToErrorRange
import Derived.Shelf.Strconv.AtoiAll
import Derived.Shelf.Strconv.ErrVarAll
import Derived.Shelf.Strings.Search1
import Derived.Shelf.Strings.Search2
import Derived.Shelf.Strings.Search3
import Derived.Shelf.Strings.Cut
import Derived.Shelf.Strings.Count
import Derived.Shelf.Strings.Shaped
import Derived.Shelf.Strings.Prefix
import Derived.Shelf.Strings.Split
import Derived.Shelf.Strings.SplitShaped
import Derived.Shelf.Unicode.Decode
import Derived.Shelf.Strings.RuneCount
import Derived.Shelf.Strings.Explode
import Derived.Shelf.Unicode.DecodeSlow
import Derived.Test.YtpkhbhdidkkebaaGreatDoorProg
import Derived.Below
import Derived.WalkSmall
import Derived.WalkKit
import Derived.Test.YtpkhbhdidkkebaaGreatDoorCards
import Derived.Test.YtpkhbhdidkkebaaGreatDoorTie
import Derived.ProofKit
import Derived.OpenShut
import Derived.Deep.DeepHandedRow
import Derived.Lib.LaidTab
import Derived.Carry
import Derived.Lib.SmallJoins
import GoSem.Op.String
import Derived.Lib.ItoaNum
import Derived.Laws.IdiomStrings
import Derived.Lib.BufferRead
import Derived.Deep.LoopGhost
section
namespace Go.Proofs.YtpkhbhdidkkebaaGreatDoor

abbrev Bs := List UInt8
/-- A string value out of a list of bytes. -/
@[reducible] def str (l : Bs) : Value := .string ⟨l.toArray⟩

namespace Pl

theorem drop_cons {α : Type} {l : List α} {k : Nat} (h : k < l.length) : l.drop k = l[k] :: l.drop (k + 1) := by simp

theorem take_snoc {α : Type} {l : List α} {k : Nat} (h : k < l.length) : l.take (k + 1) = l.take k ++ [l[k]] := by simp

/-- The loop that splits at a byte: acc is what has been read since the last separator. -/
def splitAcc (c : UInt8) : Bs → Bs → List Bs
  | acc, [] => [acc]
  | acc, b :: t => if b = c then acc :: splitAcc c [] t else splitAcc c (acc ++ [b]) t

def splitOn (c : UInt8) (l : Bs) : List Bs := splitAcc c [] l

theorem splitAcc_miss (c : UInt8) : ∀ (acc l : Bs), c ∉ l → splitAcc c acc l = [acc ++ l]
  | acc, [], _ => by simp [splitAcc]
  | acc, b :: t, h => by
    simp only [List.mem_cons, not_or] at h
    rw [splitAcc, if_neg (fun e => h.1 e.symm), splitAcc_miss c _ t h.2]; simp

theorem splitAcc_hit (c : UInt8) : ∀ (acc p q : Bs), c ∉ p → splitAcc c acc (p ++ c :: q) = (acc ++ p) :: splitAcc c [] q
  | acc, [], q, _ => by simp [splitAcc]
  | acc, b :: t, q, h => by
    simp only [List.mem_cons, not_or] at h
    rw [List.cons_append, splitAcc, if_neg (fun e => h.1 e.symm), splitAcc_hit c _ t q h.2]; simp

theorem splitAcc_ne_nil (c : UInt8) : ∀ (acc l : Bs), splitAcc c acc l ≠ []
  | acc, [] => by simp [splitAcc]
  | acc, b :: t => by
    rw [splitAcc]; split
    ·simp
    ·exact splitAcc_ne_nil c _ t

theorem splitOn_ne_nil (c : UInt8) (l : Bs) : splitOn c l ≠ [] := splitAcc_ne_nil c [] l

theorem splitAcc_acc (c : UInt8) : ∀ (acc l : Bs), ∃ h r, splitAcc c [] l = h :: r ∧ splitAcc c acc l = (acc ++ h) :: r
  | acc, [] => ⟨[], [], rfl, by simp [splitAcc]⟩
  | acc, b :: t => by
    by_cases e : b = c
    ·exact ⟨[], splitAcc c [] t, by simp [splitAcc, e], by simp [splitAcc, e]⟩
    ·obtain ⟨h, r, h1, h2⟩ := splitAcc_acc c (acc ++ [b]) t
     obtain ⟨h', r', h1', h2'⟩ := splitAcc_acc c [b] t
     rw [h1] at h1'
     obtain ⟨rfl, rfl⟩ := List.cons.inj h1'
     exact ⟨[b] ++ h, r, by rw [splitAcc, if_neg e]; simpa using h2', by rw [splitAcc, if_neg e, h2]; simp⟩

theorem splitOn_cons_eq (c : UInt8) (t : Bs) : splitOn c (c :: t) = [] :: splitOn c t := by simp [splitOn, splitAcc]
theorem splitOn_cons_ne (c b : UInt8) (t : Bs) (h : b ≠ c) : ∃ x r, splitOn c t = x :: r ∧ splitOn c (b :: t) = (b :: x) :: r := by
 obtain ⟨x, r, h1, h2⟩ := splitAcc_acc c [b] t
 exact ⟨x, r, h1, by rw [splitOn, splitAcc, if_neg h]; simpa using h2⟩

/-- The place of a byte, as a split of the list. -/
theorem index_one (c : UInt8) : ∀ l : Bs, (Lib.index l [c] = -1 ∧ c ∉ l) ∨ ∃ p q, l = p ++ c :: q ∧ c ∉ p ∧ Lib.index l [c] = (p.length : Nat)
  | [] => .inl ⟨rfl, by simp⟩
  | b :: t => by
    by_cases e : b = c
    ·subst e
     exact .inr ⟨[], t, rfl, by simp, by simp [Lib.index]⟩
    ·have h0 : ([c] : Bs).isPrefixOf (b :: t) = false := by simp [List.isPrefixOf]; exact fun h => e h.symm
     rcases index_one c t with ⟨h1, h2⟩ | ⟨p, q, rfl, h2, h3⟩
     ·exact .inl ⟨by unfold Lib.index; rw [h0, h1]; rfl, by simp only [List.mem_cons, not_or]; exact ⟨fun h => e h.symm, h2⟩⟩
     ·refine .inr ⟨b :: p, q, rfl, by simp only [List.mem_cons, not_or]; exact ⟨fun h => e h.symm, h2⟩, ?_⟩
      unfold Lib.index
      rw [h0, h3]
      have : ¬ ((p.length : Int) == -1) = true := by simp
      simp only [Bool.false_eq_true, if_false, if_neg this, List.length_cons]
      omega

theorem indexByte_one (c : UInt8) : ∀ l : Bs, (Lib.indexByte l c = -1 ∧ c ∉ l) ∨ ∃ p q, l = p ++ c :: q ∧ c ∉ p ∧ Lib.indexByte l c = (p.length : Nat)
  | [] => .inl ⟨rfl, by simp⟩
  | b :: t => by
    by_cases e : b = c
    ·subst e
     exact .inr ⟨[], t, rfl, by simp, by simp [Lib.indexByte]⟩
    ·have h0 : (b == c) = false := by simpa using e
     rcases indexByte_one c t with ⟨h1, h2⟩ | ⟨p, q, rfl, h2, h3⟩
     ·exact .inl ⟨by unfold Lib.indexByte; rw [h0, h1]; rfl, by simp only [List.mem_cons, not_or]; exact ⟨fun h => e h.symm, h2⟩⟩
     ·refine .inr ⟨b :: p, q, rfl, by simp only [List.mem_cons, not_or]; exact ⟨fun h => e h.symm, h2⟩, ?_⟩
      unfold Lib.indexByte
      rw [h0, h3]
      have : ¬ ((p.length : Int) == -1) = true := by simp
      simp only [Bool.false_eq_true, if_false, if_neg this, List.length_cons]
      omega

theorem mem_iff_indexByte (c : UInt8) (l : Bs) : Lib.indexByte l c < 0 ↔ c ∉ l := by
 rcases indexByte_one c l with ⟨h1, h2⟩ | ⟨p, q, rfl, _, h3⟩
 ·exact ⟨fun _ => h2, fun _ => by omega⟩
 ·exact ⟨fun h => by omega, fun h => absurd (by simp) h⟩

/-- strings.Split at one byte, in the words of the loop. -/
theorem splitK_eq (c : UInt8) : ∀ (n : Nat) (l : Bs), l.length ≤ n → Lib.splitK [c] 0 (Lib.count l [c]) l = splitOn c l ∧ Lib.count l [c] + 1 = (splitOn c l).length
  | n, l, hn => by
    rcases index_one c l with ⟨h1, h2⟩ | ⟨p, q, rfl, h2, h3⟩
    ·rw [Lib.count_miss h1, splitOn, splitAcc_miss c [] l h2]
     exact ⟨rfl, rfl⟩
    ·have hd : (p ++ c :: q).drop (p.length + ([c] : Bs).length) = q := by
      simp [List.drop_append]
     have hc := Lib.count_hit (i := p.length) (sub := [c]) (s := p ++ c :: q) (by simp) h3
     rw [hd] at hc
     rw [hc, Nat.add_comm 1]
     have hl : (p ++ c :: q).length = p.length + q.length + 1 := by simp; omega
     match n, hn with
     | 0, hn => omega
     | n + 1, hn =>
       obtain ⟨i1, i2⟩ := splitK_eq c n q (by omega)
       rw [Lib.splitK, h3]
       have hne : ¬ ((p.length : Int) == -1) = true := by simp
       rw [if_neg hne]
       have e1 : ((p.length : Nat) : Int).toNat = p.length := by omega
       have e2 : splitOn c (p ++ c :: q) = p :: splitOn c q := by rw [splitOn, splitAcc_hit c [] p q h2]; rfl
       rw [e1, hd, i1, e2]
       refine ⟨by simp, ?_⟩
       simp only [List.length_cons]
       omega

theorem split_str (c : UInt8) (l : Bs) : (Lib.splitB ⟨#[c]⟩ 0 (Lib.countB ⟨l.toArray⟩ ⟨#[c]⟩) ⟨l.toArray⟩).map Value.string = (splitOn c l).map str ∧ Lib.countB ⟨l.toArray⟩ ⟨#[c]⟩ + 1 = (splitOn c l).length := by
 obtain ⟨h1, h2⟩ := splitK_eq c l.length l (Nat.le_refl _)
 refine ⟨?_, h2⟩
 rw [← h1]
 have h3 := Lib.splitB_data ⟨#[c]⟩ 0 (Lib.countB ⟨l.toArray⟩ ⟨#[c]⟩) ⟨l.toArray⟩
 show _ = List.map str (Lib.splitK (⟨#[c]⟩ : ByteArray).data.toList 0 (Lib.countB ⟨l.toArray⟩ ⟨#[c]⟩) (⟨l.toArray⟩ : ByteArray).data.toList)
 rw [← h3, List.map_map]
 rfl

/-- strings.Cut at one byte. -/
def cutAt (c : UInt8) : Bs → Bs × Bs × Bool
  | [] => ([], [], false)
  | b :: t => if b = c then ([], t, true) else (b :: (cutAt c t).1, (cutAt c t).2.1, (cutAt c t).2.2)

theorem cutAt_miss (c : UInt8) : ∀ l : Bs, c ∉ l → cutAt c l = (l, [], false)
  | [], _ => rfl
  | b :: t, h => by
    simp only [List.mem_cons, not_or] at h
    rw [cutAt, if_neg (fun e => h.1 e.symm), cutAt_miss c t h.2]
theorem cutAt_hit (c : UInt8) (q : Bs) : ∀ p : Bs, c ∉ p → cutAt c (p ++ c :: q) = (p, q, true)
  | [], _ => by simp [cutAt]
  | b :: t, h => by
    simp only [List.mem_cons, not_or] at h
    rw [List.cons_append, cutAt, if_neg (fun e => h.1 e.symm), cutAt_hit c q t h.2]

theorem cut_eq (c : UInt8) (l : Bs) : Lib.cut l [c] = cutAt c l := by
 rcases index_one c l with ⟨h1, h2⟩ | ⟨p, q, rfl, h2, h3⟩
 ·rw [cutAt_miss c l h2, Lib.cut, h1]; rfl
 ·rw [cutAt_hit c q p h2, Lib.cut, h3]
  simp [List.drop_append]

/-- Each byte of a list is below 256, in the walk's words. -/
theorem byte_lt (b : UInt8) : (b.toNat : Int) < 256 := by have := b.toNat_lt; omega

end Pl
end Go.Proofs.YtpkhbhdidkkebaaGreatDoor
end

section
namespace Go.Proofs
open Go.Shelf
def Tryz.lays156_ren : Go.Shelf.Ren := ⟨fun | 156 => 38 | 165 => 81 | 166 => 82 | 169 => 83 | 240 => 111 | 241 => 112 | 276 => 145 | 277 => 146 | n => n, fun | 31 => 48 | 9 => 9 | 3 => 3 | 4 => 4 | 0 => 0 | 20 => 20 | 72 => 147 | 76 => 122 | 70 => 145 | 37 => 45 | 75 => 29 | 127 => 168 | 164 => 194 | 5 => 5 | 80 => 149 | n => n, fun | n => n⟩
theorem Tryz.lays156 : Go.Proofs.Lays.n156 Tryz.prog Tryz.lays156_ren := {
  mixed := by kernel_rfl
  f156 := Tryz.func38.trans (congrArg some (by kernel_rfl))
  f165 := Tryz.func81.trans (congrArg some (by kernel_rfl))
  f166 := Tryz.func82.trans (congrArg some (by kernel_rfl))
  f169 := Tryz.func83.trans (congrArg some (by kernel_rfl))
  f240 := Tryz.func111.trans (congrArg some (by kernel_rfl))
  f241 := Tryz.func112.trans (congrArg some (by kernel_rfl))
  f276 := Tryz.func145.trans (congrArg some (by kernel_rfl))
  f277 := Tryz.func146.trans (congrArg some (by kernel_rfl))
  t0 := Tryz.underlying0
  a0 := Tryz.isAgg0
  z0 := Tryz.sizeOf0
  v0 := Tryz.zeroValue0
  t3 := Tryz.underlying3
  a3 := Tryz.isAgg3
  z3 := Tryz.sizeOf3
  v3 := Tryz.zeroValue3
  t4 := Tryz.underlying4
  a4 := Tryz.isAgg4
  z4 := Tryz.sizeOf4
  v4 := Tryz.zeroValue4
  t9 := Tryz.underlying9
  a9 := Tryz.isAgg9
  z9 := Tryz.sizeOf9
  v9 := Tryz.zeroValue9
  t20 := Tryz.underlying20
  a20 := Tryz.isAgg20
  z20 := Tryz.sizeOf20
  v20 := Tryz.zeroValue20
  t31 := Tryz.underlying48
  a31 := Tryz.isAgg48
  z31 := Tryz.sizeOf48
  v31 := Tryz.zeroValue48
  t37 := Tryz.underlying45
  a37 := Tryz.isAgg45
  z37 := Tryz.sizeOf45
  v37 := Tryz.zeroValue45
  t70 := Tryz.underlying145
  a70 := Tryz.isAgg145
  z70 := Tryz.sizeOf145
  v70 := Tryz.zeroValue145
  t72 := Tryz.underlying147
  a72 := Tryz.isAgg147
  z72 := Tryz.sizeOf147
  v72 := Tryz.zeroValue147
  t75 := Tryz.underlying29
  a75 := Tryz.isAgg29
  z75 := Tryz.sizeOf29
  v75 := Tryz.zeroValue29
  t76 := Tryz.underlying122
  a76 := Tryz.isAgg122
  z76 := Tryz.sizeOf122
  v76 := Tryz.zeroValue122
  t127 := Tryz.underlying168
  a127 := Tryz.isAgg168
  z127 := Tryz.sizeOf168
  v127 := Tryz.zeroValue168
  t164 := Tryz.underlying194
  a164 := Tryz.isAgg194
  z164 := Tryz.sizeOf194
  v164 := Tryz.zeroValue194 }
theorem Tryz.Builder_Extra_156 : Builder.Extra Tryz.prog Tryz.lays156_ren := {
  sizeBuilder := by kernel_rfl
  liesBuilder := by kernel_rfl
  t5 := Tryz.underlying5
  a5 := Tryz.isAgg5
  z5 := Tryz.sizeOf5
  v5 := Tryz.zeroValue5
  infoByte := by kernel_rfl
  cellsByte := by kernel_rfl
  sizeByte := by kernel_rfl
  neB5 := by decide }
open Go.RowKit in
theorem Tryz.strings_Join (bk o c : Nat) (xs : List ByteArray) (sep : ByteArray) (w : World) (hcells : ∀ (j : Nat) x, xs[j]? = some x → w.cell? ⟨bk, o + j, none⟩ = some (.string x)) (hbk : bk < w.heap.size) (hN : xs.length ≤ 140737488355328) (hcap : xs.length ≤ c) (hlen : (Lib.join (xs.map (·.data.toList)) sep.data.toList).length ≤ 140737488355328) :
 Calls Tryz.prog 38 #[.slice (some ⟨bk, o, none⟩) xs.length c, .string sep] w fun e w' => e = .returned (.string ⟨(Lib.join (xs.map (·.data.toList)) sep.data.toList).toArray⟩) ∧ Below w.heap.size w w' := Any.strings_Join Tryz.lays156 Tryz.Builder_Extra_156 bk o c xs sep w hcells hbk hN hcap hlen
def Tryz.lays137_ren : Go.Shelf.Ren := ⟨fun | 137 => 54 | 217 => 90 | 266 => 126 | n => n, fun | 9 => 9 | 5 => 5 | 3 => 3 | n => n, fun | n => n⟩
theorem Tryz.lays137 : Go.Proofs.Lays.n137 Tryz.prog Tryz.lays137_ren := {
  mixed := by kernel_rfl
  f137 := Tryz.func54.trans (congrArg some (by kernel_rfl))
  f217 := Tryz.func90.trans (congrArg some (by kernel_rfl))
  f266 := Tryz.func126.trans (congrArg some (by kernel_rfl))
  t3 := Tryz.underlying3
  a3 := Tryz.isAgg3
  z3 := Tryz.sizeOf3
  v3 := Tryz.zeroValue3
  t5 := Tryz.underlying5
  a5 := Tryz.isAgg5
  z5 := Tryz.sizeOf5
  v5 := Tryz.zeroValue5
  t9 := Tryz.underlying9
  a9 := Tryz.isAgg9
  z9 := Tryz.sizeOf9
  v9 := Tryz.zeroValue9 }
open Go.RowKit in
theorem Tryz.strings_IndexByte (s : ByteArray) (c : Int) (w : World) :
 Calls Tryz.prog 54 #[.string s, .int .u8 c] w fun e w' => e = .returned (.int .i64 (Lib.indexByte s.data.toList c.toNat.toUInt8)) ∧ w' = w := Any.strings_IndexByte Tryz.lays137 s c w
def Tryz.lays145_ren : Go.Shelf.Ren := ⟨fun | 145 => 35 | 220 => 77 | 219 => 107 | 217 => 90 | 225 => 139 | 224 => 140 | 267 => 141 | 266 => 126 | 314 => 168 | n => n, fun | 9 => 9 | 4 => 4 | 59 => 92 | 3 => 3 | 5 => 5 | 46 => 130 | 146 => 214 | 51 => 154 | n => n, fun | 1 => 1 | n => n⟩
theorem Tryz.lays145 : Go.Proofs.Lays.n145 Tryz.prog Tryz.lays145_ren := {
  mixed := by kernel_rfl
  f145 := Tryz.func35.trans (congrArg some (by kernel_rfl))
  f217 := Tryz.func90.trans (congrArg some (by kernel_rfl))
  f219 := Tryz.func107.trans (congrArg some (by kernel_rfl))
  f220 := Tryz.func77.trans (congrArg some (by kernel_rfl))
  f224 := Tryz.func140.trans (congrArg some (by kernel_rfl))
  f225 := Tryz.func139.trans (congrArg some (by kernel_rfl))
  f266 := Tryz.func126.trans (congrArg some (by kernel_rfl))
  f267 := Tryz.func141.trans (congrArg some (by kernel_rfl))
  f314 := Tryz.func168.trans (congrArg some (by kernel_rfl))
  t3 := Tryz.underlying3
  a3 := Tryz.isAgg3
  z3 := Tryz.sizeOf3
  v3 := Tryz.zeroValue3
  t4 := Tryz.underlying4
  a4 := Tryz.isAgg4
  z4 := Tryz.sizeOf4
  v4 := Tryz.zeroValue4
  t5 := Tryz.underlying5
  a5 := Tryz.isAgg5
  z5 := Tryz.sizeOf5
  v5 := Tryz.zeroValue5
  t9 := Tryz.underlying9
  a9 := Tryz.isAgg9
  z9 := Tryz.sizeOf9
  v9 := Tryz.zeroValue9
  t46 := Tryz.underlying130
  a46 := Tryz.isAgg130
  z46 := Tryz.sizeOf130
  v46 := Tryz.zeroValue130
  t51 := Tryz.underlying154
  a51 := Tryz.isAgg154
  z51 := Tryz.sizeOf154
  v51 := Tryz.zeroValue154
  t59 := Tryz.underlying92
  a59 := Tryz.isAgg92
  z59 := Tryz.sizeOf92
  v59 := Tryz.zeroValue92
  t146 := Tryz.underlying214
  a146 := Tryz.isAgg214
  z146 := Tryz.sizeOf214
  v146 := Tryz.zeroValue214
  g1 := by kernel_rfl }
open Go.RowKit Go.Lib in
theorem Tryz.strings_Cut (s sep : ByteArray) (m : Int) (w : World) (hs : s.size < 4294967281) (hm : w.cell? ⟨1, 0, none⟩ = some (.int .i64 m)) :
 Calls Tryz.prog 35 #[.string s, .string sep] w fun e w' => e = .returned (.tuple #[.string ⟨(Lib.cut s.data.toList sep.data.toList).1.toArray⟩, .string ⟨(Lib.cut s.data.toList sep.data.toList).2.1.toArray⟩, .bool (Lib.cut s.data.toList sep.data.toList).2.2]) ∧ ∃ n, w' = w.drewN n := Any.strings_Cut Tryz.lays145 s sep m w hs hm
def Tryz.laysM145_ren : Go.Shelf.Ren := ⟨fun | 145 => 35 | 220 => 77 | 219 => 107 | 217 => 90 | 225 => 139 | 224 => 140 | 267 => 141 | 266 => 126 | 314 => 168 | n => n, fun | 9 => 9 | 4 => 4 | 59 => 92 | 3 => 3 | 5 => 5 | 46 => 130 | 146 => 214 | 51 => 154 | n => n, fun | 1 => 1 | n => n⟩
theorem Tryz.laysM145 : Go.Proofs.LaysM.n145 Tryz.prog Tryz.laysM145_ren := {
  mixed := by kernel_rfl
  f145 := Tryz.func35.trans (congrArg some (by kernel_rfl))
  f217 := Tryz.func90.trans (congrArg some (by kernel_rfl))
  f219 := Tryz.func107.trans (congrArg some (by kernel_rfl))
  f220 := Tryz.func77.trans (congrArg some (by kernel_rfl))
  f224 := Tryz.func140.trans (congrArg some (by kernel_rfl))
  f225 := Tryz.func139.trans (congrArg some (by kernel_rfl))
  f266 := Tryz.func126.trans (congrArg some (by kernel_rfl))
  f267 := Tryz.func141.trans (congrArg some (by kernel_rfl))
  f314 := Tryz.func168.trans (congrArg some (by kernel_rfl))
  t3 := Tryz.underlying3
  a3 := Tryz.isAgg3
  z3 := Tryz.sizeOf3
  v3 := Tryz.zeroValue3
  t4 := Tryz.underlying4
  a4 := Tryz.isAgg4
  z4 := Tryz.sizeOf4
  v4 := Tryz.zeroValue4
  t5 := Tryz.underlying5
  a5 := Tryz.isAgg5
  z5 := Tryz.sizeOf5
  v5 := Tryz.zeroValue5
  t9 := Tryz.underlying9
  a9 := Tryz.isAgg9
  z9 := Tryz.sizeOf9
  v9 := Tryz.zeroValue9
  t46 := Tryz.underlying130
  a46 := Tryz.isAgg130
  z46 := Tryz.sizeOf130
  v46 := Tryz.zeroValue130
  t51 := Tryz.underlying154
  a51 := Tryz.isAgg154
  z51 := Tryz.sizeOf154
  v51 := Tryz.zeroValue154
  t59 := Tryz.underlying92
  a59 := Tryz.isAgg92
  z59 := Tryz.sizeOf92
  v59 := Tryz.zeroValue92
  t146 := Tryz.underlying214
  a146 := Tryz.isAgg214
  z146 := Tryz.sizeOf214
  v146 := Tryz.zeroValue214
  g1 := by kernel_rfl
  i3 := by kernel_rfl
  i4 := by kernel_rfl
  i5 := by kernel_rfl
  i9 := by kernel_rfl
  i46 := by kernel_rfl
  i51 := by kernel_rfl
  i59 := by kernel_rfl
  i146 := by kernel_rfl
  m1 := by kernel_rfl
  s1_3 := fun w h => Go.Proofs.cell_of_shapedOpen_int (zero := #[.int .i64 0]) (t := 3) h (of_decide_eq_true (by kernel_rfl)) (by kernel_rfl) rfl (by kernel_rfl) (by kernel_rfl) Tryz.underlying3 }
def Tryz.lays99_ren : Go.Shelf.Ren := ⟨fun | 99 => 125 | 206 => 127 | n => n, fun | 9 => 9 | 4 => 4 | 3 => 3 | n => n, fun | n => n⟩
theorem Tryz.lays99 : Go.Proofs.Lays.n99 Tryz.prog Tryz.lays99_ren := {
  mixed := by kernel_rfl
  f99 := Tryz.func125.trans (congrArg some (by kernel_rfl))
  f206 := Tryz.func127.trans (congrArg some (by kernel_rfl))
  t3 := Tryz.underlying3
  a3 := Tryz.isAgg3
  z3 := Tryz.sizeOf3
  v3 := Tryz.zeroValue3
  t4 := Tryz.underlying4
  a4 := Tryz.isAgg4
  z4 := Tryz.sizeOf4
  v4 := Tryz.zeroValue4
  t9 := Tryz.underlying9
  a9 := Tryz.isAgg9
  z9 := Tryz.sizeOf9
  v9 := Tryz.zeroValue9 }
open Go.RowKit Go.Lib in
theorem Tryz.strings_HasPrefix (s p : ByteArray) (w : World) :
 Calls Tryz.prog 125 #[.string s, .string p] w fun e w' => e = .returned (.bool (Lib.hasPrefix s.data.toList p.data.toList)) ∧ w' = w := Any.strings_HasPrefix Tryz.lays99 s p w
def Tryz.lays146_ren : Go.Shelf.Ren := ⟨fun | 146 => 37 | 221 => 80 | 268 => 108 | 138 => 109 | 143 => 110 | 195 => 142 | 197 => 143 | 218 => 144 | 219 => 107 | 260 => 169 | 217 => 90 | 225 => 139 | 224 => 140 | 267 => 141 | 266 => 126 | 314 => 168 | n => n, fun | 9 => 9 | 31 => 48 | 3 => 3 | 4 => 4 | 0 => 0 | 105 => 192 | 21 => 21 | 5 => 5 | 46 => 130 | 119 => 228 | 139 => 231 | 138 => 230 | 146 => 214 | 51 => 154 | n => n, fun | 1 => 1 | 3 => 5 | 4 => 6 | n => n⟩
theorem Tryz.lays146 : Go.Proofs.Lays.n146 Tryz.prog Tryz.lays146_ren := {
  mixed := by kernel_rfl
  f138 := Tryz.func109.trans (congrArg some (by kernel_rfl))
  f143 := Tryz.func110.trans (congrArg some (by kernel_rfl))
  f146 := Tryz.func37.trans (congrArg some (by kernel_rfl))
  f195 := Tryz.func142.trans (congrArg some (by kernel_rfl))
  f197 := Tryz.func143.trans (congrArg some (by kernel_rfl))
  f217 := Tryz.func90.trans (congrArg some (by kernel_rfl))
  f218 := Tryz.func144.trans (congrArg some (by kernel_rfl))
  f219 := Tryz.func107.trans (congrArg some (by kernel_rfl))
  f221 := Tryz.func80.trans (congrArg some (by kernel_rfl))
  f224 := Tryz.func140.trans (congrArg some (by kernel_rfl))
  f225 := Tryz.func139.trans (congrArg some (by kernel_rfl))
  f260 := Tryz.func169.trans (congrArg some (by kernel_rfl))
  f266 := Tryz.func126.trans (congrArg some (by kernel_rfl))
  f267 := Tryz.func141.trans (congrArg some (by kernel_rfl))
  f268 := Tryz.func108.trans (congrArg some (by kernel_rfl))
  f314 := Tryz.func168.trans (congrArg some (by kernel_rfl))
  t0 := Tryz.underlying0
  a0 := Tryz.isAgg0
  z0 := Tryz.sizeOf0
  v0 := Tryz.zeroValue0
  t3 := Tryz.underlying3
  a3 := Tryz.isAgg3
  z3 := Tryz.sizeOf3
  v3 := Tryz.zeroValue3
  t4 := Tryz.underlying4
  a4 := Tryz.isAgg4
  z4 := Tryz.sizeOf4
  v4 := Tryz.zeroValue4
  t5 := Tryz.underlying5
  a5 := Tryz.isAgg5
  z5 := Tryz.sizeOf5
  v5 := Tryz.zeroValue5
  t9 := Tryz.underlying9
  a9 := Tryz.isAgg9
  z9 := Tryz.sizeOf9
  v9 := Tryz.zeroValue9
  t21 := Tryz.underlying21
  a21 := Tryz.isAgg21
  z21 := Tryz.sizeOf21
  v21 := Tryz.zeroValue21
  t31 := Tryz.underlying48
  a31 := Tryz.isAgg48
  z31 := Tryz.sizeOf48
  v31 := Tryz.zeroValue48
  t46 := Tryz.underlying130
  a46 := Tryz.isAgg130
  z46 := Tryz.sizeOf130
  v46 := Tryz.zeroValue130
  t51 := Tryz.underlying154
  a51 := Tryz.isAgg154
  z51 := Tryz.sizeOf154
  v51 := Tryz.zeroValue154
  t105 := Tryz.underlying192
  a105 := Tryz.isAgg192
  z105 := Tryz.sizeOf192
  v105 := Tryz.zeroValue192
  t119 := Tryz.underlying228
  a119 := Tryz.isAgg228
  z119 := Tryz.sizeOf228
  t138 := Tryz.underlying230
  a138 := Tryz.isAgg230
  z138 := Tryz.sizeOf230
  v138 := Tryz.zeroValue230
  t139 := Tryz.underlying231
  a139 := Tryz.isAgg231
  z139 := Tryz.sizeOf231
  v139 := Tryz.zeroValue231
  t146 := Tryz.underlying214
  a146 := Tryz.isAgg214
  z146 := Tryz.sizeOf214
  v146 := Tryz.zeroValue214
  g1 := by kernel_rfl
  g3 := by kernel_rfl
  g4 := by kernel_rfl }
open Go.RowKit Go.Lib in
theorem Tryz.strings_Split (s sep : ByteArray) (m : Int) (w : World) (hs : s.size < 4294967281) (hm : w.cell? ⟨1, 0, none⟩ = some (.int .i64 m)) (h1 : 1 ≤ sep.size) :
 Calls Tryz.prog 37 #[.string s, .string sep] w fun e w' =>
  e = .returned (.slice (some ⟨w.heap.size, 0, none⟩) (Lib.countB s sep + 1) (Lib.countB s sep + 1)) ∧ w' = w.alloc (.cells ((Lib.splitB sep 0 (Lib.countB s sep) s).map Value.string).toArray 9) := Any.strings_Split Tryz.lays146 (by kernel_rfl) s sep m w hs hm h1
end Go.Proofs
end

section
namespace Go.Proofs.YtpkhbhdidkkebaaGreatDoor
open Go.RowKit

/-- The variable MaxLen of the library holds some int. -/
structure Ready (w : World) : Prop where
 lt : 1 < w.heap.size
 cell : ∃ m, w.cell? ⟨1, 0, none⟩ = some (.int .i64 m)

theorem Ready.below {w w' : World} (h : Ready w) (hb : Below w.heap.size w w') : Ready w' :=
 ⟨Nat.lt_of_lt_of_le h.lt hb.size, by obtain ⟨m, hm⟩ := h.cell; exact ⟨m, by rw [hb.cell (p := ⟨_, 0, none⟩) h.lt]; exact hm⟩⟩

/-- From the number k on the cells of block b hold the strings xs. -/
def CellsAt (w : World) (b o : Nat) (xs : List Bs) : Prop := ∀ (k : Nat) x, xs[k]? = some x → w.cell? ⟨b, o + k, none⟩ = some (.string ⟨x.toArray⟩)

theorem CellsAt.below {w w' : World} {B b o : Nat} {xs : List Bs} (h : CellsAt w b o xs) (hb : Below B w w') (hB : b < B) : CellsAt w' b o xs :=
 fun k x hx => by rw [hb.cell (p := ⟨b, o + k, none⟩) hB]; exact h k x hx

/-- A new slice of strings, read to its end. -/
def NewStrs (w : World) (xs : List Bs) (e : Ending) (w' : World) : Prop :=
 ∃ b c : Nat, e = .returned (.slice (some ⟨b, 0, none⟩) xs.length c) ∧ xs.length ≤ c ∧ w.heap.size ≤ b ∧ b < w'.heap.size ∧ CellsAt w' b 0 xs ∧ Below w.heap.size w w'

/-- A byte of a string, in the words of its list. -/
theorem ba_get (l : Bs) (k : Nat) (h : k < (⟨l.toArray⟩ : ByteArray).size) : (⟨l.toArray⟩ : ByteArray)[k]'h = l[k]'h := rfl
theorem ba_append (a b : Bs) : (⟨a.toArray⟩ : ByteArray) ++ (⟨b.toArray⟩ : ByteArray) = ⟨(a ++ b).toArray⟩ := by
 apply ByteArray.ext
 simp
theorem ba_ext {a b : ByteArray} (h : a.data.toList = b.data.toList) : a = b := by
 apply ByteArray.ext
 rw [← Array.toList_inj]
 exact h
/-- A piece of a string, in the words of its list. -/
theorem ba_extract (l : Bs) (a b : Nat) : (⟨l.toArray⟩ : ByteArray).extract a b = ⟨((l.drop a).take (b - a)).toArray⟩ :=
 ba_ext (by rw [Lib.extract_data])
theorem ba_extract_end (l : Bs) (a : Nat) : (⟨l.toArray⟩ : ByteArray).extract a l.length = ⟨(l.drop a).toArray⟩ :=
 ba_ext (by rw [Lib.extract_data]; exact List.take_of_length_le (by simp))
theorem ba_extract_zero (l : Bs) (b : Nat) : (⟨l.toArray⟩ : ByteArray).extract 0 b = ⟨(l.take b).toArray⟩ :=
 ba_ext (by rw [Lib.extract_data]; simp)
theorem take_one {α : Type} (l : List α) (k : Nat) (h : k < l.length) : (l.drop k).take 1 = [l[k]] := by
 rw [Pl.drop_cons h]; rfl
theorem size_str (l : Bs) : (⟨l.toArray⟩ : ByteArray).size = l.length := rfl
theorem and15 (m : Nat) (h : m ≤ 255) : bits .and .u8 (m : Int) 15 = (m : Int) % 16 := by
 have h2 : ∀ d : Fin 256, bits .and .u8 (d.val : Int) 15 = (d.val : Int) % 16 := by decide +kernel
 exact h2 ⟨m, by omega⟩

/-- A contract that leaves the world alone, inside a region that draws its order. -/
theorem quiet_eq {P : Program} {f : FuncId} {args : Array Value} {w : World} {n : Nat} {v : Value}
    (h : Calls P f args (w.drewN n) fun e w' => e = .returned v ∧ w.drewN n = w') : Calls P f args (w.drewN n) fun e w'' => e = .returned v ∧ ∃ m, w'' = w.drewN m :=
 h.mono fun _ _ h => ⟨h.1, n, h.2.symm⟩

/-- string([]byte{n}) -/
theorem conv_one (w : World) (n : Int) : (convert 45 9 (.slice (some ⟨w.heap.size, 0, none⟩) 1 1)).run Tryz.prog (w.alloc (.cells #[.int .u8 n] 5)) = .ok (.string ⟨[UInt8.ofNat n.toNat].toArray⟩) (w.alloc (.cells #[.int .u8 n] 5)) := by
 rw [run_convert_bytes_string _ 45 9 5 _ _ _ Tryz.underlying45 Tryz.underlying5 Tryz.underlying9]
 have hl := run_loadCells_list (P := Tryz.prog) (w.alloc (.cells #[.int .u8 n] 5)) ⟨w.heap.size, 0, none⟩ ([n].map (Value.int .u8)) (fun j v hj => by
  have hj' : j = 0 := by
   have := (List.getElem?_eq_some_iff.1 hj).1
   simp at this; exact this
  subst hj'
  simp at hj
  subst hj
  show (w.alloc _).cell? ⟨w.heap.size, 0, none⟩ = _
  unfold World.cell?
  rw [heap_alloc_new]
  rfl)
 exact run_bytesToString _ ⟨w.heap.size, 0, none⟩ 1 1 [n] hl

theorem conv_one_drewN (w : World) (n : Int) (q : Nat) : (convert 45 9 (.slice (some ⟨w.heap.size, 0, none⟩) 1 1)).run Tryz.prog ((w.drewN q).alloc (.cells #[.int .u8 n] 5)) = .ok (.string ⟨[UInt8.ofNat n.toNat].toArray⟩) ((w.drewN q).alloc (.cells #[.int .u8 n] 5)) :=
 conv_one (w.drewN q) n

theorem split_any (l : Bs) (c : UInt8) (w : World) (hl : l.length ≤ 2147483648) (hr : Ready w) :
 Calls Tryz.prog 37 #[.string ⟨l.toArray⟩, .string ⟨#[c]⟩] w (NewStrs w (Pl.splitOn c l)) := by
 obtain ⟨m, hm⟩ := hr.cell
 refine (Tryz.strings_Split ⟨l.toArray⟩ ⟨#[c]⟩ m w (by rw [size_str]; omega) hm (Nat.le_refl 1)).mono fun e w' h => ?_
 obtain ⟨rfl, rfl⟩ := h
 obtain ⟨h1, h2⟩ := Pl.split_str c l
 rw [h1, h2]
 refine ⟨w.heap.size, _, rfl, Nat.le_refl _, Nat.le_refl _, by simp, ?_, (Below.refl _ _).alloc (Nat.le_refl _) _⟩
 intro k x hx
 have h3 : (w.alloc (.cells ((Pl.splitOn c l).map str).toArray 9)).cell? ⟨w.heap.size, 0 + k, none⟩ = (((Pl.splitOn c l).map str).toArray)[k]? := by
  unfold World.cell?
  rw [heap_alloc_new]
  simp
 rw [h3]
 simp [hx]

theorem cut_any (l : Bs) (c : UInt8) (w : World) (hl : l.length ≤ 2147483648) (hr : Ready w) :
 Calls Tryz.prog 35 #[.string ⟨l.toArray⟩, .string ⟨#[c]⟩] w fun e w' => e = .returned (.tuple #[.string ⟨(Pl.cutAt c l).1.toArray⟩, .string ⟨(Pl.cutAt c l).2.1.toArray⟩, .bool (Pl.cutAt c l).2.2]) ∧ Below w.heap.size w w' := by
 obtain ⟨m, hm⟩ := hr.cell
 refine (Tryz.strings_Cut ⟨l.toArray⟩ ⟨#[c]⟩ m w (by rw [size_str]; omega) hm).mono fun e w' h => ?_
 obtain ⟨rfl, n, rfl⟩ := h
 rw [← Pl.cut_eq]
 exact ⟨rfl, below_drewN (Below.refl _ _) n⟩

theorem join_any (b c : Nat) (xs : List Bs) (sep : Bs) (w : World) (hc : CellsAt w b 0 xs) (hb : b < w.heap.size) (hN : xs.length ≤ 2147483648) (hcap : xs.length ≤ c) (hlen : (Lib.join xs sep).length ≤ 140737488355328) :
 Calls Tryz.prog 38 #[.slice (some ⟨b, 0, none⟩) xs.length c, .string ⟨sep.toArray⟩] w fun e w' => e = .returned (.string ⟨(Lib.join xs sep).toArray⟩) ∧ Below w.heap.size w w' := by
 have e1 : (xs.map fun x : Bs => (⟨x.toArray⟩ : ByteArray)).map (·.data.toList) = xs := by rw [List.map_map]; simp [Function.comp_def]
 have h := Tryz.strings_Join b 0 c (xs.map fun x : Bs => (⟨x.toArray⟩ : ByteArray)) ⟨sep.toArray⟩ w (fun j x hx => by
  simp only [List.getElem?_map, Option.map_eq_some_iff] at hx
  obtain ⟨y, hy, rfl⟩ := hx
  exact hc j y hy) hb (by rw [List.length_map]; omega) (by rw [List.length_map]; exact hcap) (by rw [e1]; exact hlen)
 rw [e1, List.length_map] at h
 exact h

theorem indexByte_any (l : Bs) (c : UInt8) (w : World) :
 Calls Tryz.prog 54 #[.string ⟨l.toArray⟩, .int .u8 (c.toNat : Int)] w fun e w' => e = .returned (.int .i64 (Lib.indexByte l c)) ∧ w = w' :=
 (Tryz.strings_IndexByte ⟨l.toArray⟩ (c.toNat : Int) w).mono fun _ _ h => ⟨by rw [h.1]; simp, h.2.symm⟩

theorem hasPrefix_any (l p : Bs) (w : World) :
 Calls Tryz.prog 125 #[.string ⟨l.toArray⟩, .string ⟨p.toArray⟩] w fun e w' => e = .returned (.bool (Lib.hasPrefix l p)) ∧ w = w' :=
 (Tryz.strings_HasPrefix ⟨l.toArray⟩ ⟨p.toArray⟩ w).mono fun _ _ h => ⟨h.1, h.2.symm⟩

end Go.Proofs.YtpkhbhdidkkebaaGreatDoor
end

section
namespace Go.Proofs.YtpkhbhdidkkebaaGreatDoor.Fr
open Go.ChangeShapes Go.WideShapes Go.ChangeAt Go.RowKit

theorem own : ownKnob Tryz.prog.godebug = none := by kernel_rfl

theorem ready {W : World} (h : W.ShapedOpen Tryz.prog) : Ready W := by
 obtain ⟨m, hm⟩ := Tryz.laysM145.s1_3 W h
 refine ⟨?_, m, hm⟩
 have h2 : W.cell? ⟨1, 0, none⟩ = some (.int .i64 m) := hm
 unfold World.cell? at h2
 split at h2
 ·rename_i h3; exact (Array.getElem?_eq_some_iff.1 h3).1
 ·cases h2

def firstCells : Array Value := (Go.Pinned.utf8FirstZ.map fun n : Nat => Value.int .u8 (n : Int)).toArray
def holds (C : Array Value) : Obj → Obj
  | .cells _ t frozen => .cells C t frozen
  | o => o
/-- Every argument reads behind the call as it read before. -/
theorem trodAll_below {P : Program} (hl : laidOutB P = true) {H : Type} {enc : TypeId × Value → H} {W W' : World} : ∀ (ts : List TypeId), (ts.all fun t => P.readableRec t && decide (t < P.types.size)) = true → ∀ {vs : List Value} {ds : List (DataW H)} {p : List MemPlace},
    DataW.TrodAll enc P W 0 (fun _ => true) true ts vs ds p → Below W.heap.size W W' → (∀ x ∈ p, x.block < W.heap.size) → DataW.TrodAll enc P W' 0 (fun b => decide (b < W.heap.size)) true ts vs ds p
  | [], _, vs, ds, p, h, _, _ => by
    obtain ⟨rfl, rfl, rfl⟩ := trodAll_nil h
    exact trodAll_mk0
  | t :: ts, hr, vs, ds, p, h, hb, hlt => by
    obtain ⟨v0, vs0, d0, ds0, p0, q0, rfl, rfl, rfl, h0, r0⟩ := trodAll_cons h
    rw [List.all_cons, Bool.and_eq_true, Bool.and_eq_true, decide_eq_true_eq] at hr
    exact trodAll_cons_mk (Below.trod hl hr.1.1 hr.1.2 h0 hb (fun x hx => hlt x (List.mem_append_left _ hx))) (trodAll_below hl ts hr.2 r0 hb fun x hx => hlt x (List.mem_append_right _ hx))
end Go.Proofs.YtpkhbhdidkkebaaGreatDoor.Fr
end

section
namespace Go.Proofs.YtpkhbhdidkkebaaGreatDoor
namespace Ad
/-- A key of a tenant. -/
structure KeyM where
 id : Bs
 sec : Bs
 frm : Int
 til : Int
 rev : Int
def clipK (n : Int) : Int := max 0 (min n 1099511627776)
theorem clipK_lo (n : Int) : 0 ≤ clipK n := by unfold clipK; omega
def idc (b : UInt8) : Bool := (97 ≤ b.toNat && b.toNat ≤ 122) || (65 ≤ b.toNat && b.toNat ≤ 90) || (48 ≤ b.toNat && b.toNat ≤ 57)
def idOk (s : Bs) : Bool := s.all idc && decide (1 ≤ s.length) && decide (s.length ≤ 16)
def KeyM.at (k : KeyM) (now : Int) : Bool := decide (k.frm ≤ now) && decide (now < k.til) && decide (now < k.rev)
def betterK (a b : KeyM) : Bool := decide (b.frm < a.frm) || (decide (a.frm = b.frm) && Op.bytesLess a.id b.id)
/-- The best of those of the first k elements that p takes. -/
def pickI {α : Type} (p : α → Bool) (bt : α → α → Bool) (l : List α) : Nat → Option Nat
  | 0 => none
  | k + 1 => match l[k]? with
    | none => pickI p bt l k
    | some e => if p e then (match pickI p bt l k with
     | none => some k
     | some j => match l[j]? with
       | some o => if bt e o then some k else some j
       | none => some j)
     else pickI p bt l k
section
variable {α : Type} {p : α → Bool} {bt : α → α → Bool} {l : List α}
theorem pickI_not {k : Nat} {e : α} (h : l[k]? = some e) (hp : p e = false) : pickI p bt l (k + 1) = pickI p bt l k := by
 rw [pickI, h]; simp [hp]
theorem pickI_first {k : Nat} {e : α} (h : l[k]? = some e) (hp : p e = true) (h0 : pickI p bt l k = none) : pickI p bt l (k + 1) = some k := by
 rw [pickI, h]; simp [hp, h0]
theorem pickI_yes {k j : Nat} {e o : α} (h : l[k]? = some e) (hp : p e = true) (h0 : pickI p bt l k = some j) (ho : l[j]? = some o) (hb : bt e o = true) : pickI p bt l (k + 1) = some k := by
 rw [pickI, h]; simp [hp, h0, ho, hb]
theorem pickI_no {k j : Nat} {e o : α} (h : l[k]? = some e) (hp : p e = true) (h0 : pickI p bt l k = some j) (ho : l[j]? = some o) (hb : bt e o = false) : pickI p bt l (k + 1) = some j := by
 rw [pickI, h]; simp [hp, h0, ho, hb]
theorem pickI_lt : ∀ {k j : Nat}, pickI p bt l k = some j → j < k ∧ ∃ o, l[j]? = some o ∧ p o = true
  | 0, j, h => by cases h
  | k + 1, j, h => by
    rw [pickI] at h
    cases hk : l[k]? with
    | none =>
      rw [hk] at h
      have := pickI_lt (k := k) h
      exact ⟨by omega, this.2⟩
    | some e =>
      rw [hk] at h
      simp only at h
      by_cases hp : p e = true
      ·rw [if_pos hp] at h
       cases h0 : pickI p bt l k with
       | none => rw [h0] at h; cases h; exact ⟨by omega, e, hk, hp⟩
       | some i =>
         rw [h0] at h
         have hi := pickI_lt (k := k) h0
         obtain ⟨hik, o, ho, hpo⟩ := hi
         simp only [ho] at h
         by_cases hb : bt e o = true
         ·rw [if_pos hb] at h; cases h; exact ⟨by omega, e, hk, hp⟩
         ·rw [if_neg hb] at h; cases h; exact ⟨by omega, o, ho, hpo⟩
      ·rw [if_neg hp] at h
       have := pickI_lt (k := k) h
       exact ⟨by omega, this.2⟩
end
/-- The key with which a tenant signs. -/
def signI (l : List KeyM) (now : Int) : Option Nat := pickI (fun k => k.at now) betterK l l.length
def hasId (l : List KeyM) (id : Bs) : Bool := l.any fun k => k.id == id
def rngK (t : Int) (k : KeyM) : Bool := decide (t < 0) || decide (16 ≤ t) || decide (k.sec.length < 16) || decide (64 < k.sec.length) || !(k.frm == clipK k.frm) || !(k.til == clipK k.til)
/-- The error of an Add. -/
def addC (t : Int) (l : List KeyM) (k : KeyM) : Int :=
 if idOk k.id = false then 8 else if rngK t k = true then 1 else if k.til ≤ k.frm then 7 else if hasId l k.id = true then 4 else 0
def newK (k : KeyM) : KeyM := { k with rev := 1099511627777 }
def addL (t : Int) (l : List KeyM) (k : KeyM) : List KeyM := if addC t l k = 0 then l ++ [newK k] else l
def revC (l : List KeyM) (id : Bs) : Int := if hasId l id = true then 0 else 3
def revK (x : Int) (k : KeyM) : KeyM := { k with rev := min k.rev (clipK x) }
def revL (l : List KeyM) (id : Bs) (x : Int) : List KeyM := l.modify (l.findIdx fun k => k.id == id) (revK x)
def validL (l : List KeyM) (id : Bs) (now : Int) : Bool := match l.find? fun k => k.id == id with
 | none => false
 | some k => k.at now
end Ad
end Go.Proofs.YtpkhbhdidkkebaaGreatDoor
end

section
namespace Go.Proofs.YtpkhbhdidkkebaaGreatDoor
open Go.RowKit

/-- What a slice type's tables say. -/
structure SliceTy (P : Program) (T e : TypeId) (size bytes : Nat) : Prop where
 under : P.underlying T = some (.slice e)
 info : ∃ i z, P.info? e = some i ∧ i.zero = some z ∧ i.size = size ∧ i.bytes = bytes ∧ z.cells.size = size
 pos : 0 < size
 small : bytes ≤ 64

/-- A new block is a slice's whole memory. -/
def BlockIs (w : World) (g : Nat) (e : TypeId) (C : List Value) : Prop := ∃ fr, w.heap[g]? = some (.cells C.toArray e fr)

section
variable {P : Program} {T e : TypeId} {size bytes : Nat} (ty : SliceTy P T e size bytes)
include ty

theorem wp_app {o : Oper} {a : Act} {w : World} {K : Act → World → Prop} {Q : Exit → Act → World → Prop} (s x : Operand)
    (ho : o.op = .call { callee := .builtin .append, args := #[s, x], argTypes := #[T, T] })
    (W : World) (B B0 : Nat) (v : Value) (n : Nat) (xs : List Value) (hs : a.eval s = v) (hown : w.ownsRow B e size v n xs) (hb : Below B0 W w) (hB : B ≤ w.heap.size) (hBB : B0 ≤ B)
    (g m c : Nat) (C : List Value) (hx : a.eval x = .slice (some ⟨g, 0, none⟩) m c) (hC : BlockIs w g e C) (hl : C.length = m * size) (h1 : ∀ u ∈ C, u.oneCell' = true)
    (hn : n + m ≤ 1099511627776)
    (h : ∀ v' w', w'.ownsRow B e size v' (n + m) (xs ++ C) → Below B0 W w' → w.grownBy w' v.ownBlock → K (a.put o.dst v') w') : o.wp P a w K Q := by
 obtain ⟨i, z, hi, hz, hsize, hby, hzs⟩ := ty.info
 obtain ⟨fr, hC⟩ := hC
 have hsm := ty.small
 refine wp_append_own w s x T ho B e i z size bytes ty.under hi hz hsize hby hzs ty.pos v n xs hs hown ⟨g, 0, none⟩ m c C hx hl (fun j u hu => ?_) h1 (by unfold maxLen; omega) ?_ hB (fun v' w' h2 h3 _ => h v' w' h2 (hb.trans ?_) h3)
 ·have hadd : (⟨g, 0, none⟩ : Addr).add j = ⟨g, j, none⟩ := by unfold Addr.add; split <;> simp_all
  rw [hadd, cell_of_row w g j C.toArray e fr hC]
  simpa using hu
 ·calc (n + m) * bytes ≤ 1099511627776 * 64 := Nat.mul_le_mul hn hsm
    _ ≤ 140737488355328 := by decide
 ·exact (Below.refl B0 w).grown h3 (by omega) (fun k hk => by have := (hown.lt k hk).1; omega)

theorem wpList_app {ops : Array Oper} {rest : List Oper} {o : Oper} {a : Act} {w : World} {Q : Exit → Act → World → Prop} (hg : o.guard = none) (s x : Operand)
    (ho : o.op = .call { callee := .builtin .append, args := #[s, x], argTypes := #[T, T] })
    (W : World) (B B0 : Nat) (v : Value) (n : Nat) (xs : List Value) (hs : a.eval s = v) (hown : w.ownsRow B e size v n xs) (hb : Below B0 W w) (hB : B ≤ w.heap.size) (hBB : B0 ≤ B)
    (g m c : Nat) (C : List Value) (hx : a.eval x = .slice (some ⟨g, 0, none⟩) m c) (hC : BlockIs w g e C) (hl : C.length = m * size) (h1 : ∀ u ∈ C, u.oneCell' = true)
    (hn : n + m ≤ 1099511627776)
    (h : ∀ v' w', w'.ownsRow B e size v' (n + m) (xs ++ C) → Below B0 W w' → w.grownBy w' v.ownBlock → wpList P ops Q rest (a.put o.dst v') w') : wpList P ops Q (o :: rest) a w :=
 wpList_plain hg fun _ hK => wp_app ty s x ho W B B0 v n xs hs hown hb hB hBB g m c C hx hC hl h1 hn fun v' w' h2 h3 h4 => hK _ _ (h v' w' h2 h3 h4)

theorem step_app {ops : Array Oper} {o : Oper} {a : Act} {w : World} {K : Act → World → Prop} {Q : Exit → Act → World → Prop} {E : Prop} (hgd : o.guard = none) (s x : Operand)
    (ho : o.op = .call { callee := .builtin .append, args := #[s, x], argTypes := #[T, T] })
    (W : World) (B B0 : Nat) (v : Value) (n : Nat) (xs : List Value) (hs : a.eval s = v) (hown : w.ownsRow B e size v n xs) (hb : Below B0 W w) (hB : B ≤ w.heap.size) (hBB : B0 ≤ B)
    (g m c : Nat) (C : List Value) (hx : a.eval x = .slice (some ⟨g, 0, none⟩) m c) (hC : BlockIs w g e C) (hl : C.length = m * size) (h1 : ∀ u ∈ C, u.oneCell' = true)
    (hn : n + m ≤ 1099511627776)
    (h : ∀ v' w', w'.ownsRow B e size v' (n + m) (xs ++ C) → Below B0 W w' → w.grownBy w' v.ownBlock → K (a.put o.dst v') w') :
    if Region.wanted o (yielded ops a.tmps) = true then Oper.wp P o a w K Q else E := by
 have hw : Region.wanted o (yielded ops a.tmps) = true := by simp [Region.wanted, hgd]
 rw [if_pos hw]
 exact wp_app ty s x ho W B B0 v n xs hs hown hb hB hBB g m c C hx hC hl h1 hn h
end

theorem blockIs_new (w : World) (C : List Value) (e : TypeId) : BlockIs (w.alloc (.cells C.toArray e)) w.heap.size e C := ⟨_, heap_alloc_new w _⟩

/-- The values of a list of bytes, of a list of strings. -/
def bvals (l : Bs) : List Value := l.map fun b => .int .u8 (b.toNat : Int)
def svals (l : List Bs) : List Value := l.map str

theorem bvals_len (l : Bs) : (bvals l).length = l.length := by simp [bvals]
theorem svals_len (l : List Bs) : (svals l).length = l.length := by simp [svals]
theorem bvals_append (a b : Bs) : bvals a ++ bvals b = bvals (a ++ b) := by simp [bvals]
theorem svals_append (a b : List Bs) : svals a ++ svals b = svals (a ++ b) := by simp [svals]
theorem bvals_one (l : Bs) : ∀ u ∈ bvals l, u.oneCell' = true := by
 intro u hu
 obtain ⟨_, _, rfl⟩ := List.mem_map.1 hu
 rfl
theorem tyBytes : SliceTy Tryz.prog 45 5 1 1 :=
 ⟨Tryz.underlying45, by
  obtain ⟨i, h1, h2, h3, h4⟩ := info_parts (show (Tryz.prog.info? 5).map (fun i => (i.zero, i.size, i.bytes)) = some (some (.int .u8 0), 1, 1) by kernel_rfl)
  exact ⟨i, _, h1, h2, h3, h4, rfl⟩, by decide, by decide⟩
theorem tyStrs : SliceTy Tryz.prog 48 9 1 16 :=
 ⟨Tryz.underlying48, by
  obtain ⟨i, h1, h2, h3, h4⟩ := info_parts (show (Tryz.prog.info? 9).map (fun i => (i.zero, i.size, i.bytes)) = some (some (.string ⟨#[]⟩), 1, 16) by kernel_rfl)
  exact ⟨i, _, h1, h2, h3, h4, rfl⟩, by decide, by decide⟩

/-- string(b) of a slice of bytes of the call's own. -/
theorem conv_owned {w : World} {B n : Nat} {v : Value} (out : Bs) (h : w.ownsRow B 5 1 v n (bvals out)) : (convert 45 9 v).run Tryz.prog w = .ok (.string ⟨out.toArray⟩) w := by
 have hn : n = out.length := by have := h.1; rw [bvals_len] at this; omega
 subst hn
 rcases h.2 with ⟨rfl, h0⟩ | ⟨g, cap, cur, rfl, _, hg, hnc, _, hsz, htake⟩
 ·have : out = [] := List.eq_nil_of_length_eq_zero h0
  subst this
  rw [run_convert_bytes_string w 45 9 5 none 0 0 Tryz.underlying45 Tryz.underlying5 Tryz.underlying9]
  rfl
 ·refine run_convert_bytes_back w 45 9 5 ⟨g, 0, none⟩ cap out Tryz.underlying45 Tryz.underlying5 Tryz.underlying9 (fun j hj => ?_)
  have := h.cells (g := g) rfl j (.int .u8 (out[j].toNat : Int)) (by simp [bvals, hj])
  exact this

theorem owned_form {w : World} {B e size n : Nat} {v : Value} {xs : List Value} (h : w.ownsRow B e size v n xs) (hn : 0 < n) : ∃ g c, v = .slice (some ⟨g, 0, none⟩) n c := by
 rcases h.2 with ⟨_, h0⟩ | ⟨g, cap, _, rfl, _⟩
 ·omega
 ·exact ⟨g, cap, rfl⟩

/-- The cells of an owned slice of strings. -/
theorem cellsAt_owned {w : World} {B n g c : Nat} (l : List Bs) (h : w.ownsRow B 9 1 (.slice (some ⟨g, 0, none⟩) n c) n (svals l)) : n = l.length ∧ n ≤ c ∧ B ≤ g ∧ g < w.heap.size ∧ CellsAt w g 0 l := by
 have hn : n = l.length := by have := h.1; rw [svals_len] at this; omega
 have hlt := h.lt g rfl
 refine ⟨hn, ?_, hlt.1, hlt.2, ?_⟩
 ·rcases h.2 with ⟨h0, _⟩ | ⟨g', cap, cur, h1, _, _, hnc, _⟩
  ·cases h0
  ·cases h1; exact hnc
 ·intro k x hx
  have := h.cells (g := g) rfl k (str x) (by simp [svals, hx])
  have hadd : (⟨g, 0, none⟩ : Addr).add k = ⟨g, 0 + k, none⟩ := by unfold Addr.add; split <;> simp_all
  rw [hadd] at this
  exact this
theorem newStrs_owned {w w' : World} {v : Value} {n : Nat} (l : List Bs) (h : w'.ownsRow w.heap.size 9 1 v n (svals l)) (hl : 0 < l.length) (hb : Below w.heap.size w w') : NewStrs w l (.returned v) w' := by
 have hn : n = l.length := by have := h.1; rw [svals_len] at this; omega
 subst hn
 obtain ⟨g, c, rfl⟩ := owned_form h hl
 obtain ⟨_, h2, h3, h4, h5⟩ := cellsAt_owned l h
 exact ⟨g, c, rfl, h2, h3, h4, h5, hb⟩
end Go.Proofs.YtpkhbhdidkkebaaGreatDoor
end

