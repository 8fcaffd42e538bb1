/- Plain facts about lists of bytes: splitting at one byte, cutting, membership. No condition. -/
import Derived.Lib.Split
import Derived.Lib.Join
import Derived.Lib.Strings
import Derived.Lib.Bytealg
namespace Go.Proofs.YtbpbopjlcidefaaDoor

abbrev Bs := List UInt8
/-- A string value out of a list of bytes. -/
@[reducible] def str (l : Bs) : Value := .string ⟨l.toArray⟩

namespace Pl

theorem drop_cons {α : Type} {l : List α} {k : Nat} (h : k < l.length) : l.drop k = l[k] :: l.drop (k + 1) := by simp

theorem take_snoc {α : Type} {l : List α} {k : Nat} (h : k < l.length) : l.take (k + 1) = l.take k ++ [l[k]] := by simp

/-- The loop that splits at a byte: acc is what has been read since the last separator. -/
def splitAcc (c : UInt8) : Bs → Bs → List Bs
  | acc, [] => [acc]
  | acc, b :: t => if b = c then acc :: splitAcc c [] t else splitAcc c (acc ++ [b]) t

def splitOn (c : UInt8) (l : Bs) : List Bs := splitAcc c [] l

theorem splitAcc_miss (c : UInt8) : ∀ (acc l : Bs), c ∉ l → splitAcc c acc l = [acc ++ l]
  | acc, [], _ => by simp [splitAcc]
  | acc, b :: t, h => by
    simp only [List.mem_cons, not_or] at h
    rw [splitAcc, if_neg (fun e => h.1 e.symm), splitAcc_miss c _ t h.2]; simp

theorem splitAcc_hit (c : UInt8) : ∀ (acc p q : Bs), c ∉ p → splitAcc c acc (p ++ c :: q) = (acc ++ p) :: splitAcc c [] q
  | acc, [], q, _ => by simp [splitAcc]
  | acc, b :: t, q, h => by
    simp only [List.mem_cons, not_or] at h
    rw [List.cons_append, splitAcc, if_neg (fun e => h.1 e.symm), splitAcc_hit c _ t q h.2]; simp

theorem splitAcc_ne_nil (c : UInt8) : ∀ (acc l : Bs), splitAcc c acc l ≠ []
  | acc, [] => by simp [splitAcc]
  | acc, b :: t => by
    rw [splitAcc]; split
    · simp
    · exact splitAcc_ne_nil c _ t

theorem splitOn_ne_nil (c : UInt8) (l : Bs) : splitOn c l ≠ [] := splitAcc_ne_nil c [] l

theorem splitAcc_acc (c : UInt8) : ∀ (acc l : Bs), ∃ h r, splitAcc c [] l = h :: r ∧ splitAcc c acc l = (acc ++ h) :: r
  | acc, [] => ⟨[], [], rfl, by simp [splitAcc]⟩
  | acc, b :: t => by
    by_cases e : b = c
    · exact ⟨[], splitAcc c [] t, by simp [splitAcc, e], by simp [splitAcc, e]⟩
    · obtain ⟨h, r, h1, h2⟩ := splitAcc_acc c (acc ++ [b]) t
      obtain ⟨h', r', h1', h2'⟩ := splitAcc_acc c [b] t
      rw [h1] at h1'
      obtain ⟨rfl, rfl⟩ := List.cons.inj h1'
      exact ⟨[b] ++ h, r, by rw [splitAcc, if_neg e]; simpa using h2', by rw [splitAcc, if_neg e, h2]; simp⟩

theorem splitOn_cons_eq (c : UInt8) (t : Bs) : splitOn c (c :: t) = [] :: splitOn c t := by simp [splitOn, splitAcc]
theorem splitOn_cons_ne (c b : UInt8) (t : Bs) (h : b ≠ c) : ∃ x r, splitOn c t = x :: r ∧ splitOn c (b :: t) = (b :: x) :: r := by
  obtain ⟨x, r, h1, h2⟩ := splitAcc_acc c [b] t
  exact ⟨x, r, h1, by rw [splitOn, splitAcc, if_neg h]; simpa using h2⟩

/-- The place of a byte, as a split of the list. -/
theorem index_one (c : UInt8) : ∀ l : Bs, (Lib.index l [c] = -1 ∧ c ∉ l) ∨ ∃ p q, l = p ++ c :: q ∧ c ∉ p ∧ Lib.index l [c] = (p.length : Nat)
  | [] => .inl ⟨rfl, by simp⟩
  | b :: t => by
    by_cases e : b = c
    · subst e
      exact .inr ⟨[], t, rfl, by simp, by simp [Lib.index]⟩
    · have h0 : ([c] : Bs).isPrefixOf (b :: t) = false := by simp [List.isPrefixOf]; exact fun h => e h.symm
      rcases index_one c t with ⟨h1, h2⟩ | ⟨p, q, rfl, h2, h3⟩
      · exact .inl ⟨by unfold Lib.index; rw [h0, h1]; rfl, by simp only [List.mem_cons, not_or]; exact ⟨fun h => e h.symm, h2⟩⟩
      · refine .inr ⟨b :: p, q, rfl, by simp only [List.mem_cons, not_or]; exact ⟨fun h => e h.symm, h2⟩, ?_⟩
        unfold Lib.index
        rw [h0, h3]
        have : ¬ ((p.length : Int) == -1) = true := by simp
        simp only [Bool.false_eq_true, if_false, if_neg this, List.length_cons]
        omega

theorem indexByte_one (c : UInt8) : ∀ l : Bs, (Lib.indexByte l c = -1 ∧ c ∉ l) ∨ ∃ p q, l = p ++ c :: q ∧ c ∉ p ∧ Lib.indexByte l c = (p.length : Nat)
  | [] => .inl ⟨rfl, by simp⟩
  | b :: t => by
    by_cases e : b = c
    · subst e
      exact .inr ⟨[], t, rfl, by simp, by simp [Lib.indexByte]⟩
    · have h0 : (b == c) = false := by simpa using e
      rcases indexByte_one c t with ⟨h1, h2⟩ | ⟨p, q, rfl, h2, h3⟩
      · exact .inl ⟨by unfold Lib.indexByte; rw [h0, h1]; rfl, by simp only [List.mem_cons, not_or]; exact ⟨fun h => e h.symm, h2⟩⟩
      · refine .inr ⟨b :: p, q, rfl, by simp only [List.mem_cons, not_or]; exact ⟨fun h => e h.symm, h2⟩, ?_⟩
        unfold Lib.indexByte
        rw [h0, h3]
        have : ¬ ((p.length : Int) == -1) = true := by simp
        simp only [Bool.false_eq_true, if_false, if_neg this, List.length_cons]
        omega

theorem mem_iff_indexByte (c : UInt8) (l : Bs) : Lib.indexByte l c < 0 ↔ c ∉ l := by
  rcases indexByte_one c l with ⟨h1, h2⟩ | ⟨p, q, rfl, _, h3⟩
  · exact ⟨fun _ => h2, fun _ => by omega⟩
  · exact ⟨fun h => by omega, fun h => absurd (by simp) h⟩

/-- strings.Split at one byte, in the words of the loop. -/
theorem splitK_eq (c : UInt8) : ∀ (n : Nat) (l : Bs), l.length ≤ n → Lib.splitK [c] 0 (Lib.count l [c]) l = splitOn c l ∧ Lib.count l [c] + 1 = (splitOn c l).length
  | n, l, hn => by
    rcases index_one c l with ⟨h1, h2⟩ | ⟨p, q, rfl, h2, h3⟩
    · rw [Lib.count_miss h1, splitOn, splitAcc_miss c [] l h2]
      exact ⟨rfl, rfl⟩
    · have hd : (p ++ c :: q).drop (p.length + ([c] : Bs).length) = q := by
        simp [List.drop_append]
      have hc := Lib.count_hit (i := p.length) (sub := [c]) (s := p ++ c :: q) (by simp) h3
      rw [hd] at hc
      rw [hc, Nat.add_comm 1]
      have hl : (p ++ c :: q).length = p.length + q.length + 1 := by simp; omega
      match n, hn with
      | 0, hn => omega
      | n + 1, hn =>
        obtain ⟨i1, i2⟩ := splitK_eq c n q (by omega)
        rw [Lib.splitK, h3]
        have hne : ¬ ((p.length : Int) == -1) = true := by simp
        rw [if_neg hne]
        have e1 : ((p.length : Nat) : Int).toNat = p.length := by omega
        have e2 : splitOn c (p ++ c :: q) = p :: splitOn c q := by rw [splitOn, splitAcc_hit c [] p q h2]; rfl
        rw [e1, hd, i1, e2]
        refine ⟨by simp, ?_⟩
        simp only [List.length_cons]
        omega

theorem split_str (c : UInt8) (l : Bs) : (Lib.splitB ⟨#[c]⟩ 0 (Lib.countB ⟨l.toArray⟩ ⟨#[c]⟩) ⟨l.toArray⟩).map Value.string = (splitOn c l).map str ∧ Lib.countB ⟨l.toArray⟩ ⟨#[c]⟩ + 1 = (splitOn c l).length := by
  obtain ⟨h1, h2⟩ := splitK_eq c l.length l (Nat.le_refl _)
  refine ⟨?_, h2⟩
  rw [← h1]
  have h3 := Lib.splitB_data ⟨#[c]⟩ 0 (Lib.countB ⟨l.toArray⟩ ⟨#[c]⟩) ⟨l.toArray⟩
  show _ = List.map str (Lib.splitK (⟨#[c]⟩ : ByteArray).data.toList 0 (Lib.countB ⟨l.toArray⟩ ⟨#[c]⟩) (⟨l.toArray⟩ : ByteArray).data.toList)
  rw [← h3, List.map_map]
  rfl

/-- strings.Cut at one byte. -/
def cutAt (c : UInt8) : Bs → Bs × Bs × Bool
  | [] => ([], [], false)
  | b :: t => if b = c then ([], t, true) else (b :: (cutAt c t).1, (cutAt c t).2.1, (cutAt c t).2.2)

theorem cutAt_miss (c : UInt8) : ∀ l : Bs, c ∉ l → cutAt c l = (l, [], false)
  | [], _ => rfl
  | b :: t, h => by
    simp only [List.mem_cons, not_or] at h
    rw [cutAt, if_neg (fun e => h.1 e.symm), cutAt_miss c t h.2]
theorem cutAt_hit (c : UInt8) (q : Bs) : ∀ p : Bs, c ∉ p → cutAt c (p ++ c :: q) = (p, q, true)
  | [], _ => by simp [cutAt]
  | b :: t, h => by
    simp only [List.mem_cons, not_or] at h
    rw [List.cons_append, cutAt, if_neg (fun e => h.1 e.symm), cutAt_hit c q t h.2]

theorem cut_eq (c : UInt8) (l : Bs) : Lib.cut l [c] = cutAt c l := by
  rcases index_one c l with ⟨h1, h2⟩ | ⟨p, q, rfl, h2, h3⟩
  · rw [cutAt_miss c l h2, Lib.cut, h1]; rfl
  · rw [cutAt_hit c q p h2, Lib.cut, h3]
    simp [List.drop_append]

/-- Each byte of a list is below 256, in the walk's words. -/
theorem byte_lt (b : UInt8) : (b.toNat : Int) < 256 := by have := b.toNat_lt; omega

end Pl
end Go.Proofs.YtbpbopjlcidefaaDoor
