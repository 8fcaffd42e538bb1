/- Plain Lean: what purge.Parse computes, and that it answers as the text of a purge asks. No condition. -/
import Derived.Test.YtbnjajpencahfaaGreatDoorPurgP
import Derived.Lib.AtoiAll
import Derived.Lib.SlicesS
namespace Go.Proofs.YtbnjajpencahfaaGreatDoor.Ad
open Pl

def wordsL : List ByteArray := [⟨([] : Bs).toArray⟩, ⟨([101, 120, 97, 99, 116] : Bs).toArray⟩, ⟨([112, 114, 101, 102, 105, 120] : Bs).toArray⟩, ⟨([116, 97, 103] : Bs).toArray⟩]
/-- The place of a word among the words. -/
def kindOf (x : Bs) : Int := Lib.idxOfS wordsL ⟨x.toArray⟩
theorem kindOf_word {k : Int} (h : 1 ≤ k ∧ k ≤ 3) : kindOf (wordOf k) = k := by
  have c : k = 1 ∨ k = 2 ∨ k = 3 := by omega
  rcases c with rfl | rfl | rfl <;> decide +kernel
theorem atoi_dec {t : Int} (h : 0 ≤ t ∧ t < 16) : Lib.atoiAll (decOf t) = .ok t := by
  obtain ⟨n, rfl⟩ := Int.eq_ofNat_of_zero_le h.1
  have g : ∀ n : Fin 16, Lib.atoiAll (decOf (n.val : Int)) = .ok (n.val : Int) := by decide +kernel
  exact g ⟨n, by omega⟩
def restOf (s : Bs) : Bs := (cutAt 32 s).2.1
/-- The purge that is tried at a text whose number is n. -/
def tryP (s : Bs) (n : Int) : Pg := ⟨kindOf (cutAt 32 s).1, n, (cutAt 32 (restOf s)).2.1⟩
def parseO (s : Bs) : Option Pg := match Lib.atoiAll (cutAt 32 (restOf s)).1 with
  | .ok n => if checkN (tryP s n) = 0 ∧ fmtT (tryP s n) = s then some (tryP s n) else none
  | _ => none
theorem parse_parts {s : Bs} {p : Pg} (hc : checkN p = 0) (h : fmtT p = s) : Lib.atoiAll (cutAt 32 (restOf s)).1 = .ok p.tenant ∧ tryP s p.tenant = p := by
  obtain ⟨hk, ht, _⟩ := checkN_ok hc
  obtain ⟨k, t, v⟩ := p
  simp only at hk ht
  have h1 : cutAt 32 s = (wordOf k, decOf t ++ 32 :: v, true) := by rw [← h]; exact cutAt_hit 32 _ _ (wordOf_noblank k)
  have h2 : restOf s = decOf t ++ 32 :: v := by unfold restOf; rw [h1]
  have h3 : cutAt 32 (restOf s) = (decOf t, v, true) := by rw [h2]; exact cutAt_hit 32 _ _ (decOf_all t ht.1 ht.2).1
  refine ⟨by rw [h3]; exact atoi_dec ht, ?_⟩
  unfold tryP
  rw [h3, h1, kindOf_word hk]
theorem parseO_num {s : Bs} {n : Int} (h : Lib.atoiAll (cutAt 32 (restOf s)).1 = .ok n) : parseO s = if checkN (tryP s n) = 0 ∧ fmtT (tryP s n) = s then some (tryP s n) else none := by unfold parseO; rw [h]
theorem parseO_yes {s : Bs} {n : Int} (h : Lib.atoiAll (cutAt 32 (restOf s)).1 = .ok n) (hc : checkN (tryP s n) = 0) (hf : fmtT (tryP s n) = s) : parseO s = some (tryP s n) := by rw [parseO_num h, if_pos ⟨hc, hf⟩]
theorem parseO_no1 {s : Bs} (h : ∀ n, Lib.atoiAll (cutAt 32 (restOf s)).1 ≠ .ok n) : parseO s = none := by
  unfold parseO
  split
  · rename_i n hn; exact absurd hn (h n)
  · rfl
theorem parseO_no2 {s : Bs} {n : Int} (h : Lib.atoiAll (cutAt 32 (restOf s)).1 = .ok n) (hc : ¬ checkN (tryP s n) = 0) : parseO s = none := by rw [parseO_num h, if_neg (fun e => hc e.1)]
theorem parseO_no3 {s : Bs} {n : Int} (h : Lib.atoiAll (cutAt 32 (restOf s)).1 = .ok n) (hf : ¬ fmtT (tryP s n) = s) : parseO s = none := by rw [parseO_num h, if_neg (fun e => hf e.2)]
theorem parseO_is (s : Bs) : ParseIs s (parseO s) := by
  cases hp : parseO s with
  | some p =>
    unfold parseO at hp
    split at hp
    · split at hp
      · rename_i h
        cases hp
        exact h
      · cases hp
    · cases hp
  | none =>
    intro p hc hf
    obtain ⟨h1, h2⟩ := parse_parts hc hf
    rw [parseO_yes h1 (by rw [h2]; exact hc) (by rw [h2]; exact hf)] at hp
    cases hp
theorem parseO_fmt {p : Pg} (hc : checkN p = 0) : parseO (fmtT p) = some p := parseIs_unique (parseO_is _) ⟨hc, rfl⟩

theorem restOf_len (s : Bs) : (restOf s).length ≤ s.length := (cutAt_len 32 s).2
theorem tryP_len (s : Bs) (n : Int) : (tryP s n).value.length ≤ s.length := Nat.le_trans (cutAt_len 32 (restOf s)).2 (restOf_len s)
/-! ### the reference's search -/
def smp (k : Int) : Bs := if k = 3 then [97] else [97, 47]
theorem checkN_smp {k t : Int} (hk : 1 ≤ k ∧ k ≤ 3) (ht : 0 ≤ t ∧ t < 16) : checkN ⟨k, t, smp k⟩ = 0 := by
  refine checkN_of hk ht ?_
  by_cases h : k = 3
  · rw [valueB_tag (p := ⟨k, t, smp k⟩) h]
    show goodB (smp k) = true
    unfold smp
    rw [if_pos h]
    decide
  · rw [valueB_some (p := ⟨k, t, smp k⟩) (a := ⟨[97], [47], [], false⟩) h (by show readL (smp k) = _; unfold smp; rw [if_neg h]; exact read_root)]
    simp
/-- No purge before kind k and tenant t has the text. -/
def NoneBefore (s : Bs) (k t : Int) : Prop := ∀ p, checkN p = 0 → fmtT p = s → k < p.kind ∨ (p.kind = k ∧ t ≤ p.tenant)
theorem noneBefore_start (s : Bs) : NoneBefore s 1 0 := fun p hc _ => by
  obtain ⟨hk, ht, _⟩ := checkN_ok hc
  omega
theorem noneBefore_kind {s : Bs} {k : Int} (h : NoneBefore s k 16) : NoneBefore s (k + 1) 0 := fun p hc hf => by
  obtain ⟨hk, ht, _⟩ := checkN_ok hc
  rcases h p hc hf with h | h <;> omega
theorem noneBefore_end {s : Bs} (h : NoneBefore s 4 0) : parseO s = none := parseIs_unique (parseO_is s) (r' := none) fun p hc hf => by
  obtain ⟨hk, ht, _⟩ := checkN_ok hc
  rcases h p hc hf with h | h <;> omega
theorem noneBefore_next {s : Bs} {k t : Int} (h : NoneBefore s k t) (hno : ¬ ∃ v, checkN ⟨k, t, v⟩ = 0 ∧ s = headT k t ++ v) : NoneBefore s k (t + 1) := fun p hc hf => by
  rcases h p hc hf with h | ⟨h1, h2⟩
  · exact .inl h
  · refine .inr ⟨h1, ?_⟩
    rcases Int.lt_or_eq_of_le h2 with h3 | h3
    · omega
    · exfalso
      refine hno ⟨p.value, ?_, ?_⟩
      · rw [← h1, h3]; exact hc
      · rw [← hf, ← fmtT_head, ← h1, h3]
theorem found {s : Bs} {k t : Int} {v : Bs} (hc : checkN ⟨k, t, v⟩ = 0) (h : s = headT k t ++ v) : parseO s = some ⟨k, t, v⟩ := parseIs_unique (parseO_is s) (r' := some ⟨k, t, v⟩) ⟨hc, by rw [fmtT_head, h]⟩
theorem checkN_nil (k t : Int) : ¬ checkN ⟨k, t, []⟩ = 0 := fun h => by
  obtain ⟨_, _, h3⟩ := checkN_ok h
  by_cases hk : k = 3
  · rw [valueB_tag (p := ⟨k, t, []⟩) hk] at h3
    exact absurd h3 (show ¬ goodB [] = true by decide)
  · rw [valueB_none (p := ⟨k, t, []⟩) hk (by rfl)] at h3
    cases h3
theorem headT_smp (k t : Int) : fmtT ⟨k, t, smp k⟩ = headT k t ++ smp k := fmtT_head k t _
theorem headT_len (k t : Int) : (headT k t).length ≤ 10 := by
  have h1 : (wordOf k).length ≤ 6 := by unfold wordOf; split <;> (try split) <;> simp
  have h2 : (decOf t).length ≤ 2 := by unfold decOf; split <;> simp
  simp [headT]; omega
end Go.Proofs.YtbnjajpencahfaaGreatDoor.Ad
