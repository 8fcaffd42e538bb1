/- Plain facts: inserting strings one by one gives the sorted list. No condition. -/
import Derived.Test.YtbpbopjlcidefaaDoorKeyQ
namespace Go.Proofs.YtbpbopjlcidefaaDoor
open Pl
namespace Ad
theorem bytesLess_lt : ∀ (x y : Bs), Op.bytesLess x y = decide (x < y)
  | [], [] => by simp [Op.bytesLess]
  | _ :: _, [] => by simp [Op.bytesLess]
  | [], _ :: _ => by simp [Op.bytesLess]
  | a :: x, b :: y => by
    rw [Op.bytesLess, bytesLess_lt x y]
    simp only [List.cons_lt_cons_iff]
    by_cases h1 : a < b <;> by_cases h2 : a = b <;> by_cases h3 : x < y <;> simp [h1, h2, h3]
/-- A string more, before the first that is not less. -/
def insS (x : Bs) (l : List Bs) : List Bs := l.takeWhile (fun y => Op.bytesLess y x) ++ x :: l.dropWhile (fun y => Op.bytesLess y x)
def idsK (ml : KL) (t : Int) (k : Nat) : List Bs := (per (ml.take k) t).foldl (fun acc y => insS y.id acc) []
theorem idsK_zero (ml : KL) (t : Int) : idsK ml t 0 = [] := by unfold idsK per; simp
theorem idsK_yes {ml : KL} {k : Nat} {t : Int} {key : KeyM} (h : ml[k]? = some (t, key)) : idsK ml t (k + 1) = insS key.id (idsK ml t k) := by
  unfold idsK
  rw [take_next h, per_snoc, if_pos rfl, List.foldl_append]
  rfl
theorem idsK_no {ml : KL} {k : Nat} {t s : Int} {key : KeyM} (h : ml[k]? = some (s, key)) (hne : ¬ t = s) : idsK ml t (k + 1) = idsK ml t k := by
  unfold idsK
  rw [take_next h, per_snoc, if_neg hne]
theorem insS_at {l : List Bs} {x : Bs} {k : Nat} (hk : k ≤ l.length) (h : (l.take k).all (fun y => Op.bytesLess y x) = true) (h2 : ∀ y, l[k]? = some y → Op.bytesLess y x = false) : l.take k ++ x :: l.drop k = insS x l := by
  unfold insS
  have e : l.takeWhile (fun y => Op.bytesLess y x) = l.take k ∧ l.dropWhile (fun y => Op.bytesLess y x) = l.drop k := by
    induction k generalizing l with
    | zero =>
      cases l with
      | nil => exact ⟨rfl, rfl⟩
      | cons y r =>
        have h3 := h2 y rfl
        rw [List.takeWhile_cons, List.dropWhile_cons]
        simp [h3]
    | succ k ih =>
      cases l with
      | nil => simp at hk
      | cons y r =>
        rw [List.take_succ_cons, List.all_cons, Bool.and_eq_true] at h
        have := ih (l := r) (by simpa using hk) h.2 (fun z hz => h2 z (by simpa using hz))
        rw [List.takeWhile_cons, List.dropWhile_cons]
        simp only [h.1, if_true, List.take_succ_cons, List.drop_succ_cons, this.1, this.2]
        exact ⟨trivial, trivial⟩
  rw [e.1, e.2]
theorem insS_perm (x : Bs) (l : List Bs) : (insS x l).Perm (x :: l) := by
  unfold insS
  refine List.perm_middle.trans ?_
  rw [List.takeWhile_append_dropWhile]
theorem insS_len (x : Bs) (l : List Bs) : (insS x l).length = l.length + 1 := (insS_perm x l).length_eq
theorem idsK_len {ml : KL} {t : Int} : ∀ {k : Nat}, k ≤ ml.length → (idsK ml t k).length ≤ k
  | 0, _ => by rw [idsK_zero]; simp
  | k + 1, h => by
    obtain ⟨⟨s, key⟩, he⟩ : ∃ e, ml[k]? = some e := ⟨_, List.getElem?_eq_getElem (by omega)⟩
    have ih := idsK_len (ml := ml) (t := t) (k := k) (by omega)
    by_cases e : t = s
    · subst e; rw [idsK_yes he, insS_len]; omega
    · rw [idsK_no he e]; omega
theorem le_of_notLess {x y : Bs} (h : Op.bytesLess x y = false) : y ≤ x := by
  rw [bytesLess_lt, decide_eq_false_iff_not] at h
  exact List.not_lt.1 h
theorem le_of_less {x y : Bs} (h : Op.bytesLess x y = true) : x ≤ y := by
  rw [bytesLess_lt, decide_eq_true_eq] at h
  exact List.le_of_lt h
theorem insS_sorted (x : Bs) : ∀ {l : List Bs}, l.Pairwise (· ≤ ·) → (insS x l).Pairwise (· ≤ ·)
  | [], _ => by simp [insS]
  | y :: r, h => by
    obtain ⟨h1, h2⟩ := List.pairwise_cons.1 h
    cases hb : Op.bytesLess y x with
    | true =>
      have e : insS x (y :: r) = y :: insS x r := by
        unfold insS; rw [List.takeWhile_cons, List.dropWhile_cons]; simp [hb]
      rw [e, List.pairwise_cons]
      refine ⟨fun z hz => ?_, insS_sorted x h2⟩
      rcases List.mem_cons.1 ((insS_perm x r).mem_iff.1 hz) with rfl | hz
      · exact le_of_less hb
      · exact h1 z hz
    | false =>
      have e : insS x (y :: r) = x :: y :: r := by
        unfold insS; rw [List.takeWhile_cons, List.dropWhile_cons]; simp [hb]
      rw [e, List.pairwise_cons]
      refine ⟨fun z hz => ?_, h⟩
      rcases List.mem_cons.1 hz with rfl | hz
      · exact le_of_notLess hb
      · exact List.le_trans (le_of_notLess hb) (h1 z hz)
theorem fold_ins (l : List KeyM) : ∀ acc : List Bs, acc.Pairwise (· ≤ ·) → (l.foldl (fun acc y => insS y.id acc) acc).Pairwise (· ≤ ·) ∧ (l.foldl (fun acc y => insS y.id acc) acc).Perm (l.map KeyM.id ++ acc) := by
  induction l with
  | nil => intro acc h; exact ⟨h, List.Perm.refl _⟩
  | cons k r ih =>
    intro acc h
    obtain ⟨h1, h2⟩ := ih (insS k.id acc) (insS_sorted k.id h)
    refine ⟨h1, h2.trans ?_⟩
    rw [List.map_cons, List.cons_append]
    exact ((insS_perm k.id acc).append_left _).trans List.perm_middle
theorem idsK_end (ml : KL) (t : Int) : idsK ml t ml.length = idsL (per ml t) := by
  unfold idsK idsL
  rw [List.take_length]
  obtain ⟨h1, h2⟩ := fold_ins (per ml t) [] List.Pairwise.nil
  rw [List.append_nil] at h2
  have hm := List.mergeSort_perm ((per ml t).map KeyM.id) (fun x y => decide (x ≤ y))
  have hs := List.pairwise_mergeSort (le := fun x y : Bs => decide (x ≤ y)) (fun a b c hab hbc => by
    simp only [decide_eq_true_eq] at *; exact List.le_trans hab hbc) (fun a b => by
    simp only [Bool.or_eq_true, decide_eq_true_eq]; exact List.le_total a b) ((per ml t).map KeyM.id)
  refine List.Perm.eq_of_pairwise (le := (· ≤ ·)) (fun a b _ _ hab hba => List.le_antisymm hab hba) h1 (hs.imp fun h => by simpa using h) (h2.trans hm.symm)
end Ad
end Go.Proofs.YtbpbopjlcidefaaDoor
