/- Plain facts: the reference's list of all tenants' keys, read tenant by tenant. No condition. -/
import Derived.Test.YtbpbopjlcidefaaDoorKeyP
namespace Go.Proofs.YtbpbopjlcidefaaDoor
open Pl
namespace Ad
abbrev KL := List (Int × KeyM)
/-- A tenant's keys in the reference's list. -/
def per (ml : KL) (t : Int) : List KeyM := (ml.filter fun e => e.1 == t).map (·.2)
def cntK (ml : KL) (t : Int) (i : Nat) : Nat := (per (ml.take i) t).length
theorem per_snoc (ml : KL) (t s : Int) (k : KeyM) : per (ml ++ [(t, k)]) s = if s = t then per ml s ++ [k] else per ml s := by
  unfold per
  rw [List.filter_append, List.map_append]
  by_cases e : s = t
  · subst e; simp
  · have : (t == s) = false := by simpa using fun h : t = s => e h.symm
    simp [this, e]
theorem take_next {ml : KL} {i : Nat} {e : Int × KeyM} (h : ml[i]? = some e) : ml.take (i + 1) = ml.take i ++ [e] := by
  obtain ⟨hi, rfl⟩ := List.getElem?_eq_some_iff.1 h
  exact take_snoc hi
theorem cnt_yes {ml : KL} {i : Nat} {t : Int} {k : KeyM} (h : ml[i]? = some (t, k)) : cntK ml t (i + 1) = cntK ml t i + 1 := by
  unfold cntK; rw [take_next h, per_snoc, if_pos rfl, List.length_append]; rfl
theorem cnt_no {ml : KL} {i : Nat} {t s : Int} {k : KeyM} (h : ml[i]? = some (s, k)) (hne : ¬ t = s) : cntK ml t (i + 1) = cntK ml t i := by
  unfold cntK; rw [take_next h, per_snoc, if_neg hne]
theorem cnt_end (ml : KL) (t : Int) : cntK ml t ml.length = (per ml t).length := by unfold cntK; rw [List.take_length]
theorem per_split {ml : KL} {i : Nat} {t : Int} {k : KeyM} (h : ml[i]? = some (t, k)) : per ml t = per (ml.take i) t ++ k :: per (ml.drop (i + 1)) t := by
  have e : ml = ml.take i ++ (t, k) :: ml.drop (i + 1) := by
    obtain ⟨hi, hx⟩ := List.getElem?_eq_some_iff.1 h
    rw [← hx, ← drop_cons hi, List.take_append_drop]
  conv => lhs; rw [e]
  unfold per
  rw [List.filter_append, List.map_append, List.filter_cons]
  simp
theorem per_at {ml : KL} {i : Nat} {t : Int} {k : KeyM} (h : ml[i]? = some (t, k)) : (per ml t)[cntK ml t i]? = some k := by
  rw [per_split h]
  unfold cntK
  rw [List.getElem?_append_right (Nat.le_refl _), Nat.sub_self]
  rfl
theorem per_set {ml : KL} {i : Nat} {t : Int} {k k' : KeyM} (h : ml[i]? = some (t, k)) (s : Int) : per (ml.set i (t, k')) s = if s = t then (per ml t).set (cntK ml t i) k' else per ml s := by
  obtain ⟨hi, hx⟩ := List.getElem?_eq_some_iff.1 h
  have e1 : ml.set i (t, k') = ml.take i ++ (t, k') :: ml.drop (i + 1) := by
    rw [List.set_eq_take_append_cons_drop, if_pos hi]
  have e2 : ml = ml.take i ++ (t, k) :: ml.drop (i + 1) := by rw [← hx, ← drop_cons hi, List.take_append_drop]
  by_cases e : s = t
  · subst e
    rw [if_pos rfl, per_split h, e1]
    unfold cntK per
    rw [List.filter_append, List.map_append, List.filter_cons]
    simp [List.set_append_right]
  · rw [if_neg e, e1]
    conv => rhs; rw [e2]
    have : (t == s) = false := by simpa using fun h : t = s => e h.symm
    unfold per
    rw [List.filter_append, List.filter_append, List.filter_cons, List.filter_cons]
    simp [this]
/-- The reference's find. -/
def findR (ml : KL) (t : Int) (id : Bs) : Option Nat := ml.findIdx? fun e => e.1 == t && e.2.id == id
theorem findR_none {ml : KL} {t : Int} {id : Bs} (h : findR ml t id = none) : hasId (per ml t) id = false := by
  unfold findR at h
  rw [List.findIdx?_eq_none_iff] at h
  unfold hasId per
  rw [List.any_eq_false]
  intro k hk
  obtain ⟨e, he, rfl⟩ := List.mem_map.1 hk
  have h1 := List.mem_filter.1 he
  have h2 := h e h1.1
  rw [h1.2, Bool.true_and] at h2
  simpa using h2
theorem findR_some {ml : KL} {t : Int} {id : Bs} {i : Nat} (h : findR ml t id = some i) : ∃ k, ml[i]? = some (t, k) ∧ hasId (per ml t) id = true ∧ ((per ml t).findIdx fun k => k.id == id) = cntK ml t i ∧ (per ml t).find? (fun k => k.id == id) = some k := by
  unfold findR at h
  rw [List.findIdx?_eq_some_iff_getElem] at h
  obtain ⟨hi, hp, hb⟩ := h
  rw [Bool.and_eq_true, beq_iff_eq, beq_iff_eq] at hp
  obtain ⟨k, hk⟩ : ∃ k, ml[i] = (t, k) := ⟨ml[i].2, by rw [← hp.1]⟩
  have hmi : ml[i]? = some (t, k) := by rw [List.getElem?_eq_getElem hi, hk]
  have hid : k.id = id := by have := hp.2; rw [hk] at this; exact this
  have hpre : ∀ x ∈ per (ml.take i) t, (x.id == id) = false := by
    intro x hx
    unfold per at hx
    obtain ⟨e, he, rfl⟩ := List.mem_map.1 hx
    have h1 := List.mem_filter.1 he
    obtain ⟨j, hj, rfl⟩ := List.getElem_of_mem h1.1
    rw [List.getElem_take] at h1 ⊢
    have hji : j < i := by rw [List.length_take] at hj; omega
    have h2 := hb j hji
    rw [h1.2, Bool.true_and] at h2
    simpa using h2
  refine ⟨k, hmi, ?_, ?_, ?_⟩
  · rw [per_split hmi]; unfold hasId; simp [hid]
  · rw [per_split hmi, List.findIdx_append, if_neg]
    · rw [List.findIdx_cons, hid]
      simp [cntK]
    · rw [List.findIdx_lt_length]
      rintro ⟨x, hx, hxi⟩
      rw [hpre x hx] at hxi; cases hxi
  · rw [per_split hmi, List.find?_append]
    have : (per (ml.take i) t).find? (fun k => k.id == id) = none := by
      rw [List.find?_eq_none]
      intro x hx
      rw [hpre x hx]; simp
    rw [this, List.find?_cons, hid]
    simp
def pickR (ml : KL) (t n : Int) (k : Nat) : Option Nat := pickI (fun e : Int × KeyM => e.1 == t && e.2.at n) (fun a b => betterK a.2 b.2) ml k
theorem pickR_per (ml : KL) (t n : Int) : ∀ k, k ≤ ml.length → (pickR ml t n k = none ∧ pickI (fun k => k.at n) betterK (per ml t) (cntK ml t k) = none) ∨
    ∃ i key, pickR ml t n k = some i ∧ ml[i]? = some (t, key) ∧ pickI (fun k => k.at n) betterK (per ml t) (cntK ml t k) = some (cntK ml t i)
  | 0, _ => .inl ⟨rfl, by unfold cntK per; simp [pickI]⟩
  | k + 1, hk => by
    have hk2 : k < ml.length := by omega
    obtain ⟨⟨s, key⟩, hkey⟩ : ∃ e, ml[k]? = some e := ⟨_, List.getElem?_eq_getElem hk2⟩
    by_cases hs : t = s
    · subst hs
      rw [cnt_yes hkey]
      have hper := per_at hkey
      cases ha : key.at n with
      | false =>
        have e1 : pickR ml t n (k + 1) = pickR ml t n k := pickI_not hkey (by simp [ha])
        rw [e1, pickI_not hper ha]
        exact pickR_per ml t n k (by omega)
      | true =>
        have ha2 : ((t, key).1 == t && (t, key).2.at n) = true := by simp [ha]
        rcases pickR_per ml t n k (by omega) with ⟨h1, h2⟩ | ⟨i, o, h1, h2, h3⟩
        · exact .inr ⟨k, key, pickI_first hkey ha2 h1, hkey, pickI_first hper ha h2⟩
        · have hper2 := per_at h2
          cases hb : betterK key o with
          | true => exact .inr ⟨k, key, pickI_yes hkey ha2 h1 h2 hb, hkey, pickI_yes hper ha h3 hper2 hb⟩
          | false => exact .inr ⟨i, o, pickI_no hkey ha2 h1 h2 hb, h2, pickI_no hper ha h3 hper2 hb⟩
    · rw [cnt_no hkey hs]
      have e1 : pickR ml t n (k + 1) = pickR ml t n k := pickI_not hkey (by
        have : (s == t) = false := by simpa using fun h : s = t => hs h.symm
        simp [this])
      rw [e1]
      exact pickR_per ml t n k (by omega)
def signR (ml : KL) (t n : Int) : Option Nat := pickR ml t n ml.length
theorem signR_none {ml : KL} {t n : Int} (h : signR ml t n = none) : signI (per ml t) n = none := by
  rcases pickR_per ml t n ml.length (Nat.le_refl _) with ⟨_, h2⟩ | ⟨i, o, h1, _⟩
  · rw [cnt_end] at h2; exact h2
  · unfold signR at h; rw [h] at h1; cases h1
theorem signR_some {ml : KL} {t n : Int} {i : Nat} (h : signR ml t n = some i) : ∃ key, ml[i]? = some (t, key) ∧ signI (per ml t) n = some (cntK ml t i) ∧ (per ml t)[cntK ml t i]? = some key := by
  rcases pickR_per ml t n ml.length (Nat.le_refl _) with ⟨h1, _⟩ | ⟨j, o, h1, h2, h3⟩
  · unfold signR at h; rw [h] at h1; cases h1
  · unfold signR at h
    rw [h] at h1
    cases h1
    rw [cnt_end] at h3
    exact ⟨o, h2, h3, per_at h2⟩
/-- What the reference's calls make of the list. -/
def addR (ml : KL) (t : Int) (k : KeyM) : KL := if addC t (per ml t) k = 0 then ml ++ [(t, newK k)] else ml
theorem addR_per (ml : KL) (t : Int) (k : KeyM) (s : Int) : per (addR ml t k) s = if s = t then addL t (per ml t) k else per ml s := by
  unfold addR addL
  by_cases h : addC t (per ml t) k = 0
  · rw [if_pos h, if_pos h, per_snoc]
    by_cases e : s = t
    · rw [if_pos e, if_pos e, e]
    · rw [if_neg e, if_neg e]
  · rw [if_neg h, if_neg h]
    by_cases e : s = t
    · rw [if_pos e, e]
    · rw [if_neg e]
def revR (ml : KL) (t : Int) (id : Bs) (x : Int) : KL := match findR ml t id with
  | none => ml
  | some i => ml.modify i fun e => (e.1, revK x e.2)
theorem modifyR_at {α : Type} {l : List α} {i : Nat} {k : α} (f : α → α) (h : l[i]? = some k) : l.modify i f = l.set i (f k) := by
  apply List.ext_getElem?
  intro j
  rw [List.getElem?_modify]
  by_cases e : i = j
  · subst e
    rw [List.getElem?_set_self (List.getElem?_eq_some_iff.1 h).1, h]; simp
  · rw [List.getElem?_set_ne e]; simp [e]
theorem modifyR_past {α : Type} {l : List α} {i : Nat} (f : α → α) (h : l.length ≤ i) : l.modify i f = l := by
  apply List.ext_getElem?
  intro j
  rw [List.getElem?_modify]
  by_cases e : i = j
  · subst e; simp [h]
  · simp [e]
theorem revR_per (ml : KL) (t : Int) (id : Bs) (x : Int) (s : Int) : per (revR ml t id x) s = if s = t then revL (per ml t) id x else per ml s := by
  unfold revR
  cases h : findR ml t id with
  | none =>
    have h1 := findR_none h
    have h2 : revL (per ml t) id x = per ml t := by
      unfold revL
      refine modifyR_past _ ?_
      have : ((per ml t).findIdx fun k => k.id == id) = (per ml t).length := by
        rw [List.findIdx_eq_length]
        unfold hasId at h1
        rw [List.any_eq_false] at h1
        intro k hk
        simpa using h1 k hk
      omega
    rw [h2]
    by_cases e : s = t
    · rw [if_pos e, e]
    · rw [if_neg e]
  | some i =>
    obtain ⟨k, h1, _, h3, _⟩ := findR_some h
    simp only
    rw [modifyR_at _ h1, per_set h1]
    unfold revL
    rw [h3, modifyR_at _ (per_at h1)]
def rotR (ml : KL) (t now life ov : Int) (sec : Bs) : KL :=
  if rotC t (per ml t) now life sec = 0 then
    (match signR ml t (clipK now) with
    | none => ml ++ [(t, newK (rotK (per ml t) now life sec))]
    | some i => (ml ++ [(t, newK (rotK (per ml t) now life sec))]).modify i fun e => (e.1, endK (clipK now + clipK ov) e.2))
  else ml
theorem rotR_per (ml : KL) (t now life ov : Int) (sec : Bs) (s : Int) : per (rotR ml t now life ov sec) s = if s = t then rotL t (per ml t) now life ov sec else per ml s := by
  unfold rotR rotL
  by_cases h : rotC t (per ml t) now life sec = 0
  · rw [if_pos h, if_pos h]
    cases hs : signR ml t (clipK now) with
    | none =>
      rw [signR_none hs]
      simp only [endL]
      rw [per_snoc]
      by_cases e : s = t
      · rw [if_pos e, if_pos e, e]
      · rw [if_neg e, if_neg e]
    | some i =>
      obtain ⟨key, h1, h2, h3⟩ := signR_some hs
      rw [h2]
      simp only [endL]
      have hi := (List.getElem?_eq_some_iff.1 h1).1
      have h1' : (ml ++ [(t, newK (rotK (per ml t) now life sec))])[i]? = some (t, key) := by rw [List.getElem?_append_left hi]; exact h1
      rw [modifyR_at _ h1', per_set h1']
      by_cases e : s = t
      · rw [if_pos e, if_pos e, per_snoc, if_pos rfl]
        have hc : cntK (ml ++ [(t, newK (rotK (per ml t) now life sec))]) t i = cntK ml t i := by
          unfold cntK; rw [List.take_append_of_le_length (by omega)]
        rw [hc]
        rw [modifyR_at _ (by rw [List.getElem?_append_left (List.getElem?_eq_some_iff.1 h3).1]; exact h3)]
      · rw [if_neg e, if_neg e, per_snoc, if_neg e]
  · rw [if_neg h, if_neg h]
    by_cases e : s = t
    · rw [if_pos e, e]
    · rw [if_neg e]
end Ad
end Go.Proofs.YtbpbopjlcidefaaDoor
