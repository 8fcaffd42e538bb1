/- Plain Lean: what Parse computes. No condition. -/
import Derived.Test.YtijjggbiljkalaaDoorAddrP
namespace Go.Proofs.YtijjggbiljkalaaDoor.Ad
open Pl

def dotsL : List Bs → List Bs → Option (List Bs)
  | [], left => some left
  | s :: r, left =>
    if s = [46, 46] then (if left = [] then none else dotsL r (if r = [] then left.dropLast ++ [[]] else left.dropLast))
    else if s = [46] then dotsL r (if r = [] then left ++ [[]] else left)
    else dotsL r (left ++ [s])

theorem dotsL_nil (left : List Bs) : dotsL [] left = some left := rfl
theorem dotsL_up0 (r : List Bs) : dotsL ([46, 46] :: r) [] = none := by simp [dotsL]
theorem dotsL_up (r left : List Bs) (h : left ≠ []) (hr : r ≠ []) : dotsL ([46, 46] :: r) left = dotsL r left.dropLast := by simp [dotsL, h, hr]
theorem dotsL_upEnd (left : List Bs) (h : left ≠ []) : dotsL [[46, 46]] left = dotsL [] (left.dropLast ++ [[]]) := by simp [dotsL, h]
theorem dotsL_dot (r left : List Bs) (hr : r ≠ []) : dotsL ([46] :: r) left = dotsL r left := by simp [dotsL, hr]
theorem dotsL_dotEnd (left : List Bs) : dotsL [[46]] left = dotsL [] (left ++ [[]]) := by simp [dotsL]
theorem dotsL_seg (s : Bs) (r left : List Bs) (h1 : ¬ s = [46, 46]) (h2 : ¬ s = [46]) : dotsL (s :: r) left = dotsL r (left ++ [s]) := by simp [dotsL, h1, h2]
theorem dotsL_ne : ∀ (l left out : List Bs), dotsL l left = some out → l ≠ [] ∨ left ≠ [] → out ≠ []
  | [], left, out, h, hn => by
    rw [dotsL_nil] at h
    cases h
    simpa using hn
  | s :: r, left, out, h, _ => by
    by_cases h1 : s = [46, 46]
    · subst h1
      by_cases hl : left = []
      · subst hl; rw [dotsL_up0] at h; cases h
      · by_cases hr : r = []
        · subst hr; rw [dotsL_upEnd left hl] at h; exact dotsL_ne [] _ out h (.inr (by simp))
        · rw [dotsL_up r left hl hr] at h; exact dotsL_ne r _ out h (.inl hr)
    · by_cases h2 : s = [46]
      · subst h2
        by_cases hr : r = []
        · subst hr; rw [dotsL_dotEnd left] at h; exact dotsL_ne [] _ out h (.inr (by simp))
        · rw [dotsL_dot r left hr] at h; exact dotsL_ne r _ out h (.inl hr)
      · rw [dotsL_seg s r left h1 h2] at h; exact dotsL_ne r _ out h (.inr (by simp))

/-- The segments, each with a slash before it. -/
def slashed (xs : List Bs) : Bs := (xs.map fun x => 47 :: x).flatten
theorem slashed_nil : slashed [] = [] := rfl
theorem slashed_append (a b : List Bs) : slashed (a ++ b) = slashed a ++ slashed b := by simp [slashed]
theorem slashed_one (x : Bs) : slashed [x] = 47 :: x := by simp [slashed]
theorem slashed_join (xs : List Bs) (h : xs ≠ []) : 47 :: Lib.join xs [47] = slashed xs := by
  cases xs with
  | nil => exact absurd rfl h
  | cons x r => rw [Lib.join_cons]; simp [slashed, Lib.joinTail]

/-- How many bytes the segments of a list take, a slash for each. -/
def room (xs : List Bs) : Nat := (slashed xs).length
theorem room_nil : room [] = 0 := rfl
theorem room_append (a b : List Bs) : room (a ++ b) = room a + room b := by simp [room, slashed_append]
theorem room_one (x : Bs) : room [x] = x.length + 1 := by simp [room, slashed_one]
theorem room_cons (x : Bs) (r : List Bs) : room (x :: r) = x.length + 1 + room r := by rw [show x :: r = [x] ++ r from rfl, room_append, room_one]
theorem room_len (xs : List Bs) : xs.length ≤ room xs := by
  induction xs with
  | nil => simp
  | cons x r ih => rw [room_cons]; simp; omega
theorem room_dropLast (xs : List Bs) : room xs.dropLast ≤ room xs := by
  by_cases h : xs = []
  · subst h; simp
  · conv => rhs; rw [← List.dropLast_concat_getLast h]
    rw [room_append]; omega
theorem room_take (xs : List Bs) (k : Nat) : room (xs.take k) ≤ room xs := by
  conv => rhs; rw [← List.take_append_drop k xs]
  rw [room_append]; omega
theorem room_split (c : UInt8) : ∀ (acc l : Bs), room (splitAcc c acc l) = acc.length + l.length + 1
  | acc, [] => by rw [splitAcc, room_one]; simp
  | acc, b :: t => by
    rw [splitAcc]; split
    · rw [room_cons, room_split c [] t]; simp; omega
    · rw [room_split c _ t]; simp; omega
theorem room_splitOn (c : UInt8) (l : Bs) : room (splitOn c l) = l.length + 1 := by rw [splitOn, room_split]; simp

theorem dotsL_room : ∀ (l left out : List Bs), dotsL l left = some out → room out ≤ room left + room l
  | [], left, out, h => by
    rw [dotsL_nil] at h
    cases h
    omega
  | s :: r, left, out, h => by
    have hd := room_dropLast left
    rw [room_cons]
    by_cases h1 : s = [46, 46]
    · subst h1
      by_cases hl : left = []
      · subst hl; rw [dotsL_up0] at h; cases h
      · by_cases hr : r = []
        · subst hr; rw [dotsL_upEnd left hl] at h; have := dotsL_room [] _ out h; rw [room_append, room_one] at this; simp at this ⊢; omega
        · rw [dotsL_up r left hl hr] at h; have := dotsL_room r _ out h; omega
    · by_cases h2 : s = [46]
      · subst h2
        by_cases hr : r = []
        · subst hr; rw [dotsL_dotEnd left] at h; have := dotsL_room [] _ out h; rw [room_append, room_one] at this; simp at this ⊢; omega
        · rw [dotsL_dot r left hr] at h; have := dotsL_room r _ out h; omega
      · rw [dotsL_seg s r left h1 h2] at h; have := dotsL_room r _ out h; rw [room_append, room_one] at this; omega

/-- The path without dot segments. -/
def dotsR (xs : List Bs) : Option Bs := (dotsL xs []).map slashed
theorem dotsR_none {xs : List Bs} (h : dotsL xs [] = none) : dotsR xs = none := by rw [dotsR, h]; rfl
theorem dotsR_some {xs left : List Bs} (h : dotsL xs [] = some left) : dotsR xs = some (slashed left) := by rw [dotsR, h]; rfl

structure Adr where
  host : Bs
  path : Bs
  query : Bs
  has : Bool
  deriving DecidableEq

def Adr.text (a : Adr) : Bs := adText a.host a.path a.query a.has
def marksP : Bs := [33, 36, 38, 39, 40, 41, 42, 43, 44, 59, 61, 58, 64, 47]
def marksQ : Bs := [33, 36, 38, 39, 40, 41, 42, 43, 44, 59, 61, 58, 64, 47, 63]

/-- What Parse returns: an address, or the number of an error. -/
def parse (h t : Bs) : Except Int Adr :=
  if hostOk h = false then .error 8
  else if (cutAt 63 t).1.head? ≠ some 47 then .error 27
  else match canon (cutAt 63 t).1 marksP, canon (cutAt 63 t).2.1 marksQ with
    | some p, some q => match dotsL (splitOn 47 (p.drop 1)) [] with
      | none => .error 27
      | some left => if (adText (lower h) (slashed left) q (cutAt 63 t).2.2).length > 1024 then .error 5 else .ok ⟨lower h, slashed left, q, (cutAt 63 t).2.2⟩
    | _, _ => .error 27

theorem canonL_pre (m : Bs) : ∀ (n : Nat) (l out r : Bs), l.length ≤ n → canonL m l out = some r → ∃ t, r = out ++ t ∧ t.length ≤ l.length
  | n, [], out, r, _, h => by rw [canonL_nil] at h; cases h; exact ⟨[], by simp, by simp⟩
  | 0, c :: t, out, r, hn, _ => by simp at hn
  | n + 1, c :: t, out, r, hn, h => by
    simp only [List.length_cons] at hn
    by_cases hc : c = 37
    · subst hc
      match t, hn, h with
      | [], _, h => rw [canonL_short m [] out (by simp)] at h; cases h
      | [a], _, h => rw [canonL_short m [a] out (by simp)] at h; cases h
      | a :: b :: t', hn, h =>
        by_cases h1 : hexv a.toNat < 0 ∨ hexv b.toNat < 0
        · rw [canonL_nohex m a b t' out h1] at h; cases h
        · have h1a : ¬ hexv a.toNat < 0 := fun x => h1 (.inl x)
          have h1b : ¬ hexv b.toNat < 0 := fun x => h1 (.inr x)
          by_cases h2 : 16 * hexv a.toNat + hexv b.toNat < 32 ∨ 16 * hexv a.toNat + hexv b.toNat = 127
          · rw [canonL_low m a b t' out h1a h1b h2] at h; cases h
          · rw [canonL_pct m a b t' out h1a h1b (fun x => h2 (.inl x)) (fun x => h2 (.inr x))] at h
            simp only [List.length_cons] at hn
            obtain ⟨u, h3, h4⟩ := canonL_pre m n t' _ r (by omega) h
            have h5 := pctOut_len (16 * hexv a.toNat + hexv b.toNat)
            exact ⟨pctOut (16 * hexv a.toNat + hexv b.toNat) ++ u, by rw [h3]; simp, by simp; omega⟩
    · by_cases hu : unresB c.toNat = true ∨ inB m c.toNat = true
      · rw [canonL_plain m c t out hc hu] at h
        obtain ⟨u, h3, h4⟩ := canonL_pre m n t _ r (by omega) h
        exact ⟨c :: u, by rw [h3]; simp, by simp; omega⟩
      · have hu1 : unresB c.toNat = false := by simpa using fun x => hu (.inl x)
        have hu2 : inB m c.toNat = false := by simpa using fun x => hu (.inr x)
        rw [canonL_bad m c t out hc hu1 hu2] at h; cases h

theorem canon_len (l m r : Bs) (h : canon l m = some r) : r.length ≤ l.length := by
  obtain ⟨t, rfl, ht⟩ := canonL_pre m l.length l [] r (Nat.le_refl _) h
  simpa using ht
theorem canon_slash (t r : Bs) (h : canon (47 :: t) marksP = some r) : ∃ u, r = 47 :: u ∧ u.length ≤ t.length := by
  rw [canon, canonL_plain marksP 47 t [] (by decide) (.inr (by decide))] at h
  obtain ⟨u, rfl, hu⟩ := canonL_pre marksP t.length t _ r (Nat.le_refl _) h
  exact ⟨u, by simp, hu⟩
theorem cutAt_len (c : UInt8) (l : Bs) : (cutAt c l).1.length ≤ l.length ∧ (cutAt c l).2.1.length ≤ l.length := by
  induction l with
  | nil => simp [cutAt]
  | cons b t ih =>
    rw [cutAt]; split
    · simp
    · simp; omega
end Go.Proofs.YtijjggbiljkalaaDoor.Ad
