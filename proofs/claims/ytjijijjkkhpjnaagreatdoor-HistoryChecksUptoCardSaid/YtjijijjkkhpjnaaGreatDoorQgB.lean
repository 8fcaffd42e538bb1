/- Contracts and plain facts that the statement's proof leans on (texts joined). No condition beyond those that each names. -/
import Derived.Laws.IdiomStrings
import Derived.Lib.BufferRead
import Derived.Test.YtjijijjkkhpjnaaGreatDoorQgA
section
section
namespace Go.Proofs.YtjijijjkkhpjnaaGreatDoor.Ad
open Pl

def alnumB (c : Int) : Bool := decide ((48 ≤ c ∧ c ≤ 57) ∨ (97 ≤ c ∧ c ≤ 122) ∨ (65 ≤ c ∧ c ≤ 90))
def unresB (c : Int) : Bool := decide (((48 ≤ c ∧ c ≤ 57) ∨ (97 ≤ c ∧ c ≤ 122) ∨ (65 ≤ c ∧ c ≤ 90)) ∨ c = 45 ∨ c = 46 ∨ c = 95 ∨ c = 126)
def hexv (c : Int) : Int := if 48 ≤ c ∧ c ≤ 57 then c - 48 else if 97 ≤ c ∧ c ≤ 102 then c - 97 + 10 else if 65 ≤ c ∧ c ≤ 70 then c - 65 + 10 else -1

theorem hexv_range (c : Int) : -1 ≤ hexv c ∧ hexv c ≤ 15 := by
  unfold hexv; split
  · omega
  · split
    · omega
    · split <;> omega

def inB (l : Bs) (c : Int) : Bool := l.any fun b => decide ((b.toNat : Int) = c)

/-- A byte in lower case. -/
def lowB (b : UInt8) : UInt8 := if 65 ≤ b.toNat ∧ b.toNat ≤ 90 then b + 32 else b
def lower (l : Bs) : Bs := l.map lowB

/-- Is a text a label of a host? -/
def okC (b : UInt8) : Bool := alnumB b.toNat || decide (b = 45)
def labelB (x : Bs) : Bool := decide (1 ≤ x.length) && decide (x.length ≤ 63) && decide (x.getD 0 0 ≠ 45) && decide (x.getD (x.length - 1) 0 ≠ 45) && x.all okC
def hostOk (l : Bs) : Bool := decide (l.length ≤ 100) && (splitOn 46 l).all labelB

theorem labelB_len (x : Bs) (h : ¬ (1 ≤ x.length ∧ x.length ≤ 63)) : labelB x = false := by
  unfold labelB
  by_cases h1 : 1 ≤ x.length
  · rw [decide_eq_false (p := x.length ≤ 63) (by omega)]; simp
  · rw [decide_eq_false h1]; simp
theorem labelB_head (x : Bs) (h1 : 0 < x.length) (h : x[0] = 45) : labelB x = false := by
  unfold labelB
  rw [show x.getD 0 0 = 45 by simp [List.getD, h1, h]]; simp
theorem labelB_last (x : Bs) (h1 : x.length - 1 < x.length) (h : x[x.length - 1] = 45) : labelB x = false := by
  unfold labelB
  rw [show x.getD (x.length - 1) 0 = 45 by simp [List.getD, List.getElem?_eq_getElem h1, h]]; simp
theorem labelB_all (x : Bs) (h0 : 1 ≤ x.length) (h1 : x.length ≤ 63) (h2 : 0 < x.length) (h3 : x.length - 1 < x.length) (h4 : ¬ x[0] = 45) (h5 : ¬ x[x.length - 1] = 45) : labelB x = x.all okC := by
  unfold labelB
  rw [show x.getD 0 0 = x[0] by simp [List.getD, h2], show x.getD (x.length - 1) 0 = x[x.length - 1] by simp [List.getD, List.getElem?_eq_getElem h3]]
  simp [h0, h1, h4, h5]

def hexDigits : Bs := [48, 49, 50, 51, 52, 53, 54, 55, 56, 57, 65, 66, 67, 68, 69, 70]
def hexD (n : Int) : UInt8 := hexDigits.getD n.toNat 0
/-- What an encoded byte turns into. -/
def pctOut (n : Int) : Bs := if unresB n then [UInt8.ofNat n.toNat] else [37, hexD (n / 16), hexD (n % 16)]

def canonL (others : Bs) : Bs → Bs → Option Bs
  | [], out => some out
  | c :: t, out =>
    if c = 37 then
      match t with
      | a :: b :: t' =>
        if hexv a.toNat < 0 ∨ hexv b.toNat < 0 then none
        else if 16 * hexv a.toNat + hexv b.toNat < 32 ∨ 16 * hexv a.toNat + hexv b.toNat = 127 then none
        else canonL others t' (out ++ pctOut (16 * hexv a.toNat + hexv b.toNat))
      | _ => none
    else if unresB c.toNat || inB others c.toNat then canonL others t (out ++ [c]) else none

/-- The text of an optional result, empty where there is none. -/
def optS : Option Bs → Bs
  | some b => b
  | none => []

theorem canonL_nil (m out : Bs) : canonL m [] out = some out := by rw [canonL]
theorem canonL_plain (m : Bs) (c : UInt8) (t out : Bs) (h : ¬ c = 37) (hu : unresB c.toNat = true ∨ inB m c.toNat = true) : canonL m (c :: t) out = canonL m t (out ++ [c]) := by
  match t with
  | [] => simp [canonL, h, hu]
  | [a] => simp [canonL, h, hu]
  | a :: b :: t' => rw [canonL, if_neg h, if_pos (by simpa using hu)]
theorem canonL_bad (m : Bs) (c : UInt8) (t out : Bs) (h : ¬ c = 37) (hu : unresB c.toNat = false) (hi : inB m c.toNat = false) : canonL m (c :: t) out = none := by
  match t with
  | [] => simp [canonL, h, hu, hi]
  | [a] => simp [canonL, h, hu, hi]
  | a :: b :: t' => rw [canonL, if_neg h, if_neg (by simp [hu, hi])]
theorem canonL_short (m t out : Bs) (h : t.length < 2) : canonL m (37 :: t) out = none := by
  match t, h with
  | [], _ => simp [canonL]
  | [_], _ => simp [canonL]
theorem canonL_nohex (m : Bs) (a b : UInt8) (t out : Bs) (h : hexv a.toNat < 0 ∨ hexv b.toNat < 0) : canonL m (37 :: a :: b :: t) out = none := by
  rw [canonL, if_pos rfl, if_pos h]
theorem canonL_low (m : Bs) (a b : UInt8) (t out : Bs) (h1 : ¬ hexv a.toNat < 0) (h2 : ¬ hexv b.toNat < 0) (h : 16 * hexv a.toNat + hexv b.toNat < 32 ∨ 16 * hexv a.toNat + hexv b.toNat = 127) : canonL m (37 :: a :: b :: t) out = none := by
  rw [canonL, if_pos rfl, if_neg (by omega), if_pos h]
theorem canonL_pct (m : Bs) (a b : UInt8) (t out : Bs) (h1 : ¬ hexv a.toNat < 0) (h2 : ¬ hexv b.toNat < 0) (h3 : ¬ 16 * hexv a.toNat + hexv b.toNat < 32) (h4 : ¬ 16 * hexv a.toNat + hexv b.toNat = 127) : canonL m (37 :: a :: b :: t) out = canonL m t (out ++ pctOut (16 * hexv a.toNat + hexv b.toNat)) := by
  rw [canonL, if_pos rfl, if_neg (by omega), if_neg (by omega)]
theorem pctOut_len (n : Int) : (pctOut n).length ≤ 3 := by unfold pctOut; split <;> simp

def canon (l others : Bs) : Option Bs := canonL others l []

theorem hex_one (d : Nat) (h : d < 16) : (([48, 49, 50, 51, 52, 53, 54, 55, 56, 57, 65, 66, 67, 68, 69, 70] : Bs).drop d).take 1 = [hexD (d : Int)] := by
  have h2 : ∀ d : Fin 16, (([48, 49, 50, 51, 52, 53, 54, 55, 56, 57, 65, 66, 67, 68, 69, 70] : Bs).drop d.val).take 1 = [hexD (d.val : Int)] := by decide
  exact h2 ⟨d, h⟩
theorem pctOut_enc (m : Nat) (h : m ≤ 255) (hu : unresB m = false) : pctOut (m : Int) = 37 :: ((([48, 49, 50, 51, 52, 53, 54, 55, 56, 57, 65, 66, 67, 68, 69, 70] : Bs).drop (m / 16)).take 1 ++ (([48, 49, 50, 51, 52, 53, 54, 55, 56, 57, 65, 66, 67, 68, 69, 70] : Bs).drop (m % 16)).take 1) := by
  unfold pctOut
  rw [hex_one (m / 16) (by omega), hex_one (m % 16) (by omega), hu]
  rfl

theorem hexD_at (d : Nat) (h : d < 16) (h2 : d < ([48, 49, 50, 51, 52, 53, 54, 55, 56, 57, 65, 66, 67, 68, 69, 70] : Bs).length) : ([48, 49, 50, 51, 52, 53, 54, 55, 56, 57, 65, 66, 67, 68, 69, 70] : Bs)[d] = hexD (d : Int) := by
  have h3 := hex_one d h
  rw [drop_cons h2] at h3
  simpa using h3
theorem pctOut_enc2 (m : Nat) (hu : unresB m = false) : pctOut (m : Int) = [37, hexD ((m / 16 : Nat) : Int), hexD ((m % 16 : Nat) : Int)] := by
  unfold pctOut
  rw [hu]
  rfl
/-- The text of an address. -/
def adText (h p q : Bs) (b : Bool) : Bs := h ++ p ++ (if b then 63 :: q else [])
/-- A place k in a list, with what stands there and behind it. -/
theorem drop3 {l : Bs} {k : Nat} (h : k + 2 < l.length) : l.drop k = l[k] :: l[k + 1] :: l[k + 2] :: l.drop (k + 3) := by
  rw [drop_cons (by omega : k < l.length), drop_cons (by omega : k + 1 < l.length), drop_cons (by omega : k + 2 < l.length)]

end Go.Proofs.YtjijijjkkhpjnaaGreatDoor.Ad
end

section
namespace Go.Proofs.YtjijijjkkhpjnaaGreatDoor.Ad
open Pl

def dotsL : List Bs → List Bs → Option (List Bs)
  | [], left => some left
  | s :: r, left =>
    if s = [46, 46] then (if left = [] then none else dotsL r (if r = [] then left.dropLast ++ [[]] else left.dropLast))
    else if s = [46] then dotsL r (if r = [] then left ++ [[]] else left)
    else dotsL r (left ++ [s])

theorem dotsL_nil (left : List Bs) : dotsL [] left = some left := rfl
theorem dotsL_up0 (r : List Bs) : dotsL ([46, 46] :: r) [] = none := by simp [dotsL]
theorem dotsL_up (r left : List Bs) (h : left ≠ []) (hr : r ≠ []) : dotsL ([46, 46] :: r) left = dotsL r left.dropLast := by simp [dotsL, h, hr]
theorem dotsL_upEnd (left : List Bs) (h : left ≠ []) : dotsL [[46, 46]] left = dotsL [] (left.dropLast ++ [[]]) := by simp [dotsL, h]
theorem dotsL_dot (r left : List Bs) (hr : r ≠ []) : dotsL ([46] :: r) left = dotsL r left := by simp [dotsL, hr]
theorem dotsL_dotEnd (left : List Bs) : dotsL [[46]] left = dotsL [] (left ++ [[]]) := by simp [dotsL]
theorem dotsL_seg (s : Bs) (r left : List Bs) (h1 : ¬ s = [46, 46]) (h2 : ¬ s = [46]) : dotsL (s :: r) left = dotsL r (left ++ [s]) := by simp [dotsL, h1, h2]
theorem dotsL_ne : ∀ (l left out : List Bs), dotsL l left = some out → l ≠ [] ∨ left ≠ [] → out ≠ []
  | [], left, out, h, hn => by
    rw [dotsL_nil] at h
    cases h
    simpa using hn
  | s :: r, left, out, h, _ => by
    by_cases h1 : s = [46, 46]
    · subst h1
      by_cases hl : left = []
      · subst hl; rw [dotsL_up0] at h; cases h
      · by_cases hr : r = []
        · subst hr; rw [dotsL_upEnd left hl] at h; exact dotsL_ne [] _ out h (.inr (by simp))
        · rw [dotsL_up r left hl hr] at h; exact dotsL_ne r _ out h (.inl hr)
    · by_cases h2 : s = [46]
      · subst h2
        by_cases hr : r = []
        · subst hr; rw [dotsL_dotEnd left] at h; exact dotsL_ne [] _ out h (.inr (by simp))
        · rw [dotsL_dot r left hr] at h; exact dotsL_ne r _ out h (.inl hr)
      · rw [dotsL_seg s r left h1 h2] at h; exact dotsL_ne r _ out h (.inr (by simp))

/-- The segments, each with a slash before it. -/
def slashed (xs : List Bs) : Bs := (xs.map fun x => 47 :: x).flatten
theorem slashed_append (a b : List Bs) : slashed (a ++ b) = slashed a ++ slashed b := by simp [slashed]
theorem slashed_one (x : Bs) : slashed [x] = 47 :: x := by simp [slashed]
theorem slashed_join (xs : List Bs) (h : xs ≠ []) : 47 :: Lib.join xs [47] = slashed xs := by
  cases xs with
  | nil => exact absurd rfl h
  | cons x r => rw [Lib.join_cons]; simp [slashed, Lib.joinTail]

/-- How many bytes the segments of a list take, a slash for each. -/
def room (xs : List Bs) : Nat := (slashed xs).length
theorem room_nil : room [] = 0 := rfl
theorem room_append (a b : List Bs) : room (a ++ b) = room a + room b := by simp [room, slashed_append]
theorem room_one (x : Bs) : room [x] = x.length + 1 := by simp [room, slashed_one]
theorem room_cons (x : Bs) (r : List Bs) : room (x :: r) = x.length + 1 + room r := by rw [show x :: r = [x] ++ r from rfl, room_append, room_one]
theorem room_dropLast (xs : List Bs) : room xs.dropLast ≤ room xs := by
  by_cases h : xs = []
  · subst h; simp
  · conv => rhs; rw [← List.dropLast_concat_getLast h]
    rw [room_append]; omega
theorem room_split (c : UInt8) : ∀ (acc l : Bs), room (splitAcc c acc l) = acc.length + l.length + 1
  | acc, [] => by rw [splitAcc, room_one]; simp
  | acc, b :: t => by
    rw [splitAcc]; split
    · rw [room_cons, room_split c [] t]; simp; omega
    · rw [room_split c _ t]; simp; omega
theorem room_splitOn (c : UInt8) (l : Bs) : room (splitOn c l) = l.length + 1 := by rw [splitOn, room_split]; simp

structure Adr where
  host : Bs
  path : Bs
  query : Bs
  has : Bool
  deriving DecidableEq

def Adr.text (a : Adr) : Bs := adText a.host a.path a.query a.has
def marksP : Bs := [33, 36, 38, 39, 40, 41, 42, 43, 44, 59, 61, 58, 64, 47]
def marksQ : Bs := [33, 36, 38, 39, 40, 41, 42, 43, 44, 59, 61, 58, 64, 47, 63]

/-- What Parse returns: an address, or the number of an error. -/
def parse (h t : Bs) : Except Int Adr :=
  if hostOk h = false then .error 8
  else if (cutAt 63 t).1.head? ≠ some 47 then .error 27
  else match canon (cutAt 63 t).1 marksP, canon (cutAt 63 t).2.1 marksQ with
    | some p, some q => match dotsL (splitOn 47 (p.drop 1)) [] with
      | none => .error 27
      | some left => if (adText (lower h) (slashed left) q (cutAt 63 t).2.2).length > 1024 then .error 5 else .ok ⟨lower h, slashed left, q, (cutAt 63 t).2.2⟩
    | _, _ => .error 27

theorem canonL_pre (m : Bs) : ∀ (n : Nat) (l out r : Bs), l.length ≤ n → canonL m l out = some r → ∃ t, r = out ++ t ∧ t.length ≤ l.length
  | n, [], out, r, _, h => by rw [canonL_nil] at h; cases h; exact ⟨[], by simp, by simp⟩
  | 0, c :: t, out, r, hn, _ => by simp at hn
  | n + 1, c :: t, out, r, hn, h => by
    simp only [List.length_cons] at hn
    by_cases hc : c = 37
    · subst hc
      match t, hn, h with
      | [], _, h => rw [canonL_short m [] out (by simp)] at h; cases h
      | [a], _, h => rw [canonL_short m [a] out (by simp)] at h; cases h
      | a :: b :: t', hn, h =>
        by_cases h1 : hexv a.toNat < 0 ∨ hexv b.toNat < 0
        · rw [canonL_nohex m a b t' out h1] at h; cases h
        · have h1a : ¬ hexv a.toNat < 0 := fun x => h1 (.inl x)
          have h1b : ¬ hexv b.toNat < 0 := fun x => h1 (.inr x)
          by_cases h2 : 16 * hexv a.toNat + hexv b.toNat < 32 ∨ 16 * hexv a.toNat + hexv b.toNat = 127
          · rw [canonL_low m a b t' out h1a h1b h2] at h; cases h
          · rw [canonL_pct m a b t' out h1a h1b (fun x => h2 (.inl x)) (fun x => h2 (.inr x))] at h
            simp only [List.length_cons] at hn
            obtain ⟨u, h3, h4⟩ := canonL_pre m n t' _ r (by omega) h
            have h5 := pctOut_len (16 * hexv a.toNat + hexv b.toNat)
            exact ⟨pctOut (16 * hexv a.toNat + hexv b.toNat) ++ u, by rw [h3]; simp, by simp; omega⟩
    · by_cases hu : unresB c.toNat = true ∨ inB m c.toNat = true
      · rw [canonL_plain m c t out hc hu] at h
        obtain ⟨u, h3, h4⟩ := canonL_pre m n t _ r (by omega) h
        exact ⟨c :: u, by rw [h3]; simp, by simp; omega⟩
      · have hu1 : unresB c.toNat = false := by simpa using fun x => hu (.inl x)
        have hu2 : inB m c.toNat = false := by simpa using fun x => hu (.inr x)
        rw [canonL_bad m c t out hc hu1 hu2] at h; cases h

theorem canon_len (l m r : Bs) (h : canon l m = some r) : r.length ≤ l.length := by
  obtain ⟨t, rfl, ht⟩ := canonL_pre m l.length l [] r (Nat.le_refl _) h
  simpa using ht
theorem canon_slash (t r : Bs) (h : canon (47 :: t) marksP = some r) : ∃ u, r = 47 :: u ∧ u.length ≤ t.length := by
  rw [canon, canonL_plain marksP 47 t [] (by decide) (.inr (by decide))] at h
  obtain ⟨u, rfl, hu⟩ := canonL_pre marksP t.length t _ r (Nat.le_refl _) h
  exact ⟨u, by simp, hu⟩
theorem cutAt_len (c : UInt8) (l : Bs) : (cutAt c l).1.length ≤ l.length ∧ (cutAt c l).2.1.length ≤ l.length := by
  induction l with
  | nil => simp [cutAt]
  | cons b t ih =>
    rw [cutAt]; split
    · simp
    · simp; omega
end Go.Proofs.YtjijijjkkhpjnaaGreatDoor.Ad
end

section
namespace Go.Proofs.YtjijijjkkhpjnaaGreatDoor.Ad
open Pl

end Go.Proofs.YtjijijjkkhpjnaaGreatDoor.Ad
end

section
namespace Go.Proofs.YtjijijjkkhpjnaaGreatDoor.Ad
open Pl

/-! ### hosts -/
def upHex (b : UInt8) : Bool := decide ((48 ≤ b.toNat ∧ b.toNat ≤ 57) ∨ (65 ≤ b.toNat ∧ b.toNat ≤ 70))
/-- A canonical text: plain bytes, and encoded bytes that must be encoded. -/
def cf (m : Bs) : Bs → Bool
  | [] => true
  | c :: t => if c = 37 then
      match t with
      | a :: b :: t' => upHex a && upHex b && !decide (16 * hexv a.toNat + hexv b.toNat < 32) && !decide (16 * hexv a.toNat + hexv b.toNat = 127) && !unresB (16 * hexv a.toNat + hexv b.toNat) && cf m t'
      | _ => false
    else (unresB c.toNat || inB m c.toNat) && cf m t
theorem cf_plain (m : Bs) (c : UInt8) (t : Bs) (h : ¬ c = 37) : cf m (c :: t) = ((unresB c.toNat || inB m c.toNat) && cf m t) := by
  match t with
  | [] => simp [cf, h]
  | [a] => simp [cf, h]
  | a :: b :: t' => simp [cf, h]
theorem cf_pct (m : Bs) (a b : UInt8) (t : Bs) : cf m (37 :: a :: b :: t) = (upHex a && upHex b && !decide (16 * hexv a.toNat + hexv b.toNat < 32) && !decide (16 * hexv a.toNat + hexv b.toNat = 127) && !unresB (16 * hexv a.toNat + hexv b.toNat) && cf m t) := by
  simp [cf]
theorem hex_facts (a : UInt8) : upHex a = true → 0 ≤ hexv a.toNat ∧ hexv a.toNat ≤ 15 ∧ hexD (hexv a.toNat) = a ∧ a ≠ 47 := by
  have h : ∀ n : Fin 256, upHex (UInt8.ofNat n.val) = true → 0 ≤ hexv (UInt8.ofNat n.val).toNat ∧ hexv (UInt8.ofNat n.val).toNat ≤ 15 ∧ hexD (hexv (UInt8.ofNat n.val).toNat) = UInt8.ofNat n.val ∧ UInt8.ofNat n.val ≠ 47 := by decide +kernel
  have := h ⟨a.toNat, a.toNat_lt⟩
  simpa using this
theorem hexD_facts (n : Int) (h0 : 0 ≤ n) (h1 : n ≤ 15) : upHex (hexD n) = true ∧ hexv (hexD n).toNat = n := by
  obtain ⟨m, rfl⟩ := Int.eq_ofNat_of_zero_le h0
  have h : ∀ n : Fin 16, upHex (hexD (n.val : Int)) = true ∧ hexv (hexD (n.val : Int)).toNat = (n.val : Int) := by decide +kernel
  exact h ⟨m, by omega⟩

theorem canon_cf (m : Bs) : ∀ (n : Nat) (l out r : Bs), l.length ≤ n → (∀ c : UInt8, unresB c.toNat = true → c ≠ 37) → canonL m l out = some r → ∃ t, r = out ++ t ∧ cf m t = true
  | _, [], out, r, _, _, h => by rw [canonL_nil] at h; cases h; exact ⟨[], by simp, rfl⟩
  | 0, c :: t, out, r, hn, _, _ => by simp at hn
  | n + 1, c :: t, out, r, hn, hun, h => by
    simp only [List.length_cons] at hn
    by_cases hc : c = 37
    · subst hc
      match t, hn, h with
      | [], _, h => rw [canonL_short m [] out (by simp)] at h; cases h
      | [a], _, h => rw [canonL_short m [a] out (by simp)] at h; cases h
      | a :: b :: t', hn, h =>
        by_cases h1 : hexv a.toNat < 0 ∨ hexv b.toNat < 0
        · rw [canonL_nohex m a b t' out h1] at h; cases h
        · have h1a : ¬ hexv a.toNat < 0 := fun x => h1 (.inl x)
          have h1b : ¬ hexv b.toNat < 0 := fun x => h1 (.inr x)
          obtain ⟨_, ra⟩ := hexv_range (a.toNat : Int)
          obtain ⟨_, rb⟩ := hexv_range (b.toNat : Int)
          by_cases h2 : 16 * hexv a.toNat + hexv b.toNat < 32 ∨ 16 * hexv a.toNat + hexv b.toNat = 127
          · rw [canonL_low m a b t' out h1a h1b h2] at h; cases h
          · rw [canonL_pct m a b t' out h1a h1b (fun x => h2 (.inl x)) (fun x => h2 (.inr x))] at h
            simp only [List.length_cons] at hn
            obtain ⟨u, h3, h4⟩ := canon_cf m n t' _ r (by omega) hun h
            refine ⟨pctOut (16 * hexv a.toNat + hexv b.toNat) ++ u, by rw [h3]; simp, ?_⟩
            generalize hN : 16 * hexv a.toNat + hexv b.toNat = N at h2 ⊢
            unfold pctOut
            cases hu : unresB N with
            | true =>
              have e : (((UInt8.ofNat N.toNat).toNat : Nat) : Int) = N := by simp; omega
              have hu2 : unresB ((UInt8.ofNat N.toNat).toNat : Int) = true := by rw [e]; exact hu
              simp only [if_true, List.cons_append, List.nil_append]
              rw [cf_plain m _ u (hun _ hu2), hu2, h4]; rfl
            | false =>
              simp only [Bool.false_eq_true, if_false, List.cons_append, List.nil_append]
              obtain ⟨d1, d2⟩ := hexD_facts (N / 16) (by omega) (by omega)
              obtain ⟨d3, d4⟩ := hexD_facts (N % 16) (by omega) (by omega)
              rw [cf_pct, d1, d3, d2, d4, show 16 * (N / 16) + N % 16 = N by omega, hu, h4, decide_eq_false (fun x => h2 (.inl x)), decide_eq_false (fun x => h2 (.inr x))]
              rfl
    · by_cases hu : unresB c.toNat = true ∨ inB m c.toNat = true
      · rw [canonL_plain m c t out hc hu] at h
        obtain ⟨u, h3, h4⟩ := canon_cf m n t _ r (by omega) hun h
        exact ⟨c :: u, by rw [h3]; simp, by rw [cf_plain m c u hc, h4, Bool.and_true, Bool.or_eq_true]; exact hu⟩
      · have hu1 : unresB c.toNat = false := by simpa using fun x => hu (.inl x)
        have hu2 : inB m c.toNat = false := by simpa using fun x => hu (.inr x)
        rw [canonL_bad m c t out hc hu1 hu2] at h; cases h

theorem unres_37 (c : UInt8) (h : unresB c.toNat = true) : c ≠ 37 := by
  rintro rfl; revert h; decide
theorem canon_to_cf {m l r : Bs} (h : canon l m = some r) : cf m r = true := by
  obtain ⟨t, rfl, ht⟩ := canon_cf m l.length l [] r (Nat.le_refl _) unres_37 h
  simpa using ht
end Go.Proofs.YtjijijjkkhpjnaaGreatDoor.Ad
end

section
namespace Go.Proofs.YtjijijjkkhpjnaaGreatDoor.Ad
open Pl

theorem cf_split (m : Bs) : ∀ (n : Nat) (l : Bs), l.length ≤ n → cf m l = true → ∀ x ∈ splitOn 47 l, cf m x = true
  | _, [], _, _, x, hx => by simp [splitOn, splitAcc] at hx; subst hx; rfl
  | 0, c :: t, hn, _, _, _ => by simp at hn
  | n + 1, c :: t, hn, h, x, hx => by
    simp only [List.length_cons] at hn
    by_cases hc : c = 37
    · subst hc
      match t, hn, h, hx with
      | [], _, h, _ => simp [cf] at h
      | [a], _, h, _ => simp [cf] at h
      | a :: b :: t', hn, h, hx =>
        simp only [List.length_cons] at hn
        rw [cf_pct] at h
        have h0 := h
        simp only [Bool.and_eq_true] at h
        obtain ⟨⟨⟨⟨⟨h1, h2⟩, _⟩, _⟩, _⟩, h6⟩ := h
        obtain ⟨_, _, _, a7⟩ := hex_facts a h1
        obtain ⟨_, _, _, b7⟩ := hex_facts b h2
        obtain ⟨y1, r1, e1, f1⟩ := splitOn_cons_ne 47 b t' b7
        obtain ⟨y2, r2, e2, f2⟩ := splitOn_cons_ne 47 a (b :: t') a7
        obtain ⟨y3, r3, e3, f3⟩ := splitOn_cons_ne 47 37 (a :: b :: t') (by decide)
        rw [f1] at e2; obtain ⟨rfl, rfl⟩ := List.cons.inj e2
        rw [f2] at e3; obtain ⟨rfl, rfl⟩ := List.cons.inj e3
        have ih := cf_split m n t' (by omega) h6
        rw [e1] at ih
        rw [f3] at hx
        rcases List.mem_cons.1 hx with rfl | hx
        · rw [cf_pct]
          rw [Bool.and_eq_true] at h0 ⊢
          exact ⟨h0.1, ih y1 (List.mem_cons_self ..)⟩
        · exact ih x (List.mem_cons_of_mem _ hx)
    · rw [cf_plain m c t hc, Bool.and_eq_true] at h
      have ih := cf_split m n t (by omega) h.2
      by_cases h47 : c = 47
      · subst h47
        rw [splitOn_cons_eq] at hx
        rcases List.mem_cons.1 hx with rfl | hx
        · rfl
        · exact ih x hx
      · obtain ⟨y, r, e, f⟩ := splitOn_cons_ne 47 c t h47
        rw [e] at ih
        rw [f] at hx
        rcases List.mem_cons.1 hx with rfl | hx
        · rw [cf_plain m c y hc, Bool.and_eq_true]
          exact ⟨h.1, ih y (List.mem_cons_self ..)⟩
        · exact ih x (List.mem_cons_of_mem _ hx)

theorem splitAcc_no (c : UInt8) : ∀ (acc l : Bs), c ∉ acc → ∀ x ∈ splitAcc c acc l, c ∉ x
  | acc, [], h, x, hx => by simp [splitAcc] at hx; subst hx; exact h
  | acc, b :: t, h, x, hx => by
    rw [splitAcc] at hx
    split at hx
    · rcases List.mem_cons.1 hx with rfl | hx
      · exact h
      · exact splitAcc_no c [] t (by simp) x hx
    · rename_i hb
      exact splitAcc_no c (acc ++ [b]) t (by simp only [List.mem_append, List.mem_singleton, not_or]; exact ⟨h, fun e => hb e.symm⟩) x hx
theorem splitOn_no (c : UInt8) (l x : Bs) (hx : x ∈ splitOn c l) : c ∉ x := splitAcc_no c [] l (by simp) x hx

theorem dotsL_mem : ∀ (l left out : List Bs), dotsL l left = some out → ∀ x ∈ out, x ∈ left ∨ x ∈ l ∨ x = []
  | [], left, out, h, x, hx => by rw [dotsL_nil] at h; cases h; exact .inl hx
  | s :: r, left, out, h, x, hx => by
    have drp : ∀ y, y ∈ left.dropLast → y ∈ left := fun y hy => List.dropLast_subset left hy
    by_cases h1 : s = [46, 46]
    · subst h1
      by_cases hl : left = []
      · subst hl; rw [dotsL_up0] at h; cases h
      · by_cases hr : r = []
        · subst hr; rw [dotsL_upEnd left hl] at h
          rcases dotsL_mem [] _ out h x hx with h2 | h2 | h2
          · rcases List.mem_append.1 h2 with h2 | h2
            · exact .inl (drp x h2)
            · exact .inr (.inr (by simpa using h2))
          · cases h2
          · exact .inr (.inr h2)
        · rw [dotsL_up r left hl hr] at h
          rcases dotsL_mem r _ out h x hx with h2 | h2 | h2
          · exact .inl (drp x h2)
          · exact .inr (.inl (List.mem_cons_of_mem _ h2))
          · exact .inr (.inr h2)
    · by_cases h2 : s = [46]
      · subst h2
        by_cases hr : r = []
        · subst hr; rw [dotsL_dotEnd left] at h
          rcases dotsL_mem [] _ out h x hx with h2 | h2 | h2
          · rcases List.mem_append.1 h2 with h2 | h2
            · exact .inl h2
            · exact .inr (.inr (by simpa using h2))
          · cases h2
          · exact .inr (.inr h2)
        · rw [dotsL_dot r left hr] at h
          rcases dotsL_mem r _ out h x hx with h2 | h2 | h2
          · exact .inl h2
          · exact .inr (.inl (List.mem_cons_of_mem _ h2))
          · exact .inr (.inr h2)
      · rw [dotsL_seg s r left h1 h2] at h
        rcases dotsL_mem r _ out h x hx with h3 | h3 | h3
        · rcases List.mem_append.1 h3 with h3 | h3
          · exact .inl h3
          · exact .inr (.inl (by simp at h3; simp [h3]))
        · exact .inr (.inl (List.mem_cons_of_mem _ h3))
        · exact .inr (.inr h3)

def noDot (x : Bs) : Prop := x ≠ [46] ∧ x ≠ [46, 46]
theorem noDot_nil : noDot [] := by unfold noDot; decide
theorem dotsL_noDot : ∀ (l left out : List Bs), dotsL l left = some out → (∀ x ∈ left, noDot x) → ∀ x ∈ out, noDot x
  | [], left, out, h, hl, x, hx => by rw [dotsL_nil] at h; cases h; exact hl x hx
  | s :: r, left, out, h, hlf, x, hx => by
    have drp : ∀ y ∈ left.dropLast, noDot y := fun y hy => hlf y (List.dropLast_subset left hy)
    have app : ∀ (L : List Bs), (∀ y ∈ L, noDot y) → ∀ z, noDot z → ∀ y ∈ L ++ [z], noDot y := fun L hL z hz y hy => by
      rcases List.mem_append.1 hy with hy | hy
      · exact hL y hy
      · simp at hy; rw [hy]; exact hz
    by_cases h1 : s = [46, 46]
    · subst h1
      by_cases hl : left = []
      · subst hl; rw [dotsL_up0] at h; cases h
      · by_cases hr : r = []
        · subst hr; rw [dotsL_upEnd left hl] at h
          exact dotsL_noDot [] _ out h (app _ drp _ noDot_nil) x hx
        · rw [dotsL_up r left hl hr] at h
          exact dotsL_noDot r _ out h drp x hx
    · by_cases h2 : s = [46]
      · subst h2
        by_cases hr : r = []
        · subst hr; rw [dotsL_dotEnd left] at h
          exact dotsL_noDot [] _ out h (app _ hlf _ noDot_nil) x hx
        · rw [dotsL_dot r left hr] at h
          exact dotsL_noDot r _ out h hlf x hx
      · rw [dotsL_seg s r left h1 h2] at h
        exact dotsL_noDot r _ out h (app _ hlf _ ⟨h2, h1⟩) x hx
/-- What an address out of Parse is made of. -/
theorem parse_form {h t : Bs} {a : Adr} (hp : parse h t = .ok a) :
    hostOk h = true ∧ ∃ left : List Bs, left ≠ [] ∧ (∀ x ∈ left, noDot x ∧ (47 : UInt8) ∉ x ∧ cf marksP x = true) ∧ a = ⟨lower h, slashed left, a.query, a.has⟩ ∧ cf marksQ a.query = true ∧ (a.has = false → a.query = []) ∧ a.text.length ≤ 1024 := by
  unfold parse at hp
  split at hp
  · cases hp
  · rename_i hk
    have hk' : hostOk h = true := by simpa using hk
    split at hp
    · cases hp
    · rename_i hs
      split at hp
      · rename_i p q hc1 hc2
        cases hd : dotsL (splitOn 47 (p.drop 1)) [] with
        | none => rw [hd] at hp; cases hp
        | some left =>
          rw [hd] at hp
          simp only at hp
          split at hp
          · cases hp
          · rename_i hl
            cases hp
            have hs' : (cutAt 63 t).1.head? = some 47 := by simpa using hs
            obtain ⟨p0, hp0⟩ : ∃ u, (cutAt 63 t).1 = 47 :: u := by
              cases e : (cutAt 63 t).1 with
              | nil => rw [e] at hs'; cases hs'
              | cons x r => rw [e] at hs'; simp at hs'; exact ⟨r, by rw [hs']⟩
            have hcp := hc1
            rw [hp0] at hc1
            obtain ⟨u, rfl, _⟩ := canon_slash p0 p hc1
            have hcf := canon_to_cf hcp
            rw [cf_plain marksP 47 u (by decide), Bool.and_eq_true] at hcf
            refine ⟨hk', left, dotsL_ne _ _ _ hd (.inl (splitOn_ne_nil _ _)), fun x hx => ⟨dotsL_noDot _ _ _ hd (by simp) x hx, ?_, ?_⟩, rfl, canon_to_cf hc2, ?_, by simpa [Adr.text] using Nat.le_of_not_lt hl⟩
            · rcases dotsL_mem _ _ _ hd x hx with h2 | h2 | h2
              · cases h2
              · exact splitOn_no 47 _ x h2
              · rw [h2]; simp
            · rcases dotsL_mem _ _ _ hd x hx with h2 | h2 | h2
              · cases h2
              · exact cf_split marksP _ _ (Nat.le_refl _) hcf.2 x h2
              · rw [h2]; rfl
            · intro hf
              have hf' : (cutAt 63 t).2.2 = false := hf
              have hq : (cutAt 63 t).2.1 = [] := by
                by_cases hm : (63 : UInt8) ∈ t
                · rcases indexByte_one 63 t with ⟨_, h2⟩ | ⟨p1, q1, rfl, h2, _⟩
                  · exact absurd hm h2
                  · rw [cutAt_hit 63 q1 p1 h2] at hf'; cases hf'
                · rw [cutAt_miss 63 t hm]
              rw [hq] at hc2
              have : canon [] marksQ = some [] := by rw [canon, canonL_nil]
              rw [this] at hc2
              exact (Option.some.inj hc2).symm
      · cases hp

theorem parse_lens {h t : Bs} {a : Adr} (hp : parse h t = .ok a) : a.host.length ≤ 1024 ∧ a.path.length ≤ 1024 ∧ a.query.length ≤ 1024 := by
  obtain ⟨_, left, _, _, _, _, hnq, hl⟩ := parse_form hp
  unfold Adr.text adText at hl
  cases hb : a.has with
  | true => rw [hb] at hl; simp at hl; omega
  | false => rw [hb] at hl; simp at hl; rw [hnq hb]; simp; omega
end Go.Proofs.YtjijijjkkhpjnaaGreatDoor.Ad
end

section
namespace Go.Proofs.YtjijijjkkhpjnaaGreatDoor.Ad
open Pl

/-- What Read returns: the address of the parts before and from the first slash, if its text is the whole. -/
def readL (t : Bs) : Option Adr := match parse (cutAt 47 t).1 (t.drop (cutAt 47 t).1.length) with
  | .ok a => if a.text = t then some a else none
  | .error _ => none
theorem readL_ok {t : Bs} {a : Adr} (h : parse (cutAt 47 t).1 (t.drop (cutAt 47 t).1.length) = .ok a) (ht : a.text = t) : readL t = some a := by simp [readL, h, ht]
theorem readL_err {t : Bs} {n : Int} (h : parse (cutAt 47 t).1 (t.drop (cutAt 47 t).1.length) = .error n) : readL t = none := by simp [readL, h]
theorem readL_some {t : Bs} {a : Adr} (h : readL t = some a) : parse (cutAt 47 t).1 (t.drop (cutAt 47 t).1.length) = .ok a ∧ a.text = t := by
  unfold readL at h
  split at h
  · rename_i b hb
    split at h
    · rename_i ht
      cases h
      exact ⟨hb, ht⟩
    · cases h
  · cases h

theorem parse_empty (h : Bs) : ∃ n, parse h [] = .error n := by
  unfold parse
  split
  · exact ⟨_, rfl⟩
  · rw [if_pos (by simp [cutAt])]; exact ⟨_, rfl⟩
/-- A text without a slash is no address. -/
theorem readL_miss {t : Bs} (h : (47 : UInt8) ∉ t) : readL t = none := by
  have hc := cutAt_miss 47 t h
  obtain ⟨n, hn⟩ := parse_empty t
  exact readL_err (n := n) (by rw [hc]; simpa using hn)

end Go.Proofs.YtjijijjkkhpjnaaGreatDoor.Ad
end

section
namespace Go.Proofs.YtjijijjkkhpjnaaGreatDoor.Ad
open Pl

/-! ### splitting and dot segments -/
/-- Two ends of a list of segments that mean the same. -/
def Alike (R R' : List Bs) : Prop := (R = [] ↔ R' = []) ∧ ∀ left, dotsL R left = dotsL R' left
theorem Alike.refl (R : List Bs) : Alike R R := ⟨Iff.rfl, fun _ => rfl⟩
theorem Alike.trans {R S T : List Bs} (h : Alike R S) (g : Alike S T) : Alike R T := ⟨h.1.trans g.1, fun left => (h.2 left).trans (g.2 left)⟩
theorem Alike.cons {R R' : List Bs} (s : Bs) (h : Alike R R') : Alike (s :: R) (s :: R') := by
  refine ⟨by simp, fun left => ?_⟩
  by_cases hr : R = []
  · have hr' := h.1.1 hr
    subst hr hr'
    rfl
  · have hr' : R' ≠ [] := fun e => hr (h.1.2 e)
    by_cases h1 : s = [46, 46]
    · subst h1
      by_cases hl : left = []
      · subst hl; rw [dotsL_up0, dotsL_up0]
      · rw [dotsL_up _ _ hl hr, dotsL_up _ _ hl hr']; exact h.2 _
    · by_cases h2 : s = [46]
      · subst h2
        rw [dotsL_dot _ _ hr, dotsL_dot _ _ hr']; exact h.2 _
      · rw [dotsL_seg _ _ _ h1 h2, dotsL_seg _ _ _ h1 h2]; exact h.2 _
/-- What is put before a segment. -/
def befores : List Bs := [[], [46, 47], [120, 47, 46, 46, 47], [46, 47, 46, 47]]
def okB (m : Bs) (c : UInt8) : Bool := unresB c.toNat || inB m c.toNat
/-- An encoded unreserved byte, with digits of either case. -/
def encB (c : UInt8) (low : Bool) : Bs := [37, (if low then [48, 49, 50, 51, 52, 53, 54, 55, 56, 57, 97, 98, 99, 100, 101, 102] else hexDigits : Bs).getD (c.toNat / 16) 0, (if low then [48, 49, 50, 51, 52, 53, 54, 55, 56, 57, 97, 98, 99, 100, 101, 102] else hexDigits : Bs).getD (c.toNat % 16) 0]
/-- The byte number i of a text, encoded if it is unreserved. -/
def enc1 (t : Bs) (i : Nat) (low : Bool) : Bs := match t.drop i with
  | [] => t
  | c :: r => if unresB c.toNat then t.take i ++ encB c low ++ r else t
theorem before_no (k : Nat) : (37 : UInt8) ∉ befores.getD k [] ∧ (63 : UInt8) ∉ befores.getD k [] ∧ (befores.getD k []).all (okB marksP) = true := by
  match k with
  | 0 => decide
  | 1 => decide
  | 2 => decide
  | 3 => decide
  | k + 4 => exact ⟨by simp [befores], by simp [befores], rfl⟩

/-! ### the whole path -/
structure Pc where
  text : Bs
  enc : Nat
  low : Bool
  bef : Nat
def Pc.other (p : Pc) : Bs := befores.getD p.bef [] ++ enc1 p.text p.enc p.low
def plainP (l : List Pc) : Bs := (l.map fun p => 47 :: p.text).flatten
/-- The path with the dot segments, nothing encoded. -/
def midP (l : List Pc) : Bs := (l.map fun p => 47 :: (befores.getD p.bef [] ++ p.text)).flatten
theorem ok47 : okB marksP 47 = true := by decide
theorem mid_all : ∀ (l : List Pc), (midP l).all (okB marksP) = (plainP l).all (okB marksP)
  | [] => rfl
  | p :: l => by
    have ih := mid_all l
    have hb := (before_no p.bef).2.2
    simp only [midP, plainP, List.map_cons, List.flatten_cons, List.all_append, List.all_cons, ok47, Bool.true_and] at ih ⊢
    rw [hb, ih, Bool.true_and]
end Go.Proofs.YtjijijjkkhpjnaaGreatDoor.Ad
end

section
namespace Go.Proofs.YtjijijjkkhpjnaaGreatDoor.Ad
open Pl

end Go.Proofs.YtjijijjkkhpjnaaGreatDoor.Ad
end
end

section
namespace Go.Proofs.YtjijijjkkhpjnaaGreatDoor
open Go.RowKit

/-- What a slice type's tables say. -/
structure SliceTy (P : Program) (T e : TypeId) (size bytes : Nat) : Prop where
  under : P.underlying T = some (.slice e)
  info : ∃ i z, P.info? e = some i ∧ i.zero = some z ∧ i.size = size ∧ i.bytes = bytes ∧ z.cells.size = size
  pos : 0 < size
  small : bytes ≤ 64

/-- A new block is a slice's whole memory. -/
def BlockIs (w : World) (g : Nat) (e : TypeId) (C : List Value) : Prop := ∃ fr, w.heap[g]? = some (.cells C.toArray e fr)

section
variable {P : Program} {T e : TypeId} {size bytes : Nat} (ty : SliceTy P T e size bytes)
include ty

theorem wp_app {o : Oper} {a : Act} {w : World} {K : Act → World → Prop} {Q : Exit → Act → World → Prop} (s x : Operand)
    (ho : o.op = .call { callee := .builtin .append, args := #[s, x], argTypes := #[T, T] })
    (W : World) (B B0 : Nat) (v : Value) (n : Nat) (xs : List Value) (hs : a.eval s = v) (hown : w.ownsRow B e size v n xs) (hb : Below B0 W w) (hB : B ≤ w.heap.size) (hBB : B0 ≤ B)
    (g m c : Nat) (C : List Value) (hx : a.eval x = .slice (some ⟨g, 0, none⟩) m c) (hC : BlockIs w g e C) (hl : C.length = m * size) (h1 : ∀ u ∈ C, u.oneCell' = true)
    (hn : n + m ≤ 1099511627776)
    (h : ∀ v' w', w'.ownsRow B e size v' (n + m) (xs ++ C) → Below B0 W w' → w.grownBy w' v.ownBlock → K (a.put o.dst v') w') : o.wp P a w K Q := by
  obtain ⟨i, z, hi, hz, hsize, hby, hzs⟩ := ty.info
  obtain ⟨fr, hC⟩ := hC
  have hsm := ty.small
  refine wp_append_own w s x T ho B e i z size bytes ty.under hi hz hsize hby hzs ty.pos v n xs hs hown ⟨g, 0, none⟩ m c C hx hl (fun j u hu => ?_) h1 (by unfold maxLen; omega) ?_ hB (fun v' w' h2 h3 _ => h v' w' h2 (hb.trans ?_) h3)
  · have hadd : (⟨g, 0, none⟩ : Addr).add j = ⟨g, j, none⟩ := by unfold Addr.add; split <;> simp_all
    rw [hadd, cell_of_row w g j C.toArray e fr hC]
    simpa using hu
  · calc (n + m) * bytes ≤ 1099511627776 * 64 := Nat.mul_le_mul hn hsm
      _ ≤ 140737488355328 := by decide
  · exact (Below.refl B0 w).grown h3 (by omega) (fun k hk => by have := (hown.lt k hk).1; omega)

theorem wpList_app {ops : Array Oper} {rest : List Oper} {o : Oper} {a : Act} {w : World} {Q : Exit → Act → World → Prop} (hg : o.guard = none) (s x : Operand)
    (ho : o.op = .call { callee := .builtin .append, args := #[s, x], argTypes := #[T, T] })
    (W : World) (B B0 : Nat) (v : Value) (n : Nat) (xs : List Value) (hs : a.eval s = v) (hown : w.ownsRow B e size v n xs) (hb : Below B0 W w) (hB : B ≤ w.heap.size) (hBB : B0 ≤ B)
    (g m c : Nat) (C : List Value) (hx : a.eval x = .slice (some ⟨g, 0, none⟩) m c) (hC : BlockIs w g e C) (hl : C.length = m * size) (h1 : ∀ u ∈ C, u.oneCell' = true)
    (hn : n + m ≤ 1099511627776)
    (h : ∀ v' w', w'.ownsRow B e size v' (n + m) (xs ++ C) → Below B0 W w' → w.grownBy w' v.ownBlock → wpList P ops Q rest (a.put o.dst v') w') : wpList P ops Q (o :: rest) a w :=
  wpList_plain hg fun _ hK => wp_app ty s x ho W B B0 v n xs hs hown hb hB hBB g m c C hx hC hl h1 hn fun v' w' h2 h3 h4 => hK _ _ (h v' w' h2 h3 h4)

theorem step_app {ops : Array Oper} {o : Oper} {a : Act} {w : World} {K : Act → World → Prop} {Q : Exit → Act → World → Prop} {E : Prop} (hgd : o.guard = none) (s x : Operand)
    (ho : o.op = .call { callee := .builtin .append, args := #[s, x], argTypes := #[T, T] })
    (W : World) (B B0 : Nat) (v : Value) (n : Nat) (xs : List Value) (hs : a.eval s = v) (hown : w.ownsRow B e size v n xs) (hb : Below B0 W w) (hB : B ≤ w.heap.size) (hBB : B0 ≤ B)
    (g m c : Nat) (C : List Value) (hx : a.eval x = .slice (some ⟨g, 0, none⟩) m c) (hC : BlockIs w g e C) (hl : C.length = m * size) (h1 : ∀ u ∈ C, u.oneCell' = true)
    (hn : n + m ≤ 1099511627776)
    (h : ∀ v' w', w'.ownsRow B e size v' (n + m) (xs ++ C) → Below B0 W w' → w.grownBy w' v.ownBlock → K (a.put o.dst v') w') :
    if Region.wanted o (yielded ops a.tmps) = true then Oper.wp P o a w K Q else E := by
  have hw : Region.wanted o (yielded ops a.tmps) = true := by simp [Region.wanted, hgd]
  rw [if_pos hw]
  exact wp_app ty s x ho W B B0 v n xs hs hown hb hB hBB g m c C hx hC hl h1 hn h
end

theorem blockIs_new (w : World) (C : List Value) (e : TypeId) : BlockIs (w.alloc (.cells C.toArray e)) w.heap.size e C := ⟨_, heap_alloc_new w _⟩

/-- The values of a list of bytes, of a list of strings. -/
def bvals (l : Bs) : List Value := l.map fun b => .int .u8 (b.toNat : Int)
def svals (l : List Bs) : List Value := l.map str

theorem bvals_len (l : Bs) : (bvals l).length = l.length := by simp [bvals]
theorem svals_len (l : List Bs) : (svals l).length = l.length := by simp [svals]
theorem bvals_append (a b : Bs) : bvals a ++ bvals b = bvals (a ++ b) := by simp [bvals]
theorem svals_append (a b : List Bs) : svals a ++ svals b = svals (a ++ b) := by simp [svals]
theorem tyBytes : SliceTy Tryz.prog 84 5 1 1 :=
  ⟨Tryz.underlying84, by
    obtain ⟨i, h1, h2, h3, h4⟩ := info_parts (show (Tryz.prog.info? 5).map (fun i => (i.zero, i.size, i.bytes)) = some (some (.int .u8 0), 1, 1) by kernel_rfl)
    exact ⟨i, _, h1, h2, h3, h4, rfl⟩, by decide, by decide⟩
theorem tyStrs : SliceTy Tryz.prog 42 9 1 16 :=
  ⟨Tryz.underlying42, by
    obtain ⟨i, h1, h2, h3, h4⟩ := info_parts (show (Tryz.prog.info? 9).map (fun i => (i.zero, i.size, i.bytes)) = some (some (.string ⟨#[]⟩), 1, 16) by kernel_rfl)
    exact ⟨i, _, h1, h2, h3, h4, rfl⟩, by decide, by decide⟩

/-- string(b) of a slice of bytes of the call's own. -/
theorem conv_owned {w : World} {B n : Nat} {v : Value} (out : Bs) (h : w.ownsRow B 5 1 v n (bvals out)) : (convert 84 9 v).run Tryz.prog w = .ok (.string ⟨out.toArray⟩) w := by
  have hn : n = out.length := by have := h.1; rw [bvals_len] at this; omega
  subst hn
  rcases h.2 with ⟨rfl, h0⟩ | ⟨g, cap, cur, rfl, _, hg, hnc, _, hsz, htake⟩
  · have : out = [] := List.eq_nil_of_length_eq_zero h0
    subst this
    rw [run_convert_bytes_string w 84 9 5 none 0 0 Tryz.underlying84 Tryz.underlying5 Tryz.underlying9]
    rfl
  · refine run_convert_bytes_back w 84 9 5 ⟨g, 0, none⟩ cap out Tryz.underlying84 Tryz.underlying5 Tryz.underlying9 (fun j hj => ?_)
    have := h.cells (g := g) rfl j (.int .u8 (out[j].toNat : Int)) (by simp [bvals, hj])
    exact this

theorem owned_form {w : World} {B e size n : Nat} {v : Value} {xs : List Value} (h : w.ownsRow B e size v n xs) (hn : 0 < n) : ∃ g c, v = .slice (some ⟨g, 0, none⟩) n c := by
  rcases h.2 with ⟨_, h0⟩ | ⟨g, cap, _, rfl, _⟩
  · omega
  · exact ⟨g, cap, rfl⟩

/-- The cells of an owned slice of strings. -/
theorem cellsAt_owned {w : World} {B n g c : Nat} (l : List Bs) (h : w.ownsRow B 9 1 (.slice (some ⟨g, 0, none⟩) n c) n (svals l)) : n = l.length ∧ n ≤ c ∧ B ≤ g ∧ g < w.heap.size ∧ CellsAt w g 0 l := by
  have hn : n = l.length := by have := h.1; rw [svals_len] at this; omega
  have hlt := h.lt g rfl
  refine ⟨hn, ?_, hlt.1, hlt.2, ?_⟩
  · rcases h.2 with ⟨h0, _⟩ | ⟨g', cap, cur, h1, _, _, hnc, _⟩
    · cases h0
    · cases h1; exact hnc
  · intro k x hx
    have := h.cells (g := g) rfl k (str x) (by simp [svals, hx])
    have hadd : (⟨g, 0, none⟩ : Addr).add k = ⟨g, 0 + k, none⟩ := by unfold Addr.add; split <;> simp_all
    rw [hadd] at this
    exact this
end Go.Proofs.YtjijijjkkhpjnaaGreatDoor
end

