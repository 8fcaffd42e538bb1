/- Plain Lean functions that say what the functions of package address and of its reference compute. No condition. -/
import Derived.Test.YtijjggbiljkalaaDoorPlain
namespace Go.Proofs.YtijjggbiljkalaaDoor.Ad
open Pl

def alnumB (c : Int) : Bool := decide ((48 ≤ c ∧ c ≤ 57) ∨ (97 ≤ c ∧ c ≤ 122) ∨ (65 ≤ c ∧ c ≤ 90))
def unresB (c : Int) : Bool := decide (((48 ≤ c ∧ c ≤ 57) ∨ (97 ≤ c ∧ c ≤ 122) ∨ (65 ≤ c ∧ c ≤ 90)) ∨ c = 45 ∨ c = 46 ∨ c = 95 ∨ c = 126)
def hexv (c : Int) : Int := if 48 ≤ c ∧ c ≤ 57 then c - 48 else if 97 ≤ c ∧ c ≤ 102 then c - 97 + 10 else if 65 ≤ c ∧ c ≤ 70 then c - 65 + 10 else -1

theorem hexv_range (c : Int) : -1 ≤ hexv c ∧ hexv c ≤ 15 := by
  unfold hexv; split
  · omega
  · split
    · omega
    · split <;> omega

def inB (l : Bs) (c : Int) : Bool := l.any fun b => decide ((b.toNat : Int) = c)

/-- A byte in lower case. -/
def lowB (b : UInt8) : UInt8 := if 65 ≤ b.toNat ∧ b.toNat ≤ 90 then b + 32 else b
def lower (l : Bs) : Bs := l.map lowB

def tcharB (c : Int) : Bool := alnumB c || inB [33, 35, 36, 37, 38, 39, 42, 43, 45, 46, 94, 95, 96, 124, 126] c
def tokenB (l : Bs) : Bool := (l.all fun b => tcharB b.toNat) && !l.isEmpty

/-- Is a text a label of a host? -/
def okC (b : UInt8) : Bool := alnumB b.toNat || decide (b = 45)
def labelB (x : Bs) : Bool := decide (1 ≤ x.length) && decide (x.length ≤ 63) && decide (x.getD 0 0 ≠ 45) && decide (x.getD (x.length - 1) 0 ≠ 45) && x.all okC
def hostOk (l : Bs) : Bool := decide (l.length ≤ 100) && (splitOn 46 l).all labelB

theorem labelB_len (x : Bs) (h : ¬ (1 ≤ x.length ∧ x.length ≤ 63)) : labelB x = false := by
  unfold labelB
  by_cases h1 : 1 ≤ x.length
  · rw [decide_eq_false (p := x.length ≤ 63) (by omega)]; simp
  · rw [decide_eq_false h1]; simp
theorem labelB_head (x : Bs) (h1 : 0 < x.length) (h : x[0] = 45) : labelB x = false := by
  unfold labelB
  rw [show x.getD 0 0 = 45 by simp [List.getD, h1, h]]; simp
theorem labelB_last (x : Bs) (h1 : x.length - 1 < x.length) (h : x[x.length - 1] = 45) : labelB x = false := by
  unfold labelB
  rw [show x.getD (x.length - 1) 0 = 45 by simp [List.getD, List.getElem?_eq_getElem h1, h]]; simp
theorem labelB_all (x : Bs) (h0 : 1 ≤ x.length) (h1 : x.length ≤ 63) (h2 : 0 < x.length) (h3 : x.length - 1 < x.length) (h4 : ¬ x[0] = 45) (h5 : ¬ x[x.length - 1] = 45) : labelB x = x.all okC := by
  unfold labelB
  rw [show x.getD 0 0 = x[0] by simp [List.getD, h2], show x.getD (x.length - 1) 0 = x[x.length - 1] by simp [List.getD, List.getElem?_eq_getElem h3]]
  simp [h0, h1, h4, h5]

def hexDigits : Bs := [48, 49, 50, 51, 52, 53, 54, 55, 56, 57, 65, 66, 67, 68, 69, 70]
def hexD (n : Int) : UInt8 := hexDigits.getD n.toNat 0
/-- What an encoded byte turns into. -/
def pctOut (n : Int) : Bs := if unresB n then [UInt8.ofNat n.toNat] else [37, hexD (n / 16), hexD (n % 16)]

def canonL (others : Bs) : Bs → Bs → Option Bs
  | [], out => some out
  | c :: t, out =>
    if c = 37 then
      match t with
      | a :: b :: t' =>
        if hexv a.toNat < 0 ∨ hexv b.toNat < 0 then none
        else if 16 * hexv a.toNat + hexv b.toNat < 32 ∨ 16 * hexv a.toNat + hexv b.toNat = 127 then none
        else canonL others t' (out ++ pctOut (16 * hexv a.toNat + hexv b.toNat))
      | _ => none
    else if unresB c.toNat || inB others c.toNat then canonL others t (out ++ [c]) else none

/-- The text of an optional result, empty where there is none. -/
def optS : Option Bs → Bs
  | some b => b
  | none => []

theorem canonL_nil (m out : Bs) : canonL m [] out = some out := by rw [canonL]
theorem canonL_plain (m : Bs) (c : UInt8) (t out : Bs) (h : ¬ c = 37) (hu : unresB c.toNat = true ∨ inB m c.toNat = true) : canonL m (c :: t) out = canonL m t (out ++ [c]) := by
  match t with
  | [] => simp [canonL, h, hu]
  | [a] => simp [canonL, h, hu]
  | a :: b :: t' => rw [canonL, if_neg h, if_pos (by simpa using hu)]
theorem canonL_bad (m : Bs) (c : UInt8) (t out : Bs) (h : ¬ c = 37) (hu : unresB c.toNat = false) (hi : inB m c.toNat = false) : canonL m (c :: t) out = none := by
  match t with
  | [] => simp [canonL, h, hu, hi]
  | [a] => simp [canonL, h, hu, hi]
  | a :: b :: t' => rw [canonL, if_neg h, if_neg (by simp [hu, hi])]
theorem canonL_short (m t out : Bs) (h : t.length < 2) : canonL m (37 :: t) out = none := by
  match t, h with
  | [], _ => simp [canonL]
  | [_], _ => simp [canonL]
theorem canonL_nohex (m : Bs) (a b : UInt8) (t out : Bs) (h : hexv a.toNat < 0 ∨ hexv b.toNat < 0) : canonL m (37 :: a :: b :: t) out = none := by
  rw [canonL, if_pos rfl, if_pos h]
theorem canonL_low (m : Bs) (a b : UInt8) (t out : Bs) (h1 : ¬ hexv a.toNat < 0) (h2 : ¬ hexv b.toNat < 0) (h : 16 * hexv a.toNat + hexv b.toNat < 32 ∨ 16 * hexv a.toNat + hexv b.toNat = 127) : canonL m (37 :: a :: b :: t) out = none := by
  rw [canonL, if_pos rfl, if_neg (by omega), if_pos h]
theorem canonL_pct (m : Bs) (a b : UInt8) (t out : Bs) (h1 : ¬ hexv a.toNat < 0) (h2 : ¬ hexv b.toNat < 0) (h3 : ¬ 16 * hexv a.toNat + hexv b.toNat < 32) (h4 : ¬ 16 * hexv a.toNat + hexv b.toNat = 127) : canonL m (37 :: a :: b :: t) out = canonL m t (out ++ pctOut (16 * hexv a.toNat + hexv b.toNat)) := by
  rw [canonL, if_pos rfl, if_neg (by omega), if_neg (by omega)]
theorem pctOut_len (n : Int) : (pctOut n).length ≤ 3 := by unfold pctOut; split <;> simp

def canon (l others : Bs) : Option Bs := canonL others l []

theorem hex_one (d : Nat) (h : d < 16) : (([48, 49, 50, 51, 52, 53, 54, 55, 56, 57, 65, 66, 67, 68, 69, 70] : Bs).drop d).take 1 = [hexD (d : Int)] := by
  have h2 : ∀ d : Fin 16, (([48, 49, 50, 51, 52, 53, 54, 55, 56, 57, 65, 66, 67, 68, 69, 70] : Bs).drop d.val).take 1 = [hexD (d.val : Int)] := by decide
  exact h2 ⟨d, h⟩
theorem pctOut_enc (m : Nat) (h : m ≤ 255) (hu : unresB m = false) : pctOut (m : Int) = 37 :: ((([48, 49, 50, 51, 52, 53, 54, 55, 56, 57, 65, 66, 67, 68, 69, 70] : Bs).drop (m / 16)).take 1 ++ (([48, 49, 50, 51, 52, 53, 54, 55, 56, 57, 65, 66, 67, 68, 69, 70] : Bs).drop (m % 16)).take 1) := by
  unfold pctOut
  rw [hex_one (m / 16) (by omega), hex_one (m % 16) (by omega), hu]
  rfl

theorem hexD_at (d : Nat) (h : d < 16) (h2 : d < ([48, 49, 50, 51, 52, 53, 54, 55, 56, 57, 65, 66, 67, 68, 69, 70] : Bs).length) : ([48, 49, 50, 51, 52, 53, 54, 55, 56, 57, 65, 66, 67, 68, 69, 70] : Bs)[d] = hexD (d : Int) := by
  have h3 := hex_one d h
  rw [drop_cons h2] at h3
  simpa using h3
theorem pctOut_enc2 (m : Nat) (hu : unresB m = false) : pctOut (m : Int) = [37, hexD ((m / 16 : Nat) : Int), hexD ((m % 16 : Nat) : Int)] := by
  unfold pctOut
  rw [hu]
  rfl
/-- The text of an address. -/
def adText (h p q : Bs) (b : Bool) : Bs := h ++ p ++ (if b then 63 :: q else [])
theorem inB_append (a b : Bs) (c : Int) : inB (a ++ b) c = (inB a c || inB b c) := by simp [inB]

/-- A place k in a list, with what stands there and behind it. -/
theorem drop3 {l : Bs} {k : Nat} (h : k + 2 < l.length) : l.drop k = l[k] :: l[k + 1] :: l[k + 2] :: l.drop (k + 3) := by
  rw [drop_cons (by omega : k < l.length), drop_cons (by omega : k + 1 < l.length), drop_cons (by omega : k + 2 < l.length)]

end Go.Proofs.YtijjggbiljkalaaDoor.Ad
