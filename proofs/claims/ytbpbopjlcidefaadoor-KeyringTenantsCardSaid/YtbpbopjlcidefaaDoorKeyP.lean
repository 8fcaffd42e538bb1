/- Plain facts of the keyring: what a key is, when it is valid, the key that signs, adding, revoking, rotating, the ids. No condition. -/
import Derived.Test.YtbpbopjlcidefaaDoorPlain
import GoSem.Op.String
import Derived.Lib.ItoaNum
namespace Go.Proofs.YtbpbopjlcidefaaDoor
namespace Ad
/-- A key of a tenant. -/
structure KeyM where
  id : Bs
  sec : Bs
  frm : Int
  til : Int
  rev : Int
def clipK (n : Int) : Int := max 0 (min n 1099511627776)
theorem clipK_lo (n : Int) : 0 ≤ clipK n := by unfold clipK; omega
theorem clipK_hi (n : Int) : clipK n ≤ 1099511627776 := by unfold clipK; omega
def idc (b : UInt8) : Bool := (97 ≤ b.toNat && b.toNat ≤ 122) || (65 ≤ b.toNat && b.toNat ≤ 90) || (48 ≤ b.toNat && b.toNat ≤ 57)
def idOk (s : Bs) : Bool := s.all idc && decide (1 ≤ s.length) && decide (s.length ≤ 16)
def KeyM.at (k : KeyM) (now : Int) : Bool := decide (k.frm ≤ now) && decide (now < k.til) && decide (now < k.rev)
def betterK (a b : KeyM) : Bool := decide (b.frm < a.frm) || (decide (a.frm = b.frm) && Op.bytesLess a.id b.id)
/-- The best of those of the first k elements that p takes. -/
def pickI {α : Type} (p : α → Bool) (bt : α → α → Bool) (l : List α) : Nat → Option Nat
  | 0 => none
  | k + 1 => match l[k]? with
    | none => pickI p bt l k
    | some e => if p e then (match pickI p bt l k with
        | none => some k
        | some j => match l[j]? with
          | some o => if bt e o then some k else some j
          | none => some j)
      else pickI p bt l k
section
variable {α : Type} {p : α → Bool} {bt : α → α → Bool} {l : List α}
theorem pickI_not {k : Nat} {e : α} (h : l[k]? = some e) (hp : p e = false) : pickI p bt l (k + 1) = pickI p bt l k := by
  rw [pickI, h]; simp [hp]
theorem pickI_first {k : Nat} {e : α} (h : l[k]? = some e) (hp : p e = true) (h0 : pickI p bt l k = none) : pickI p bt l (k + 1) = some k := by
  rw [pickI, h]; simp [hp, h0]
theorem pickI_yes {k j : Nat} {e o : α} (h : l[k]? = some e) (hp : p e = true) (h0 : pickI p bt l k = some j) (ho : l[j]? = some o) (hb : bt e o = true) : pickI p bt l (k + 1) = some k := by
  rw [pickI, h]; simp [hp, h0, ho, hb]
theorem pickI_no {k j : Nat} {e o : α} (h : l[k]? = some e) (hp : p e = true) (h0 : pickI p bt l k = some j) (ho : l[j]? = some o) (hb : bt e o = false) : pickI p bt l (k + 1) = some j := by
  rw [pickI, h]; simp [hp, h0, ho, hb]
theorem pickI_lt : ∀ {k j : Nat}, pickI p bt l k = some j → j < k ∧ ∃ o, l[j]? = some o ∧ p o = true
  | 0, j, h => by cases h
  | k + 1, j, h => by
    rw [pickI] at h
    cases hk : l[k]? with
    | none =>
      rw [hk] at h
      have := pickI_lt (k := k) h
      exact ⟨by omega, this.2⟩
    | some e =>
      rw [hk] at h
      simp only at h
      by_cases hp : p e = true
      · rw [if_pos hp] at h
        cases h0 : pickI p bt l k with
        | none => rw [h0] at h; cases h; exact ⟨by omega, e, hk, hp⟩
        | some i =>
          rw [h0] at h
          have hi := pickI_lt (k := k) h0
          obtain ⟨hik, o, ho, hpo⟩ := hi
          simp only [ho] at h
          by_cases hb : bt e o = true
          · rw [if_pos hb] at h; cases h; exact ⟨by omega, e, hk, hp⟩
          · rw [if_neg hb] at h; cases h; exact ⟨by omega, o, ho, hpo⟩
      · rw [if_neg hp] at h
        have := pickI_lt (k := k) h
        exact ⟨by omega, this.2⟩
end
/-- The key with which a tenant signs. -/
def signI (l : List KeyM) (now : Int) : Option Nat := pickI (fun k => k.at now) betterK l l.length
def hasId (l : List KeyM) (id : Bs) : Bool := l.any fun k => k.id == id
def rngK (t : Int) (k : KeyM) : Bool := decide (t < 0) || decide (16 ≤ t) || decide (k.sec.length < 16) || decide (64 < k.sec.length) || !(k.frm == clipK k.frm) || !(k.til == clipK k.til)
/-- The error of an Add. -/
def addC (t : Int) (l : List KeyM) (k : KeyM) : Int :=
  if idOk k.id = false then 8 else if rngK t k = true then 1 else if k.til ≤ k.frm then 7 else if hasId l k.id = true then 4 else 0
def newK (k : KeyM) : KeyM := { k with rev := 1099511627777 }
def addL (t : Int) (l : List KeyM) (k : KeyM) : List KeyM := if addC t l k = 0 then l ++ [newK k] else l
def revC (l : List KeyM) (id : Bs) : Int := if hasId l id = true then 0 else 3
def revK (x : Int) (k : KeyM) : KeyM := { k with rev := min k.rev (clipK x) }
def revL (l : List KeyM) (id : Bs) (x : Int) : List KeyM := l.modify (l.findIdx fun k => k.id == id) (revK x)
def validL (l : List KeyM) (id : Bs) (now : Int) : Bool := match l.find? fun k => k.id == id with
  | none => false
  | some k => k.at now
def endK (x : Int) (k : KeyM) : KeyM := { k with til := min k.til x }
def rotId (l : List KeyM) : Bs := 107 :: Lib.decDigits (l.length + 1)
def rotK (l : List KeyM) (now life : Int) (sec : Bs) : KeyM := ⟨rotId l, sec, clipK now, clipK now + clipK life, 0⟩
def rotC (t : Int) (l : List KeyM) (now life : Int) (sec : Bs) : Int := addC t l (rotK l now life sec)
def endL (l : List KeyM) (o : Option Nat) (x : Int) : List KeyM := match o with
  | none => l
  | some i => l.modify i (endK x)
def rotL (t : Int) (l : List KeyM) (now life ov : Int) (sec : Bs) : List KeyM :=
  if rotC t l now life sec = 0 then endL (l ++ [newK (rotK l now life sec)]) (signI l (clipK now)) (clipK now + clipK ov) else l
def idsL (l : List KeyM) : List Bs := (l.map KeyM.id).mergeSort fun x y => decide (x ≤ y)
end Ad
end Go.Proofs.YtbpbopjlcidefaaDoor
