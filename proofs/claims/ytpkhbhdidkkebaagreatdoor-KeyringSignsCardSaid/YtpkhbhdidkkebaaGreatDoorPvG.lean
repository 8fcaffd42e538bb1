/- Contracts and plain facts that the statement's proof leans on (texts joined). No condition beyond those that each names. -/
import Derived.Lib.AtoiAllCases
import Derived.Test.YtpkhbhdidkkebaaGreatDoorPvA
import Derived.Test.YtpkhbhdidkkebaaGreatDoorPvC
import Derived.Test.YtpkhbhdidkkebaaGreatDoorPvD
section
namespace Go.Proofs.YtpkhbhdidkkebaaGreatDoor
namespace Ad
open Pl
set_option linter.unusedVariables false
/-! ### decimal numbers -/
def isDig (b : UInt8) : Bool := decide (48 ≤ b.toNat) && decide (b.toNat ≤ 57)
theorem dig_of {n : Nat} (h : n < 10) : (UInt8.ofNat (48 + n)).toNat = 48 + n := by
 rw [UInt8.toNat_ofNat']; omega
theorem dec_digits (n : Nat) : ∀ b ∈ Lib.decDigits n, 48 ≤ b.toNat ∧ b.toNat ≤ 57 := by
 induction n using Nat.strongRecOn with
 | _ n ih =>
   intro b hb
   rw [Lib.decDigits] at hb
   split at hb
   ·rename_i h
    rw [List.mem_singleton.1 hb, dig_of h]; omega
   ·rcases List.mem_append.1 hb with hb | hb
    ·exact ih (n / 10) (by omega) b hb
    ·rw [List.mem_singleton.1 hb, dig_of (by omega)]; omega
theorem dec_ne (n : Nat) : Lib.decDigits n ≠ [] := by
 rw [Lib.decDigits]; split <;> simp
theorem dec_len (k : Nat) : ∀ n, 1 ≤ k → n < 10 ^ k → (Lib.decDigits n).length ≤ k := by
 induction k with
 | zero => intro n h; omega
 | succ k ih =>
   intro n _ hn
   rw [Lib.decDigits]
   split
   ·simp
   ·rename_i h
    rw [List.length_append, List.length_singleton]
    rcases Nat.eq_zero_or_pos k with h0 | h0
    ·subst h0; simp at hn; omega
    ·have := ih (n / 10) h0 (by rw [Nat.pow_succ] at hn; omega)
     omega
def valOf (l : Bs) : Nat := l.foldl (fun n b => 10 * n + (b.toNat - 48)) 0
theorem valOf_snoc (l : Bs) (b : UInt8) : valOf (l ++ [b]) = 10 * valOf l + (b.toNat - 48) := by simp [valOf]
theorem val_dec (n : Nat) : valOf (Lib.decDigits n) = n := by
 induction n using Nat.strongRecOn with
 | _ n ih =>
   rw [Lib.decDigits]
   split
   ·rename_i h
    have := dig_of h
    simp only [valOf, List.foldl_cons, List.foldl_nil]
    omega
   ·rename_i h
    have := dig_of (show n % 10 < 10 by omega)
    rw [valOf_snoc, ih (n / 10) (by omega), this]
    omega
theorem parse10_dec (r : Bs) : ∀ (l : Bs) (acc : Nat), (∀ b ∈ l, 48 ≤ b.toNat ∧ b.toNat ≤ 57) → l.foldl (fun n b => 10 * n + (b.toNat - 48)) acc < 1844674407370955161 → Lib.parseUint10 acc l = .ok (l.foldl (fun n b => 10 * n + (b.toNat - 48)) acc)
  | [], acc, _, _ => rfl
  | c :: r', acc, h, hl => by
    have hc := h c (List.mem_cons_self ..)
    have hmono : ∀ (l : Bs) (a : Nat), a ≤ l.foldl (fun n b => 10 * n + (b.toNat - 48)) a := by
     intro l
     induction l with
     | nil => intro a; exact Nat.le_refl _
     | cons x t ih => intro a; rw [List.foldl_cons]; have := ih (10 * a + (x.toNat - 48)); omega
    rw [List.foldl_cons] at hl ⊢
    have hm := hmono r' (10 * acc + (c.toNat - 48))
    rw [Lib.parseUint10, if_pos hc, if_neg (by omega), if_neg (by omega), show acc * 10 + (c.toNat - 48) = 10 * acc + (c.toNat - 48) by omega]
    exact parse10_dec r r' _ (fun b hb => h b (List.mem_cons_of_mem _ hb)) hl
theorem atoi_dec2 {n : Nat} (h : n ≤ 1099511627776) : Lib.atoiAll (Lib.decDigits n) = .ok (n : Int) := by
 have hd := dec_digits n
 have hv := val_dec n
 cases hl : Lib.decDigits n with
 | nil => exact absurd hl (dec_ne n)
 | cons c r =>
   rw [hl] at hd hv
   have hc := hd c (List.mem_cons_self ..)
   rw [Lib.atoiAll_plain c r (by omega) (by omega)]
   unfold Lib.parseMag
   rw [if_neg (by simp), parse10_dec [] (c :: r) 0 hd (by unfold valOf at hv; omega)]
   unfold valOf at hv
   rw [hv]
   simp only [Lib.signless]
   rw [if_neg (by omega)]
/-- What the reference reads as a number. -/
def numOk (s : Bs) : Bool := s.all isDig && decide (s.length ≤ 13)
def numN (s : Bs) : Nat := if numOk s then valOf s else 0
def numB (s : Bs) : Bool := numOk s && (!s.isEmpty && (s == Lib.decDigits (valOf s)))
theorem numB_dec {n : Nat} (h : n ≤ 1099511627776) : numB (Lib.decDigits n) = true ∧ numN (Lib.decDigits n) = n := by
 have h1 : (Lib.decDigits n).all isDig = true := List.all_eq_true.2 fun b hb => by
  have := dec_digits n b hb
  simp [isDig, this]
 have h2 := dec_len 13 n (by omega) (by omega)
 have h3 := dec_ne n
 have hk : numOk (Lib.decDigits n) = true := by unfold numOk; rw [h1, decide_eq_true h2]; rfl
 unfold numB numN
 rw [hk, if_pos rfl, val_dec]
 refine ⟨?_, rfl⟩
 cases hl : Lib.decDigits n with
 | nil => exact absurd hl h3
 | cons c r => simp
theorem numB_true {s : Bs} (h : numB s = true) : s = Lib.decDigits (numN s) := by
 unfold numB at h
 simp only [Bool.and_eq_true] at h
 unfold numN
 rw [if_pos h.1]
 exact beq_iff_eq.1 h.2.2
/-! ### what is put behind an address -/
structure TokM where
 id : Bs
 frm : Int
 til : Int
 deriving DecidableEq
def pK : Bs := [113, 107, 61]
def pF : Bs := [113, 102, 61]
def pU : Bs := [113, 117, 61]
def pS : Bs := [113, 115, 61]
def isTok (x : Bs) : Bool := pK.isPrefixOf x || pF.isPrefixOf x || pU.isPrefixOf x || pS.isPrefixOf x
def plainQ (q : Bs) : Bool := (splitOn 38 q).all fun x => !isTok x
def Adr.plus (a : Adr) (part : Bs) : Adr := ⟨a.host, a.path, if a.has then a.query ++ 38 :: part else part, true⟩
def decI (n : Int) : Bs := Lib.decDigits n.toNat
def begun (a : Adr) (t : TokM) : Adr := ((a.plus (pK ++ t.id)).plus (pF ++ decI t.frm)).plus (pU ++ decI t.til)
def checkS (a : Adr) (t : TokM) : Int :=
 if valid a = false ∨ plainQ a.query = false ∨ idOk t.id = false then 2
 else if t.til ≤ t.frm then 7
 else if t.frm < 0 ∨ 1099511627776 < t.til then 1
 else if 1024 < (begun a t).text.length + 36 then 5 else 0
theorem checkS_ok {a : Adr} {t : TokM} : checkS a t = 0 ↔ valid a = true ∧ plainQ a.query = true ∧ idOk t.id = true ∧ t.frm < t.til ∧ 0 ≤ t.frm ∧ t.til ≤ 1099511627776 ∧ (begun a t).text.length + 36 ≤ 1024 := by
 unfold checkS
 constructor
 ·intro h
  split at h
  ·cases h
  ·rename_i h1
   split at h
   ·cases h
   ·split at h
    ·cases h
    ·split at h
     ·cases h
     ·simp only [not_or, Bool.not_eq_false] at h1
      exact ⟨h1.1, h1.2.1, h1.2.2, by omega, by omega, by omega, by omega⟩
 ·rintro ⟨h1, h2, h3, h4, h5, h6, h7⟩
  rw [h1, h2, h3, if_neg (by simp), if_neg (by omega), if_neg (by omega), if_neg (by omega)]
/-- Plain bytes make a canonical text. -/
theorem cf_all {m : Bs} : ∀ {l : Bs}, (∀ c ∈ l, c ≠ 37 ∧ (unresB c.toNat || inB m c.toNat) = true) → cf m l = true
  | [], _ => rfl
  | c :: t, h => by
    have hc := h c (List.mem_cons_self ..)
    rw [cf_plain m c t hc.1, hc.2, cf_all fun x hx => h x (List.mem_cons_of_mem _ hx)]
    rfl
/-- A valid address, part by part. -/
theorem valid_iff (a : Adr) : valid a = true ↔ hostOk a.host = true ∧ lower a.host = a.host ∧ (∃ left : List Bs, left ≠ [] ∧ (∀ x ∈ left, noDot x ∧ (47 : UInt8) ∉ x ∧ cf marksP x = true) ∧ a.path = slashed left) ∧ cf marksQ a.query = true ∧ (a.has = false → a.query = []) ∧ a.text.length ≤ 1024 := by
 constructor
 ·intro h
  obtain ⟨_, hp⟩ := valid_parse a h
  obtain ⟨hk, left, hne, hx, ha, hq, hnq, hl⟩ := parse_form hp
  have h1 : a.host = lower a.host := congrArg Adr.host ha
  have h2 : a.path = slashed left := congrArg Adr.path ha
  exact ⟨hk, h1.symm, ⟨left, hne, hx, h2⟩, hq, hnq, hl⟩
 ·rintro ⟨hk, hlow, ⟨left, hne, hx, hpath⟩, hq, hnq, hl⟩
  obtain ⟨ah, ap, aq, ab⟩ := a
  simp only at hk hlow hpath hq hnq hl
  subst hpath
  have hcs := cf_slashed left (fun x hy => (hx x hy).2.2)
  have h63 := cf_no63 _ _ (Nat.le_refl _) hcs
  have hcut : cutAt 63 (Adr.target ⟨ah, slashed left, aq, ab⟩) = (slashed left, aq, ab) := by
   cases ab with
   | true => simp only [Adr.target, if_true]; exact cutAt_hit 63 aq _ h63
   | false =>
     have := hnq rfl
     subst this
     simp only [Adr.target, Bool.false_eq_true, if_false, List.append_nil]
     exact cutAt_miss 63 _ h63
  have hhead : (slashed left).head? = some 47 := by
   cases left with
   | nil => exact absurd rfl hne
   | cons x r => simp [slashed]
  have hp : parse ah (Adr.target ⟨ah, slashed left, aq, ab⟩) = .ok ⟨ah, slashed left, aq, ab⟩ := by
   unfold parse
   rw [hcut, hk]
   simp only [Bool.true_eq_false, if_false, hhead, ne_eq, not_true_eq_false]
   rw [canon_of_cf hcs, canon_of_cf hq]
   simp only
   rw [split_slashed left hne (fun x hy => (hx x hy).2.1), dotsL_id left [] (fun x hy => (hx x hy).1)]
   simp only [List.nil_append]
   rw [hlow, if_neg (by simpa [Adr.text] using hl)]
  rw [valid_eq ⟨ah, slashed left, aq, ab⟩ ⟨ah, slashed left, aq, ab⟩ (by cases ab with | true => exact .inl rfl | false => exact .inr (hnq rfl)) hp]
  simp
theorem plus_text (a : Adr) (part : Bs) (h : a.has = false → a.query = []) : (a.plus part).text = a.text ++ (if a.has then 38 else 63) :: part := by
 obtain ⟨ah, ap, aq, ab⟩ := a
 cases ab <;> simp [Adr.plus, Adr.text, adText]
theorem plus_text_len (a : Adr) (part : Bs) (h : a.has = false → a.query = []) : (a.plus part).text.length = a.text.length + 1 + part.length := by
 rw [plus_text a part h]; simp; omega
theorem plus_valid {a : Adr} {part : Bs} (h : valid a = true) (hp : cf marksQ part = true) (hl : a.text.length + 1 + part.length ≤ 1024) : valid (a.plus part) = true := by
 obtain ⟨h1, h2, h3, h4, h5, h6⟩ := (valid_iff a).1 h
 refine (valid_iff _).2 ⟨h1, h2, h3, ?_, fun h => (by cases h), by rw [plus_text_len a part h5]; exact hl⟩
 show cf marksQ (if a.has then a.query ++ 38 :: part else part) = true
 cases a.has with
 | false => exact hp
 | true =>
   refine cf_append marksQ _ _ _ (Nat.le_refl _) h4 ?_
   rw [cf_plain marksQ 38 part (by decide), hp]
   decide
theorem cf_take {m : Bs} {c : UInt8} (hc : ∀ a : UInt8, upHex a = true → a ≠ c) : ∀ (n : Nat) (l r : Bs), l.length ≤ n → cf m (l ++ c :: r) = true → c ≠ 37 → cf m l = true ∧ cf m r = true
  | _, [], r, _, h, h37 => ⟨rfl, by rw [List.nil_append, cf_plain m c r h37, Bool.and_eq_true] at h; exact h.2⟩
  | 0, b :: t, r, hn, _, _ => by simp at hn
  | n + 1, b :: t, r, hn, h, h37 => by
    simp only [List.length_cons] at hn
    by_cases hb : b = 37
    ·subst hb
     match t, hn, h with
     | [], _, h =>
       cases r with
       | nil => simp [cf] at h
       | cons y r' =>
         simp only [List.cons_append, List.nil_append] at h
         rw [cf_pct] at h
         simp only [Bool.and_eq_true] at h
         exact absurd rfl (hc c h.1.1.1.1.1)
     | [x], _, h =>
       simp only [List.cons_append, List.nil_append] at h
       rw [cf_pct] at h
       simp only [Bool.and_eq_true] at h
       exact absurd rfl (hc c h.1.1.1.1.2)
     | x :: y :: t', hn, h =>
       simp only [List.length_cons] at hn
       simp only [List.cons_append] at h
       rw [cf_pct, Bool.and_eq_true] at h
       have ih := cf_take hc n t' r (by omega) h.2 h37
       rw [cf_pct, Bool.and_eq_true]
       exact ⟨⟨h.1, ih.1⟩, ih.2⟩
    ·rw [List.cons_append, cf_plain m b _ hb, Bool.and_eq_true] at h
     have ih := cf_take hc n t r (by omega) h.2 h37
     rw [cf_plain m b t hb, Bool.and_eq_true]
     exact ⟨⟨h.1, ih.1⟩, ih.2⟩
theorem upHex_38 (a : UInt8) (h : upHex a = true) : a ≠ 38 := by rintro rfl; revert h; decide
/-- The bytes of a token. -/
theorem alnum_cf {l : Bs} (h : ∀ b ∈ l, unresB b.toNat = true) : cf marksQ l = true := cf_all fun c hc => by
 have := h c hc
 exact ⟨unres_37 c this, by rw [this]; rfl⟩
theorem unres_dig (b : UInt8) (h : 48 ≤ b.toNat ∧ b.toNat ≤ 57) : unresB b.toNat = true := by
 unfold unresB
 simp only [decide_eq_true_eq]
 omega
theorem unres_idc (b : UInt8) (h : idc b = true) : unresB b.toNat = true := by
 unfold idc at h
 simp only [Bool.or_eq_true, Bool.and_eq_true, decide_eq_true_eq] at h
 unfold unresB
 simp only [decide_eq_true_eq]
 omega
def hexc (b : UInt8) : Bool := (decide (48 ≤ b.toNat) && decide (b.toNat ≤ 57)) || (decide (97 ≤ b.toNat) && decide (b.toNat ≤ 102))
def hexOk (s : Bs) : Bool := s.all hexc && decide (s.length = 32)
theorem unres_hexc (b : UInt8) (h : hexc b = true) : unresB b.toNat = true := by
 unfold hexc at h
 simp only [Bool.or_eq_true, Bool.and_eq_true, decide_eq_true_eq] at h
 unfold unresB
 simp only [decide_eq_true_eq]
 omega
theorem id_unres {l : Bs} (h : idOk l = true) : ∀ b ∈ l, unresB b.toNat = true := fun b hb => by
 unfold idOk at h
 simp only [Bool.and_eq_true] at h
 exact unres_idc b (List.all_eq_true.1 h.1.1 b hb)
theorem hex_unres {l : Bs} (h : hexOk l = true) : ∀ b ∈ l, unresB b.toNat = true := fun b hb => by
 unfold hexOk at h
 simp only [Bool.and_eq_true] at h
 exact unres_hexc b (List.all_eq_true.1 h.1 b hb)
theorem hexOk_len {l : Bs} (h : hexOk l = true) : l.length = 32 := by
 unfold hexOk at h
 simp only [Bool.and_eq_true, decide_eq_true_eq] at h
 exact h.2
theorem idOk_len {l : Bs} (h : idOk l = true) : l.length ≤ 16 := by
 unfold idOk at h
 simp only [Bool.and_eq_true, decide_eq_true_eq] at h
 exact h.2
theorem decI_unres (n : Int) : ∀ b ∈ decI n, unresB b.toNat = true := fun b hb => unres_dig b (dec_digits n.toNat b hb)
theorem dec_unres (n : Nat) : ∀ b ∈ Lib.decDigits n, unresB b.toNat = true := fun b hb => unres_dig b (dec_digits n b hb)
theorem unres_no38 {l : Bs} (h : ∀ b ∈ l, unresB b.toNat = true) : (38 : UInt8) ∉ l := fun hm => absurd (h 38 hm) (by decide)
theorem pre_cf {p l : Bs} (hp : cf marksQ p = true) (h : ∀ b ∈ l, unresB b.toNat = true) : cf marksQ (p ++ l) = true := cf_append marksQ _ _ _ (Nat.le_refl _) hp (alnum_cf h)
theorem pre_no38 {p l : Bs} (hp : (38 : UInt8) ∉ p) (h : ∀ b ∈ l, unresB b.toNat = true) : (38 : UInt8) ∉ p ++ l := fun hm => by
 rcases List.mem_append.1 hm with hm | hm
 ·exact hp hm
 ·exact unres_no38 h hm
theorem cf_pK : cf marksQ pK = true := by decide
theorem cf_pF : cf marksQ pF = true := by decide
theorem cf_pU : cf marksQ pU = true := by decide
theorem cf_pS : cf marksQ pS = true := by decide
theorem begun_text_len (a : Adr) (t : TokM) (h : a.has = false → a.query = []) : (begun a t).text.length = a.text.length + 12 + t.id.length + (decI t.frm).length + (decI t.til).length := by
 unfold begun
 rw [plus_text_len _ _ (fun e => by cases e), plus_text_len _ _ (fun e => by cases e), plus_text_len _ _ h]
 simp only [List.length_append, pK, pF, pU, List.length_cons, List.length_nil]
 omega
theorem valid_has {a : Adr} (h : valid a = true) : a.has = false → a.query = [] := ((valid_iff a).1 h).2.2.2.2.1
theorem begun_valid {a : Adr} {t : TokM} (h : checkS a t = 0) : valid (begun a t) = true := by
 obtain ⟨h1, h2, h3, h4, h5, h6, h7⟩ := checkS_ok.1 h
 have hl := begun_text_len a t (valid_has h1)
 have l1 := plus_text_len a (pK ++ t.id) (valid_has h1)
 have l2 := plus_text_len (a.plus (pK ++ t.id)) (pF ++ decI t.frm) (fun e => by cases e)
 rw [List.length_append, show pK.length = 3 from rfl] at l1
 rw [List.length_append, show pF.length = 3 from rfl] at l2
 have v1 : valid (a.plus (pK ++ t.id)) = true := plus_valid h1 (pre_cf cf_pK (id_unres h3)) (by rw [List.length_append, show pK.length = 3 from rfl]; omega)
 have v2 : valid ((a.plus (pK ++ t.id)).plus (pF ++ decI t.frm)) = true := plus_valid v1 (pre_cf cf_pF (dec_unres _)) (by rw [List.length_append, show pF.length = 3 from rfl]; omega)
 exact plus_valid v2 (pre_cf cf_pU (dec_unres _)) (by rw [List.length_append, show pU.length = 3 from rfl]; omega)
def signed (a : Adr) (t : TokM) (s : Bs) : Adr := (begun a t).plus (pS ++ s)
theorem signed_text (a : Adr) (t : TokM) (s : Bs) : (signed a t s).text = (begun a t).text ++ 38 :: (pS ++ s) := by
 unfold signed
 rw [plus_text _ _ (fun e => by cases e)]
 rfl
theorem signed_valid {a : Adr} {t : TokM} {s : Bs} (h : checkS a t = 0) (hs : hexOk s = true) : valid (signed a t s) = true := by
 have h7 := (checkS_ok.1 h).2.2.2.2.2.2
 refine plus_valid (begun_valid h) (pre_cf cf_pS (hex_unres hs)) ?_
 rw [List.length_append, show pS.length = 3 from rfl, hexOk_len hs]; omega
/-! ### what is read -/
theorem splitOn_no1 {c : UInt8} {l : Bs} (h : c ∉ l) : splitOn c l = [l] := by rw [splitOn, splitAcc_miss c [] l h]; rfl
theorem joinTail_cons (sep x : Bs) (r : List Bs) : Lib.joinTail sep (x :: r) = sep ++ x ++ Lib.joinTail sep r := by simp [Lib.joinTail]
theorem join_splitAcc (c : UInt8) : ∀ (acc l : Bs), Lib.join (splitAcc c acc l) [c] = acc ++ l
  | acc, [] => by rw [splitAcc, Lib.join_one]; simp
  | acc, b :: t => by
    rw [splitAcc]
    split
    ·rename_i e
     subst e
     have ih := join_splitAcc b [] t
     cases hs : splitAcc b [] t with
     | nil => exact absurd hs (splitAcc_ne_nil b [] t)
     | cons x r =>
       rw [hs, Lib.join_cons] at ih
       rw [Lib.join_cons, joinTail_cons]
       simp only [List.nil_append] at ih
       rw [← ih]
       simp
    ·rw [join_splitAcc c (acc ++ [b]) t]; simp
theorem join_split (c : UInt8) (l : Bs) : Lib.join (splitOn c l) [c] = l := by rw [splitOn, join_splitAcc]; rfl
/-- The parts of a query, none where there is no query. -/
def partsA (a : Adr) : List Bs := if a.has then splitOn 38 a.query else []
theorem plus_parts (a : Adr) {part : Bs} (h : (38 : UInt8) ∉ part) : splitOn 38 (a.plus part).query = partsA a ++ [part] := by
 unfold partsA Adr.plus
 cases a.has with
 | true => simp only [if_true]; rw [splitOn_append, splitOn_no1 h]
 | false => simp only [Bool.false_eq_true, if_false]; rw [splitOn_no1 h]; rfl
theorem partsA_plus (a : Adr) {part : Bs} (h : (38 : UInt8) ∉ part) : partsA (a.plus part) = partsA a ++ [part] := by
 rw [← plus_parts a h]; rfl
theorem signed_parts (a : Adr) {t : TokM} {s : Bs} (h1 : idOk t.id = true) (h2 : hexOk s = true) : splitOn 38 (signed a t s).query = partsA a ++ [pK ++ t.id, pF ++ decI t.frm, pU ++ decI t.til, pS ++ s] := by
 unfold signed begun
 rw [plus_parts _ (pre_no38 (by decide) (hex_unres h2)), partsA_plus _ (pre_no38 (by decide) (decI_unres _)), partsA_plus _ (pre_no38 (by decide) (decI_unres _)), partsA_plus _ (pre_no38 (by decide) (id_unres h1))]
 simp
/-- The address ahead of the last four parts. -/
def restA (a : Adr) (l : List Bs) : Adr := if l.isEmpty then ⟨a.host, a.path, [], false⟩ else ⟨a.host, a.path, Lib.join l [38], true⟩
theorem restA_parts (a : Adr) (h : a.has = false → a.query = []) : ∀ b : Adr, b.host = a.host → b.path = a.path → restA b (partsA a) = a := fun b e1 e2 => by
 obtain ⟨ah, ap, aq, ab⟩ := a
 unfold partsA restA
 simp only at h e1 e2
 cases ab with
 | false => simp only [Bool.false_eq_true, if_false, List.isEmpty_nil, if_true]; rw [h rfl, e1, e2]
 | true =>
   simp only [if_true]
   have hne := splitOn_ne_nil 38 aq
   cases hs : splitOn 38 aq with
   | nil => exact absurd hs hne
   | cons x r => simp only [List.isEmpty_cons, Bool.false_eq_true, if_false]; rw [← hs, join_split, e1, e2]
def cutP (p x : Bs) : Option Bs := if p.isPrefixOf x then some (x.drop p.length) else none
theorem cutP_app (p x : Bs) : cutP p (p ++ x) = some x := by
 unfold cutP
 rw [if_pos (by rw [List.isPrefixOf_iff_prefix]; exact List.prefix_append p x), List.drop_left]
theorem cutP_some {p x v : Bs} (h : cutP p x = some v) : x = p ++ v := by
 unfold cutP at h
 split at h
 ·rename_i hp
  obtain ⟨r, rfl⟩ := List.isPrefixOf_iff_prefix.1 hp
  rw [List.drop_left] at h
  rw [Option.some.inj h]
 ·cases h
/-- The signed form, read. -/
structure SigM where
 rest : Adr
 tok : TokM
 sig : Bs
def IsSig (a : Adr) (r : SigM) : Prop := checkS r.rest r.tok = 0 ∧ hexOk r.sig = true ∧ a = signed r.rest r.tok r.sig
theorem dec_inj {x y : Int} (hx : 0 ≤ x) (hy : 0 ≤ y) (h : decI x = decI y) : x = y := by
 have := congrArg valOf h
 unfold decI at this
 rw [val_dec, val_dec] at this
 omega
theorem isSig_parts {a : Adr} {r : SigM} (h : IsSig a r) : a.has = true ∧ splitOn 38 a.query = partsA r.rest ++ [pK ++ r.tok.id, pF ++ decI r.tok.frm, pU ++ decI r.tok.til, pS ++ r.sig] ∧ r.rest = restA a (partsA r.rest) := by
 obtain ⟨h1, h2, rfl⟩ := h
 have hc := checkS_ok.1 h1
 exact ⟨rfl, signed_parts _ hc.2.2.1 h2, (restA_parts _ (valid_has hc.1) _ rfl rfl).symm⟩
theorem isSig_uniq {a : Adr} {r r' : SigM} (h : IsSig a r) (h' : IsSig a r') : r = r' := by
 obtain ⟨_, p1, q1⟩ := isSig_parts h
 obtain ⟨_, p2, q2⟩ := isSig_parts h'
 have c1 := checkS_ok.1 h.1
 have c2 := checkS_ok.1 h'.1
 have he := p1.symm.trans p2
 have hl := congrArg List.length he
 simp only [List.length_append, List.length_cons, List.length_nil] at hl
 obtain ⟨e1, e2⟩ := List.append_inj he (by omega)
 simp only [List.cons.injEq, and_true] at e2
 obtain ⟨k1, k2, k3, k4⟩ := e2
 obtain ⟨ra, ⟨ti, tf, tu⟩, sg⟩ := r
 obtain ⟨ra', ⟨ti', tf', tu'⟩, sg'⟩ := r'
 simp only at *
 have k1' := List.append_cancel_left k1
 have k2' := dec_inj c1.2.2.2.2.1 c2.2.2.2.2.1 (List.append_cancel_left k2)
 have k3' := dec_inj (by omega) (by omega) (List.append_cancel_left k3)
 have k4' := List.append_cancel_left k4
 rw [e1] at q1
 rw [q1, ← q2, k1', k2', k3', k4']
/-- A query whose last four parts are a token's. -/
theorem isSig_of {a : Adr} {l : List Bs} {id s : Bs} {x y : Int} (hv : valid a = true) (hh : a.has = true) (hl : splitOn 38 a.query = l ++ [pK ++ id, pF ++ decI x, pU ++ decI y, pS ++ s]) (hid : idOk id = true) (hs : hexOk s = true) (hx : 0 ≤ x) (hxy : x < y) (hy : y ≤ 1099511627776) (hp : plainQ (restA a l).query = true) :
 IsSig a ⟨restA a l, ⟨id, x, y⟩, s⟩ := by
 have hj := join_split 38 a.query
 obtain ⟨v1, v2, v3, v4, v5, v6⟩ := (valid_iff a).1 hv
 have heq : a = signed (restA a l) ⟨id, x, y⟩ s := by
  rw [hl] at hj
  obtain ⟨ah, ap, aq, ab⟩ := a
  simp only at hh hj
  subst hh
  unfold signed begun restA
  cases l with
  | nil =>
    rw [List.nil_append, Lib.join_cons, joinTail_cons, joinTail_cons, joinTail_cons] at hj
    simp only [Lib.joinTail, List.map_nil, List.flatten_nil, List.append_nil] at hj
    simp only [List.isEmpty_nil, if_true, Adr.plus, Bool.false_eq_true, if_false, Adr.mk.injEq, and_true, true_and]
    rw [← hj]
    simp
  | cons z r =>
    have htail : ∀ (u v : List Bs), Lib.joinTail [38] (u ++ v) = Lib.joinTail [38] u ++ Lib.joinTail [38] v := fun u v => by simp [Lib.joinTail]
    rw [List.cons_append, Lib.join_cons, htail, joinTail_cons, joinTail_cons, joinTail_cons, joinTail_cons] at hj
    simp only [Lib.joinTail, List.map_nil, List.flatten_nil, List.append_nil] at hj
    simp only [List.isEmpty_cons, Bool.false_eq_true, if_false, Adr.plus, if_true, Adr.mk.injEq, and_true, true_and]
    rw [← hj, Lib.join_cons]
    simp [Lib.joinTail]
 have hrest : valid (restA a l) = true := by
  refine (valid_iff _).2 ?_
  have hhost : (restA a l).host = a.host := by unfold restA; split <;> rfl
  have hpath : (restA a l).path = a.path := by unfold restA; split <;> rfl
  have hhq : (restA a l).has = false → (restA a l).query = [] := by unfold restA; split <;> simp
  have hcf : cf marksQ (restA a l).query = true := by
   have hq : a.query = (signed (restA a l) ⟨id, x, y⟩ s).query := congrArg Adr.query heq
   rw [hq] at v4
   unfold signed begun Adr.plus at v4
   simp only [if_true] at v4
   cases hb : (restA a l).has with
   | false => rw [hhq hb]; rfl
   | true =>
     rw [hb] at v4
     simp only [if_true, List.append_assoc, List.cons_append] at v4
     exact (cf_take upHex_38 _ _ _ (Nat.le_refl _) v4 (by decide)).1
  refine ⟨by rw [hhost]; exact v1, by rw [hhost]; exact v2, by rw [hpath]; exact v3, hcf, hhq, ?_⟩
  have h9 : a.text.length = (signed (restA a l) ⟨id, x, y⟩ s).text.length := congrArg (fun b => (Adr.text b).length) heq
  rw [signed_text, List.length_append, begun_text_len _ _ hhq] at h9
  omega
 refine ⟨checkS_ok.2 ⟨hrest, hp, hid, hxy, hx, hy, ?_⟩, hs, heq⟩
 show (begun (restA a l) ⟨id, x, y⟩).text.length + 36 ≤ 1024
 have h9 : a.text.length = (signed (restA a l) ⟨id, x, y⟩ s).text.length := congrArg (fun b => (Adr.text b).length) heq
 rw [signed_text, List.length_append, List.length_cons, List.length_append, hexOk_len hs, show pS.length = 3 from rfl] at h9
 omega
theorem isSig_valid {a : Adr} {r : SigM} (h : IsSig a r) : valid a = true := by rw [h.2.2]; exact signed_valid h.1 h.2.1
/-- The parts of the reference's names. -/
theorem arg_tok (q : Bs) : ((argL q [113, 107] true).isSome || (argL q [113, 102] true).isSome || (argL q [113, 117] true).isSome || (argL q [113, 115] true).isSome) = !plainQ q := by
 have key : ∀ (n : Bs) (l : List Bs), (argFind n l).isSome = l.any (argIs n) := fun n l => by
  induction l with
  | nil => rfl
  | cons x r ih =>
    cases hx : argIs n x with
    | true => rw [argFind_hit r hx]; simp [hx]
    | false => rw [argFind_miss r hx, ih]; simp [hx]
 unfold argL plainQ
 simp only [if_true, key]
 generalize splitOn 38 q = l
 induction l with
 | nil => rfl
 | cons x r ih =>
   simp only [List.any_cons, List.all_cons, Bool.not_and, Bool.not_not] at ih ⊢
   rw [← ih]
   show _ = ((argIs [113, 107] x || argIs [113, 102] x || argIs [113, 117] x || argIs [113, 115] x) || _)
   cases argIs [113, 107] x <;> cases argIs [113, 102] x <;> cases argIs [113, 117] x <;> cases argIs [113, 115] x <;> simp
end Ad
end Go.Proofs.YtpkhbhdidkkebaaGreatDoor
end

section
section
namespace Go.Proofs.YtpkhbhdidkkebaaGreatDoor
open Go.RowKit Pl Ad
attribute [local go_sem] ba_get conv_one conv_one_drewN ba_append ba_extract
set_option maxRecDepth 100000
set_option maxHeartbeats 4000000
set_option linter.unusedVariables false
namespace A1

theorem refDots_any (u : Bs) (w : World) (hl : u.length ≤ 1073741824) :
 Calls Tryz.prog 137 #[.string ⟨(47 :: u).toArray⟩] w fun e w' => e = .returned (.tuple #[.string ⟨(optS (dotsR (splitOn 47 u))).toArray⟩, .bool (dotsR (splitOn 47 u)).isSome]) ∧ Below w.heap.size w w' := by
 have hroom := room_splitOn 47 u
 have hne0 := splitOn_ne_nil 47 u
 go_enter Tryz.func137, Tryz.ntmps137
 go_wp2_with fail
 refine (refCut_any u 47 w (by omega)).mono ?_
 rintro e w1 ⟨b, c, rfl, hcap, hwb, hbw, hcells, hb1⟩
 have hcnt := splitOn_count 47 u
 generalize hxs0 : splitOn 47 u = xs at hcells hcap hcnt hroom hne0
 have HXS := Lib.hid hxs0
 clear hxs0
 have HNE := Lib.hid hne0
 clear hne0
 have HR := Lib.hid hroom
 clear hroom
 go_wp2_with fail
 have hz1 := hb1.size
 go_loopw [5, 14] (fun s i wr => ∃ (v : Value) (k : Nat) (left : List Bs), v = s ∧ k ≤ xs.length ∧ i = .int .i64 k ∧ wr.ownsRow w1.heap.size 9 1 v left.length (svals left) ∧ Below w1.heap.size w1 wr ∧ left.length ≤ k ∧ Hid (dotsL xs [] = dotsL (xs.drop k) left) ∧ Hid (room left + room (xs.drop k) ≤ u.length + 1)) (fun _ i _ => xs.length - (intOf i).toNat)
 case atStart => exact ⟨_, 0, [], rfl, Nat.zero_le _, rfl, World.ownsRow_nil _ _ _ _, Below.refl _ _, Nat.zero_le _, rfl, by show room [] + room xs ≤ _; rw [HR.out, room_nil]; omega⟩
 case round =>
  obtain ⟨v, k, left, rfl, hk, rfl, hown, hb, hll, H, HRM⟩ := hrel
  have hz := hb.size
  by_cases hlt : k < xs.length
  ·have hc0 := hcells k xs[k] (by simp [hlt])
   rw [Nat.zero_add] at hc0
   have hc := (hb.cell (p := ⟨b, k, none⟩) hbw).trans hc0
   have HD := Lib.hid (drop_cons hlt)
   generalize hx : xs[k] = x at hc HD
   clear hx hc0
   have hrd := room_dropLast left
   by_cases h2 : x = [46, 46]
   ·subst h2
    by_cases hl0 : left = []
    ·subst hl0
     have HF := Lib.hid (dotsR_none (by rw [H.out, HD.out, dotsL_up0]))
     rcases owned_cases hown with rfl | ⟨g, cp, rfl⟩
     all_goals
       go_wp2
       go_ret2
       exact ⟨by rw [HXS.out, HF.out]; rfl, hb1.trans (hb.mono hz1)⟩
    ·have hlp : 0 < left.length := List.length_pos_iff.2 hl0
     obtain ⟨g, cp, rfl⟩ := owned_form hown hlp
     obtain ⟨_, hlc, _, _, _⟩ := cellsAt_owned left hown
     have hpop := owned_pop hl0 hown
     have hln : ((left.length : Int) == 0) = false := beq_eq_false_iff_ne.2 (by omega)
     have hdl : left.dropLast.length = left.length - 1 := List.length_dropLast
     have hi1 : ((left.length : Int) - 1).toNat = left.length - 1 := by omega
     have HP := Lib.hid hpop
     have HDL := Lib.hid hdl
     clear hpop hdl
     by_cases hend : k + 1 = xs.length
     ·have hend1 : ((k : Int) == (xs.length : Int) - 1) = true := beq_iff_eq.2 (by omega)
      have HDE := Lib.hid (show xs.drop (k + 1) = [] from List.drop_of_length_le (by omega))
      clear hend
      have hpop := HP.out
      go_wp2_with ((at_builtin; refine wpList_app tyStrs rfl _ _ rfl w1 w1.heap.size w1.heap.size (.slice (some ⟨g, 0, none⟩) (left.length - 1) cp) (left.length - 1) (svals left.dropLast) rfl (hpop.alloc _) (hb.alloc (by omega) _) (by simp; omega) (Nat.le_refl _) wr.heap.size 1 1 [str []] rfl (blockIs_new _ _ _) rfl (by simp [Value.oneCell']) (by omega) ?_; intro v' w' hown' hb' hgrow'))
      go_roundw
      case rel => exact ⟨_, k + 1, left.dropLast ++ [[]], rfl, by omega, by go_num, by rw [List.length_append, ← svals_append, HDL.out]; exact hown', hb', by rw [List.length_append, HDL.out]; simp; omega, by show dotsL xs [] = _; rw [H.out, HD.out, HDE.out, dotsL_upEnd left hl0], by show room _ + _ ≤ _; have h9 := HRM.out; rw [HD.out, room_cons] at h9; rw [room_append, room_one]; simp at h9 ⊢; omega⟩
      case measure => simp [intOf]; omega
     ·have hend1 : ((k : Int) == (xs.length : Int) - 1) = false := beq_eq_false_iff_ne.2 (by omega)
      have HDE := Lib.hid (show xs.drop (k + 1) ≠ [] from fun h => by rw [List.drop_eq_nil_iff] at h; omega)
      go_wp2
      go_roundw
      case rel => exact ⟨_, k + 1, left.dropLast, rfl, by omega, by go_num, by rw [HDL.out]; exact HP.out, hb, by rw [HDL.out]; omega, by show dotsL xs [] = _; rw [H.out, HD.out, dotsL_up _ left hl0 HDE.out], by show room _ + _ ≤ _; have h9 := HRM.out; rw [HD.out, room_cons] at h9; simp at h9 ⊢; omega⟩
      case measure => simp [intOf]; omega
   ·by_cases h1 : x = [46]
    ·subst h1
     by_cases hend : k + 1 = xs.length
     ·have hend1 : ((k : Int) == (xs.length : Int) - 1) = true := beq_iff_eq.2 (by omega)
      have HDE := Lib.hid (show xs.drop (k + 1) = [] from List.drop_of_length_le (by omega))
      clear hend
      go_wp2_with ((at_builtin; refine wpList_app tyStrs rfl _ _ rfl w1 w1.heap.size w1.heap.size v left.length (svals left) rfl (hown.alloc _) (hb.alloc (by omega) _) (by simp; omega) (Nat.le_refl _) wr.heap.size 1 1 [str []] rfl (blockIs_new _ _ _) rfl (by simp [Value.oneCell']) (by omega) ?_; intro v' w' hown' hb' hgrow'))
      go_roundw
      case rel => exact ⟨_, k + 1, left ++ [[]], rfl, by omega, by go_num, by rw [List.length_append, ← svals_append]; exact hown', hb', by simp; omega, by show dotsL xs [] = _; rw [H.out, HD.out, HDE.out, dotsL_dotEnd], by show room _ + _ ≤ _; have h9 := HRM.out; rw [HD.out, room_cons] at h9; rw [room_append, room_one]; simp at h9 ⊢; omega⟩
      case measure => simp [intOf]; omega
     ·have hend1 : ((k : Int) == (xs.length : Int) - 1) = false := beq_eq_false_iff_ne.2 (by omega)
      have HDE := Lib.hid (show xs.drop (k + 1) ≠ [] from fun h => by rw [List.drop_eq_nil_iff] at h; omega)
      go_wp2
      go_roundw
      case rel => exact ⟨_, k + 1, left, rfl, by omega, by go_num, hown, hb, by omega, by show dotsL xs [] = _; rw [H.out, HD.out, dotsL_dot _ left HDE.out], by show room _ + _ ≤ _; have h9 := HRM.out; rw [HD.out, room_cons] at h9; simp at h9 ⊢; omega⟩
      case measure => simp [intOf]; omega
    ·have h1' : (x == [46]) = false := by simpa using h1
     have h2' : (x == [46, 46]) = false := by simpa using h2
     have HS := Lib.hid (dotsL_seg x (xs.drop (k + 1)) left h2 h1)
     clear h1 h2
     go_wp2_with ((at_builtin; refine wpList_app tyStrs rfl _ _ rfl w1 w1.heap.size w1.heap.size v left.length (svals left) rfl (hown.alloc _) (hb.alloc (by omega) _) (by simp; omega) (Nat.le_refl _) wr.heap.size 1 1 [str x] rfl (blockIs_new _ _ _) rfl (by simp [Value.oneCell']) (by omega) ?_; intro v' w' hown' hb' hgrow'))
     go_roundw
     case rel => exact ⟨_, k + 1, left ++ [x], rfl, by omega, by go_num, by rw [List.length_append, ← svals_append]; exact hown', hb', by simp; omega, by show dotsL xs [] = _; rw [H.out, HD.out, HS.out], by show room _ + _ ≤ _; have h9 := HRM.out; rw [HD.out, room_cons] at h9; rw [room_append, room_one]; omega⟩
     case measure => simp [intOf]; omega
  ·have HE := Lib.hid (show dotsL xs [] = some left by rw [H.out, List.drop_of_length_le (by omega)]; rfl)
   have HF := Lib.hid (dotsR_some HE.out)
   have HRL := Lib.hid (show room left ≤ u.length + 1 by have h9 := HRM.out; omega)
   have hl0 : left ≠ [] := dotsL_ne xs [] left HE.out (.inl HNE.out)
   obtain ⟨g, cp, rfl⟩ := owned_form hown (List.length_pos_iff.2 hl0)
   obtain ⟨_, hlc, _, hgl, hcl⟩ := cellsAt_owned left hown
   clear H HRM
   go_wp2
   go_loop [7, 51] (fun s i => ∃ k : Nat, k ≤ left.length ∧ i = .int .i64 k ∧ s = .string ⟨(slashed (left.take k)).toArray⟩) (fun _ i => left.length - (intOf i).toNat)
   case atStart => exact ⟨0, Nat.zero_le _, rfl, rfl⟩
   case round =>
    obtain ⟨k, hk, rfl, rfl⟩ := hrel
    by_cases hlt : k < left.length
    ·have hc0 := hcl k left[k] (by simp [hlt])
     rw [Nat.zero_add] at hc0
     have HT := Lib.hid (show slashed (left.take (k + 1)) = slashed (left.take k) ++ 47 :: left[k] by rw [take_snoc hlt, slashed_append, slashed_one])
     have hl1 := room_take left (k + 1)
     rw [room, HT.out, List.length_append, List.length_cons] at hl1
     have hl2 : (slashed (left.take k)).length + (left[k].length + 1) ≤ u.length + 1 := Nat.le_trans hl1 HRL.out
     clear hl1
     generalize hx : left[k] = x at hc0 HT hl2
     clear hx
     go_wp2
     go_round
     case rel => exact ⟨k + 1, by omega, by go_num, by rw [HT.out]⟩
     case measure => simp [intOf]; omega
    ·have HT := Lib.hid (show slashed (left.take k) = slashed left by rw [List.take_of_length_le (by omega)])
     go_wp2
     go_ret2
     exact ⟨by rw [HXS.out, HF.out, HT.out]; rfl, hb1.trans (hb.mono hz1)⟩
end A1
end Go.Proofs.YtpkhbhdidkkebaaGreatDoor
end

section
namespace Go.Proofs.YtpkhbhdidkkebaaGreatDoor
open Go.RowKit Pl Ad
attribute [local go_sem] ba_get conv_one conv_one_drewN ba_append ba_extract
set_option maxRecDepth 100000
set_option maxHeartbeats 4000000
set_option linter.unusedVariables false
namespace A1

/-- Block R holds an address' cells. -/
def Box (w : World) (R T : Nat) (v0 v1 v2 v3 : Value) : Prop := w.heap[R]? = some (.cells #[v0, v1, v2, v3] T (0, 0))
theorem Box.facts {w : World} {R T : Nat} {v0 v1 v2 v3 : Value} (h : Box w R T v0 v1 v2 v3) :
 (w.cell? ⟨R, 0, none⟩ = some v0 ∧ w.cell? ⟨R, 1, none⟩ = some v1 ∧ w.cell? ⟨R, 2, none⟩ = some v2 ∧ w.cell? ⟨R, 3, none⟩ = some v3) ∧ (w.frozen? ⟨R, 0, none⟩ = false ∧ w.frozen? ⟨R, 1, none⟩ = false ∧ w.frozen? ⟨R, 2, none⟩ = false ∧ w.frozen? ⟨R, 3, none⟩ = false) ∧ R < w.heap.size := by
 refine ⟨⟨?_, ?_, ?_, ?_⟩, ⟨?_, ?_, ?_, ?_⟩, (Array.getElem?_eq_some_iff.1 h).1⟩
 all_goals first
  | (rw [cell_of_row w R _ _ T _ h]; rfl)
  | (unfold World.frozen?; rw [h]; rfl)
theorem Box.below {w w' : World} {R T B : Nat} {v0 v1 v2 v3 : Value} (h : Box w R T v0 v1 v2 v3) (hb : Below B w w') (hR : R < B) : Box w' R T v0 v1 v2 v3 := (hb.block R hR).trans h
theorem box_new (w : World) (T : Nat) (v0 v1 v2 v3 : Value) : Box (w.alloc (.cells #[v0, v1, v2, v3] T)) w.heap.size T v0 v1 v2 v3 := heap_alloc_new w _

theorem Box.set {w : World} {R : Nat} {B : Nat} {W : World} (hb : Below B W w) (hR : B ≤ R) (a b c d : Value) : Below B W ((((w.setCell ⟨R, 0, none⟩ a).setCell ⟨R, 1, none⟩ b).setCell ⟨R, 2, none⟩ c).setCell ⟨R, 3, none⟩ d) :=
 (((hb.setCell (p := ⟨R, 0, none⟩) hR a).setCell (p := ⟨R, 1, none⟩) hR b).setCell (p := ⟨R, 2, none⟩) hR c).setCell (p := ⟨R, 3, none⟩) hR d
@[reducible] def adV (a : Adr) : Value := .agg #[.string ⟨a.host.toArray⟩, .string ⟨a.path.toArray⟩, .string ⟨a.query.toArray⟩, .bool a.has]
@[reducible] def ad0 : Value := .agg #[.string ⟨#[]⟩, .string ⟨#[]⟩, .string ⟨#[]⟩, .bool false]

/-- What Parse returns of a host, the segments, a query: the address, the error. -/
def pathV (h : Bs) (xs : List Bs) (q : Bs) (has : Bool) : Value :=
 match dotsL xs [] with
 | none => ad0
 | some left => if (adText h (slashed left) q has).length > 1024 then ad0 else adV ⟨h, slashed left, q, has⟩
def pathE (h : Bs) (xs : List Bs) (q : Bs) (has : Bool) : Value :=
 match dotsL xs [] with
 | none => errV 27
 | some left => if (adText h (slashed left) q has).length > 1024 then errV 5 else .nilIface
theorem path_none {h q : Bs} {xs : List Bs} {has : Bool} (hx : dotsL xs [] = none) : pathV h xs q has = ad0 ∧ pathE h xs q has = errV 27 := by
 unfold pathV pathE; rw [hx]; exact ⟨rfl, rfl⟩
theorem path_large {h q : Bs} {xs left : List Bs} {has : Bool} (hx : dotsL xs [] = some left) (hl : (adText h (slashed left) q has).length > 1024) : pathV h xs q has = ad0 ∧ pathE h xs q has = errV 5 := by
 unfold pathV pathE; rw [hx]; exact ⟨if_pos hl, if_pos hl⟩
theorem path_ok {h q : Bs} {xs left : List Bs} {has : Bool} (hx : dotsL xs [] = some left) (hl : ¬ (adText h (slashed left) q has).length > 1024) : pathV h xs q has = adV ⟨h, slashed left, q, has⟩ ∧ pathE h xs q has = .nilIface := by
 unfold pathV pathE; rw [hx]; exact ⟨if_neg hl, if_neg hl⟩

theorem parse_host (h t : Bs) (w : World) (hh : h.length ≤ 536870912) (hr : Ready w) (hk : hostOk h = false) :
 Calls Tryz.prog 7 #[.string ⟨h.toArray⟩, .string ⟨t.toArray⟩] w fun e w' => e = .returned (.tuple #[ad0, errV 8]) ∧ Below w.heap.size w w' := by
 have HE := Lib.hid (hostE_no h hk)
 clear hk
 have hbx := box_new w 27 (.string ⟨#[]⟩) (.string ⟨#[]⟩) (.string ⟨#[]⟩) (.bool false)
 have HBX := Lib.hid hbx
 have hbz := (Below.refl w.heap.size w).alloc (Nat.le_refl _) (.cells #[.string ⟨#[]⟩, .string ⟨#[]⟩, .string ⟨#[]⟩, .bool false] 27)
 have HBZ := Lib.hid hbz
 have HRD := Lib.hid (hr.below hbz)
 clear hbx hr hbz
 go_enter Tryz.func7, Tryz.ntmps7
 go_wp2_with fail
 refine (host_any h _ (by omega) HRD.out).mono ?_
 rintro e w1 ⟨rfl, hb1⟩
 rw [HE.out]
 obtain ⟨⟨c0, c1, c2, c3⟩, ⟨f0, f1, f2, f3⟩, hsz⟩ := (HBX.out.below hb1 (by simp)).facts
 have hb := HBZ.out.trans (hb1.mono (by simp))
 go_wp2_with fail
 refine bodyPost_ret (v := .tuple #[ad0, errV 8]) (by simp [results, Tryz.results7, go_sem, c0, c1, c2, c3]) rfl ⟨rfl, ?_⟩
 exact Box.set hb (Nat.le_refl _) _ _ _ _

theorem parse_slash (h t : Bs) (w : World) (hh : h.length ≤ 536870912) (ht : t.length ≤ 536870912) (hr : Ready w) (hk : hostOk h = true) (hs : (cutAt 63 t).1.head? ≠ some 47) :
 Calls Tryz.prog 7 #[.string ⟨h.toArray⟩, .string ⟨t.toArray⟩] w fun e w' => e = .returned (.tuple #[ad0, errV 27]) ∧ Below w.heap.size w w' := by
 have HE := Lib.hid (hostE_yes h hk)
 clear hk
 have HT := Lib.hid hs
 clear hs
 have hbx := box_new w 27 (.string ⟨#[]⟩) (.string ⟨#[]⟩) (.string ⟨#[]⟩) (.bool false)
 have HBX := Lib.hid hbx
 have hbz := (Below.refl w.heap.size w).alloc (Nat.le_refl _) (.cells #[.string ⟨#[]⟩, .string ⟨#[]⟩, .string ⟨#[]⟩, .bool false] 27)
 have HBZ := Lib.hid hbz
 have HRD := Lib.hid (hr.below hbz)
 clear hbx hr hbz
 go_enter Tryz.func7, Tryz.ntmps7
 go_wp2_with fail
 refine (host_any h _ (by omega) HRD.out).mono ?_
 rintro e w1 ⟨rfl, hb1⟩
 rw [HE.out]
 go_wp2_with fail
 refine (cut_any t 63 _ (by omega) (HRD.out.below hb1)).mono ?_
 rintro e w2 ⟨rfl, hb2⟩
 obtain ⟨⟨c0, c1, c2, c3⟩, ⟨f0, f1, f2, f3⟩, hsz⟩ := ((HBX.out.below hb1 (by simp)).below hb2 (by have := hb1.size; simp at this; omega)).facts
 have hb := HBZ.out.trans ((hb1.trans (hb2.mono hb1.size)).mono (by simp))
 have hp := HT.out
 generalize (cutAt 63 t).1 = p at hp ⊢
 match p, hp with
 | [], _ =>
   go_wp2_with fail
   refine bodyPost_ret (v := .tuple #[ad0, errV 27]) (by simp [results, Tryz.results7, go_sem, c0, c1, c2, c3]) rfl ⟨rfl, ?_⟩
   exact Box.set hb (Nat.le_refl _) _ _ _ _
 | x :: p', hp =>
   have hx : ¬ x = 47 := fun h => hp (by rw [h]; rfl)
   have hx1 : ((x.toNat : Int) == 47) = false := beq_eq_false_iff_ne.2 (fun h => hx (UInt8.toNat_inj.1 (show x.toNat = 47 by omega)))
   have hx2 : ((x.toNat : Int) != 47) = true := by rw [bne, hx1]; rfl
   clear hx hp
   go_wp2_with fail
   refine bodyPost_ret (v := .tuple #[ad0, errV 27]) (by simp [results, Tryz.results7, go_sem, c0, c1, c2, c3]) rfl ⟨rfl, ?_⟩
   exact Box.set hb (Nat.le_refl _) _ _ _ _
end A1
end Go.Proofs.YtpkhbhdidkkebaaGreatDoor
end

section
namespace Go.Proofs.YtpkhbhdidkkebaaGreatDoor
open Go.RowKit Pl Ad
attribute [local go_sem] ba_get conv_one conv_one_drewN ba_append ba_extract
set_option maxRecDepth 100000
set_option maxHeartbeats 4000000
set_option linter.unusedVariables false
namespace A1
theorem optS_some (l : Bs) : optS (some l) = l := rfl
attribute [local go_sem] optS_some
theorem parse_canon (h t p q : Bs) (has : Bool) (w : World) (hh : h.length ≤ 536870912) (ht : t.length ≤ 536870912) (hp : p.length ≤ 536870912) (hq : q.length ≤ 536870912) (hr : Ready w) (hk : hostOk h = true) (hs : cutAt 63 t = (47 :: p, q, has)) (hc : canon (47 :: p) marksP = none ∨ canon q marksQ = none) :
 Calls Tryz.prog 7 #[.string ⟨h.toArray⟩, .string ⟨t.toArray⟩] w fun e w' => e = .returned (.tuple #[ad0, errV 27]) ∧ Below w.heap.size w w' := by
 have HE := Lib.hid (hostE_yes h hk)
 clear hk
 have HT := Lib.hid hs
 clear hs
 have hbx := box_new w 27 (.string ⟨#[]⟩) (.string ⟨#[]⟩) (.string ⟨#[]⟩) (.bool false)
 have HBX := Lib.hid hbx
 have hbz := (Below.refl w.heap.size w).alloc (Nat.le_refl _) (.cells #[.string ⟨#[]⟩, .string ⟨#[]⟩, .string ⟨#[]⟩, .bool false] 27)
 have HBZ := Lib.hid hbz
 have HRD := Lib.hid (hr.below hbz)
 clear hbx hr hbz
 go_enter Tryz.func7, Tryz.ntmps7
 go_wp2_with fail
 refine (host_any h _ (by omega) HRD.out).mono ?_
 rintro e w1 ⟨rfl, hb1⟩
 rw [HE.out]
 go_wp2_with fail
 refine (cut_any t 63 _ (by omega) (HRD.out.below hb1)).mono ?_
 rintro e w2 ⟨rfl, hb2⟩
 rw [HT.out]
 go_wp2_with fail
 refine (canonical_any (47 :: p) marksP _ (by simp; omega) (by decide)).mono ?_
 rintro e w3 ⟨rfl, hb3⟩
 have HT3 := Lib.hid (hb2.trans (hb3.mono hb2.size))
 go_wp2_with fail
 refine (canonical_any q marksQ _ (by omega) (by decide)).mono ?_
 rintro e w4 ⟨rfl, hb4⟩
 have hb24 := HT3.out.trans (hb4.mono HT3.out.size)
 have hb14 := hb1.trans (hb24.mono hb1.size)
 have hz14 := hb14.size
 clear hb2 hb3 hb4
 obtain ⟨⟨c0, c1, c2, c3⟩, ⟨f0, f1, f2, f3⟩, hsz⟩ := (HBX.out.below hb14 (by simp)).facts
 have hb := HBZ.out.trans (hb14.mono (by simp))
 cases hcp : canon (47 :: p) marksP with
 | none =>
   go_wp2_with fail
   refine bodyPost_ret (v := .tuple #[ad0, errV 27]) (by simp [results, Tryz.results7, go_sem, c0, c1, c2, c3]) rfl ⟨rfl, ?_⟩
   exact Box.set hb (Nat.le_refl _) _ _ _ _
 | some p2 =>
   have hcq : canon q marksQ = none := by rcases hc with hc | hc; (· rw [hcp] at hc; cases hc); (· exact hc)
   rw [hcq]
   clear hcp hcq hc
   go_wp2_with fail
   refine bodyPost_ret (v := .tuple #[ad0, errV 27]) (by simp [results, Tryz.results7, go_sem, c0, c1, c2, c3]) rfl ⟨rfl, ?_⟩
   exact Box.set hb (Nat.le_refl _) _ _ _ _

theorem parse_dots (h t p q u q2 : Bs) (has : Bool) (w : World) (hh : h.length ≤ 536870912) (ht : t.length ≤ 536870912) (hp : p.length ≤ 536870912) (hq : q.length ≤ 536870912) (hr : Ready w) (hk : hostOk h = true) (hs : cutAt 63 t = (47 :: p, q, has)) (hc1 : canon (47 :: p) marksP = some (47 :: u)) (hc2 : canon q marksQ = some q2) :
 Calls Tryz.prog 7 #[.string ⟨h.toArray⟩, .string ⟨t.toArray⟩] w fun e w' => e = .returned (.tuple #[pathV (lower h) (splitOn 47 u) q2 has, pathE (lower h) (splitOn 47 u) q2 has]) ∧ Below w.heap.size w w' := by
 have HE := Lib.hid (hostE_yes h hk)
 have HH := Lib.hid (hostS_yes h hk)
 have hu : u.length ≤ 536870912 := by have := canon_len _ _ _ hc1; simp at this; omega
 have hq2 : q2.length ≤ 536870912 := by have := canon_len _ _ _ hc2; omega
 have hlh : (lower h).length ≤ 536870912 := by rw [lower_len]; exact hh
 clear hk
 have HT := Lib.hid hs
 clear hs
 have HC1 := Lib.hid hc1
 have HC2 := Lib.hid hc2
 clear hc1 hc2
 have hroom := room_splitOn 47 u
 have hne0 := splitOn_ne_nil 47 u
 have hcnt := splitOn_count 47 u
 have hbx := box_new w 27 (.string ⟨#[]⟩) (.string ⟨#[]⟩) (.string ⟨#[]⟩) (.bool false)
 have HBX := Lib.hid hbx
 have hbz := (Below.refl w.heap.size w).alloc (Nat.le_refl _) (.cells #[.string ⟨#[]⟩, .string ⟨#[]⟩, .string ⟨#[]⟩, .bool false] 27)
 have HBZ := Lib.hid hbz
 have HRD := Lib.hid (hr.below hbz)
 clear hbx hr hbz
 go_enter Tryz.func7, Tryz.ntmps7
 go_wp2_with fail
 refine (host_any h _ (by omega) HRD.out).mono ?_
 rintro e w1 ⟨rfl, hb1⟩
 rw [HE.out]
 go_wp2_with fail
 refine (cut_any t 63 _ (by omega) (HRD.out.below hb1)).mono ?_
 rintro e w2 ⟨rfl, hb2⟩
 rw [HT.out]
 go_wp2_with fail
 refine (canonical_any (47 :: p) marksP _ (by simp; omega) (by decide)).mono ?_
 rintro e w3 ⟨rfl, hb3⟩
 have HT3 := Lib.hid (hb2.trans (hb3.mono hb2.size))
 go_wp2_with fail
 refine (canonical_any q marksQ _ (by omega) (by decide)).mono ?_
 rintro e w4 ⟨rfl, hb4⟩
 have hb24 := HT3.out.trans (hb4.mono HT3.out.size)
 have hb14 := hb1.trans (hb24.mono hb1.size)
 have hz14 := hb14.size
 clear hb2 hb3 hb4
 rw [HC1.out, HC2.out, HH.out]
 go_wp2_with fail
 refine (split_any u 47 w4 (by omega) (HRD.out.below hb14)).mono ?_
 rintro e w5 ⟨b, c, rfl, hcap, hwb, hbw, hcells, hb5⟩
 generalize hxs0 : splitOn 47 u = xs at hcells hcap hcnt hroom hne0
 have HXS := Lib.hid hxs0
 clear hxs0
 have HNE := Lib.hid hne0
 have HR := Lib.hid hroom
 clear hne0 hroom
 have hb15 := hb14.trans (hb5.mono hz14)
 have hbf5 := HBZ.out.trans (hb15.mono (by simp))
 have hz5 := hb5.size
 have HBX5 := Lib.hid (HBX.out.below hb15 (by simp))
 clear hb5
 go_wp2_with fail
 go_loopw [13, 65] (fun s i wr => ∃ (v : Value) (k : Nat) (left : List Bs), v = s ∧ k ≤ xs.length ∧ i = .int .i64 k ∧ wr.ownsRow w5.heap.size 9 1 v left.length (svals left) ∧ Below w5.heap.size w5 wr ∧ left.length ≤ k ∧ Hid (dotsL xs [] = dotsL (xs.drop k) left) ∧ Hid (room left + room (xs.drop k) ≤ u.length + 1)) (fun _ i _ => xs.length - (intOf i).toNat)
 case atStart => exact ⟨_, 0, [], rfl, Nat.zero_le _, rfl, World.ownsRow_nil _ _ _ _, Below.refl _ _, Nat.zero_le _, rfl, by show room [] + room xs ≤ _; rw [HR.out, room_nil]; omega⟩
 case round =>
  obtain ⟨v, k, left, rfl, hk, rfl, hown, hb, hll, H, HRM⟩ := hrel
  have hz := hb.size
  have hsz1 : w.heap.size < w5.heap.size := by have := hb15.size; simp at this; omega
  by_cases hlt : k < xs.length
  ·have hc0 := hcells k xs[k] (by simp [hlt])
   rw [Nat.zero_add] at hc0
   have hc := (hb.cell (p := ⟨b, k, none⟩) hbw).trans hc0
   have HD := Lib.hid (drop_cons hlt)
   generalize hx : xs[k] = x at hc HD
   clear hx hc0
   have hrd := room_dropLast left
   by_cases h2 : x = [46, 46]
   ·subst h2
    by_cases hl0 : left = []
    ·subst hl0
     have HF := Lib.hid (path_none (h := lower h) (q := q2) (has := has) (xs := xs) (by rw [H.out, HD.out, dotsL_up0]))
     obtain ⟨⟨c0, c1, c2, c3⟩, ⟨f0, f1, f2, f3⟩, hsz⟩ := (HBX5.out.below hb hsz1).facts
     have hbf := hbf5.trans (hb.mono (Nat.le_of_lt hsz1))
     rcases owned_cases hown with rfl | ⟨g, cp, rfl⟩
     all_goals
       go_wp2
       refine bodyPost_ret (v := .tuple #[ad0, errV 27]) (by simp [results, Tryz.results7, go_sem, c0, c1, c2, c3]) rfl ⟨?_, ?_⟩
       ·rw [HXS.out, HF.out.1, HF.out.2]
       ·exact Box.set hbf (Nat.le_refl _) _ _ _ _
    ·have hlp : 0 < left.length := List.length_pos_iff.2 hl0
     obtain ⟨g, cp, rfl⟩ := owned_form hown hlp
     obtain ⟨_, hlc, _, _, _⟩ := cellsAt_owned left hown
     have HP := Lib.hid (owned_pop hl0 hown)
     have hln : ((left.length : Int) == 0) = false := beq_eq_false_iff_ne.2 (by omega)
     have HDL := Lib.hid (show left.dropLast.length = left.length - 1 from List.length_dropLast)
     have hi1 : ((left.length : Int) - 1).toNat = left.length - 1 := by omega
     by_cases hend : k + 1 = xs.length
     ·have hend1 : ((k : Int) == (xs.length : Int) - 1) = true := beq_iff_eq.2 (by omega)
      have HDE := Lib.hid (show xs.drop (k + 1) = [] from List.drop_of_length_le (by omega))
      clear hend
      have hpop := HP.out
      go_wp2_with ((at_builtin; refine wpList_app tyStrs rfl _ _ rfl w5 w5.heap.size w5.heap.size (.slice (some ⟨g, 0, none⟩) (left.length - 1) cp) (left.length - 1) (svals left.dropLast) rfl (hpop.alloc _) (hb.alloc (by omega) _) (by simp; omega) (Nat.le_refl _) wr.heap.size 1 1 [str []] rfl (blockIs_new _ _ _) rfl (by simp [Value.oneCell']) (by omega) ?_; intro v' w' hown' hb' hgrow'))
      go_roundw
      case rel => exact ⟨_, k + 1, left.dropLast ++ [[]], rfl, by omega, by go_num, by rw [List.length_append, ← svals_append, HDL.out]; exact hown', hb', by rw [List.length_append, HDL.out]; simp; omega, by show dotsL xs [] = _; rw [H.out, HD.out, HDE.out, dotsL_upEnd left hl0], by show room _ + _ ≤ _; have h9 := HRM.out; rw [HD.out, room_cons] at h9; rw [room_append, room_one]; simp at h9 ⊢; omega⟩
      case measure => simp [intOf]; omega
     ·have hend1 : ((k : Int) == (xs.length : Int) - 1) = false := beq_eq_false_iff_ne.2 (by omega)
      have HDE := Lib.hid (show xs.drop (k + 1) ≠ [] from fun h => by rw [List.drop_eq_nil_iff] at h; omega)
      go_wp2
      go_roundw
      case rel => exact ⟨_, k + 1, left.dropLast, rfl, by omega, by go_num, by rw [HDL.out]; exact HP.out, hb, by rw [HDL.out]; omega, by show dotsL xs [] = _; rw [H.out, HD.out, dotsL_up _ left hl0 HDE.out], by show room _ + _ ≤ _; have h9 := HRM.out; rw [HD.out, room_cons] at h9; simp at h9 ⊢; omega⟩
      case measure => simp [intOf]; omega
   ·by_cases h1 : x = [46]
    ·subst h1
     by_cases hend : k + 1 = xs.length
     ·have hend1 : ((k : Int) == (xs.length : Int) - 1) = true := beq_iff_eq.2 (by omega)
      have HDE := Lib.hid (show xs.drop (k + 1) = [] from List.drop_of_length_le (by omega))
      clear hend
      go_wp2_with ((at_builtin; refine wpList_app tyStrs rfl _ _ rfl w5 w5.heap.size w5.heap.size v left.length (svals left) rfl (hown.alloc _) (hb.alloc (by omega) _) (by simp; omega) (Nat.le_refl _) wr.heap.size 1 1 [str []] rfl (blockIs_new _ _ _) rfl (by simp [Value.oneCell']) (by omega) ?_; intro v' w' hown' hb' hgrow'))
      go_roundw
      case rel => exact ⟨_, k + 1, left ++ [[]], rfl, by omega, by go_num, by rw [List.length_append, ← svals_append]; exact hown', hb', by simp; omega, by show dotsL xs [] = _; rw [H.out, HD.out, HDE.out, dotsL_dotEnd], by show room _ + _ ≤ _; have h9 := HRM.out; rw [HD.out, room_cons] at h9; rw [room_append, room_one]; simp at h9 ⊢; omega⟩
      case measure => simp [intOf]; omega
     ·have hend1 : ((k : Int) == (xs.length : Int) - 1) = false := beq_eq_false_iff_ne.2 (by omega)
      have HDE := Lib.hid (show xs.drop (k + 1) ≠ [] from fun h => by rw [List.drop_eq_nil_iff] at h; omega)
      go_wp2
      go_roundw
      case rel => exact ⟨_, k + 1, left, rfl, by omega, by go_num, hown, hb, by omega, by show dotsL xs [] = _; rw [H.out, HD.out, dotsL_dot _ left HDE.out], by show room _ + _ ≤ _; have h9 := HRM.out; rw [HD.out, room_cons] at h9; simp at h9 ⊢; omega⟩
      case measure => simp [intOf]; omega
    ·have h1' : (x == [46]) = false := by simpa using h1
     have h2' : (x == [46, 46]) = false := by simpa using h2
     have HS := Lib.hid (dotsL_seg x (xs.drop (k + 1)) left h2 h1)
     clear h1 h2
     go_wp2_with ((at_builtin; refine wpList_app tyStrs rfl _ _ rfl w5 w5.heap.size w5.heap.size v left.length (svals left) rfl (hown.alloc _) (hb.alloc (by omega) _) (by simp; omega) (Nat.le_refl _) wr.heap.size 1 1 [str x] rfl (blockIs_new _ _ _) rfl (by simp [Value.oneCell']) (by omega) ?_; intro v' w' hown' hb' hgrow'))
     go_roundw
     case rel => exact ⟨_, k + 1, left ++ [x], rfl, by omega, by go_num, by rw [List.length_append, ← svals_append]; exact hown', hb', by simp; omega, by show dotsL xs [] = _; rw [H.out, HD.out, HS.out], by show room _ + _ ≤ _; have h9 := HRM.out; rw [HD.out, room_cons] at h9; rw [room_append, room_one]; omega⟩
     case measure => simp [intOf]; omega
  ·have HE2 := Lib.hid (show dotsL xs [] = some left by rw [H.out, List.drop_of_length_le (by omega)]; rfl)
   have HRL := Lib.hid (show room left ≤ u.length + 1 by have h9 := HRM.out; omega)
   have hl0 : left ≠ [] := dotsL_ne xs [] left HE2.out (.inl HNE.out)
   obtain ⟨g, cp, rfl⟩ := owned_form hown (List.length_pos_iff.2 hl0)
   obtain ⟨_, hlc, _, hgl, hcl⟩ := cellsAt_owned left hown
   have HJ := Lib.hid (slashed_join left hl0)
   have hjl : (Lib.join left [47]).length ≤ 536870912 := by have h9 := HRL.out; rw [room, ← HJ.out] at h9; simp at h9; omega
   clear H HRM
   go_wp2_with fail
   refine (join_any g cp left [47] wr hcl hgl (by omega) hlc (by omega)).mono ?_
   rintro e w6 ⟨rfl, hb6⟩
   have hb56 := hb.trans (hb6.mono hz)
   have hz6 := hb6.size
   clear hcl hown
   go_wp2_with fail
   rw [HJ.out]
   have hsl : (slashed left).length ≤ 536870913 := by have h9 := HRL.out; unfold room at h9; omega
   refine (text_any (lower h) (slashed left) q2 has _ (by omega) (by omega) (by omega)).mono ?_
   rintro e w7 ⟨rfl, hb7⟩
   have hbl := box_new w6 27 (.string ⟨(lower h).toArray⟩) (.string ⟨(slashed left).toArray⟩) (.string ⟨q2.toArray⟩) (.bool has)
   obtain ⟨⟨d0, d1, d2, d3⟩, ⟨_, _, _, _⟩, _⟩ := (hbl.below hb7 (by simp)).facts
   have hb57 := hb56.trans (((Below.refl w6.heap.size w6).alloc (Nat.le_refl _) (.cells #[.string ⟨(lower h).toArray⟩, .string ⟨(slashed left).toArray⟩, .string ⟨q2.toArray⟩, .bool has] 27)).trans (hb7.mono (by simp)) |>.mono (by have := hb56.size; omega))
   obtain ⟨⟨c0, c1, c2, c3⟩, ⟨f0, f1, f2, f3⟩, hsz⟩ := (HBX5.out.below hb57 hsz1).facts
   have hbf := hbf5.trans (hb57.mono (Nat.le_of_lt hsz1))
   clear hbl
   by_cases hlg : (adText (lower h) (slashed left) q2 has).length > 1024
   ·have HF := Lib.hid (path_large HE2.out hlg)
    go_wp2_with fail
    refine bodyPost_ret (v := .tuple #[ad0, errV 5]) (by simp [results, Tryz.results7, go_sem, c0, c1, c2, c3]) rfl ⟨?_, ?_⟩
    ·rw [HXS.out, HF.out.1, HF.out.2]
    ·exact Box.set hbf (Nat.le_refl _) _ _ _ _
   ·have HF := Lib.hid (path_ok HE2.out hlg)
    go_wp2_with fail
    refine bodyPost_ret (v := .tuple #[adV ⟨lower h, slashed left, q2, has⟩, .nilIface]) (by simp [results, Tryz.results7, go_sem, c0, c1, c2, c3]) rfl ⟨?_, ?_⟩
    ·rw [HXS.out, HF.out.1, HF.out.2]
    ·exact Box.set hbf (Nat.le_refl _) _ _ _ _
end A1
end Go.Proofs.YtpkhbhdidkkebaaGreatDoor
end

section
namespace Go.Proofs.YtpkhbhdidkkebaaGreatDoor
open Go.RowKit Pl Ad
namespace A1

def parseV : Except Int Adr → Value
  | .ok a => adV a
  | .error _ => ad0
def parseE : Except Int Adr → Value
  | .ok _ => .nilIface
  | .error n => errV n

theorem head_47 {p : Bs} (h : p.head? = some 47) : ∃ u, p = 47 :: u := by
 cases p with
 | nil => cases h
 | cons x t => simp at h; exact ⟨t, by rw [h]⟩

/-- The ways through Parse. -/
theorem parse_ways (h t : Bs) :
 (hostOk h = false ∧ parse h t = .error 8) ∨
 (hostOk h = true ∧ (cutAt 63 t).1.head? ≠ some 47 ∧ parse h t = .error 27) ∨
 (hostOk h = true ∧ ∃ p q has, cutAt 63 t = (47 :: p, q, has) ∧ (canon (47 :: p) marksP = none ∨ canon q marksQ = none) ∧ parse h t = .error 27) ∨
 (hostOk h = true ∧ ∃ p q has u q2, cutAt 63 t = (47 :: p, q, has) ∧ canon (47 :: p) marksP = some (47 :: u) ∧ canon q marksQ = some q2 ∧
   parse h t = match dotsL (splitOn 47 u) [] with
    | none => .error 27
    | some left => if (adText (lower h) (slashed left) q2 has).length > 1024 then .error 5 else .ok ⟨lower h, slashed left, q2, has⟩) := by
 cases hk : hostOk h with
 | false => exact .inl ⟨rfl, by simp [parse, hk]⟩
 | true =>
   refine .inr ?_
   by_cases hs : (cutAt 63 t).1.head? = some 47
   ·refine .inr ?_
    obtain ⟨p, hp⟩ := head_47 hs
    have hcut : cutAt 63 t = (47 :: p, (cutAt 63 t).2.1, (cutAt 63 t).2.2) := by rw [← hp]
    cases hc1 : canon (47 :: p) marksP with
    | none => exact .inl ⟨rfl, p, _, _, hcut, .inl hc1, by simp [parse, hk, hp, hc1]⟩
    | some p2 =>
      cases hc2 : canon (cutAt 63 t).2.1 marksQ with
      | none => exact .inl ⟨rfl, p, _, _, hcut, .inr hc2, by simp [parse, hk, hp, hc1, hc2]⟩
      | some q2 =>
        obtain ⟨u, rfl, hu⟩ := canon_slash p p2 hc1
        refine .inr ⟨rfl, p, _, _, u, q2, hcut, hc1, hc2, ?_⟩
        simp [parse, hk, hp, hc1, hc2]
        rfl
   ·exact .inl ⟨rfl, hs, by simp [parse, hk, hs]⟩

theorem path_parse (h : Bs) (xs : List Bs) (q : Bs) (has : Bool) (r : Except Int Adr)
    (hr : r = match dotsL xs [] with
        | none => .error 27
        | some left => if (adText h (slashed left) q has).length > 1024 then .error 5 else .ok ⟨h, slashed left, q, has⟩) : pathV h xs q has = parseV r ∧ pathE h xs q has = parseE r := by
 subst hr
 unfold pathV pathE
 cases dotsL xs [] with
 | none => exact ⟨rfl, rfl⟩
 | some left =>
   simp only
   split <;> exact ⟨rfl, rfl⟩

theorem parse_any (h t : Bs) (w : World) (hh : h.length ≤ 536870912) (ht : t.length ≤ 536870912) (hr : Ready w) :
 Calls Tryz.prog 7 #[.string ⟨h.toArray⟩, .string ⟨t.toArray⟩] w fun e w' => e = .returned (.tuple #[parseV (parse h t), parseE (parse h t)]) ∧ Below w.heap.size w w' := by
 have hcl := cutAt_len 63 t
 rcases parse_ways h t with ⟨hk, e⟩ | ⟨hk, hs, e⟩ | ⟨hk, p, q, has, hs, hc, e⟩ | ⟨hk, p, q, has, u, q2, hs, hc1, hc2, e⟩
 ·rw [e]; exact parse_host h t w hh hr hk
 ·rw [e]; exact parse_slash h t w hh ht hr hk hs
 ·rw [hs] at hcl; simp at hcl
  rw [e]; exact parse_canon h t p q has w hh ht (by omega) (by omega) hr hk hs hc
 ·rw [hs] at hcl; simp at hcl
  obtain ⟨e1, e2⟩ := path_parse (lower h) (splitOn 47 u) q2 has _ e
  rw [← e1, ← e2]
  exact parse_dots h t p q u q2 has w hh ht (by omega) (by omega) hr hk hs hc1 hc2

theorem parse_ok {h t : Bs} {a : Adr} (w : World) (hh : h.length ≤ 536870912) (ht : t.length ≤ 536870912) (hr : Ready w) (hp : parse h t = .ok a) :
 Calls Tryz.prog 7 #[.string ⟨h.toArray⟩, .string ⟨t.toArray⟩] w fun e w' => e = .returned (.tuple #[adV a, .nilIface]) ∧ Below w.heap.size w w' := by
 have := parse_any h t w hh ht hr
 rw [hp] at this; exact this
theorem parse_err {h t : Bs} {n : Int} (w : World) (hh : h.length ≤ 536870912) (ht : t.length ≤ 536870912) (hr : Ready w) (hp : parse h t = .error n) :
 Calls Tryz.prog 7 #[.string ⟨h.toArray⟩, .string ⟨t.toArray⟩] w fun e w' => e = .returned (.tuple #[ad0, errV n]) ∧ Below w.heap.size w w' := by
 have := parse_any h t w hh ht hr
 rw [hp] at this; exact this
end A1
end Go.Proofs.YtpkhbhdidkkebaaGreatDoor
end
end

