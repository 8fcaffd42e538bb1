/- Plain Lean: encoded unreserved bytes, and dot segments that lead nowhere, change no address. No condition. -/
import Derived.Test.YtijjggbiljkalaaDoorAddrJ
namespace Go.Proofs.YtijjggbiljkalaaDoor.Ad
open Pl

/-! ### splitting and dot segments -/
theorem splitAcc_append (c : UInt8) (b : Bs) : ∀ (acc a : Bs), splitAcc c acc (a ++ c :: b) = splitAcc c acc a ++ splitAcc c [] b
  | acc, [] => by simp [splitAcc]
  | acc, x :: t => by
    rw [List.cons_append, splitAcc, splitAcc]
    split
    · rw [splitAcc_append c b [] t]; rfl
    · rw [splitAcc_append c b _ t]
theorem splitOn_append (c : UInt8) (a b : Bs) : splitOn c (a ++ c :: b) = splitOn c a ++ splitOn c b := splitAcc_append c b [] a

/-- Two ends of a list of segments that mean the same. -/
def Alike (R R' : List Bs) : Prop := (R = [] ↔ R' = []) ∧ ∀ left, dotsL R left = dotsL R' left
theorem Alike.refl (R : List Bs) : Alike R R := ⟨Iff.rfl, fun _ => rfl⟩
theorem Alike.trans {R S T : List Bs} (h : Alike R S) (g : Alike S T) : Alike R T := ⟨h.1.trans g.1, fun left => (h.2 left).trans (g.2 left)⟩
theorem Alike.cons {R R' : List Bs} (s : Bs) (h : Alike R R') : Alike (s :: R) (s :: R') := by
  refine ⟨by simp, fun left => ?_⟩
  by_cases hr : R = []
  · have hr' := h.1.1 hr
    subst hr hr'
    rfl
  · have hr' : R' ≠ [] := fun e => hr (h.1.2 e)
    by_cases h1 : s = [46, 46]
    · subst h1
      by_cases hl : left = []
      · subst hl; rw [dotsL_up0, dotsL_up0]
      · rw [dotsL_up _ _ hl hr, dotsL_up _ _ hl hr']; exact h.2 _
    · by_cases h2 : s = [46]
      · subst h2
        rw [dotsL_dot _ _ hr, dotsL_dot _ _ hr']; exact h.2 _
      · rw [dotsL_seg _ _ _ h1 h2, dotsL_seg _ _ _ h1 h2]; exact h.2 _
theorem Alike.pre {R R' : List Bs} (h : Alike R R') : ∀ S : List Bs, Alike (S ++ R) (S ++ R')
  | [] => h
  | s :: S => (Alike.pre h S).cons s

/-- What is put before a segment. -/
def befores : List Bs := [[], [46, 47], [120, 47, 46, 46, 47], [46, 47, 46, 47]]
def beforeSegs : List (List Bs) := [[], [[46]], [[120], [46, 46]], [[46], [46]]]
theorem before_dots (k : Nat) (R : List Bs) (hR : R ≠ []) : Alike (beforeSegs.getD k [] ++ R) R := by
  match k with
  | 0 => exact Alike.refl R
  | 1 => exact ⟨by simp [beforeSegs, hR], fun left => dotsL_dot R left hR⟩
  | 2 => 
    refine ⟨by simp [beforeSegs, hR], fun left => ?_⟩
    show dotsL ([120] :: [46, 46] :: R) left = _
    rw [dotsL_seg _ _ _ (by decide) (by decide), dotsL_up R _ (by simp) hR]
    simp
  | 3 =>
    refine ⟨by simp [beforeSegs, hR], fun left => ?_⟩
    show dotsL ([46] :: [46] :: R) left = _
    rw [dotsL_dot _ left (by simp), dotsL_dot R left hR]
  | k + 4 => exact Alike.refl R
theorem before_split (k : Nat) (t : Bs) : splitOn 47 (befores.getD k [] ++ t) = beforeSegs.getD k [] ++ splitOn 47 t := by
  match k with
  | 0 => rfl
  | 1 => exact splitOn_append 47 [46] t
  | 2 =>
    show splitOn 47 ([120] ++ 47 :: ([46, 46] ++ 47 :: t)) = _
    rw [splitOn_append, splitOn_append]; rfl
  | 3 =>
    show splitOn 47 ([46] ++ 47 :: ([46] ++ 47 :: t)) = _
    rw [splitOn_append, splitOn_append]; rfl
  | k + 4 => rfl

/-! ### bytes that stand for themselves -/
def okB (m : Bs) (c : UInt8) : Bool := unresB c.toNat || inB m c.toNat
theorem canonL_run (m : Bs) (r : Bs) : ∀ (a out : Bs), (37 : UInt8) ∉ a → canonL m (a ++ r) out = if a.all (okB m) then canonL m r (out ++ a) else none
  | [], out, _ => by simp
  | c :: t, out, h => by
    simp only [List.mem_cons, not_or] at h
    have hc : ¬ c = 37 := fun e => h.1 e.symm
    rw [List.cons_append]
    cases hok : okB m c with
    | true =>
      have hu : unresB c.toNat = true ∨ inB m c.toNat = true := by simpa [okB] using hok
      rw [canonL_plain m c _ out hc hu, canonL_run m r t _ h.2]
      simp [hok]
    | false =>
      have hu : unresB c.toNat = false ∧ inB m c.toNat = false := by simpa [okB] using hok
      rw [canonL_bad m c _ out hc hu.1 hu.2]
      simp [hok]
/-- An encoded unreserved byte, with digits of either case. -/
def encB (c : UInt8) (low : Bool) : Bs := [37, (if low then [48, 49, 50, 51, 52, 53, 54, 55, 56, 57, 97, 98, 99, 100, 101, 102] else hexDigits : Bs).getD (c.toNat / 16) 0, (if low then [48, 49, 50, 51, 52, 53, 54, 55, 56, 57, 97, 98, 99, 100, 101, 102] else hexDigits : Bs).getD (c.toNat % 16) 0]
theorem enc_facts (c : UInt8) (low : Bool) (h : unresB c.toNat = true) : ∃ a b : UInt8, encB c low = [37, a, b] ∧ ¬ hexv a.toNat < 0 ∧ ¬ hexv b.toNat < 0 ∧ ¬ 16 * hexv a.toNat + hexv b.toNat < 32 ∧ ¬ 16 * hexv a.toNat + hexv b.toNat = 127 ∧ pctOut (16 * hexv a.toNat + hexv b.toNat) = [c] ∧ a ≠ 63 ∧ b ≠ 63 := by
  refine ⟨_, _, rfl, ?_⟩
  have g : ∀ (lw : Bool) (n : Fin 256), unresB (UInt8.ofNat n.val).toNat = true →
      (fun a b : UInt8 => ¬ hexv a.toNat < 0 ∧ ¬ hexv b.toNat < 0 ∧ ¬ 16 * hexv a.toNat + hexv b.toNat < 32 ∧ ¬ 16 * hexv a.toNat + hexv b.toNat = 127 ∧ pctOut (16 * hexv a.toNat + hexv b.toNat) = [UInt8.ofNat n.val] ∧ a ≠ 63 ∧ b ≠ 63)
        ((if lw then [48, 49, 50, 51, 52, 53, 54, 55, 56, 57, 97, 98, 99, 100, 101, 102] else hexDigits : Bs).getD ((UInt8.ofNat n.val).toNat / 16) 0) ((if lw then [48, 49, 50, 51, 52, 53, 54, 55, 56, 57, 97, 98, 99, 100, 101, 102] else hexDigits : Bs).getD ((UInt8.ofNat n.val).toNat % 16) 0) := by decide +kernel
  have := g low ⟨c.toNat, c.toNat_lt⟩
  simp only [UInt8.ofNat_toNat] at this
  exact this h
/-- The byte number i of a text, encoded if it is unreserved. -/
def enc1 (t : Bs) (i : Nat) (low : Bool) : Bs := match t.drop i with
  | [] => t
  | c :: r => if unresB c.toNat then t.take i ++ encB c low ++ r else t
theorem enc1_canonL (m t r out : Bs) (i : Nat) (low : Bool) (ht : (37 : UInt8) ∉ t) : canonL m (enc1 t i low ++ r) out = canonL m (t ++ r) out := by
  unfold enc1
  split
  · rfl
  · rename_i c r1 hd
    split
    · rename_i hu
      have e : t = t.take i ++ c :: r1 := by rw [← hd, List.take_append_drop]
      have hta : (37 : UInt8) ∉ t.take i := fun h => ht (List.mem_of_mem_take h)
      obtain ⟨a, b, he, h1, h2, h3, h4, h5, _, _⟩ := enc_facts c low hu
      conv => rhs; rw [e]
      rw [he]
      simp only [List.append_assoc, List.cons_append, List.nil_append]
      rw [canonL_run m _ _ out hta, canonL_run m _ _ out hta, canonL_pct m a b _ _ h1 h2 h3 h4, h5, canonL_plain m c _ _ (unres_37 c hu) (.inl hu)]
    · rfl
theorem enc1_no63 (t : Bs) (i : Nat) (low : Bool) (ht : (63 : UInt8) ∉ t) : (63 : UInt8) ∉ enc1 t i low := by
  unfold enc1
  split
  · exact ht
  · rename_i c r1 hd
    split
    · rename_i hu
      obtain ⟨a, b, he, _, _, _, _, _, ha, hb⟩ := enc_facts c low hu
      have h1 : (63 : UInt8) ∉ t.take i := fun h => ht (List.mem_of_mem_take h)
      have h2 : (63 : UInt8) ∉ r1 := fun h => ht (List.mem_of_mem_drop (i := i) (by rw [hd]; exact List.mem_cons_of_mem _ h))
      rw [he]
      simp only [List.mem_append, List.mem_cons, not_or, List.not_mem_nil, not_false_eq_true, and_true]
      exact ⟨⟨h1, by decide, fun e => ha e.symm, fun e => hb e.symm⟩, h2⟩
    · exact ht
theorem before_no (k : Nat) : (37 : UInt8) ∉ befores.getD k [] ∧ (63 : UInt8) ∉ befores.getD k [] ∧ (befores.getD k []).all (okB marksP) = true := by
  match k with
  | 0 => decide
  | 1 => decide
  | 2 => decide
  | 3 => decide
  | k + 4 => exact ⟨by simp [befores], by simp [befores], rfl⟩

/-! ### the whole path -/
structure Pc where
  text : Bs
  enc : Nat
  low : Bool
  bef : Nat
def Pc.other (p : Pc) : Bs := befores.getD p.bef [] ++ enc1 p.text p.enc p.low
def plainP (l : List Pc) : Bs := (l.map fun p => 47 :: p.text).flatten
def otherP (l : List Pc) : Bs := (l.map fun p => 47 :: p.other).flatten
/-- The path with the dot segments, nothing encoded. -/
def midP (l : List Pc) : Bs := (l.map fun p => 47 :: (befores.getD p.bef [] ++ p.text)).flatten
def Clean (l : List Pc) : Prop := ∀ p ∈ l, (37 : UInt8) ∉ p.text ∧ (63 : UInt8) ∉ p.text

theorem plain_no63 : ∀ (l : List Pc), Clean l → (63 : UInt8) ∉ plainP l
  | [], _ => by simp [plainP]
  | p :: l, h => by
    have h1 := plain_no63 l fun q hq => h q (List.mem_cons_of_mem _ hq)
    have h2 := (h p (List.mem_cons_self ..)).2
    simp only [plainP, List.map_cons, List.flatten_cons, List.mem_append, List.mem_cons, not_or] at h1 ⊢
    exact ⟨⟨by decide, h2⟩, h1⟩
theorem plain_no37 : ∀ (l : List Pc), Clean l → (37 : UInt8) ∉ plainP l
  | [], _ => by simp [plainP]
  | p :: l, h => by
    have h1 := plain_no37 l fun q hq => h q (List.mem_cons_of_mem _ hq)
    have h2 := (h p (List.mem_cons_self ..)).1
    simp only [plainP, List.map_cons, List.flatten_cons, List.mem_append, List.mem_cons, not_or] at h1 ⊢
    exact ⟨⟨by decide, h2⟩, h1⟩
theorem mid_no37 : ∀ (l : List Pc), Clean l → (37 : UInt8) ∉ midP l
  | [], _ => by simp [midP]
  | p :: l, h => by
    have h1 := mid_no37 l fun q hq => h q (List.mem_cons_of_mem _ hq)
    have h2 := (h p (List.mem_cons_self ..)).1
    simp only [midP, List.map_cons, List.flatten_cons, List.mem_append, List.mem_cons, not_or] at h1 ⊢
    exact ⟨⟨by decide, (before_no p.bef).1, h2⟩, h1⟩
theorem other_no63 : ∀ (l : List Pc), Clean l → (63 : UInt8) ∉ otherP l
  | [], _ => by simp [otherP]
  | p :: l, h => by
    have h1 := other_no63 l fun q hq => h q (List.mem_cons_of_mem _ hq)
    have h2 := enc1_no63 p.text p.enc p.low (h p (List.mem_cons_self ..)).2
    simp only [otherP, Pc.other, List.map_cons, List.flatten_cons, List.mem_append, List.mem_cons, not_or] at h1 ⊢
    exact ⟨⟨by decide, (before_no p.bef).2.1, h2⟩, h1⟩
theorem ok47 : okB marksP 47 = true := by decide
theorem other_canonL : ∀ (l : List Pc) (out : Bs), Clean l → canonL marksP (otherP l) out = canonL marksP (midP l) out
  | [], out, _ => rfl
  | p :: l, out, h => by
    have h2 := h p (List.mem_cons_self ..)
    have ih := fun o => other_canonL l o fun q hq => h q (List.mem_cons_of_mem _ hq)
    have hb := before_no p.bef
    have e1 : otherP (p :: l) = (47 :: befores.getD p.bef []) ++ (enc1 p.text p.enc p.low ++ otherP l) := by simp [otherP, Pc.other]
    have e2 : midP (p :: l) = (47 :: befores.getD p.bef []) ++ (p.text ++ midP l) := by simp [midP]
    have h37 : (37 : UInt8) ∉ 47 :: befores.getD p.bef [] := by simp only [List.mem_cons, not_or]; exact ⟨by decide, hb.1⟩
    rw [e1, e2, canonL_run _ _ _ out h37, canonL_run _ _ _ out h37, enc1_canonL _ _ _ _ _ _ h2.1, canonL_run _ _ _ _ h2.1, canonL_run _ _ _ _ h2.1]
    simp only [ih]
theorem mid_all : ∀ (l : List Pc), (midP l).all (okB marksP) = (plainP l).all (okB marksP)
  | [] => rfl
  | p :: l => by
    have ih := mid_all l
    have hb := (before_no p.bef).2.2
    simp only [midP, plainP, List.map_cons, List.flatten_cons, List.all_append, List.all_cons, ok47, Bool.true_and] at ih ⊢
    rw [hb, ih, Bool.true_and]
theorem canon_run (l : Bs) (h : (37 : UInt8) ∉ l) : canon l marksP = if l.all (okB marksP) then some l else none := by
  have := canonL_run marksP [] l [] h
  rw [List.append_nil, List.nil_append, canonL_nil] at this
  exact this

theorem segs_alike : ∀ (p : Pc) (l : List Pc), Alike (splitOn 47 ((midP (p :: l)).drop 1)) (splitOn 47 ((plainP (p :: l)).drop 1))
  | p, [] => by
    have e1 : (midP [p]).drop 1 = befores.getD p.bef [] ++ p.text := by simp [midP]
    have e2 : (plainP [p]).drop 1 = p.text := by simp [plainP]
    rw [e1, e2, before_split]
    exact before_dots _ _ (splitOn_ne_nil _ _)
  | p, q :: l => by
    have ih := segs_alike q l
    have e1 : (midP (p :: q :: l)).drop 1 = (befores.getD p.bef [] ++ p.text) ++ 47 :: (midP (q :: l)).drop 1 := by simp [midP]
    have e2 : (plainP (p :: q :: l)).drop 1 = p.text ++ 47 :: (plainP (q :: l)).drop 1 := by simp [plainP]
    rw [e1, e2, splitOn_append, splitOn_append, before_split, List.append_assoc]
    exact (before_dots _ _ (by simp [splitOn_ne_nil])).trans (ih.pre _)

def pathRes (h p q : Bs) : Except Int Adr := if p.head? ≠ some 47 then .error 27
    else match canon p marksP, canon q marksQ with
      | some p, some q => match dotsL (splitOn 47 (p.drop 1)) [] with
        | none => .error 27
        | some left => if (adText (lower h) (slashed left) q true).length > 1024 then .error 5 else .ok ⟨lower h, slashed left, q, true⟩
      | _, _ => .error 27
theorem pathRes_eq (h p q : Bs) (hp : p.head? = some 47) : pathRes h p q = match canon p marksP, canon q marksQ with
      | some p, some q => match dotsL (splitOn 47 (p.drop 1)) [] with
        | none => .error 27
        | some left => if (adText (lower h) (slashed left) q true).length > 1024 then .error 5 else .ok ⟨lower h, slashed left, q, true⟩
      | _, _ => .error 27 := by
  unfold pathRes
  rw [if_neg (fun h => h hp)]
theorem parse_path (h p q : Bs) (hp : (63 : UInt8) ∉ p) (hk : hostOk h = true) : parse h (p ++ 63 :: q) = pathRes h p q := by
  unfold parse pathRes
  rw [cutAt_hit 63 q p hp, if_neg (by rw [hk]; simp)]
  rfl

/-- The two targets have the same address, or the same error. -/
theorem equal_parse (l : List Pc) (q : Bs) (hl : Clean l) : parse [104] (plainP l ++ 63 :: q) = parse [72] (otherP l ++ 63 :: q) := by
  rw [parse_path _ _ _ (plain_no63 l hl) (by decide), parse_path _ _ _ (other_no63 l hl) (by decide)]
  cases l with
  | nil => rfl
  | cons p l =>
    have g1 : (plainP (p :: l)).head? = some 47 := by simp [plainP]
    have g2 : (otherP (p :: l)).head? = some 47 := by simp [otherP]
    have c1 : canon (otherP (p :: l)) marksP = canon (midP (p :: l)) marksP := other_canonL (p :: l) [] hl
    rw [pathRes_eq _ _ _ g1, pathRes_eq _ _ _ g2, c1, canon_run _ (mid_no37 _ hl), canon_run _ (plain_no37 _ hl), mid_all]
    by_cases hok : (plainP (p :: l)).all (okB marksP) = true
    · rw [if_pos hok, if_pos hok]
      cases canon q marksQ with
      | none => rfl
      | some q2 =>
        simp only
        rw [(segs_alike p l).2 []]
        rfl
    · rw [if_neg hok, if_neg hok]
end Go.Proofs.YtijjggbiljkalaaDoor.Ad
