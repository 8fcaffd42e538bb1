/- Plain Lean: parsing an address' parts again gives the address. No condition. -/
import Derived.Test.YtijjggbiljkalaaDoorAddrI
namespace Go.Proofs.YtijjggbiljkalaaDoor.Ad
open Pl

theorem cf_append (m : Bs) : ∀ (n : Nat) (a b : Bs), a.length ≤ n → cf m a = true → cf m b = true → cf m (a ++ b) = true
  | _, [], b, _, _, hb => hb
  | 0, c :: t, b, hn, _, _ => by simp at hn
  | n + 1, c :: t, b, hn, ha, hb => by
    simp only [List.length_cons] at hn
    by_cases hc : c = 37
    · subst hc
      match t, hn, ha with
      | [], _, h => simp [cf] at h
      | [x], _, h => simp [cf] at h
      | x :: y :: t', hn, h =>
        simp only [List.length_cons] at hn
        simp only [List.cons_append]
        rw [cf_pct] at h ⊢
        rw [Bool.and_eq_true] at h ⊢
        exact ⟨h.1, cf_append m n t' b (by omega) h.2 hb⟩
    · rw [List.cons_append]
      rw [cf_plain m c t hc, Bool.and_eq_true] at ha
      rw [cf_plain m c _ hc, Bool.and_eq_true]
      exact ⟨ha.1, cf_append m n t b (by omega) ha.2 hb⟩

theorem cf_split (m : Bs) : ∀ (n : Nat) (l : Bs), l.length ≤ n → cf m l = true → ∀ x ∈ splitOn 47 l, cf m x = true
  | _, [], _, _, x, hx => by simp [splitOn, splitAcc] at hx; subst hx; rfl
  | 0, c :: t, hn, _, _, _ => by simp at hn
  | n + 1, c :: t, hn, h, x, hx => by
    simp only [List.length_cons] at hn
    by_cases hc : c = 37
    · subst hc
      match t, hn, h, hx with
      | [], _, h, _ => simp [cf] at h
      | [a], _, h, _ => simp [cf] at h
      | a :: b :: t', hn, h, hx =>
        simp only [List.length_cons] at hn
        rw [cf_pct] at h
        have h0 := h
        simp only [Bool.and_eq_true] at h
        obtain ⟨⟨⟨⟨⟨h1, h2⟩, _⟩, _⟩, _⟩, h6⟩ := h
        obtain ⟨_, _, _, a7⟩ := hex_facts a h1
        obtain ⟨_, _, _, b7⟩ := hex_facts b h2
        obtain ⟨y1, r1, e1, f1⟩ := splitOn_cons_ne 47 b t' b7
        obtain ⟨y2, r2, e2, f2⟩ := splitOn_cons_ne 47 a (b :: t') a7
        obtain ⟨y3, r3, e3, f3⟩ := splitOn_cons_ne 47 37 (a :: b :: t') (by decide)
        rw [f1] at e2; obtain ⟨rfl, rfl⟩ := List.cons.inj e2
        rw [f2] at e3; obtain ⟨rfl, rfl⟩ := List.cons.inj e3
        have ih := cf_split m n t' (by omega) h6
        rw [e1] at ih
        rw [f3] at hx
        rcases List.mem_cons.1 hx with rfl | hx
        · rw [cf_pct]
          rw [Bool.and_eq_true] at h0 ⊢
          exact ⟨h0.1, ih y1 (List.mem_cons_self ..)⟩
        · exact ih x (List.mem_cons_of_mem _ hx)
    · rw [cf_plain m c t hc, Bool.and_eq_true] at h
      have ih := cf_split m n t (by omega) h.2
      by_cases h47 : c = 47
      · subst h47
        rw [splitOn_cons_eq] at hx
        rcases List.mem_cons.1 hx with rfl | hx
        · rfl
        · exact ih x hx
      · obtain ⟨y, r, e, f⟩ := splitOn_cons_ne 47 c t h47
        rw [e] at ih
        rw [f] at hx
        rcases List.mem_cons.1 hx with rfl | hx
        · rw [cf_plain m c y hc, Bool.and_eq_true]
          exact ⟨h.1, ih y (List.mem_cons_self ..)⟩
        · exact ih x (List.mem_cons_of_mem _ hx)

theorem cf_no63 : ∀ (n : Nat) (l : Bs), l.length ≤ n → cf marksP l = true → (63 : UInt8) ∉ l
  | _, [], _, _ => by simp
  | 0, c :: t, hn, _ => by simp at hn
  | n + 1, c :: t, hn, h => by
    simp only [List.length_cons] at hn
    by_cases hc : c = 37
    · subst hc
      match t, hn, h with
      | [], _, h => simp [cf] at h
      | [a], _, h => simp [cf] at h
      | a :: b :: t', hn, h =>
        simp only [List.length_cons] at hn
        rw [cf_pct] at h
        simp only [Bool.and_eq_true] at h
        obtain ⟨⟨⟨⟨⟨h1, h2⟩, _⟩, _⟩, _⟩, h6⟩ := h
        have ih := cf_no63 n t' (by omega) h6
        simp only [List.mem_cons, not_or]
        refine ⟨by decide, ?_, ?_, ih⟩
        · rintro rfl; revert h1; decide
        · rintro rfl; revert h2; decide
    · rw [cf_plain marksP c t hc, Bool.and_eq_true] at h
      have ih := cf_no63 n t (by omega) h.2
      simp only [List.mem_cons, not_or]
      refine ⟨?_, ih⟩
      rintro rfl
      have := h.1
      revert this; decide

theorem splitAcc_no (c : UInt8) : ∀ (acc l : Bs), c ∉ acc → ∀ x ∈ splitAcc c acc l, c ∉ x
  | acc, [], h, x, hx => by simp [splitAcc] at hx; subst hx; exact h
  | acc, b :: t, h, x, hx => by
    rw [splitAcc] at hx
    split at hx
    · rcases List.mem_cons.1 hx with rfl | hx
      · exact h
      · exact splitAcc_no c [] t (by simp) x hx
    · rename_i hb
      exact splitAcc_no c (acc ++ [b]) t (by simp only [List.mem_append, List.mem_singleton, not_or]; exact ⟨h, fun e => hb e.symm⟩) x hx
theorem splitOn_no (c : UInt8) (l x : Bs) (hx : x ∈ splitOn c l) : c ∉ x := splitAcc_no c [] l (by simp) x hx

theorem split_slashed : ∀ (left : List Bs), left ≠ [] → (∀ x ∈ left, (47 : UInt8) ∉ x) → splitOn 47 ((slashed left).drop 1) = left
  | [], h, _ => absurd rfl h
  | [x], _, hx => by
    rw [slashed_one]
    simp only [List.drop_succ_cons, List.drop_zero]
    rw [splitOn, splitAcc_miss 47 [] x (hx x (by simp))]; rfl
  | x :: y :: r, _, hx => by
    have ih := split_slashed (y :: r) (by simp) (fun z hz => hx z (List.mem_cons_of_mem _ hz))
    have e1 : slashed (y :: r) = 47 :: (slashed (y :: r)).drop 1 := by simp [slashed]
    have e2 : (slashed (x :: y :: r)).drop 1 = x ++ slashed (y :: r) := by simp [slashed]
    rw [e2, e1, splitOn, splitAcc_hit 47 [] x _ (hx x (by simp))]
    show ([] ++ x) :: splitOn 47 ((slashed (y :: r)).drop 1) = _
    rw [ih]; rfl

theorem dotsL_mem : ∀ (l left out : List Bs), dotsL l left = some out → ∀ x ∈ out, x ∈ left ∨ x ∈ l ∨ x = []
  | [], left, out, h, x, hx => by rw [dotsL_nil] at h; cases h; exact .inl hx
  | s :: r, left, out, h, x, hx => by
    have drp : ∀ y, y ∈ left.dropLast → y ∈ left := fun y hy => List.dropLast_subset left hy
    by_cases h1 : s = [46, 46]
    · subst h1
      by_cases hl : left = []
      · subst hl; rw [dotsL_up0] at h; cases h
      · by_cases hr : r = []
        · subst hr; rw [dotsL_upEnd left hl] at h
          rcases dotsL_mem [] _ out h x hx with h2 | h2 | h2
          · rcases List.mem_append.1 h2 with h2 | h2
            · exact .inl (drp x h2)
            · exact .inr (.inr (by simpa using h2))
          · cases h2
          · exact .inr (.inr h2)
        · rw [dotsL_up r left hl hr] at h
          rcases dotsL_mem r _ out h x hx with h2 | h2 | h2
          · exact .inl (drp x h2)
          · exact .inr (.inl (List.mem_cons_of_mem _ h2))
          · exact .inr (.inr h2)
    · by_cases h2 : s = [46]
      · subst h2
        by_cases hr : r = []
        · subst hr; rw [dotsL_dotEnd left] at h
          rcases dotsL_mem [] _ out h x hx with h2 | h2 | h2
          · rcases List.mem_append.1 h2 with h2 | h2
            · exact .inl h2
            · exact .inr (.inr (by simpa using h2))
          · cases h2
          · exact .inr (.inr h2)
        · rw [dotsL_dot r left hr] at h
          rcases dotsL_mem r _ out h x hx with h2 | h2 | h2
          · exact .inl h2
          · exact .inr (.inl (List.mem_cons_of_mem _ h2))
          · exact .inr (.inr h2)
      · rw [dotsL_seg s r left h1 h2] at h
        rcases dotsL_mem r _ out h x hx with h3 | h3 | h3
        · rcases List.mem_append.1 h3 with h3 | h3
          · exact .inl h3
          · exact .inr (.inl (by simp at h3; simp [h3]))
        · exact .inr (.inl (List.mem_cons_of_mem _ h3))
        · exact .inr (.inr h3)

def noDot (x : Bs) : Prop := x ≠ [46] ∧ x ≠ [46, 46]
theorem noDot_nil : noDot [] := by unfold noDot; decide
theorem dotsL_noDot : ∀ (l left out : List Bs), dotsL l left = some out → (∀ x ∈ left, noDot x) → ∀ x ∈ out, noDot x
  | [], left, out, h, hl, x, hx => by rw [dotsL_nil] at h; cases h; exact hl x hx
  | s :: r, left, out, h, hlf, x, hx => by
    have drp : ∀ y ∈ left.dropLast, noDot y := fun y hy => hlf y (List.dropLast_subset left hy)
    have app : ∀ (L : List Bs), (∀ y ∈ L, noDot y) → ∀ z, noDot z → ∀ y ∈ L ++ [z], noDot y := fun L hL z hz y hy => by
      rcases List.mem_append.1 hy with hy | hy
      · exact hL y hy
      · simp at hy; rw [hy]; exact hz
    by_cases h1 : s = [46, 46]
    · subst h1
      by_cases hl : left = []
      · subst hl; rw [dotsL_up0] at h; cases h
      · by_cases hr : r = []
        · subst hr; rw [dotsL_upEnd left hl] at h
          exact dotsL_noDot [] _ out h (app _ drp _ noDot_nil) x hx
        · rw [dotsL_up r left hl hr] at h
          exact dotsL_noDot r _ out h drp x hx
    · by_cases h2 : s = [46]
      · subst h2
        by_cases hr : r = []
        · subst hr; rw [dotsL_dotEnd left] at h
          exact dotsL_noDot [] _ out h (app _ hlf _ noDot_nil) x hx
        · rw [dotsL_dot r left hr] at h
          exact dotsL_noDot r _ out h hlf x hx
      · rw [dotsL_seg s r left h1 h2] at h
        exact dotsL_noDot r _ out h (app _ hlf _ ⟨h2, h1⟩) x hx
theorem dotsL_id : ∀ (l left : List Bs), (∀ x ∈ l, noDot x) → dotsL l left = some (left ++ l)
  | [], left, _ => by rw [dotsL_nil]; simp
  | s :: r, left, h => by
    have hs := h s (List.mem_cons_self ..)
    rw [dotsL_seg s r left hs.2 hs.1, dotsL_id r _ (fun x hx => h x (List.mem_cons_of_mem _ hx))]
    simp

theorem cf_slashed (xs : List Bs) (h : ∀ x ∈ xs, cf marksP x = true) : cf marksP (slashed xs) = true := by
  induction xs with
  | nil => rfl
  | cons x r ih =>
    have e : slashed (x :: r) = (47 :: x) ++ slashed r := by simp [slashed]
    rw [e]
    refine cf_append marksP _ _ _ (Nat.le_refl _) ?_ (ih fun y hy => h y (List.mem_cons_of_mem _ hy))
    rw [cf_plain marksP 47 x (by decide), h x (List.mem_cons_self ..)]
    decide

/-- What an address out of Parse is made of. -/
theorem parse_form {h t : Bs} {a : Adr} (hp : parse h t = .ok a) :
    hostOk h = true ∧ ∃ left : List Bs, left ≠ [] ∧ (∀ x ∈ left, noDot x ∧ (47 : UInt8) ∉ x ∧ cf marksP x = true) ∧ a = ⟨lower h, slashed left, a.query, a.has⟩ ∧ cf marksQ a.query = true ∧ (a.has = false → a.query = []) ∧ a.text.length ≤ 1024 := by
  unfold parse at hp
  split at hp
  · cases hp
  · rename_i hk
    have hk' : hostOk h = true := by simpa using hk
    split at hp
    · cases hp
    · rename_i hs
      split at hp
      · rename_i p q hc1 hc2
        cases hd : dotsL (splitOn 47 (p.drop 1)) [] with
        | none => rw [hd] at hp; cases hp
        | some left =>
          rw [hd] at hp
          simp only at hp
          split at hp
          · cases hp
          · rename_i hl
            cases hp
            have hs' : (cutAt 63 t).1.head? = some 47 := by simpa using hs
            obtain ⟨p0, hp0⟩ : ∃ u, (cutAt 63 t).1 = 47 :: u := by
              cases e : (cutAt 63 t).1 with
              | nil => rw [e] at hs'; cases hs'
              | cons x r => rw [e] at hs'; simp at hs'; exact ⟨r, by rw [hs']⟩
            have hcp := hc1
            rw [hp0] at hc1
            obtain ⟨u, rfl, _⟩ := canon_slash p0 p hc1
            have hcf := canon_to_cf hcp
            rw [cf_plain marksP 47 u (by decide), Bool.and_eq_true] at hcf
            refine ⟨hk', left, dotsL_ne _ _ _ hd (.inl (splitOn_ne_nil _ _)), fun x hx => ⟨dotsL_noDot _ _ _ hd (by simp) x hx, ?_, ?_⟩, rfl, canon_to_cf hc2, ?_, by simpa [Adr.text] using Nat.le_of_not_lt hl⟩
            · rcases dotsL_mem _ _ _ hd x hx with h2 | h2 | h2
              · cases h2
              · exact splitOn_no 47 _ x h2
              · rw [h2]; simp
            · rcases dotsL_mem _ _ _ hd x hx with h2 | h2 | h2
              · cases h2
              · exact cf_split marksP _ _ (Nat.le_refl _) hcf.2 x h2
              · rw [h2]; rfl
            · intro hf
              have hf' : (cutAt 63 t).2.2 = false := hf
              have hq : (cutAt 63 t).2.1 = [] := by
                by_cases hm : (63 : UInt8) ∈ t
                · rcases indexByte_one 63 t with ⟨_, h2⟩ | ⟨p1, q1, rfl, h2, _⟩
                  · exact absurd hm h2
                  · rw [cutAt_hit 63 q1 p1 h2] at hf'; cases hf'
                · rw [cutAt_miss 63 t hm]
              rw [hq] at hc2
              have : canon [] marksQ = some [] := by rw [canon, canonL_nil]
              rw [this] at hc2
              exact (Option.some.inj hc2).symm
      · cases hp

/-- Parsing the parts of an address again gives the address. -/
theorem parse_again {h t : Bs} {a : Adr} (hp : parse h t = .ok a) : parse a.host a.target = .ok a := by
  obtain ⟨hk, left, hne, hx, ha, hq, hnq, hl⟩ := parse_form hp
  obtain ⟨ah, ap, aq, ab⟩ := a
  simp only [Adr.mk.injEq, and_true] at ha
  obtain ⟨rfl, rfl⟩ := ha
  simp only at hq hnq
  have hcs := cf_slashed left (fun x hy => (hx x hy).2.2)
  have h63 := cf_no63 _ _ (Nat.le_refl _) hcs
  have hcut : cutAt 63 (Adr.target ⟨lower h, slashed left, aq, ab⟩) = (slashed left, aq, ab) := by
    cases ab with
    | true => simp only [Adr.target, if_true]; exact cutAt_hit 63 aq _ h63
    | false =>
      have := hnq rfl
      subst this
      simp only [Adr.target, Bool.false_eq_true, if_false, List.append_nil]
      exact cutAt_miss 63 _ h63
  have hhead : (slashed left).head? = some 47 := by
    cases left with
    | nil => exact absurd rfl hne
    | cons x r => simp [slashed]
  unfold parse
  rw [hcut, hostOk_lower, hk, lower_idem]
  simp only [Bool.true_eq_false, if_false, hhead, ne_eq, not_true_eq_false]
  rw [canon_of_cf hcs, canon_of_cf hq]
  simp only
  rw [split_slashed left hne (fun x hy => (hx x hy).2.1), dotsL_id left [] (fun x hy => (hx x hy).1)]
  simp only [List.nil_append]
  rw [if_neg (by simpa [Adr.text] using hl)]

theorem parse_valid {h t : Bs} {a : Adr} (hp : parse h t = .ok a) : valid a = true := by
  obtain ⟨_, left, _, _, _, _, hnq, _⟩ := parse_form hp
  rw [valid_eq a a (by cases hb : a.has with | true => exact .inl rfl | false => exact .inr (hnq hb)) (parse_again hp)]
  simp
theorem parse_lens {h t : Bs} {a : Adr} (hp : parse h t = .ok a) : a.host.length ≤ 1024 ∧ a.path.length ≤ 1024 ∧ a.query.length ≤ 1024 := by
  obtain ⟨_, left, _, _, _, _, hnq, hl⟩ := parse_form hp
  unfold Adr.text adText at hl
  cases hb : a.has with
  | true => rw [hb] at hl; simp at hl; omega
  | false => rw [hb] at hl; simp at hl; rw [hnq hb]; simp; omega
end Go.Proofs.YtijjggbiljkalaaDoor.Ad
