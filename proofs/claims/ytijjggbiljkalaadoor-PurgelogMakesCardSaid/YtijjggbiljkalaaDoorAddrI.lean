/- Plain Lean: what Parse returns is canonical: parsing it again changes nothing. No condition. -/
import Derived.Test.YtijjggbiljkalaaDoorAddrV
namespace Go.Proofs.YtijjggbiljkalaaDoor.Ad
open Pl

/-! ### hosts -/
theorem lowB_idem (b : UInt8) : lowB (lowB b) = lowB b := by
  have h : ∀ n : Fin 256, lowB (lowB (UInt8.ofNat n.val)) = lowB (UInt8.ofNat n.val) := by decide +kernel
  have := h ⟨b.toNat, b.toNat_lt⟩
  simpa using this
theorem lowB_dot (b : UInt8) : lowB b = 46 ↔ b = 46 := by
  have h : ∀ n : Fin 256, lowB (UInt8.ofNat n.val) = 46 ↔ UInt8.ofNat n.val = 46 := by decide +kernel
  have := h ⟨b.toNat, b.toNat_lt⟩
  simpa using this
theorem lowB_dash (b : UInt8) : lowB b = 45 ↔ b = 45 := by
  have h : ∀ n : Fin 256, lowB (UInt8.ofNat n.val) = 45 ↔ UInt8.ofNat n.val = 45 := by decide +kernel
  have := h ⟨b.toNat, b.toNat_lt⟩
  simpa using this
theorem lowB_ok (b : UInt8) : okC (lowB b) = okC b := by
  have h : ∀ n : Fin 256, okC (lowB (UInt8.ofNat n.val)) = okC (UInt8.ofNat n.val) := by decide +kernel
  have := h ⟨b.toNat, b.toNat_lt⟩
  simpa using this
theorem lower_idem (l : Bs) : lower (lower l) = lower l := by
  unfold lower; rw [List.map_map]; congr 1; funext b; exact lowB_idem b
theorem splitAcc_lower : ∀ (acc l : Bs), splitAcc 46 (lower acc) (lower l) = (splitAcc 46 acc l).map lower
  | acc, [] => by simp [splitAcc, lower]
  | acc, b :: t => by
    by_cases h : b = 46
    · subst h
      have := splitAcc_lower [] t
      simp only [splitAcc, lower, List.map_cons, List.map_nil] at this ⊢
      rw [if_pos ((lowB_dot 46).2 rfl)]
      simp only [if_true, List.map_cons]
      rw [this]; rfl
    · have := splitAcc_lower (acc ++ [b]) t
      simp only [splitAcc, lower, List.map_cons, List.map_append, List.map_nil] at this ⊢
      rw [if_neg (fun e => h ((lowB_dot b).1 e)), if_neg h, this]
theorem splitOn_lower (l : Bs) : splitOn 46 (lower l) = (splitOn 46 l).map lower := splitAcc_lower [] l
theorem labelB_lower (x : Bs) : labelB (lower x) = labelB x := by
  have hg : ∀ k, (lower x).getD k 0 ≠ 45 ↔ x.getD k 0 ≠ 45 := by
    intro k
    unfold lower
    by_cases hk : k < x.length
    · simp [List.getD, hk, lowB_dash]
    · simp [List.getD, List.getElem?_eq_none (Nat.le_of_not_lt hk)]
  have hl : (lower x).length = x.length := by simp [lower]
  have ha : (lower x).all okC = x.all okC := by unfold lower; rw [List.all_map]; congr 1; funext b; exact lowB_ok b
  unfold labelB
  rw [ha, hl, decide_eq_decide.2 (hg 0), decide_eq_decide.2 (hg (x.length - 1))]
theorem hostOk_lower (l : Bs) : hostOk (lower l) = hostOk l := by
  unfold hostOk
  rw [splitOn_lower, List.all_map, show (lower l).length = l.length by simp [lower]]
  congr 2; funext x; exact labelB_lower x

/-! ### canonical texts -/
def upHex (b : UInt8) : Bool := decide ((48 ≤ b.toNat ∧ b.toNat ≤ 57) ∨ (65 ≤ b.toNat ∧ b.toNat ≤ 70))
/-- A canonical text: plain bytes, and encoded bytes that must be encoded. -/
def cf (m : Bs) : Bs → Bool
  | [] => true
  | c :: t => if c = 37 then
      match t with
      | a :: b :: t' => upHex a && upHex b && !decide (16 * hexv a.toNat + hexv b.toNat < 32) && !decide (16 * hexv a.toNat + hexv b.toNat = 127) && !unresB (16 * hexv a.toNat + hexv b.toNat) && cf m t'
      | _ => false
    else (unresB c.toNat || inB m c.toNat) && cf m t
theorem cf_plain (m : Bs) (c : UInt8) (t : Bs) (h : ¬ c = 37) : cf m (c :: t) = ((unresB c.toNat || inB m c.toNat) && cf m t) := by
  match t with
  | [] => simp [cf, h]
  | [a] => simp [cf, h]
  | a :: b :: t' => simp [cf, h]
theorem cf_pct (m : Bs) (a b : UInt8) (t : Bs) : cf m (37 :: a :: b :: t) = (upHex a && upHex b && !decide (16 * hexv a.toNat + hexv b.toNat < 32) && !decide (16 * hexv a.toNat + hexv b.toNat = 127) && !unresB (16 * hexv a.toNat + hexv b.toNat) && cf m t) := by
  simp [cf]
theorem hex_facts (a : UInt8) : upHex a = true → 0 ≤ hexv a.toNat ∧ hexv a.toNat ≤ 15 ∧ hexD (hexv a.toNat) = a ∧ a ≠ 47 := by
  have h : ∀ n : Fin 256, upHex (UInt8.ofNat n.val) = true → 0 ≤ hexv (UInt8.ofNat n.val).toNat ∧ hexv (UInt8.ofNat n.val).toNat ≤ 15 ∧ hexD (hexv (UInt8.ofNat n.val).toNat) = UInt8.ofNat n.val ∧ UInt8.ofNat n.val ≠ 47 := by decide +kernel
  have := h ⟨a.toNat, a.toNat_lt⟩
  simpa using this
theorem hexD_facts (n : Int) (h0 : 0 ≤ n) (h1 : n ≤ 15) : upHex (hexD n) = true ∧ hexv (hexD n).toNat = n := by
  obtain ⟨m, rfl⟩ := Int.eq_ofNat_of_zero_le h0
  have h : ∀ n : Fin 16, upHex (hexD (n.val : Int)) = true ∧ hexv (hexD (n.val : Int)).toNat = (n.val : Int) := by decide +kernel
  exact h ⟨m, by omega⟩

theorem cf_canon (m : Bs) : ∀ (n : Nat) (l out : Bs), l.length ≤ n → cf m l = true → canonL m l out = some (out ++ l)
  | _, [], out, _, _ => by rw [canonL_nil]; simp
  | 0, c :: t, out, hn, _ => by simp at hn
  | n + 1, c :: t, out, hn, h => by
    simp only [List.length_cons] at hn
    by_cases hc : c = 37
    · subst hc
      match t, hn, h with
      | [], _, h => simp [cf] at h
      | [a], _, h => simp [cf] at h
      | a :: b :: t', hn, h =>
        rw [cf_pct] at h
        simp only [Bool.and_eq_true, Bool.not_eq_true', decide_eq_false_iff_not] at h
        obtain ⟨⟨⟨⟨⟨h1, h2⟩, h3⟩, h4⟩, h5⟩, h6⟩ := h
        obtain ⟨a0, a1, a2, _⟩ := hex_facts a h1
        obtain ⟨b0, b1, b2, _⟩ := hex_facts b h2
        rw [canonL_pct m a b t' out (by omega) (by omega) h3 h4]
        have hp : pctOut (16 * hexv a.toNat + hexv b.toNat) = [37, a, b] := by
          unfold pctOut
          rw [h5, show (16 * hexv a.toNat + hexv b.toNat) / 16 = hexv a.toNat by omega, show (16 * hexv a.toNat + hexv b.toNat) % 16 = hexv b.toNat by omega, a2, b2]
          rfl
        simp only [List.length_cons] at hn
        rw [hp, cf_canon m n t' _ (by omega) h6]
        simp
    · rw [cf_plain m c t hc, Bool.and_eq_true, Bool.or_eq_true] at h
      rw [canonL_plain m c t out hc h.1, cf_canon m n t _ (by omega) h.2]
      simp

theorem canon_cf (m : Bs) : ∀ (n : Nat) (l out r : Bs), l.length ≤ n → (∀ c : UInt8, unresB c.toNat = true → c ≠ 37) → canonL m l out = some r → ∃ t, r = out ++ t ∧ cf m t = true
  | _, [], out, r, _, _, h => by rw [canonL_nil] at h; cases h; exact ⟨[], by simp, rfl⟩
  | 0, c :: t, out, r, hn, _, _ => by simp at hn
  | n + 1, c :: t, out, r, hn, hun, h => by
    simp only [List.length_cons] at hn
    by_cases hc : c = 37
    · subst hc
      match t, hn, h with
      | [], _, h => rw [canonL_short m [] out (by simp)] at h; cases h
      | [a], _, h => rw [canonL_short m [a] out (by simp)] at h; cases h
      | a :: b :: t', hn, h =>
        by_cases h1 : hexv a.toNat < 0 ∨ hexv b.toNat < 0
        · rw [canonL_nohex m a b t' out h1] at h; cases h
        · have h1a : ¬ hexv a.toNat < 0 := fun x => h1 (.inl x)
          have h1b : ¬ hexv b.toNat < 0 := fun x => h1 (.inr x)
          obtain ⟨_, ra⟩ := hexv_range (a.toNat : Int)
          obtain ⟨_, rb⟩ := hexv_range (b.toNat : Int)
          by_cases h2 : 16 * hexv a.toNat + hexv b.toNat < 32 ∨ 16 * hexv a.toNat + hexv b.toNat = 127
          · rw [canonL_low m a b t' out h1a h1b h2] at h; cases h
          · rw [canonL_pct m a b t' out h1a h1b (fun x => h2 (.inl x)) (fun x => h2 (.inr x))] at h
            simp only [List.length_cons] at hn
            obtain ⟨u, h3, h4⟩ := canon_cf m n t' _ r (by omega) hun h
            refine ⟨pctOut (16 * hexv a.toNat + hexv b.toNat) ++ u, by rw [h3]; simp, ?_⟩
            generalize hN : 16 * hexv a.toNat + hexv b.toNat = N at h2 ⊢
            unfold pctOut
            cases hu : unresB N with
            | true =>
              have e : (((UInt8.ofNat N.toNat).toNat : Nat) : Int) = N := by simp; omega
              have hu2 : unresB ((UInt8.ofNat N.toNat).toNat : Int) = true := by rw [e]; exact hu
              simp only [if_true, List.cons_append, List.nil_append]
              rw [cf_plain m _ u (hun _ hu2), hu2, h4]; rfl
            | false =>
              simp only [Bool.false_eq_true, if_false, List.cons_append, List.nil_append]
              obtain ⟨d1, d2⟩ := hexD_facts (N / 16) (by omega) (by omega)
              obtain ⟨d3, d4⟩ := hexD_facts (N % 16) (by omega) (by omega)
              rw [cf_pct, d1, d3, d2, d4, show 16 * (N / 16) + N % 16 = N by omega, hu, h4, decide_eq_false (fun x => h2 (.inl x)), decide_eq_false (fun x => h2 (.inr x))]
              rfl
    · by_cases hu : unresB c.toNat = true ∨ inB m c.toNat = true
      · rw [canonL_plain m c t out hc hu] at h
        obtain ⟨u, h3, h4⟩ := canon_cf m n t _ r (by omega) hun h
        exact ⟨c :: u, by rw [h3]; simp, by rw [cf_plain m c u hc, h4, Bool.and_true, Bool.or_eq_true]; exact hu⟩
      · have hu1 : unresB c.toNat = false := by simpa using fun x => hu (.inl x)
        have hu2 : inB m c.toNat = false := by simpa using fun x => hu (.inr x)
        rw [canonL_bad m c t out hc hu1 hu2] at h; cases h

theorem unres_37 (c : UInt8) (h : unresB c.toNat = true) : c ≠ 37 := by
  rintro rfl; revert h; decide
theorem canon_to_cf {m l r : Bs} (h : canon l m = some r) : cf m r = true := by
  obtain ⟨t, rfl, ht⟩ := canon_cf m l.length l [] r (Nat.le_refl _) unres_37 h
  simpa using ht
theorem canon_of_cf {m l : Bs} (h : cf m l = true) : canon l m = some l := by
  have := cf_canon m l.length l [] (Nat.le_refl _) h
  simpa [canon] using this
end Go.Proofs.YtijjggbiljkalaaDoor.Ad
