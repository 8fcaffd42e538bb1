/- Plain Lean: what package purge and its reference compute: Check, Match, Format, Parse, Wider. No condition. -/
import Derived.Test.YtijjggbiljkalaaDoorAddrK
namespace Go.Proofs.YtijjggbiljkalaaDoor.Ad
open Pl

/-! ### lying under a path -/
def undB (p q : Bs) : Bool := q.isPrefixOf p && (decide (p.length = q.length) || decide (q.getLast? = some 47) || decide ((p.drop q.length).head? = some 47))
theorem undB_iff (p q : Bs) : undB p q = true ↔ ∃ t, p = q ++ t ∧ (t = [] ∨ q.getLast? = some 47 ∨ t.head? = some 47) := by
  unfold undB
  simp only [Bool.and_eq_true, Bool.or_eq_true, decide_eq_true_eq, List.isPrefixOf_iff_prefix]
  constructor
  · rintro ⟨⟨t, rfl⟩, h⟩
    refine ⟨t, rfl, ?_⟩
    rcases h with (h | h) | h
    · exact .inl (List.eq_nil_of_length_eq_zero (by simp at h; simpa using h))
    · exact .inr (.inl h)
    · exact .inr (.inr (by simpa using h))
  · rintro ⟨t, rfl, h⟩
    refine ⟨⟨t, rfl⟩, ?_⟩
    rcases h with rfl | h | h
    · exact .inl (.inl (by simp))
    · exact .inl (.inr h)
    · exact .inr (by simpa using h)
theorem undB_trans {x b a : Bs} (h1 : undB x b = true) (h2 : undB b a = true) : undB x a = true := by
  rw [undB_iff] at h1 h2 ⊢
  obtain ⟨t, rfl, ht⟩ := h1
  obtain ⟨s, rfl, hs⟩ := h2
  refine ⟨s ++ t, by simp, ?_⟩
  rcases hs with rfl | hs | hs
  · rw [List.append_nil] at ht
    simpa using ht
  · exact .inr (.inl hs)
  · refine .inr (.inr ?_)
    cases s with
    | nil => simp at hs
    | cons c r => simpa using hs
theorem undB_self (a : Bs) : undB a a = true := by
  rw [undB_iff]
  exact ⟨[], by simp, .inl rfl⟩
/-- Is the address of a text under that of another? -/
def undT (x p : Bs) : Bool := match readL x, readL p with
  | some a, some b => decide (a.host = b.host) && undB a.path b.path
  | _, _ => false
theorem undT_some {x p : Bs} {a b : Adr} (h1 : readL x = some a) (h2 : readL p = some b) : undT x p = (decide (a.host = b.host) && undB a.path b.path) := by simp [undT, h1, h2]
theorem undT_none1 {x p : Bs} (h : readL x = none) : undT x p = false := by simp [undT, h]
theorem undT_none2 {x p : Bs} {a : Adr} (h1 : readL x = some a) (h : readL p = none) : undT x p = false := by simp [undT, h1, h]
theorem undT_trans {x b a : Bs} (h1 : undT x b = true) (h2 : undT b a = true) : undT x a = true := by
  cases hx : readL x with
  | none => rw [undT_none1 hx] at h1; cases h1
  | some x' =>
    cases hb : readL b with
    | none => rw [undT_none1 hb] at h2; cases h2
    | some b' =>
      cases ha : readL a with
      | none => rw [undT_none2 hb ha] at h2; cases h2
      | some a' =>
        rw [undT_some hx hb, Bool.and_eq_true, decide_eq_true_eq] at h1
        rw [undT_some hb ha, Bool.and_eq_true, decide_eq_true_eq] at h2
        rw [undT_some hx ha, Bool.and_eq_true, decide_eq_true_eq]
        exact ⟨h1.1.trans h2.1, undB_trans h1.2 h2.2⟩
theorem undT_self {x : Bs} {a : Adr} (h : readL x = some a) : undT x x = true := by
  rw [undT_some h h]
  simp [undB_self]

/-! ### tags -/
def goodC (b : UInt8) : Bool := decide (33 ≤ b.toNat) && decide (b.toNat ≤ 126)
def goodB (s : Bs) : Bool := decide (1 ≤ s.length) && decide (s.length ≤ 32) && s.all goodC
theorem goodB_len {s : Bs} (h : ¬ (1 ≤ s.length ∧ s.length ≤ 32)) : goodB s = false := by
  unfold goodB
  by_cases h1 : 1 ≤ s.length
  · rw [decide_eq_false (p := s.length ≤ 32) (fun h2 => h ⟨h1, h2⟩)]; simp
  · rw [decide_eq_false h1]; simp
theorem goodB_all {s : Bs} (h1 : 1 ≤ s.length) (h2 : s.length ≤ 32) : goodB s = s.all goodC := by simp [goodB, h1, h2]
theorem goodB_lens {s : Bs} (h : goodB s = true) : 1 ≤ s.length ∧ s.length ≤ 32 := by
  unfold goodB at h
  simp only [Bool.and_eq_true, decide_eq_true_eq] at h
  exact h.1
theorem goodB_mem {s : Bs} (h : goodB s = true) : ∀ b ∈ s, goodC b = true := by
  unfold goodB at h
  rw [Bool.and_eq_true] at h
  exact List.all_eq_true.1 h.2
theorem goodB_noblank {s : Bs} (h : goodB s = true) : (32 : UInt8) ∉ s := fun hm => by
  have := goodB_mem h 32 hm
  revert this; decide
theorem goodB_notab {s : Bs} (h : goodB s = true) : (9 : UInt8) ∉ s := fun hm => by
  have := goodB_mem h 9 hm
  revert this; decide

/-! ### purges -/
structure Pg where
  kind : Int
  tenant : Int
  value : Bs
  deriving DecidableEq
structure It where
  tenant : Int
  addr : Bs
  tags : List Bs
/-- Is the Value right? -/
def valueB (p : Pg) : Bool := if p.kind = 3 then goodB p.value else match readL p.value with
  | some a => decide (p.kind = 1) || !a.has
  | none => false
theorem valueB_tag {p : Pg} (h : p.kind = 3) : valueB p = goodB p.value := by simp [valueB, h]
theorem valueB_none {p : Pg} (h : ¬ p.kind = 3) (hr : readL p.value = none) : valueB p = false := by simp [valueB, h, hr]
theorem valueB_some {p : Pg} {a : Adr} (h : ¬ p.kind = 3) (hr : readL p.value = some a) : valueB p = (decide (p.kind = 1) || !a.has) := by simp [valueB, h, hr]
/-- The number of the error. -/
def checkN (p : Pg) : Int := if p.kind < 1 ∨ 3 < p.kind then 2 else if p.tenant < 0 ∨ 16 ≤ p.tenant then 1 else if valueB p then 0 else 2
theorem checkN_kind {p : Pg} (h : p.kind < 1 ∨ 3 < p.kind) : checkN p = 2 := if_pos h
theorem checkN_tenant {p : Pg} (h : ¬ (p.kind < 1 ∨ 3 < p.kind)) (h2 : p.tenant < 0 ∨ 16 ≤ p.tenant) : checkN p = 1 := by rw [checkN, if_neg h, if_pos h2]
theorem checkN_value {p : Pg} (h : ¬ (p.kind < 1 ∨ 3 < p.kind)) (h2 : ¬ (p.tenant < 0 ∨ 16 ≤ p.tenant)) : checkN p = if valueB p then 0 else 2 := by rw [checkN, if_neg h, if_neg h2]
theorem checkN_ok {p : Pg} (h : checkN p = 0) : (1 ≤ p.kind ∧ p.kind ≤ 3) ∧ (0 ≤ p.tenant ∧ p.tenant < 16) ∧ valueB p = true := by
  by_cases h1 : p.kind < 1 ∨ 3 < p.kind
  · rw [checkN_kind h1] at h; cases h
  · by_cases h2 : p.tenant < 0 ∨ 16 ≤ p.tenant
    · rw [checkN_tenant h1 h2] at h; cases h
    · rw [checkN_value h1 h2] at h
      refine ⟨by omega, by omega, ?_⟩
      cases hv : valueB p with
      | true => rfl
      | false => rw [hv] at h; simp at h
theorem checkN_cases (p : Pg) : checkN p = 0 ∨ checkN p = 1 ∨ checkN p = 2 := by
  unfold checkN
  split
  · simp
  · split
    · simp
    · split <;> simp
theorem checkN_of {p : Pg} (h1 : 1 ≤ p.kind ∧ p.kind ≤ 3) (h2 : 0 ≤ p.tenant ∧ p.tenant < 16) (h3 : valueB p = true) : checkN p = 0 := by
  rw [checkN_value (by omega) (by omega), h3]; rfl

/-- Does a purge match an item? -/
def matchB (p : Pg) (x : It) : Bool := (readL x.addr).isSome && decide (checkN p = 0) && decide (p.tenant = x.tenant) &&
  (if p.kind = 1 then decide (p.value = x.addr) else if p.kind = 2 then undT x.addr p.value else decide (p.value ∈ x.tags))
def widerB (a b : Pg) : Bool := decide (checkN a = 0) && decide (checkN b = 0) && decide (a.tenant = b.tenant) && (decide (a = b) || (decide (a.kind = 2) && decide (b.kind ≠ 3) && undT b.value a.value))

theorem matchB_iff (p : Pg) (x : It) : matchB p x = true ↔ (readL x.addr).isSome = true ∧ checkN p = 0 ∧ p.tenant = x.tenant ∧ ((p.kind = 1 ∧ p.value = x.addr) ∨ (p.kind = 2 ∧ undT x.addr p.value = true) ∨ (p.kind ≠ 1 ∧ p.kind ≠ 2 ∧ p.value ∈ x.tags)) := by
  unfold matchB
  simp only [Bool.and_eq_true, decide_eq_true_eq]
  constructor
  · rintro ⟨⟨⟨h1, h2⟩, h3⟩, h4⟩
    refine ⟨h1, h2, h3, ?_⟩
    by_cases k1 : p.kind = 1
    · rw [if_pos k1] at h4; exact .inl ⟨k1, by simpa using h4⟩
    · rw [if_neg k1] at h4
      by_cases k2 : p.kind = 2
      · rw [if_pos k2] at h4; exact .inr (.inl ⟨k2, h4⟩)
      · rw [if_neg k2] at h4; exact .inr (.inr ⟨k1, k2, by simpa using h4⟩)
  · rintro ⟨h1, h2, h3, h4⟩
    refine ⟨⟨⟨h1, h2⟩, h3⟩, ?_⟩
    rcases h4 with ⟨k, h⟩ | ⟨k, h⟩ | ⟨k1, k2, h⟩
    · rw [if_pos k]; simpa using h
    · rw [if_neg (by omega), if_pos k]; exact h
    · rw [if_neg k1, if_neg k2]; simpa using h
theorem widerB_iff (a b : Pg) : widerB a b = true ↔ checkN a = 0 ∧ checkN b = 0 ∧ a.tenant = b.tenant ∧ (a = b ∨ (a.kind = 2 ∧ b.kind ≠ 3 ∧ undT b.value a.value = true)) := by
  unfold widerB
  simp only [Bool.and_eq_true, Bool.or_eq_true, decide_eq_true_eq]
  constructor
  · rintro ⟨⟨⟨h1, h2⟩, h3⟩, h4⟩
    refine ⟨h1, h2, h3, ?_⟩
    rcases h4 with h | ⟨⟨h, h'⟩, h''⟩
    · exact .inl h
    · exact .inr ⟨h, h', h''⟩
  · rintro ⟨h1, h2, h3, h4⟩
    refine ⟨⟨⟨h1, h2⟩, h3⟩, ?_⟩
    rcases h4 with h | ⟨h, h', h''⟩
    · exact .inl h
    · exact .inr ⟨⟨h, h'⟩, h''⟩

/-- What a narrower purge matches, a wider one matches. -/
theorem wider_match {a b : Pg} {x : It} (h : widerB a b = true) (hm : matchB b x = true) : matchB a x = true := by
  rw [widerB_iff] at h
  rw [matchB_iff] at hm ⊢
  obtain ⟨ha, hb, ht, h⟩ := h
  obtain ⟨hx, _, hbx, hm⟩ := hm
  rcases h with rfl | ⟨ka, kb, hu⟩
  · exact ⟨hx, ha, hbx, hm⟩
  · refine ⟨hx, ha, ht.trans hbx, .inr (.inl ⟨ka, ?_⟩)⟩
    have hk := (checkN_ok hb).1
    rcases hm with ⟨_, e⟩ | ⟨_, e⟩ | ⟨k1, k2, _⟩
    · rw [← e]; exact hu
    · exact undT_trans e hu
    · omega
theorem wider_trans {a b c : Pg} (h1 : widerB a b = true) (h2 : widerB b c = true) : widerB a c = true := by
  rw [widerB_iff] at h1 h2 ⊢
  obtain ⟨ha, hb, ht, h⟩ := h1
  obtain ⟨_, hc, ht2, h2⟩ := h2
  refine ⟨ha, hc, ht.trans ht2, ?_⟩
  rcases h with rfl | ⟨ka, kb, hu⟩
  · exact h2
  · rcases h2 with rfl | ⟨kb2, kc, hu2⟩
    · exact .inr ⟨ka, kb, hu⟩
    · exact .inr ⟨ka, kc, undT_trans hu2 hu⟩
theorem wider_self (a : Pg) : widerB a a = decide (checkN a = 0) := by
  rw [Bool.eq_iff_iff, widerB_iff, decide_eq_true_eq]
  exact ⟨fun h => h.1, fun h => ⟨h, h, rfl, .inl rfl⟩⟩
theorem match_tenant {p : Pg} {x : It} (h : ¬ x.tenant = p.tenant) : matchB p x = false := by
  rw [Bool.eq_false_iff]
  intro hm
  exact h ((matchB_iff p x).1 hm).2.2.1.symm
theorem match_bad {p : Pg} {x : It} (h : ¬ checkN p = 0) : matchB p x = false := by
  rw [Bool.eq_false_iff]
  intro hm
  exact h ((matchB_iff p x).1 hm).2.1
theorem read_root : readL [97, 47] = some ⟨[97], [47], [], false⟩ := by rfl
theorem match_tag {p : Pg} (ts : List Bs) (hc : checkN p = 0) (hk : p.kind = 3) : matchB p ⟨p.tenant, [97, 47], ts ++ [p.value]⟩ = true := by
  rw [matchB_iff]
  exact ⟨by rw [read_root]; rfl, hc, rfl, .inr (.inr ⟨by omega, by omega, by simp⟩)⟩
theorem match_own {p : Pg} (ts : List Bs) (hc : checkN p = 0) (hk : ¬ p.kind = 3) : matchB p ⟨p.tenant, p.value, ts⟩ = true := by
  rw [matchB_iff]
  obtain ⟨h1, _, h3⟩ := checkN_ok hc
  cases hr : readL p.value with
  | none => rw [valueB_none hk hr] at h3; cases h3
  | some a =>
    refine ⟨by simp, hc, rfl, ?_⟩
    by_cases k1 : p.kind = 1
    · exact .inl ⟨k1, rfl⟩
    · exact .inr (.inl ⟨by omega, undT_self hr⟩)

/-! ### texts -/
def wordOf (k : Int) : Bs := if k = 1 then [101, 120, 97, 99, 116] else if k = 2 then [112, 114, 101, 102, 105, 120] else [116, 97, 103]
/-- A number from 0 to 15 in decimal. -/
def decOf (t : Int) : Bs := if t < 10 then [UInt8.ofNat (48 + t.toNat)] else [49, UInt8.ofNat (38 + t.toNat)]
def fmtT (p : Pg) : Bs := wordOf p.kind ++ 32 :: (decOf p.tenant ++ 32 :: p.value)
def fmtO (p : Pg) : Option Bs := if checkN p = 0 then some (fmtT p) else none
theorem wordOf_noblank (k : Int) : (32 : UInt8) ∉ wordOf k := by
  unfold wordOf; split
  · decide
  · split <;> decide
theorem decOf_all (t : Int) (h0 : 0 ≤ t) (h1 : t < 16) : (32 : UInt8) ∉ decOf t ∧ ∀ s : Int, 0 ≤ s → s < 16 → decOf t = decOf s → t = s := by
  obtain ⟨n, rfl⟩ := Int.eq_ofNat_of_zero_le h0
  have g : ∀ n : Fin 16, (32 : UInt8) ∉ decOf (n.val : Int) ∧ ∀ m : Fin 16, decOf (n.val : Int) = decOf (m.val : Int) → n.val = m.val := by decide +kernel
  obtain ⟨g1, g2⟩ := g ⟨n, by omega⟩
  refine ⟨g1, fun s hs0 hs1 e => ?_⟩
  obtain ⟨m, rfl⟩ := Int.eq_ofNat_of_zero_le hs0
  have := g2 ⟨m, by omega⟩ e
  simp only at this
  omega
theorem wordOf_inj {a b : Int} (ha : 1 ≤ a ∧ a ≤ 3) (hb : 1 ≤ b ∧ b ≤ 3) (h : wordOf a = wordOf b) : a = b := by
  have ca : a = 1 ∨ a = 2 ∨ a = 3 := by omega
  have cb : b = 1 ∨ b = 2 ∨ b = 3 := by omega
  rcases ca with rfl | rfl | rfl <;> rcases cb with rfl | rfl | rfl <;> first | rfl | (exact absurd h (by decide))
theorem split_blank {a b r s : Bs} (ha : (32 : UInt8) ∉ a) (hb : (32 : UInt8) ∉ b) (h : a ++ 32 :: r = b ++ 32 :: s) : a = b ∧ r = s := by
  have h1 := cutAt_hit 32 r a ha
  have h2 := cutAt_hit 32 s b hb
  rw [h, h2] at h1
  simp only [Prod.mk.injEq, and_true] at h1
  exact ⟨h1.1.symm, h1.2.symm⟩
/-- Different purges have different texts. -/
theorem fmtT_inj {p q : Pg} (hp : checkN p = 0) (hq : checkN q = 0) (h : fmtT p = fmtT q) : p = q := by
  obtain ⟨kp, tp, _⟩ := checkN_ok hp
  obtain ⟨kq, tq, _⟩ := checkN_ok hq
  obtain ⟨h1, h2⟩ := split_blank (wordOf_noblank _) (wordOf_noblank _) h
  obtain ⟨d1, d2⟩ := decOf_all p.tenant tp.1 tp.2
  obtain ⟨e1, _⟩ := decOf_all q.tenant tq.1 tq.2
  obtain ⟨h3, h4⟩ := split_blank d1 e1 h2
  obtain ⟨k, t, v⟩ := p
  obtain ⟨k', t', v'⟩ := q
  simp only at *
  rw [wordOf_inj kp kq h1, d2 t' tq.1 tq.2 h3, h4]
/-- The first kind and tenant whose text begins a text: the reference's way, as a search over a list of pairs. -/
def headT (k t : Int) : Bs := wordOf k ++ 32 :: (decOf t ++ [32])
theorem fmtT_head (k t : Int) (v : Bs) : fmtT ⟨k, t, v⟩ = headT k t ++ v := by simp [fmtT, headT]
/-- The purge with a text. -/
def ParseIs (s : Bs) (r : Option Pg) : Prop := match r with
  | some p => checkN p = 0 ∧ fmtT p = s
  | none => ∀ p, checkN p = 0 → fmtT p ≠ s
theorem parseIs_unique {s : Bs} {r r' : Option Pg} (h : ParseIs s r) (h' : ParseIs s r') : r = r' := by
  cases r with
  | some p =>
    cases r' with
    | some q => rw [fmtT_inj h.1 h'.1 (h.2.trans h'.2.symm)]
    | none => exact absurd h.2 (h' p h.1)
  | none =>
    cases r' with
    | some q => exact absurd h'.2 (h q h'.1)
    | none => rfl
end Go.Proofs.YtijjggbiljkalaaDoor.Ad
