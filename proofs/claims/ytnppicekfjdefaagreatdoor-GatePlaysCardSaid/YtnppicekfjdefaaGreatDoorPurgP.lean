/- Plain Lean: what package purge and its reference compute: Check, Match, Format, Parse, Wider. No condition. Plain Lean: the log of purges, and that the reference's and the program's ways agree. No condition. Plain Lean: what purge.Parse computes, and that it answers as the text of a purge asks. No condition. -/
import Derived.Test.YtnppicekfjdefaaGreatDoorAddrP
import Derived.Lib.AtoiAll
import Derived.Lib.SlicesS
section
namespace Go.Proofs.YtnppicekfjdefaaGreatDoor.Ad
open Pl

/-! ### lying under a path -/
def undB (p q : Bs) : Bool := q.isPrefixOf p && (decide (p.length = q.length) || decide (q.getLast? = some 47) || decide ((p.drop q.length).head? = some 47))
theorem undB_iff (p q : Bs) : undB p q = true ↔ ∃ t, p = q ++ t ∧ (t = [] ∨ q.getLast? = some 47 ∨ t.head? = some 47) := by
  unfold undB
  simp only [Bool.and_eq_true, Bool.or_eq_true, decide_eq_true_eq, List.isPrefixOf_iff_prefix]
  constructor
  · rintro ⟨⟨t, rfl⟩, h⟩
    refine ⟨t, rfl, ?_⟩
    rcases h with (h | h) | h
    · exact .inl (List.eq_nil_of_length_eq_zero (by simp at h; simpa using h))
    · exact .inr (.inl h)
    · exact .inr (.inr (by simpa using h))
  · rintro ⟨t, rfl, h⟩
    refine ⟨⟨t, rfl⟩, ?_⟩
    rcases h with rfl | h | h
    · exact .inl (.inl (by simp))
    · exact .inl (.inr h)
    · exact .inr (by simpa using h)
theorem undB_trans {x b a : Bs} (h1 : undB x b = true) (h2 : undB b a = true) : undB x a = true := by
  rw [undB_iff] at h1 h2 ⊢
  obtain ⟨t, rfl, ht⟩ := h1
  obtain ⟨s, rfl, hs⟩ := h2
  refine ⟨s ++ t, by simp, ?_⟩
  rcases hs with rfl | hs | hs
  · rw [List.append_nil] at ht
    simpa using ht
  · exact .inr (.inl hs)
  · refine .inr (.inr ?_)
    cases s with
    | nil => simp at hs
    | cons c r => simpa using hs
theorem undB_self (a : Bs) : undB a a = true := by
  rw [undB_iff]
  exact ⟨[], by simp, .inl rfl⟩
/-- Is the address of a text under that of another? -/
def undT (x p : Bs) : Bool := match readL x, readL p with
  | some a, some b => decide (a.host = b.host) && undB a.path b.path
  | _, _ => false
theorem undT_some {x p : Bs} {a b : Adr} (h1 : readL x = some a) (h2 : readL p = some b) : undT x p = (decide (a.host = b.host) && undB a.path b.path) := by simp [undT, h1, h2]
theorem undT_none1 {x p : Bs} (h : readL x = none) : undT x p = false := by simp [undT, h]
theorem undT_none2 {x p : Bs} {a : Adr} (h1 : readL x = some a) (h : readL p = none) : undT x p = false := by simp [undT, h1, h]
theorem undT_trans {x b a : Bs} (h1 : undT x b = true) (h2 : undT b a = true) : undT x a = true := by
  cases hx : readL x with
  | none => rw [undT_none1 hx] at h1; cases h1
  | some x' =>
    cases hb : readL b with
    | none => rw [undT_none1 hb] at h2; cases h2
    | some b' =>
      cases ha : readL a with
      | none => rw [undT_none2 hb ha] at h2; cases h2
      | some a' =>
        rw [undT_some hx hb, Bool.and_eq_true, decide_eq_true_eq] at h1
        rw [undT_some hb ha, Bool.and_eq_true, decide_eq_true_eq] at h2
        rw [undT_some hx ha, Bool.and_eq_true, decide_eq_true_eq]
        exact ⟨h1.1.trans h2.1, undB_trans h1.2 h2.2⟩
theorem undT_self {x : Bs} {a : Adr} (h : readL x = some a) : undT x x = true := by
  rw [undT_some h h]
  simp [undB_self]

/-! ### tags -/
def goodC (b : UInt8) : Bool := decide (33 ≤ b.toNat) && decide (b.toNat ≤ 126)
def goodB (s : Bs) : Bool := decide (1 ≤ s.length) && decide (s.length ≤ 32) && s.all goodC
theorem goodB_len {s : Bs} (h : ¬ (1 ≤ s.length ∧ s.length ≤ 32)) : goodB s = false := by
  unfold goodB
  by_cases h1 : 1 ≤ s.length
  · rw [decide_eq_false (p := s.length ≤ 32) (fun h2 => h ⟨h1, h2⟩)]; simp
  · rw [decide_eq_false h1]; simp
theorem goodB_all {s : Bs} (h1 : 1 ≤ s.length) (h2 : s.length ≤ 32) : goodB s = s.all goodC := by simp [goodB, h1, h2]
theorem goodB_lens {s : Bs} (h : goodB s = true) : 1 ≤ s.length ∧ s.length ≤ 32 := by
  unfold goodB at h
  simp only [Bool.and_eq_true, decide_eq_true_eq] at h
  exact h.1
theorem goodB_mem {s : Bs} (h : goodB s = true) : ∀ b ∈ s, goodC b = true := by
  unfold goodB at h
  rw [Bool.and_eq_true] at h
  exact List.all_eq_true.1 h.2
theorem goodB_noblank {s : Bs} (h : goodB s = true) : (32 : UInt8) ∉ s := fun hm => by
  have := goodB_mem h 32 hm
  revert this; decide
theorem goodB_notab {s : Bs} (h : goodB s = true) : (9 : UInt8) ∉ s := fun hm => by
  have := goodB_mem h 9 hm
  revert this; decide

/-! ### purges -/
structure Pg where
  kind : Int
  tenant : Int
  value : Bs
  deriving DecidableEq
structure It where
  tenant : Int
  addr : Bs
  tags : List Bs
/-- Is the Value right? -/
def valueB (p : Pg) : Bool := if p.kind = 3 then goodB p.value else match readL p.value with
  | some a => decide (p.kind = 1) || !a.has
  | none => false
theorem valueB_tag {p : Pg} (h : p.kind = 3) : valueB p = goodB p.value := by simp [valueB, h]
theorem valueB_none {p : Pg} (h : ¬ p.kind = 3) (hr : readL p.value = none) : valueB p = false := by simp [valueB, h, hr]
theorem valueB_some {p : Pg} {a : Adr} (h : ¬ p.kind = 3) (hr : readL p.value = some a) : valueB p = (decide (p.kind = 1) || !a.has) := by simp [valueB, h, hr]
/-- The number of the error. -/
def checkN (p : Pg) : Int := if p.kind < 1 ∨ 3 < p.kind then 2 else if p.tenant < 0 ∨ 16 ≤ p.tenant then 1 else if valueB p then 0 else 2
theorem checkN_kind {p : Pg} (h : p.kind < 1 ∨ 3 < p.kind) : checkN p = 2 := if_pos h
theorem checkN_tenant {p : Pg} (h : ¬ (p.kind < 1 ∨ 3 < p.kind)) (h2 : p.tenant < 0 ∨ 16 ≤ p.tenant) : checkN p = 1 := by rw [checkN, if_neg h, if_pos h2]
theorem checkN_value {p : Pg} (h : ¬ (p.kind < 1 ∨ 3 < p.kind)) (h2 : ¬ (p.tenant < 0 ∨ 16 ≤ p.tenant)) : checkN p = if valueB p then 0 else 2 := by rw [checkN, if_neg h, if_neg h2]
theorem checkN_ok {p : Pg} (h : checkN p = 0) : (1 ≤ p.kind ∧ p.kind ≤ 3) ∧ (0 ≤ p.tenant ∧ p.tenant < 16) ∧ valueB p = true := by
  by_cases h1 : p.kind < 1 ∨ 3 < p.kind
  · rw [checkN_kind h1] at h; cases h
  · by_cases h2 : p.tenant < 0 ∨ 16 ≤ p.tenant
    · rw [checkN_tenant h1 h2] at h; cases h
    · rw [checkN_value h1 h2] at h
      refine ⟨by omega, by omega, ?_⟩
      cases hv : valueB p with
      | true => rfl
      | false => rw [hv] at h; simp at h
theorem checkN_cases (p : Pg) : checkN p = 0 ∨ checkN p = 1 ∨ checkN p = 2 := by
  unfold checkN
  split
  · simp
  · split
    · simp
    · split <;> simp
theorem checkN_of {p : Pg} (h1 : 1 ≤ p.kind ∧ p.kind ≤ 3) (h2 : 0 ≤ p.tenant ∧ p.tenant < 16) (h3 : valueB p = true) : checkN p = 0 := by
  rw [checkN_value (by omega) (by omega), h3]; rfl

/-- Does a purge match an item? -/
def matchB (p : Pg) (x : It) : Bool := (readL x.addr).isSome && decide (checkN p = 0) && decide (p.tenant = x.tenant) &&
  (if p.kind = 1 then decide (p.value = x.addr) else if p.kind = 2 then undT x.addr p.value else decide (p.value ∈ x.tags))
def widerB (a b : Pg) : Bool := decide (checkN a = 0) && decide (checkN b = 0) && decide (a.tenant = b.tenant) && (decide (a = b) || (decide (a.kind = 2) && decide (b.kind ≠ 3) && undT b.value a.value))

theorem matchB_iff (p : Pg) (x : It) : matchB p x = true ↔ (readL x.addr).isSome = true ∧ checkN p = 0 ∧ p.tenant = x.tenant ∧ ((p.kind = 1 ∧ p.value = x.addr) ∨ (p.kind = 2 ∧ undT x.addr p.value = true) ∨ (p.kind ≠ 1 ∧ p.kind ≠ 2 ∧ p.value ∈ x.tags)) := by
  unfold matchB
  simp only [Bool.and_eq_true, decide_eq_true_eq]
  constructor
  · rintro ⟨⟨⟨h1, h2⟩, h3⟩, h4⟩
    refine ⟨h1, h2, h3, ?_⟩
    by_cases k1 : p.kind = 1
    · rw [if_pos k1] at h4; exact .inl ⟨k1, by simpa using h4⟩
    · rw [if_neg k1] at h4
      by_cases k2 : p.kind = 2
      · rw [if_pos k2] at h4; exact .inr (.inl ⟨k2, h4⟩)
      · rw [if_neg k2] at h4; exact .inr (.inr ⟨k1, k2, by simpa using h4⟩)
  · rintro ⟨h1, h2, h3, h4⟩
    refine ⟨⟨⟨h1, h2⟩, h3⟩, ?_⟩
    rcases h4 with ⟨k, h⟩ | ⟨k, h⟩ | ⟨k1, k2, h⟩
    · rw [if_pos k]; simpa using h
    · rw [if_neg (by omega), if_pos k]; exact h
    · rw [if_neg k1, if_neg k2]; simpa using h
theorem widerB_iff (a b : Pg) : widerB a b = true ↔ checkN a = 0 ∧ checkN b = 0 ∧ a.tenant = b.tenant ∧ (a = b ∨ (a.kind = 2 ∧ b.kind ≠ 3 ∧ undT b.value a.value = true)) := by
  unfold widerB
  simp only [Bool.and_eq_true, Bool.or_eq_true, decide_eq_true_eq]
  constructor
  · rintro ⟨⟨⟨h1, h2⟩, h3⟩, h4⟩
    refine ⟨h1, h2, h3, ?_⟩
    rcases h4 with h | ⟨⟨h, h'⟩, h''⟩
    · exact .inl h
    · exact .inr ⟨h, h', h''⟩
  · rintro ⟨h1, h2, h3, h4⟩
    refine ⟨⟨⟨h1, h2⟩, h3⟩, ?_⟩
    rcases h4 with h | ⟨h, h', h''⟩
    · exact .inl h
    · exact .inr ⟨⟨h, h'⟩, h''⟩

/-- What a narrower purge matches, a wider one matches. -/
theorem wider_match {a b : Pg} {x : It} (h : widerB a b = true) (hm : matchB b x = true) : matchB a x = true := by
  rw [widerB_iff] at h
  rw [matchB_iff] at hm ⊢
  obtain ⟨ha, hb, ht, h⟩ := h
  obtain ⟨hx, _, hbx, hm⟩ := hm
  rcases h with rfl | ⟨ka, kb, hu⟩
  · exact ⟨hx, ha, hbx, hm⟩
  · refine ⟨hx, ha, ht.trans hbx, .inr (.inl ⟨ka, ?_⟩)⟩
    have hk := (checkN_ok hb).1
    rcases hm with ⟨_, e⟩ | ⟨_, e⟩ | ⟨k1, k2, _⟩
    · rw [← e]; exact hu
    · exact undT_trans e hu
    · omega
theorem wider_trans {a b c : Pg} (h1 : widerB a b = true) (h2 : widerB b c = true) : widerB a c = true := by
  rw [widerB_iff] at h1 h2 ⊢
  obtain ⟨ha, hb, ht, h⟩ := h1
  obtain ⟨_, hc, ht2, h2⟩ := h2
  refine ⟨ha, hc, ht.trans ht2, ?_⟩
  rcases h with rfl | ⟨ka, kb, hu⟩
  · exact h2
  · rcases h2 with rfl | ⟨kb2, kc, hu2⟩
    · exact .inr ⟨ka, kb, hu⟩
    · exact .inr ⟨ka, kc, undT_trans hu2 hu⟩
theorem wider_self (a : Pg) : widerB a a = decide (checkN a = 0) := by
  rw [Bool.eq_iff_iff, widerB_iff, decide_eq_true_eq]
  exact ⟨fun h => h.1, fun h => ⟨h, h, rfl, .inl rfl⟩⟩
theorem match_tenant {p : Pg} {x : It} (h : ¬ x.tenant = p.tenant) : matchB p x = false := by
  rw [Bool.eq_false_iff]
  intro hm
  exact h ((matchB_iff p x).1 hm).2.2.1.symm
theorem match_bad {p : Pg} {x : It} (h : ¬ checkN p = 0) : matchB p x = false := by
  rw [Bool.eq_false_iff]
  intro hm
  exact h ((matchB_iff p x).1 hm).2.1
theorem read_root : readL [97, 47] = some ⟨[97], [47], [], false⟩ := by rfl
theorem match_tag {p : Pg} (ts : List Bs) (hc : checkN p = 0) (hk : p.kind = 3) : matchB p ⟨p.tenant, [97, 47], ts ++ [p.value]⟩ = true := by
  rw [matchB_iff]
  exact ⟨by rw [read_root]; rfl, hc, rfl, .inr (.inr ⟨by omega, by omega, by simp⟩)⟩
theorem match_own {p : Pg} (ts : List Bs) (hc : checkN p = 0) (hk : ¬ p.kind = 3) : matchB p ⟨p.tenant, p.value, ts⟩ = true := by
  rw [matchB_iff]
  obtain ⟨h1, _, h3⟩ := checkN_ok hc
  cases hr : readL p.value with
  | none => rw [valueB_none hk hr] at h3; cases h3
  | some a =>
    refine ⟨by simp, hc, rfl, ?_⟩
    by_cases k1 : p.kind = 1
    · exact .inl ⟨k1, rfl⟩
    · exact .inr (.inl ⟨by omega, undT_self hr⟩)

/-! ### texts -/
def wordOf (k : Int) : Bs := if k = 1 then [101, 120, 97, 99, 116] else if k = 2 then [112, 114, 101, 102, 105, 120] else [116, 97, 103]
/-- A number from 0 to 15 in decimal. -/
def decOf (t : Int) : Bs := if t < 10 then [UInt8.ofNat (48 + t.toNat)] else [49, UInt8.ofNat (38 + t.toNat)]
def fmtT (p : Pg) : Bs := wordOf p.kind ++ 32 :: (decOf p.tenant ++ 32 :: p.value)
def fmtO (p : Pg) : Option Bs := if checkN p = 0 then some (fmtT p) else none
theorem wordOf_noblank (k : Int) : (32 : UInt8) ∉ wordOf k := by
  unfold wordOf; split
  · decide
  · split <;> decide
theorem decOf_all (t : Int) (h0 : 0 ≤ t) (h1 : t < 16) : (32 : UInt8) ∉ decOf t ∧ ∀ s : Int, 0 ≤ s → s < 16 → decOf t = decOf s → t = s := by
  obtain ⟨n, rfl⟩ := Int.eq_ofNat_of_zero_le h0
  have g : ∀ n : Fin 16, (32 : UInt8) ∉ decOf (n.val : Int) ∧ ∀ m : Fin 16, decOf (n.val : Int) = decOf (m.val : Int) → n.val = m.val := by decide +kernel
  obtain ⟨g1, g2⟩ := g ⟨n, by omega⟩
  refine ⟨g1, fun s hs0 hs1 e => ?_⟩
  obtain ⟨m, rfl⟩ := Int.eq_ofNat_of_zero_le hs0
  have := g2 ⟨m, by omega⟩ e
  simp only at this
  omega
theorem wordOf_inj {a b : Int} (ha : 1 ≤ a ∧ a ≤ 3) (hb : 1 ≤ b ∧ b ≤ 3) (h : wordOf a = wordOf b) : a = b := by
  have ca : a = 1 ∨ a = 2 ∨ a = 3 := by omega
  have cb : b = 1 ∨ b = 2 ∨ b = 3 := by omega
  rcases ca with rfl | rfl | rfl <;> rcases cb with rfl | rfl | rfl <;> first | rfl | (exact absurd h (by decide))
theorem split_blank {a b r s : Bs} (ha : (32 : UInt8) ∉ a) (hb : (32 : UInt8) ∉ b) (h : a ++ 32 :: r = b ++ 32 :: s) : a = b ∧ r = s := by
  have h1 := cutAt_hit 32 r a ha
  have h2 := cutAt_hit 32 s b hb
  rw [h, h2] at h1
  simp only [Prod.mk.injEq, and_true] at h1
  exact ⟨h1.1.symm, h1.2.symm⟩
/-- Different purges have different texts. -/
theorem fmtT_inj {p q : Pg} (hp : checkN p = 0) (hq : checkN q = 0) (h : fmtT p = fmtT q) : p = q := by
  obtain ⟨kp, tp, _⟩ := checkN_ok hp
  obtain ⟨kq, tq, _⟩ := checkN_ok hq
  obtain ⟨h1, h2⟩ := split_blank (wordOf_noblank _) (wordOf_noblank _) h
  obtain ⟨d1, d2⟩ := decOf_all p.tenant tp.1 tp.2
  obtain ⟨e1, _⟩ := decOf_all q.tenant tq.1 tq.2
  obtain ⟨h3, h4⟩ := split_blank d1 e1 h2
  obtain ⟨k, t, v⟩ := p
  obtain ⟨k', t', v'⟩ := q
  simp only at *
  rw [wordOf_inj kp kq h1, d2 t' tq.1 tq.2 h3, h4]
/-- The first kind and tenant whose text begins a text: the reference's way, as a search over a list of pairs. -/
def headT (k t : Int) : Bs := wordOf k ++ 32 :: (decOf t ++ [32])
theorem fmtT_head (k t : Int) (v : Bs) : fmtT ⟨k, t, v⟩ = headT k t ++ v := by simp [fmtT, headT]
/-- The purge with a text. -/
def ParseIs (s : Bs) (r : Option Pg) : Prop := match r with
  | some p => checkN p = 0 ∧ fmtT p = s
  | none => ∀ p, checkN p = 0 → fmtT p ≠ s
theorem parseIs_unique {s : Bs} {r r' : Option Pg} (h : ParseIs s r) (h' : ParseIs s r') : r = r' := by
  cases r with
  | some p =>
    cases r' with
    | some q => rw [fmtT_inj h.1 h'.1 (h.2.trans h'.2.symm)]
    | none => exact absurd h.2 (h' p h.1)
  | none =>
    cases r' with
    | some q => exact absurd h'.2 (h q h'.1)
    | none => rfl
end Go.Proofs.YtnppicekfjdefaaGreatDoor.Ad
end

section
namespace Go.Proofs.YtnppicekfjdefaaGreatDoor.Ad
open Pl

/-- A log: its window, all purges that were accepted, how many of them are dropped. -/
structure LogM where
  win : Nat
  all : List Pg
  dropped : Nat
namespace LogM
def kept (L : LogM) : List Pg := L.all.drop L.dropped
structure Ok (L : LogM) : Prop where
  win1 : 1 ≤ L.win
  win2 : L.win ≤ 1024
  drop : L.dropped ≤ L.all.length
  room : L.all.length - L.dropped ≤ L.win
  size : ∀ p ∈ L.all, p.value.length ≤ 134217728
  good : ∀ p ∈ L.all, checkN p = 0
def start (n : Nat) : LogM := ⟨n, [], 0⟩
def push (L : LogM) (p : Pg) : LogM := ⟨L.win, L.all ++ [p], max L.dropped (L.all.length + 1 - L.win)⟩
def app (L : LogM) (p : Pg) : LogM := if checkN p = 0 then L.push p else L
def appN (L : LogM) (p : Pg) : Int := if checkN p = 0 then (L.all.length + 1 : Nat) else 0
def cut (L : LogM) (n : Int) : LogM := ⟨L.win, L.all, max L.dropped (min n (L.all.length : Int)).toNat⟩
def getC (L : LogM) (n : Int) : Int := if n < 1 ∨ (L.all.length : Int) < n then 3 else if n ≤ L.dropped then 15 else 0
def sinceC (L : LogM) (n : Int) : Int := if n < 0 then 1 else if (L.all.length : Int) ≤ n then 0 else if n < L.dropped then 15 else 0
def since (L : LogM) (n : Int) : List Pg := if n < 0 ∨ (L.all.length : Int) ≤ n ∨ n < L.dropped then [] else L.all.drop n.toNat
/-- The place of the first purge of a list that matches an item. -/
def hit (x : It) : List Pg → Option Nat
  | [] => none
  | p :: r => if matchB p x then some 0 else (hit x r).map (· + 1)
def covN (L : LogM) (x : It) (n : Int) : Int := match hit x (L.since n) with
  | some k => n + 1 + k
  | none => 0
def covB (L : LogM) (x : It) (n : Int) : Bool := (hit x (L.since n)).isSome

theorem hit_at {x : It} {l : List Pg} {k : Nat} (hk : k < l.length) (h : hit x l = (hit x (l.drop k)).map (· + k)) (hm : matchB l[k] x = true) : hit x l = some k := by
  rw [h, drop_cons hk, hit, if_pos hm]
  simp
theorem hit_next {x : It} {l : List Pg} {k : Nat} (hk : k < l.length) (h : hit x l = (hit x (l.drop k)).map (· + k)) (hm : matchB l[k] x = false) : hit x l = (hit x (l.drop (k + 1))).map (· + (k + 1)) := by
  rw [h, drop_cons hk, hit, if_neg (by rw [hm]; decide), Option.map_map]
  congr 1
  funext n
  simp; omega
theorem hit_start (x : It) (l : List Pg) : hit x l = (hit x (l.drop 0)).map (· + 0) := by simp
theorem hit_end {x : It} {l : List Pg} {k : Nat} (hk : l.length ≤ k) (h : hit x l = (hit x (l.drop k)).map (· + k)) : hit x l = none := by
  rw [h, List.drop_of_length_le hk]
  rfl
theorem kept_len (L : LogM) : L.kept.length = L.all.length - L.dropped := by simp [kept]
theorem ok_start {n : Nat} (h1 : 1 ≤ n) (h2 : n ≤ 1024) : (start n).Ok := ⟨h1, h2, Nat.le_refl _, by simp [start], (fun p hp => by simp [start] at hp), (fun p hp => by simp [start] at hp)⟩
theorem ok_push {L : LogM} (h : L.Ok) {p : Pg} (hc : checkN p = 0) (hp : p.value.length ≤ 134217728) : (L.push p).Ok := by
  obtain ⟨h1, h2, h3, h4, h5, h6⟩ := h
  refine ⟨h1, h2, ?_, ?_, fun q hq => ?_, fun q hq => ?_⟩
  · show max L.dropped (L.all.length + 1 - L.win) ≤ (L.all ++ [p]).length
    simp; omega
  · show (L.all ++ [p]).length - max L.dropped (L.all.length + 1 - L.win) ≤ L.win
    simp; omega
  · rcases List.mem_append.1 hq with hq | hq
    · exact h5 q hq
    · rw [List.mem_singleton.1 hq]; exact hp
  · rcases List.mem_append.1 hq with hq | hq
    · exact h6 q hq
    · rw [List.mem_singleton.1 hq]; exact hc
theorem ok_app {L : LogM} (h : L.Ok) {p : Pg} (hp : p.value.length ≤ 134217728) : (L.app p).Ok := by
  unfold app
  by_cases hc : checkN p = 0
  · rw [if_pos hc]; exact ok_push h hc hp
  · rw [if_neg hc]; exact h
theorem ok_cut {L : LogM} (h : L.Ok) (n : Int) : (L.cut n).Ok := by
  obtain ⟨h1, h2, h3, h4, h5, h6⟩ := h
  refine ⟨h1, h2, ?_, ?_, h5, h6⟩
  · show max L.dropped (min n (L.all.length : Int)).toNat ≤ L.all.length
    omega
  · show L.all.length - max L.dropped (min n (L.all.length : Int)).toNat ≤ L.win
    omega
/-- The program's way of pushing: where the window is full the first entry goes. -/
theorem push_room {L : LogM} (h : L.Ok) (p : Pg) (hr : L.kept.length + 1 ≤ L.win) : (L.push p).dropped = L.dropped ∧ (L.push p).kept = L.kept ++ [p] := by
  rw [kept_len] at hr
  have h3 := h.drop
  have hd : (L.push p).dropped = L.dropped := by show max L.dropped (L.all.length + 1 - L.win) = _; omega
  refine ⟨hd, ?_⟩
  unfold kept
  rw [hd]
  show (L.all ++ [p]).drop L.dropped = _
  rw [List.drop_append_of_le_length h3]
theorem push_full {L : LogM} (h : L.Ok) (p : Pg) (hr : ¬ L.kept.length + 1 ≤ L.win) : (L.push p).dropped = L.dropped + 1 ∧ (L.push p).kept = (L.kept ++ [p]).drop 1 := by
  rw [kept_len] at hr
  have h3 := h.drop
  have h4 := h.room
  have hd : (L.push p).dropped = L.dropped + 1 := by show max L.dropped (L.all.length + 1 - L.win) = _; omega
  refine ⟨hd, ?_⟩
  unfold kept
  rw [hd]
  show (L.all ++ [p]).drop (L.dropped + 1) = _
  rw [← List.drop_append_of_le_length h3, List.drop_drop]
end LogM

/-- An act of the laws: a Shrink or an Append. -/
structure LAct where
  sh : Bool
  n : Int
  p : Pg
/-- The cells of an act. -/
def actC (a : LAct) : List Value := [.bool a.sh, .int .i64 a.n, .int .i64 a.p.kind, .int .i64 a.p.tenant, .string ⟨a.p.value.toArray⟩]
def fitsA (l : List LAct) : Bool := l.all (fun a => decide (a.p.value.length ≤ 1200)) && decide (l.length ≤ 60)
theorem fitsA_bad {l : List LAct} {a : LAct} (hm : a ∈ l) (h : ¬ a.p.value.length ≤ 1200) : fitsA l = false := by
  unfold fitsA
  rw [Bool.and_eq_false_iff]
  refine .inl ?_
  rw [Bool.eq_false_iff]
  intro h2
  exact h (by simpa using List.all_eq_true.1 h2 a hm)
theorem fitsA_good {l : List LAct} (h : ∀ a ∈ l, a.p.value.length ≤ 1200) : fitsA l = decide (l.length ≤ 60) := by
  unfold fitsA
  rw [show l.all (fun a => decide (a.p.value.length ≤ 1200)) = true from List.all_eq_true.2 fun x hx => decide_eq_true (h x hx)]
  rfl
theorem fitsA_true {l : List LAct} (h : fitsA l = true) : (∀ a ∈ l, a.p.value.length ≤ 1200) ∧ l.length ≤ 60 := by
  unfold fitsA at h
  rw [Bool.and_eq_true, decide_eq_true_eq] at h
  exact ⟨fun x hx => by simpa using List.all_eq_true.1 h.1 x hx, h.2⟩
namespace LogM
def act (L : LogM) (a : LAct) : LogM := if a.sh then L.cut a.n else L.app a.p
def play (L : LogM) (l : List LAct) : LogM := l.foldl act L
theorem play_snoc (L : LogM) {l : List LAct} {k : Nat} (hk : k < l.length) : L.play (l.take (k + 1)) = (L.play (l.take k)).act l[k] := by
  unfold play
  rw [List.take_succ_eq_append_getElem hk, List.foldl_append]
  rfl
theorem act_win (L : LogM) (a : LAct) : (L.act a).win = L.win := by
  unfold act
  split
  · rfl
  · unfold app
    split <;> rfl
theorem act_ok {L : LogM} (h : L.Ok) {a : LAct} (ha : a.p.value.length ≤ 134217728) : (L.act a).Ok := by
  unfold act
  split
  · exact ok_cut h _
  · exact ok_app h ha
theorem act_len (L : LogM) (a : LAct) : (L.act a).all.length ≤ L.all.length + 1 := by
  unfold act
  split
  · exact Nat.le_succ _
  · unfold app
    split
    · simp [push]
    · exact Nat.le_succ _
end LogM

/-- The cells of a list of purges. -/
def pcells (p : Pg) : List Value := [.int .i64 p.kind, .int .i64 p.tenant, .string ⟨p.value.toArray⟩]
def pvals : List Pg → List Value
  | [] => []
  | p :: r => pcells p ++ pvals r
theorem pvals_len : ∀ l : List Pg, (pvals l).length = l.length * 3
  | [] => rfl
  | p :: r => by simp [pvals, pcells, pvals_len r]; omega
theorem pvals_append : ∀ a b : List Pg, pvals (a ++ b) = pvals a ++ pvals b
  | [], _ => rfl
  | p :: r, b => by simp [pvals, pvals_append r b]
theorem pvals_one (p : Pg) : pvals [p] = pcells p := by simp [pvals]
theorem pvals_drop : ∀ (l : List Pg) (k : Nat), (pvals l).drop (k * 3) = pvals (l.drop k)
  | [], k => by simp [pvals]
  | p :: r, 0 => by simp
  | p :: r, k + 1 => by
    rw [List.drop_succ_cons, ← pvals_drop r k, pvals, show (k + 1) * 3 = 3 + k * 3 by omega, ← List.drop_drop]
    rfl
theorem pvals_oneCell (l : List Pg) : ∀ u ∈ pvals l, u.oneCell' = true := by
  induction l with
  | nil => intro u hu; cases hu
  | cons p r ih =>
    intro u hu
    rcases List.mem_append.1 hu with hu | hu
    · simp [pcells] at hu
      rcases hu with rfl | rfl | rfl <;> rfl
    · exact ih u hu
/-- The three cells of the k-th purge. -/
theorem pvals_get {l : List Pg} {k : Nat} (hk : k < l.length) : (pvals l)[k * 3]? = some (.int .i64 l[k].kind) ∧ (pvals l)[k * 3 + 1]? = some (.int .i64 l[k].tenant) ∧ (pvals l)[k * 3 + 2]? = some (.string ⟨l[k].value.toArray⟩) := by
  have h := pvals_drop l k
  have hd : l.drop k = l[k] :: l.drop (k + 1) := drop_cons hk
  rw [hd, pvals] at h
  have g : ∀ j : Nat, ((pvals l).drop (k * 3))[j]? = (pcells l[k] ++ pvals (l.drop (k + 1)))[j]? := fun j => by rw [h]
  refine ⟨?_, ?_, ?_⟩
  · have := g 0; rw [List.getElem?_drop] at this; simpa [pcells] using this
  · have := g 1; rw [List.getElem?_drop] at this; simpa [pcells] using this
  · have := g 2; rw [List.getElem?_drop] at this; simpa [pcells] using this
end Go.Proofs.YtnppicekfjdefaaGreatDoor.Ad
end

section
namespace Go.Proofs.YtnppicekfjdefaaGreatDoor.Ad
open Pl

def wordsL : List ByteArray := [⟨([] : Bs).toArray⟩, ⟨([101, 120, 97, 99, 116] : Bs).toArray⟩, ⟨([112, 114, 101, 102, 105, 120] : Bs).toArray⟩, ⟨([116, 97, 103] : Bs).toArray⟩]
/-- The place of a word among the words. -/
def kindOf (x : Bs) : Int := Lib.idxOfS wordsL ⟨x.toArray⟩
theorem kindOf_word {k : Int} (h : 1 ≤ k ∧ k ≤ 3) : kindOf (wordOf k) = k := by
  have c : k = 1 ∨ k = 2 ∨ k = 3 := by omega
  rcases c with rfl | rfl | rfl <;> decide +kernel
theorem atoi_dec {t : Int} (h : 0 ≤ t ∧ t < 16) : Lib.atoiAll (decOf t) = .ok t := by
  obtain ⟨n, rfl⟩ := Int.eq_ofNat_of_zero_le h.1
  have g : ∀ n : Fin 16, Lib.atoiAll (decOf (n.val : Int)) = .ok (n.val : Int) := by decide +kernel
  exact g ⟨n, by omega⟩
def restOf (s : Bs) : Bs := (cutAt 32 s).2.1
/-- The purge that is tried at a text whose number is n. -/
def tryP (s : Bs) (n : Int) : Pg := ⟨kindOf (cutAt 32 s).1, n, (cutAt 32 (restOf s)).2.1⟩
def parseO (s : Bs) : Option Pg := match Lib.atoiAll (cutAt 32 (restOf s)).1 with
  | .ok n => if checkN (tryP s n) = 0 ∧ fmtT (tryP s n) = s then some (tryP s n) else none
  | _ => none
theorem parse_parts {s : Bs} {p : Pg} (hc : checkN p = 0) (h : fmtT p = s) : Lib.atoiAll (cutAt 32 (restOf s)).1 = .ok p.tenant ∧ tryP s p.tenant = p := by
  obtain ⟨hk, ht, _⟩ := checkN_ok hc
  obtain ⟨k, t, v⟩ := p
  simp only at hk ht
  have h1 : cutAt 32 s = (wordOf k, decOf t ++ 32 :: v, true) := by rw [← h]; exact cutAt_hit 32 _ _ (wordOf_noblank k)
  have h2 : restOf s = decOf t ++ 32 :: v := by unfold restOf; rw [h1]
  have h3 : cutAt 32 (restOf s) = (decOf t, v, true) := by rw [h2]; exact cutAt_hit 32 _ _ (decOf_all t ht.1 ht.2).1
  refine ⟨by rw [h3]; exact atoi_dec ht, ?_⟩
  unfold tryP
  rw [h3, h1, kindOf_word hk]
theorem parseO_num {s : Bs} {n : Int} (h : Lib.atoiAll (cutAt 32 (restOf s)).1 = .ok n) : parseO s = if checkN (tryP s n) = 0 ∧ fmtT (tryP s n) = s then some (tryP s n) else none := by unfold parseO; rw [h]
theorem parseO_yes {s : Bs} {n : Int} (h : Lib.atoiAll (cutAt 32 (restOf s)).1 = .ok n) (hc : checkN (tryP s n) = 0) (hf : fmtT (tryP s n) = s) : parseO s = some (tryP s n) := by rw [parseO_num h, if_pos ⟨hc, hf⟩]
theorem parseO_no1 {s : Bs} (h : ∀ n, Lib.atoiAll (cutAt 32 (restOf s)).1 ≠ .ok n) : parseO s = none := by
  unfold parseO
  split
  · rename_i n hn; exact absurd hn (h n)
  · rfl
theorem parseO_no2 {s : Bs} {n : Int} (h : Lib.atoiAll (cutAt 32 (restOf s)).1 = .ok n) (hc : ¬ checkN (tryP s n) = 0) : parseO s = none := by rw [parseO_num h, if_neg (fun e => hc e.1)]
theorem parseO_no3 {s : Bs} {n : Int} (h : Lib.atoiAll (cutAt 32 (restOf s)).1 = .ok n) (hf : ¬ fmtT (tryP s n) = s) : parseO s = none := by rw [parseO_num h, if_neg (fun e => hf e.2)]
theorem parseO_is (s : Bs) : ParseIs s (parseO s) := by
  cases hp : parseO s with
  | some p =>
    unfold parseO at hp
    split at hp
    · split at hp
      · rename_i h
        cases hp
        exact h
      · cases hp
    · cases hp
  | none =>
    intro p hc hf
    obtain ⟨h1, h2⟩ := parse_parts hc hf
    rw [parseO_yes h1 (by rw [h2]; exact hc) (by rw [h2]; exact hf)] at hp
    cases hp
theorem parseO_fmt {p : Pg} (hc : checkN p = 0) : parseO (fmtT p) = some p := parseIs_unique (parseO_is _) ⟨hc, rfl⟩

theorem restOf_len (s : Bs) : (restOf s).length ≤ s.length := (cutAt_len 32 s).2
theorem tryP_len (s : Bs) (n : Int) : (tryP s n).value.length ≤ s.length := Nat.le_trans (cutAt_len 32 (restOf s)).2 (restOf_len s)
/-! ### the reference's search -/
def smp (k : Int) : Bs := if k = 3 then [97] else [97, 47]
theorem checkN_smp {k t : Int} (hk : 1 ≤ k ∧ k ≤ 3) (ht : 0 ≤ t ∧ t < 16) : checkN ⟨k, t, smp k⟩ = 0 := by
  refine checkN_of hk ht ?_
  by_cases h : k = 3
  · rw [valueB_tag (p := ⟨k, t, smp k⟩) h]
    show goodB (smp k) = true
    unfold smp
    rw [if_pos h]
    decide
  · rw [valueB_some (p := ⟨k, t, smp k⟩) (a := ⟨[97], [47], [], false⟩) h (by show readL (smp k) = _; unfold smp; rw [if_neg h]; exact read_root)]
    simp
/-- No purge before kind k and tenant t has the text. -/
def NoneBefore (s : Bs) (k t : Int) : Prop := ∀ p, checkN p = 0 → fmtT p = s → k < p.kind ∨ (p.kind = k ∧ t ≤ p.tenant)
theorem noneBefore_start (s : Bs) : NoneBefore s 1 0 := fun p hc _ => by
  obtain ⟨hk, ht, _⟩ := checkN_ok hc
  omega
theorem noneBefore_kind {s : Bs} {k : Int} (h : NoneBefore s k 16) : NoneBefore s (k + 1) 0 := fun p hc hf => by
  obtain ⟨hk, ht, _⟩ := checkN_ok hc
  rcases h p hc hf with h | h <;> omega
theorem noneBefore_end {s : Bs} (h : NoneBefore s 4 0) : parseO s = none := parseIs_unique (parseO_is s) (r' := none) fun p hc hf => by
  obtain ⟨hk, ht, _⟩ := checkN_ok hc
  rcases h p hc hf with h | h <;> omega
theorem noneBefore_next {s : Bs} {k t : Int} (h : NoneBefore s k t) (hno : ¬ ∃ v, checkN ⟨k, t, v⟩ = 0 ∧ s = headT k t ++ v) : NoneBefore s k (t + 1) := fun p hc hf => by
  rcases h p hc hf with h | ⟨h1, h2⟩
  · exact .inl h
  · refine .inr ⟨h1, ?_⟩
    rcases Int.lt_or_eq_of_le h2 with h3 | h3
    · omega
    · exfalso
      refine hno ⟨p.value, ?_, ?_⟩
      · rw [← h1, h3]; exact hc
      · rw [← hf, ← fmtT_head, ← h1, h3]
theorem found {s : Bs} {k t : Int} {v : Bs} (hc : checkN ⟨k, t, v⟩ = 0) (h : s = headT k t ++ v) : parseO s = some ⟨k, t, v⟩ := parseIs_unique (parseO_is s) (r' := some ⟨k, t, v⟩) ⟨hc, by rw [fmtT_head, h]⟩
theorem checkN_nil (k t : Int) : ¬ checkN ⟨k, t, []⟩ = 0 := fun h => by
  obtain ⟨_, _, h3⟩ := checkN_ok h
  by_cases hk : k = 3
  · rw [valueB_tag (p := ⟨k, t, []⟩) hk] at h3
    exact absurd h3 (show ¬ goodB [] = true by decide)
  · rw [valueB_none (p := ⟨k, t, []⟩) hk (by rfl)] at h3
    cases h3
theorem headT_smp (k t : Int) : fmtT ⟨k, t, smp k⟩ = headT k t ++ smp k := fmtT_head k t _
theorem headT_len (k t : Int) : (headT k t).length ≤ 10 := by
  have h1 : (wordOf k).length ≤ 6 := by unfold wordOf; split <;> (try split) <;> simp
  have h2 : (decOf t).length ≤ 2 := by unfold decOf; split <;> simp
  simp [headT]; omega
end Go.Proofs.YtnppicekfjdefaaGreatDoor.Ad
end
