/- Plain Lean: what a gate keeps is the log's; nothing that arrived is lost while there is room. No condition. -/
import Derived.Test.YtnppicekfjdefaaDoorGateQ
namespace Go.Proofs.YtnppicekfjdefaaDoor.Ad
open Pl
namespace GateM
/-- What a gate with l aside holds is of the log `all`. -/
structure OfL (all : List Pg) (g : GateM) (l : List (Int × Pg)) : Prop where
  le : g.applied ≤ (all.length : Int)
  kept : g.kept = (all.drop g.floor.toNat).take g.kept.length
  far : ∀ e ∈ l, 1 ≤ e.1 ∧ e.1 ≤ (all.length : Int) ∧ all[(e.1 - 1).toNat]? = some e.2
theorem OfL.push {all : List Pg} {g : GateM} {l : List (Int × Pg)} (h : OfL all g l) (hl : (g.kept.length : Int) = g.applied - g.floor) (h0 : 0 ≤ g.floor) {p : Pg} (hp : all[g.applied.toNat]? = some p) : OfL all (g.push p) l := by
  obtain ⟨h1, h2, h3⟩ := h
  have hlt := (List.getElem?_eq_some_iff.1 hp).1
  have ha : (g.push p).applied = g.applied + 1 := (push_win g p).2.1
  have hk : g.kept ++ [p] = (all.drop g.floor.toNat).take (g.kept.length + 1) := by
    rw [List.take_add_one, ← h2, List.getElem?_drop, show g.floor.toNat + g.kept.length = g.applied.toNat by omega, hp]; rfl
  refine ⟨by rw [ha]; omega, ?_, h3⟩
  unfold GateM.push
  split
  · simp only
    rw [hk, List.drop_take, List.drop_drop, List.length_take, List.length_drop, show (g.floor + 1).toNat = g.floor.toNat + 1 by omega]
    congr 1
    omega
  · simp only
    rw [hk, List.length_take, List.length_drop, Nat.min_eq_left (by omega)]
theorem OfL.tail {all : List Pg} {g : GateM} {e : Int × Pg} {l : List (Int × Pg)} (h : OfL all g (e :: l)) : OfL all g l := ⟨h.le, h.kept, fun x hx => h.far x (List.mem_cons_of_mem _ hx)⟩
theorem push_len (g : GateM) (p : Pg) (hl : (g.kept.length : Int) = g.applied - g.floor) (h0 : 0 ≤ g.floor) : (((g.push p).kept.length : Int) = (g.push p).applied - (g.push p).floor) ∧ 0 ≤ (g.push p).floor := by
  refine ⟨(push_grow g p hl).2, Int.le_trans h0 (push_grow g p hl).1.fl⟩
theorem follow_of {all : List Pg} : ∀ (l : List (Int × Pg)) (g : GateM), OfL all g l → (g.kept.length : Int) = g.applied - g.floor → 0 ≤ g.floor → OfL all (g.follow l) (g.follow l).aside
  | [], g, h, _, _ => ⟨h.le, h.kept, fun e he => by cases he⟩
  | (n, p) :: r, g, h, hl, h0 => by
    unfold follow
    split
    · exact follow_of r g h.tail hl h0
    · split
      · rename_i h1 h2
        have hf := h.far (n, p) (by simp)
        have hp := push_len g p hl h0
        exact follow_of r (g.push p) (h.tail.push hl h0 (by have := hf.2.2; rwa [h2, show g.applied + 1 - 1 = g.applied by omega] at this)) hp.1 hp.2
      · exact ⟨h.le, h.kept, h.far⟩
theorem one_of {all : List Pg} {g : GateM} (h : OfL all g g.aside) (ho : g.Ok) {n : Int} {p : Pg} (h1 : 1 ≤ n) (hp : all[(n - 1).toNat]? = some p) : OfL all (g.one n p) (g.one n p).aside := by
  have hlt := (List.getElem?_eq_some_iff.1 hp).1
  unfold one
  split
  · exact h
  · split
    · rename_i h3 h4
      have hpl := push_len g p ho.len ho.lo
      exact follow_of _ _ (h.push ho.len ho.lo (by rwa [h4, show g.applied + 1 - 1 = g.applied by omega] at hp)) hpl.1 hpl.2
    · unfold put
      split
      · exact h
      · refine ⟨h.le, h.kept, fun e he => ?_⟩
        rcases mem_ins (List.mem_of_mem_take he) with rfl | he
        · exact ⟨h1, by simp only; omega, hp⟩
        · exact h.far e he
theorem apply_of {all : List Pg} : ∀ (l : List Pg) (g : GateM) (n : Int), OfL all g g.aside → g.Ok → (∀ p ∈ l, p.value.length ≤ 134217728) → 1 ≤ n → (∀ (i : Nat) (hi : i < l.length), all[(n - 1).toNat + i]? = some (l[i]'hi)) → OfL all (g.apply n l) (g.apply n l).aside
  | [], _, _, h, _, _, _, _ => h
  | p :: r, g, n, h, ho, hs, h1, hl => by
    unfold apply
    split
    · rename_i hc
      refine apply_of r _ _ (one_of h ho h1 (by have := hl 0 (by simp); simpa using this)) (ok_one ho (hs p (by simp)) hc.2) (fun q hq => hs q (by simp [hq])) (by omega) fun i hi => ?_
      have := hl (i + 1) (by simp; omega)
      rw [show (n + 1 - 1).toNat + i = (n - 1).toNat + (i + 1) by omega, this]
      simp
    · exact h
theorem jump_of {all : List Pg} {g : GateM} (h : OfL all g g.aside) {n : Int} (h0 : 0 ≤ n) (hn : n ≤ (all.length : Int)) : OfL all (g.jump n) (g.jump n).aside := by
  unfold jump
  split
  · exact h
  · exact follow_of _ _ ⟨hn, by simp, h.far⟩ (by simp) h0
theorem start_of (all : List Pg) (n : Nat) : OfL all (start n) (start n).aside := ⟨by simp [start], by simp [start], fun e he => by cases he⟩
theorem kept_at {all : List Pg} {g : GateM} (h : OfL all g g.aside) {k : Nat} {p : Pg} (h1 : g.floor ≤ (k : Int)) (h0 : 0 ≤ g.floor) (h2 : (k : Int) < g.floor + g.kept.length) (hp : all[k]? = some p) : g.kept[(k - g.floor.toNat)]? = some p := by
  rw [h.kept, List.getElem?_take, if_pos (by omega), List.getElem?_drop, show g.floor.toNat + (k - g.floor.toNat) = k by omega, hp]
/-- What is accepted is matched by nothing above its as-of. -/
theorem accept_safe {all : List Pg} {g : GateM} (h : OfL all g g.aside) (ho : g.Ok) {x : It} {n : Int} (hc : g.acceptC x n = 0) {k : Nat} {p : Pg} (hk1 : n ≤ (k : Int)) (hk2 : (k : Int) < g.applied) (hp : all[k]? = some p) : matchB p x = false := by
  unfold acceptC at hc
  have hlen := ho.len
  have h0 := ho.lo
  by_cases h1 : n < 0 ∨ g.applied < n
  · rw [if_pos h1] at hc; cases hc
  rw [if_neg h1] at hc
  by_cases h2 : n < g.floor
  · rw [if_pos h2] at hc; cases hc
  rw [if_neg h2] at hc
  have hq := kept_at h (k := k) (by omega) h0 (by omega) hp
  cases hm : matchB p x with
  | false => rfl
  | true =>
    rw [if_pos] at hc
    · cases hc
    · refine List.any_eq_true.2 ⟨p, ?_, hm⟩
      refine List.mem_iff_getElem?.2 ⟨k - g.floor.toNat - (n - g.floor).toNat, ?_⟩
      rw [List.getElem?_drop, show (n - g.floor).toNat + (k - g.floor.toNat - (n - g.floor).toNat) = k - g.floor.toNat by omega, hq]

/-- Number i has arrived. -/
def In (g : GateM) (l : List (Int × Pg)) (i : Int) : Prop := i ≤ g.applied ∨ ∃ e ∈ l, e.1 = i
theorem in_cons {g : GateM} {n i : Int} {p : Pg} {r : List (Int × Pg)} : In g ((n, p) :: r) i ↔ In g r i ∨ i = n := by
  unfold In
  constructor
  · rintro (h | ⟨e, he, rfl⟩)
    · exact .inl (.inl h)
    · rcases List.mem_cons.1 he with rfl | he
      · exact .inr rfl
      · exact .inl (.inr ⟨e, he, rfl⟩)
  · rintro ((h | ⟨e, he, rfl⟩) | rfl)
    · exact .inl h
    · exact .inr ⟨e, List.mem_cons_of_mem _ he, rfl⟩
    · exact .inr ⟨_, List.mem_cons_self .., rfl⟩
theorem in_push {g : GateM} {i : Int} {p : Pg} {r : List (Int × Pg)} : In (g.push p) r i ↔ In g r i ∨ i = g.applied + 1 := by
  unfold In
  rw [(push_win g p).2.1]
  constructor
  · rintro (h | h)
    · by_cases h2 : i ≤ g.applied
      · exact .inl (.inl h2)
      · exact .inr (by omega)
    · exact .inl (.inr h)
  · rintro ((h | h) | h)
    · exact .inl (by omega)
    · exact .inr h
    · exact .inl (by omega)
theorem in_follow {i : Int} : ∀ (l : List (Int × Pg)) (g : GateM), In (g.follow l) (g.follow l).aside i ↔ In g l i
  | [], g => Iff.rfl
  | (n, p) :: r, g => by
    unfold follow
    split
    · rename_i h1
      rw [in_follow r g, in_cons]
      constructor
      · exact .inl
      · rintro (h | rfl)
        · exact h
        · exact .inl h1
    · split
      · rename_i h1 h2
        rw [in_follow r, in_push, in_cons, h2]
      · exact Iff.rfl
/-- There is room: the window is greater than the log. -/
structure Room (all : List Pg) (g : GateM) : Prop where
  of : OfL all g g.aside
  ok : g.Ok
  floor : g.floor = 0
  room : all.length < g.win
theorem push_room {g : GateM} {p : Pg} (h : ¬ g.win < g.kept.length + 1) : (g.push p).floor = g.floor ∧ (g.push p).win = g.win := by
  unfold push
  rw [if_neg h]
  exact ⟨rfl, rfl⟩
theorem follow_room {all : List Pg} : ∀ (l : List (Int × Pg)) (g : GateM), OfL all g l → (g.kept.length : Int) = g.applied - g.floor → g.floor = 0 → all.length < g.win → (g.follow l).floor = 0 ∧ (g.follow l).win = g.win
  | [], g, _, _, h0, _ => ⟨h0, rfl⟩
  | (n, p) :: r, g, h, hl, h0, hw => by
    unfold follow
    split
    · exact follow_room r g h.tail hl h0 hw
    · split
      · rename_i h1 h2
        have hf := h.far (n, p) (by simp)
        have hle := h.le
        have hr := push_room (g := g) (p := p) (by omega)
        have hn := hf.2.1
        simp only at hn
        have ho := h.tail.push hl (by omega) (p := p) (by have := hf.2.2; rwa [h2, show g.applied + 1 - 1 = g.applied by omega] at this)
        have := follow_room r (g.push p) ho (push_len g p hl (by omega)).1 (hr.1.trans h0) (by rw [hr.2]; exact hw)
        exact ⟨this.1, this.2.trans hr.2⟩
      · exact ⟨h0, rfl⟩
theorem asc_length : ∀ (l : List (Int × Pg)) (a : Int) (m : Nat), Asc l → (∀ e ∈ l, a ≤ e.1 ∧ e.1 < a + m) → l.length ≤ m
  | [], _, _, _, _ => by simp
  | (n, p) :: r, a, m, h, hb => by
    have hc := List.pairwise_cons.1 h
    have h1 := hb (n, p) (by simp)
    simp only at h1
    have := asc_length r (n + 1) (a + m - (n + 1)).toNat hc.2 fun e he => by
      have h2 := hc.1 e he
      have h3 := hb e (List.mem_cons_of_mem _ he)
      simp only at h2
      omega
    simp only [List.length_cons]; omega
theorem mem_ins_iff {n : Int} {p : Pg} {e : Int × Pg} : ∀ {l : List (Int × Pg)}, e ∈ ins n p l ↔ e = (n, p) ∨ e ∈ l
  | [] => by simp [ins]
  | (k, q) :: r => by
    unfold ins
    split
    · rw [List.mem_cons, mem_ins_iff (l := r), List.mem_cons]
      constructor
      · rintro (h | h | h)
        · exact .inr (.inl h)
        · exact .inl h
        · exact .inr (.inr h)
      · rintro (h | h | h)
        · exact .inr (.inl h)
        · exact .inl h
        · exact .inr (.inr h)
    · rw [List.mem_cons]
theorem one_room {all : List Pg} {g : GateM} (h : Room all g) {n : Int} {p : Pg} (h1 : 1 ≤ n) (hp : all[(n - 1).toNat]? = some p) (hs : p.value.length ≤ 134217728) (hn : n ≤ 1099511627776) : Room all (g.one n p) ∧ ∀ i, In (g.one n p) (g.one n p).aside i ↔ In g g.aside i ∨ i = n := by
  have hlt := (List.getElem?_eq_some_iff.1 hp).1
  have hof := one_of h.of h.ok h1 hp
  have hok := ok_one h.ok hs hn
  have hlen := h.ok.len
  have hf := h.floor
  have hr := h.room
  have hle := h.of.le
  unfold one at hof hok ⊢
  split at hof
  · rename_i h3
    rw [if_pos h3] at hok ⊢
    refine ⟨h, fun i => ⟨.inl, ?_⟩⟩
    rintro (h4 | rfl)
    · exact h4
    · exact .inl h3
  · rename_i h3
    rw [if_neg h3] at hok ⊢
    split at hof
    · rename_i h4
      rw [if_pos h4] at hok ⊢
      have hpr := push_room (g := g) (p := p) (by omega)
      have hpo := h.of.push hlen (by omega) (p := p) (by rwa [h4, show g.applied + 1 - 1 = g.applied by omega] at hp)
      have hfr := follow_room g.aside (g.push p) hpo (push_len g p hlen (by omega)).1 (hpr.1.trans hf) (by rw [hpr.2]; exact hr)
      refine ⟨⟨hof, hok, hfr.1, by show _ < (GateM.follow _ _).win; rw [hfr.2, hpr.2]; exact hr⟩, fun i => ?_⟩
      show In (GateM.follow _ _) (GateM.follow _ _).aside i ↔ _
      rw [in_follow, in_push, h4]
    · rename_i h4
      rw [if_neg h4] at hok ⊢
      unfold put at hof hok ⊢
      split at hof
      · rename_i h5
        rw [if_pos h5] at hok ⊢
        refine ⟨h, fun i => ⟨.inl, ?_⟩⟩
        rintro (h6 | rfl)
        · exact h6
        · obtain ⟨e, he, h7⟩ := List.any_eq_true.1 h5
          exact .inr ⟨e, he, by simpa using h7⟩
      · rename_i h5
        rw [if_neg h5] at hok ⊢
        refine ⟨⟨hof, hok, hf, hr⟩, fun i => ?_⟩
        have hal : (ins n p g.aside).length ≤ g.win := by
          refine Nat.le_trans (asc_length _ 1 all.length (asc_ins h.ok.asc (by simpa using h5)) fun e he => ?_) (by omega)
          rcases mem_ins he with rfl | he
          · simp only; omega
          · have := h.of.far e he; omega
        have e : (withA g ((ins n p g.aside).take g.win)).aside = ins n p g.aside := List.take_of_length_le hal
        rw [e]
        unfold In
        show (i ≤ g.applied ∨ _) ↔ _
        constructor
        · rintro (h6 | ⟨e, he, rfl⟩)
          · exact .inl (.inl h6)
          · rcases mem_ins he with rfl | he
            · exact .inr rfl
            · exact .inl (.inr ⟨e, he, rfl⟩)
        · rintro ((h6 | ⟨e, he, rfl⟩) | rfl)
          · exact .inl h6
          · exact .inr ⟨e, mem_ins_iff.2 (.inr he), rfl⟩
          · exact .inr ⟨_, mem_ins_iff.2 (.inl rfl), rfl⟩
theorem apply_room {all : List Pg} : ∀ (l : List Pg) (g : GateM) (n : Int), Room all g → (∀ p ∈ l, p.value.length ≤ 134217728 ∧ checkN p = 0) → 1 ≤ n → (∀ (i : Nat) (hi : i < l.length), all[(n - 1).toNat + i]? = some (l[i]'hi)) → n + l.length ≤ 1099511627776 →
    Room all (g.apply n l) ∧ ∀ i, In (g.apply n l) (g.apply n l).aside i ↔ In g g.aside i ∨ (n ≤ i ∧ i < n + l.length)
  | [], g, n, h, _, _, _, _ => ⟨h, fun i => ⟨.inl, by
      rintro (h1 | h1)
      · exact h1
      · simp at h1; omega⟩⟩
  | p :: r, g, n, h, hs, h1, hl, hn => by
    simp only [List.length_cons] at hn
    unfold apply
    rw [if_pos ⟨(hs p (by simp)).2, by omega⟩]
    obtain ⟨hr, hi⟩ := one_room h h1 (by have := hl 0 (by simp); simpa using this) (hs p (by simp)).1 (by omega)
    obtain ⟨hr2, hi2⟩ := apply_room r _ (n + 1) hr (fun q hq => hs q (by simp [hq])) (by omega) (fun i hi => by
      have := hl (i + 1) (by simp; omega)
      rw [show (n + 1 - 1).toNat + i = (n - 1).toNat + (i + 1) by omega, this]
      simp) (by omega)
    refine ⟨hr2, fun i => ?_⟩
    rw [hi2, hi]
    simp only [List.length_cons]
    constructor
    · rintro ((h2 | h2) | h2)
      · exact .inl h2
      · exact .inr (by omega)
      · exact .inr (by omega)
    · rintro (h2 | h2)
      · exact .inl (.inl h2)
      · by_cases h3 : i = n
        · exact .inl (.inr h3)
        · exact .inr (by omega)
theorem start_room {all : List Pg} {n : Nat} (h1 : all.length < n) (h2 : n ≤ 1024) : Room all (start n) ∧ ∀ i : Int, 1 ≤ i → ¬ In (start n) (start n).aside i := by
  refine ⟨⟨start_of all n, ok_start (by omega) h2, rfl, h1⟩, fun i hi h => ?_⟩
  rcases h with h | ⟨e, he, _⟩
  · simp [start] at h; omega
  · cases he
/-- The number up to which all have arrived is Applied. -/
theorem not_next {g : GateM} (ho : g.Ok) : ¬ In g g.aside (g.applied + 1) := by
  rintro (h | ⟨e, he, h⟩)
  · omega
  · have := (ho.far e he).1; omega
theorem room_kept {all : List Pg} {g : GateM} (h : Room all g) : g.kept = all.take g.applied.toNat := by
  have h1 := h.of.kept
  have h2 := h.ok.len
  rw [h.floor] at h1 h2
  rw [show g.applied.toNat = g.kept.length by omega]
  simpa using h1
end GateM
end Go.Proofs.YtnppicekfjdefaaDoor.Ad
