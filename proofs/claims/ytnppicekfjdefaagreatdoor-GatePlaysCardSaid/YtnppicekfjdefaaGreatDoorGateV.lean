/- Contracts: the reference's gate: keep, follow. Conditions: entries settled or near (numbers up to 2^40, a window up to 1024). -/
import Derived.Test.YtnppicekfjdefaaGreatDoorGateP
import Derived.Test.YtnppicekfjdefaaGreatDoorPlogV
import Derived.Test.YtnppicekfjdefaaGreatDoorPurgU
import Derived.Test.YtnppicekfjdefaaGreatDoorOpenG
import Derived.Deep.RegionHeld3
import Derived.Deep.RegionLaw
import Derived.Deep.DeepCutAuto
namespace Go.Proofs.YtnppicekfjdefaaGreatDoor
open Go.RowKit Pl Ad
attribute [local go_sem] ba_get ba_append ba_extract_end ba_extract_zero ba_extract
set_option maxRecDepth 100000
set_option maxHeartbeats 4000000
set_option linter.unusedVariables false
set_option linter.unusedSimpArgs false
namespace Ad
def ecells (e : Int × Pg) : List Value := [.int .i64 e.1, .int .i64 e.2.kind, .int .i64 e.2.tenant, .string ⟨e.2.value.toArray⟩]
theorem flat_get {α : Type} {F : α → List Value} {k : Nat} (hF : ∀ x, (F x).length = k) (hk : 0 < k) : ∀ (xs : List α) (j : Nat), (xs.flatMap F)[j]? = (xs[j / k]?).bind fun x => (F x)[j % k]?
  | [], j => by simp
  | x :: r, j => by
    rw [List.flatMap_cons]
    by_cases h : j < k
    · rw [List.getElem?_append_left (by rw [hF]; exact h), Nat.div_eq_of_lt h, Nat.mod_eq_of_lt h]; rfl
    · obtain ⟨m, rfl⟩ : ∃ m, j = m + k := ⟨j - k, by omega⟩
      rw [List.getElem?_append_right (by rw [hF]; omega), hF, Nat.add_sub_cancel, flat_get hF hk r m, Nat.add_div_right m hk, Nat.add_mod_right]
      rfl
theorem flat_at {α : Type} {F : α → List Value} {k : Nat} (hF : ∀ x, (F x).length = k) {xs : List α} {i j : Nat} {x : α} {u : Value} (hx : xs[i]? = some x) (hu : (F x)[j]? = some u) : (xs.flatMap F)[i * k + j]? = some u := by
  have hj : j < k := by rw [← hF x]; exact (List.getElem?_eq_some_iff.1 hu).1
  rw [flat_get hF (by omega), show i * k + j = j + k * i by rw [Nat.mul_comm]; omega, Nat.add_mul_div_left _ _ (by omega), Nat.div_eq_of_lt hj, Nat.add_mul_mod_self_left, Nat.mod_eq_of_lt hj, Nat.zero_add, hx]
  exact hu
theorem flat_len {α : Type} {F : α → List Value} {k : Nat} (hF : ∀ x, (F x).length = k) : ∀ xs : List α, (xs.flatMap F).length = xs.length * k
  | [] => by simp
  | x :: r => by rw [List.flatMap_cons, List.length_append, hF, flat_len hF r, List.length_cons, Nat.add_mul]; omega
theorem pvals_flat : ∀ l : List Pg, pvals l = l.flatMap pcells
  | [] => rfl
  | p :: r => by rw [List.flatMap_cons, pvals, pvals_flat r]
theorem pcells_len (p : Pg) : (pcells p).length = 3 := rfl
theorem ecells_len (e : Int × Pg) : (ecells e).length = 4 := rfl
end Ad
namespace A1
section
variable {α : Type} {F : α → List Value} {k : Nat} {w w' : World} {v : Value} {xs : List α}
theorem RowsV.src (h : RowsV F k w v xs) (hF : ∀ x, (F x).length = k) (hk : 0 < k) : SrcAt w v xs.length (xs.flatMap F) := by
  rcases h with ⟨rfl, h1 | ⟨a, c, h1⟩⟩ | ⟨b, o, c, h1, _, _, h4⟩
  · exact .inl ⟨h1, rfl, rfl⟩
  · exact .inr ⟨a, c, h1, fun j x hx => by simp at hx⟩
  · refine .inr ⟨⟨b, o, none⟩, c, h1, fun j u hu => ?_⟩
    rw [flat_get hF hk] at hu
    obtain ⟨x, hx, hxu⟩ := Option.bind_eq_some_iff.1 hu
    have := h4 _ x hx _ u hxu
    rw [Nat.div_add_mod'] at this
    rw [Addr.add_lit]
    exact this
theorem RowsV.srcP {w : World} {v : Value} {l : List Pg} (h : RowsV pcells 3 w v l) : SrcAt w v l.length (pvals l) := by
  rw [pvals_flat]; exact h.src pcells_len (by decide)
theorem RowsV.srcE {w : World} {v : Value} {l : List (Int × Pg)} (h : RowsV ecells 4 w v l) : SrcAt w v l.length (l.flatMap ecells) := h.src ecells_len (by decide)
theorem rows_ownF {B : Nat} {e : TypeId} (h : OwnWin w B e k v xs.length (xs.flatMap F)) (hF : ∀ x, (F x).length = k) : RowsV F k w v xs := by
  rcases Nat.eq_zero_or_pos xs.length with h0 | h0
  · obtain rfl := List.eq_nil_of_length_eq_zero h0
    rcases h.2 with ⟨h1, _⟩ | ⟨g, o, cap, cur, h1, _⟩
    · exact .inl ⟨rfl, .inl h1⟩
    · exact .inl ⟨rfl, .inr ⟨_, _, h1⟩⟩
  · obtain ⟨g, o, c, e1, h1, _, _, h2, h3⟩ := h.cells h0
    exact .inr ⟨g, o, c, e1, h1, h2, fun i x hx j u hu => h3 _ u (flat_at hF hx hu)⟩
/-- All but the first row. -/
theorem RowsV.tail {b o n c : Nat} {x : α} {xs : List α} (h : RowsV F k w (.slice (some ⟨b, o, none⟩) n c) (x :: xs)) : RowsV F k w (.slice (some ⟨b, o + k, none⟩) xs.length (c - 1)) xs := by
  rcases h with ⟨h1, _⟩ | ⟨b', o', c', e, h2, h3, h4⟩
  · cases h1
  · cases e
    simp only [List.length_cons] at h2
    refine .inr ⟨b, o + k, c - 1, rfl, by omega, h3, fun i y hy j u hu => ?_⟩
    have := h4 (i + 1) y (by simpa using hy) j u hu
    rw [show o + k + (i * k + j) = o + ((i + 1) * k + j) by rw [Nat.add_mul]; omega]
    exact this
theorem RowsV.empty (w : World) (F : α → List Value) (k : Nat) (a : Addr) (c : Nat) : RowsV F k w (.slice (some a) 0 c) [] := .inl ⟨rfl, .inr ⟨_, _, rfl⟩⟩
end
/-- The variable of a reference's gate. -/
def VBox (w : World) (R : Nat) (a b c d e : Value) : Prop := w.heap[R]? = some (.cells #[a, b, c, d, e] 34 (0, 0))
section
variable {w w' : World} {R : Nat} {a b c d e : Value}
theorem VBox.facts (h : VBox w R a b c d e) :
    (w.cell? ⟨R, 0, none⟩ = some a ∧ w.cell? ⟨R, 1, none⟩ = some b ∧ w.cell? ⟨R, 2, none⟩ = some c ∧ w.cell? ⟨R, 3, none⟩ = some d ∧ w.cell? ⟨R, 4, none⟩ = some e) ∧
    (w.frozen? ⟨R, 0, none⟩ = false ∧ w.frozen? ⟨R, 1, none⟩ = false ∧ w.frozen? ⟨R, 2, none⟩ = false ∧ w.frozen? ⟨R, 3, none⟩ = false ∧ w.frozen? ⟨R, 4, none⟩ = false) ∧ R < w.heap.size :=
  ⟨⟨by rw [cell_of_row w R 0 _ _ _ h]; rfl, by rw [cell_of_row w R 1 _ _ _ h]; rfl, by rw [cell_of_row w R 2 _ _ _ h]; rfl, by rw [cell_of_row w R 3 _ _ _ h]; rfl, by rw [cell_of_row w R 4 _ _ _ h]; rfl⟩,
    ⟨frozen_of_row w R 0 _ _ h, frozen_of_row w R 1 _ _ h, frozen_of_row w R 2 _ _ h, frozen_of_row w R 3 _ _ h, frozen_of_row w R 4 _ _ h⟩, (Array.getElem?_eq_some_iff.1 h).1⟩
theorem VBox.older (h : VBox w R a b c d e) (hb : Below w.heap.size w w') : VBox w' R a b c d e := (hb.block R h.facts.2.2).trans h
theorem VBox.drew (h : VBox w R a b c d e) : VBox w.drew R a b c d e := h
theorem VBox.other (h : VBox w R a b c d e) {q : Nat} (hne : ¬ R = q) (i : Nat) (u : Value) : VBox (w.setCell ⟨q, i, none⟩ u) R a b c d e := ((touch_set1 w q i u).block R h.facts.2.2 hne).trans h
theorem vbox_new (w : World) (a b c d e : Value) : VBox (w.alloc (.cells #[a, b, c, d, e] 34)) w.heap.size a b c d e := heap_alloc_new w _
theorem VBox.set {i : Nat} (h : VBox w R a b c d e) (u : Value) : (w.setCell ⟨R, i, none⟩ u).heap[R]? = some (.cells (#[a, b, c, d, e].setIfInBounds i u) 34 (0, 0)) := by
  unfold VBox at h
  unfold World.setCell
  simp only [Array.getElem?_modify, if_true, h, Option.map_some]
  rfl
theorem VBox.set0 (h : VBox w R a b c d e) (u : Value) : VBox (w.setCell ⟨R, 0, none⟩ u) R u b c d e := h.set (i := 0) u
theorem VBox.set1 (h : VBox w R a b c d e) (u : Value) : VBox (w.setCell ⟨R, 1, none⟩ u) R a u c d e := h.set (i := 1) u
theorem VBox.set2 (h : VBox w R a b c d e) (u : Value) : VBox (w.setCell ⟨R, 2, none⟩ u) R a b u d e := h.set (i := 2) u
theorem VBox.set3 (h : VBox w R a b c d e) (u : Value) : VBox (w.setCell ⟨R, 3, none⟩ u) R a b c u e := h.set (i := 3) u
theorem VBox.set4 (h : VBox w R a b c d e) (u : Value) : VBox (w.setCell ⟨R, 4, none⟩ u) R a b c d u := h.set (i := 4) u
theorem VBox.own_ne {B n size t : Nat} {u : Value} {xs : List Value} (h : VBox w R a b c d e) (ho : OwnWin w B t size u n xs) (hne : t ≠ 34) : ∀ q, u.ownBlock = some q → ¬ q = R := fun q hq e => by
  subst e
  rcases ho.2 with ⟨rfl, _⟩ | ⟨g, o, cap, cur, rfl, _, hg, _⟩
  · cases hq
  · simp [Value.ownBlock] at hq
    subst hq
    have := Option.some.inj (h.symm.trans hg)
    injection this with _ e2
    exact absurd e2.symm hne
end
/-- A reference's gate as a value. -/
@[reducible] def rgV (g : GateM) (ku au : Value) : Value := .agg #[.int .i64 g.applied, .int .i64 g.floor, .int .i64 g.win, ku, au]
/-- The type of a slice's block. -/
def TypedV (w : World) (e : TypeId) (v : Value) : Prop := ∀ q, v.ownBlock = some q → ∃ cs fr, w.heap[q]? = some (.cells cs e fr)
theorem TypedV.none (w : World) (e : TypeId) : TypedV w e (.slice none 0 0) := fun q hq => by cases hq
theorem TypedV.own {w : World} {B e size n : Nat} {v : Value} {xs : List Value} (h : OwnWin w B e size v n xs) : TypedV w e v := fun q hq => by
  rcases h.2 with ⟨rfl, _⟩ | ⟨g, o, cap, cur, rfl, _, hg, _⟩
  · cases hq
  · simp [Value.ownBlock] at hq
    subst hq
    exact ⟨_, _, hg⟩
theorem TypedV.below {w w' : World} {e : TypeId} {v : Value} (h : TypedV w e v) (hb : Below w.heap.size w w') : TypedV w' e v := fun q hq => by
  obtain ⟨cs, fr, hg⟩ := h q hq
  exact ⟨cs, fr, (hb.block q (Array.getElem?_eq_some_iff.1 hg).1).trans hg⟩
theorem TypedV.same {w : World} {e : TypeId} {v u : Value} (h : TypedV w e v) (hu : ∀ q, u.ownBlock = some q → v.ownBlock = some q) : TypedV w e u := fun q hq => h q (hu q hq)
theorem TypedV.ne {w : World} {R : Nat} {a b c d e v : Value} {t : TypeId} (h : TypedV w t v) (hb : VBox w R a b c d e) (ht : t ≠ 34) : ∀ q, v.ownBlock = some q → ¬ q = R := fun q hq e => by
  subst e
  obtain ⟨cs, fr, hg⟩ := h q hq
  have := Option.some.inj (hb.symm.trans hg)
  injection this with _ e2
  exact ht e2.symm
/-- Its lists. -/
structure RefS (w : World) (g : GateM) (l : List (Int × Pg)) (ku au : Value) : Prop where
  kept : RowsV pcells 3 w ku g.kept
  aside : RowsV ecells 4 w au l
  tk : TypedV w 82 ku
  ta : TypedV w 91 au
theorem RefS.below {w w' : World} {g : GateM} {l : List (Int × Pg)} {ku au : Value} (h : RefS w g l ku au) (hb : Below w.heap.size w w') : RefS w' g l ku au := ⟨h.kept.below hb, h.aside.below hb, h.tk.below hb, h.ta.below hb⟩
theorem RefS.set {w : World} {R : Nat} {a b c d e : Value} {g : GateM} {l : List (Int × Pg)} {ku au : Value} (h : RefS w g l ku au) (hb : VBox w R a b c d e) (i : Nat) (x : Value) : RefS (w.setCell ⟨R, i, none⟩ x) g l ku au := by
  have ht := touch_set1 w R i x
  have h1 := h.tk.ne hb (by decide)
  have h2 := h.ta.ne hb (by decide)
  refine ⟨h.kept.touch ht h1, h.aside.touch ht h2, fun q hq => ?_, fun q hq => ?_⟩
  · obtain ⟨cs, fr, hg⟩ := h.tk q hq
    exact ⟨cs, fr, (ht.block q (Array.getElem?_eq_some_iff.1 hg).1 (h1 q hq)).trans hg⟩
  · obtain ⟨cs, fr, hg⟩ := h.ta q hq
    exact ⟨cs, fr, (ht.block q (Array.getElem?_eq_some_iff.1 hg).1 (h2 q hq)).trans hg⟩
/-- A whole gate is stored. -/
theorem RefS.store {w : World} {R : Nat} {a b c d e : Value} {g : GateM} {l : List (Int × Pg)} {ku au : Value} (h : RefS w g l ku au) (hb : VBox w R a b c d e) (x0 x1 x2 x3 x4 : Value) :
    RefS (((((w.setCell ⟨R, 0, none⟩ x0).setCell ⟨R, 1, none⟩ x1).setCell ⟨R, 2, none⟩ x2).setCell ⟨R, 3, none⟩ x3).setCell ⟨R, 4, none⟩ x4) g l ku au :=
  ((((h.set hb 0 x0).set (hb.set0 x0) 1 x1).set ((hb.set0 x0).set1 x1) 2 x2).set (((hb.set0 x0).set1 x1).set2 x2) 3 x3).set ((((hb.set0 x0).set1 x1).set2 x2).set3 x3) 4 x4
theorem VBox.store {w : World} {R : Nat} {a b c d e : Value} (hb : VBox w R a b c d e) (x0 x1 x2 x3 x4 : Value) :
    VBox (((((w.setCell ⟨R, 0, none⟩ x0).setCell ⟨R, 1, none⟩ x1).setCell ⟨R, 2, none⟩ x2).setCell ⟨R, 3, none⟩ x3).setCell ⟨R, 4, none⟩ x4) R x0 x1 x2 x3 x4 := ((((hb.set0 x0).set1 x1).set2 x2).set3 x3).set4 x4
theorem below_store {B R : Nat} {w w' : World} (h : Below B w w') (hR : B ≤ R) (x0 x1 x2 x3 x4 : Value) :
    Below B w (((((w'.setCell ⟨R, 0, none⟩ x0).setCell ⟨R, 1, none⟩ x1).setCell ⟨R, 2, none⟩ x2).setCell ⟨R, 3, none⟩ x3).setCell ⟨R, 4, none⟩ x4) :=
  ((((h.setCell (p := ⟨R, 0, none⟩) hR _).setCell (p := ⟨R, 1, none⟩) hR _).setCell (p := ⟨R, 2, none⟩) hR _).setCell (p := ⟨R, 3, none⟩) hR _).setCell (p := ⟨R, 4, none⟩) hR _
@[reducible] def zG : Value := .agg #[.int .i64 0, .int .i64 0, .int .i64 0, .slice none 0 0, .slice none 0 0]
theorem tyREs : SliceTy Tryz.prog 32 91 4 40 :=
  ⟨Tryz.underlying32, by
    obtain ⟨i, h1, h2, h3, h4⟩ := info_parts (show (Tryz.prog.info? 91).map (fun i => (i.zero, i.size, i.bytes)) = some (some (.agg #[.int .i64 0, .int .i64 0, .int .i64 0, .string ⟨#[]⟩]), 4, 40) by kernel_rfl)
    exact ⟨i, _, h1, h2, h3, h4, rfl⟩, by decide, by decide⟩
/-- follow does what the model's does, at lists of at most n entries aside. -/
def FollowOk (n : Nat) : Prop := ∀ (g : GateM) (l : List (Int × Pg)) (ku au : Value) (w : World), l.length ≤ n → GateM.Near g l → RefS w g l ku au →
  Calls Tryz.prog 38 #[rgV g ku au] w fun e w' => ∃ ku' au', e = .returned (rgV (g.follow l) ku' au') ∧ RefS w' (g.follow l) (g.follow l).aside ku' au' ∧ Below w.heap.size w w'
/-- The blocks that keep makes at its head. -/
@[reducible] def kpW (w : World) (g : GateM) (ku au : Value) (k t : Int) (s : Bs) : World := ((w.alloc (.cells #[.int .i64 g.applied, .int .i64 g.floor, .int .i64 g.win, ku, au] 34)).alloc (.cells #[.int .i64 k, .int .i64 t, .string ⟨s.toArray⟩] 82)).alloc (.cells #[.int .i64 0, .int .i64 0, .int .i64 0, .slice none 0 0, .slice none 0 0] 34)
structure KpR (w w' : World) (g : GateM) (ku au : Value) (k t : Int) (s : Bs) : Prop where
  bel : Below w.heap.size w w'
  l : VBox w' w.heap.size (.int .i64 g.applied) (.int .i64 g.floor) (.int .i64 g.win) ku au
  p : Box3 w' (w.heap.size + 1) 82 (.int .i64 k) (.int .i64 t) (.string ⟨s.toArray⟩)
  z : VBox w' (w.heap.size + 1 + 1) (.int .i64 0) (.int .i64 0) (.int .i64 0) (.slice none 0 0) (.slice none 0 0)
theorem kpR_new (w : World) (g : GateM) (ku au : Value) (k t : Int) (s : Bs) : KpR w (kpW w g ku au k t s) g ku au k t s := by
  have h1 := (Below.refl (w.alloc (.cells #[.int .i64 g.applied, .int .i64 g.floor, .int .i64 g.win, ku, au] 34)).heap.size (w.alloc (.cells #[.int .i64 g.applied, .int .i64 g.floor, .int .i64 g.win, ku, au] 34))).alloc (Nat.le_refl _) (.cells #[.int .i64 k, .int .i64 t, .string ⟨s.toArray⟩] 82)
  refine ⟨(((Below.refl _ _).alloc (Nat.le_refl _) _).alloc (by simp) _).alloc (by simp; omega) _, ((vbox_new w _ _ _ _ _).older (h1.alloc (by simp) _)), ?_, ?_⟩
  · have h := (box3_new (w.alloc (.cells #[.int .i64 g.applied, .int .i64 g.floor, .int .i64 g.win, ku, au] 34)) 82 (.int .i64 k) (.int .i64 t) (.string ⟨s.toArray⟩)).alloc (.cells #[.int .i64 0, .int .i64 0, .int .i64 0, .slice none 0 0, .slice none 0 0] 34)
    simpa using h
  · have h := vbox_new ((w.alloc (.cells #[.int .i64 g.applied, .int .i64 g.floor, .int .i64 g.win, ku, au] 34)).alloc (.cells #[.int .i64 k, .int .i64 t, .string ⟨s.toArray⟩] 82)) (.int .i64 0) (.int .i64 0) (.int .i64 0) (.slice none 0 0) (.slice none 0 0)
    simpa using h
theorem KpR.older {w w1 w2 : World} {g : GateM} {ku au : Value} {k t : Int} {s : Bs} (h : KpR w w1 g ku au k t s) (hb : Below w1.heap.size w1 w2) : KpR w w2 g ku au k t s := ⟨h.bel.trans (hb.mono h.bel.size), h.l.older hb, h.p.older hb, h.z.older hb⟩
/-- What the statement that appends leaves. -/
def KpEnd (w wx : World) (g : GateM) (au : Value) (k t s : Value) : Prop :=
  ∃ a3 q3, OwnWin wx w.heap.size 82 3 (.slice a3 (g.kept.length + 1) q3) (g.kept.length + 1) (pvals g.kept ++ [k, t, s]) ∧ VBox wx w.heap.size (.int .i64 g.applied) (.int .i64 g.floor) (.int .i64 g.win) (.slice a3 (g.kept.length + 1) q3) au ∧
    VBox wx (w.heap.size + 1 + 1) (.int .i64 0) (.int .i64 0) (.int .i64 0) (.slice none 0 0) (.slice none 0 0) ∧ Below w.heap.size w wx
attribute [local go_sem] rgV
theorem FollowOk.at {n : Nat} (hf : FollowOk n) {g : GateM} {l : List (Int × Pg)} {ku au : Value} {w : World} {ap fl wn : Int} (e1 : g.applied = ap) (e2 : g.floor = fl) (e3 : (g.win : Int) = wn) (hl : l.length ≤ n) (hn : GateM.Near g l) (hs : RefS w g l ku au) :
    Calls Tryz.prog 38 #[.agg #[.int .i64 ap, .int .i64 fl, .int .i64 wn, ku, au]] w fun e w' => ∃ ku' au', e = .returned (rgV (g.follow l) ku' au') ∧ RefS w' (g.follow l) (g.follow l).aside ku' au' ∧ Below w.heap.size w w' := by
  subst e1 e2 e3
  exact hf g l ku au w hl hn hs
theorem own_pushed {w : World} {B : Nat} {e : TypeId} {b o c : Nat} {l : List Pg} {k t : Int} {s : Bs} (h : OwnWin w B e 3 (.slice (some ⟨b, o, none⟩) (l.length + 1) c) (l.length + 1) (pvals l ++ [.int .i64 k, .int .i64 t, .string ⟨s.toArray⟩])) : OwnWin w B e 3 (.slice (some ⟨b, o, none⟩) (l.length + 1) c) (l ++ [Pg.mk k t s]).length (pvals (l ++ [Pg.mk k t s])) := by
  rw [pvals_append, pvals_one, List.length_append]
  exact h
theorem own_pushed1 {w : World} {B : Nat} {e : TypeId} {b o c : Nat} {l : List Pg} {k t : Int} {s : Bs} (h : OwnWin w B e 3 (.slice (some ⟨b, o, none⟩) (l.length + 1) c) (l.length + 1) (pvals l ++ [.int .i64 k, .int .i64 t, .string ⟨s.toArray⟩])) (hc : 1 < c) : OwnWin w B e 3 (.slice (some ⟨b, o + 3, none⟩) l.length (c - 1)) ((l ++ [Pg.mk k t s]).drop 1).length (pvals ((l ++ [Pg.mk k t s]).drop 1)) := by
  have h2 := h.drop (k := 1) rfl (by omega) hc
  rw [← pvals_drop, List.length_drop, List.length_append, pvals_append, pvals_one]
  exact h2
theorem keep_of {n : Nat} (hf : FollowOk n) (g : GateM) (l : List (Int × Pg)) (ku au : Value) (p : Pg) (w : World) (hl : l.length ≤ n) (hn : GateM.Near g l) (hp : p.value.length ≤ 134217728) (ha : g.applied + 1 ≤ 1099511627776) (hs : RefS w g l ku au) :
    Calls Tryz.prog 40 #[rgV g ku au, .agg #[.int .i64 p.kind, .int .i64 p.tenant, .string ⟨p.value.toArray⟩]] w fun e w' => ∃ ku' au', e = .returned (rgV ((g.push p).follow l) ku' au') ∧ RefS w' ((g.push p).follow l) ((g.push p).follow l).aside ku' au' ∧ Below w.heap.size w w' := by
  obtain ⟨k, t, s⟩ := p
  obtain ⟨gp, hgp⟩ : ∃ gp, g.push ⟨k, t, s⟩ = gp := ⟨_, rfl⟩
  have HP := Lib.hid (hn.push hp ha)
  have HGP := Lib.hid hgp
  rw [hgp] at HP ⊢
  clear hgp
  have HF := Lib.hid hf
  have HS := Lib.hid hs
  have hw2 := hn.win2
  have hw1 := hn.win1
  have hlen := hn.len
  have hlo := hn.lo
  have hroom := hn.room
  have hfew := hn.few
  obtain ⟨ua, uc, rfl, _⟩ := hs.kept.form
  obtain ⟨ea, ec, rfl, _⟩ := hs.aside.form
  clear hf hs hn
  have HA := Lib.hid (kpR_new w g (.slice ua g.kept.length uc) (.slice ea l.length ec) k t s)
  have HU1 := Lib.hid (HS.out.kept.below HA.out.bel)
  go_enter Tryz.func40, Tryz.ntmps40
  go_upto_region 1 with fail
  unfold kpW at HA HU1
  generalize hW1 : ((w.alloc (.cells #[.int .i64 g.applied, .int .i64 g.floor, .int .i64 g.win, .slice ua g.kept.length uc, .slice ea l.length ec] 34)).alloc (.cells #[.int .i64 k, .int .i64 t, .string ⟨s.toArray⟩] 82)).alloc (.cells #[.int .i64 0, .int .i64 0, .int .i64 0, .slice none 0 0, .slice none 0 0] 34) = w1 at HA HU1 ⊢
  clear hW1
  obtain ⟨⟨c0, c1, c2, c3, c4⟩, ⟨f0, f1, f2, f3, f4⟩, hz⟩ := HA.out.l.facts
  obtain ⟨⟨d0, d1, d2⟩, _, hz1⟩ := HA.out.p.facts
  obtain ⟨⟨e0, e1, e2, e3, e4⟩, ⟨j0, j1, j2, j3, j4⟩, hz2⟩ := HA.out.z.facts
  go_cut [] (fun wx => KpEnd w wx g (.slice ea l.length ec) (.int .i64 k) (.int .i64 t) (.string ⟨s.toArray⟩))
  case first =>
    go_region_law
        ((first
          | (refine step_appw tyRPgs (by rfl) _ _ (by rfl) w1.heap.size (.slice (some ⟨w1.heap.size, 0, none⟩) 0 0) 0 [] (by rfl) (own_empty (heap_alloc_new w1 _) (Nat.le_refl _)).drew (by first | (simp; done) | (simp; omega)) (.slice ua g.kept.length uc) g.kept.length (pvals g.kept) (by rfl) (RowsV.srcP (HU1.out.alloc _).drew) (by rw [pvals_len]) (pvals_oneCell _) (by omega) ?_; intro v2 w2 hown2 hgrow2 hlies2; rw [Nat.zero_add, List.nil_append] at hown2; obtain ⟨a2, q2, rfl, hq2⟩ := hown2.form; have hb2 : Below w1.heap.size w1 w2 := below_grown ((Below.refl w1.heap.size w1).alloc (Nat.le_refl _) _).drew hgrow2 (by first | (simp; done) | (simp; omega)) (fun q hq => by simp [Value.ownBlock] at hq; omega); have hs2 := hb2.size; obtain ⟨⟨p0, p1, p2⟩, _, _⟩ := (HA.out.older hb2).p.facts)
          | (refine step_appw tyRPgs (by rfl) _ _ (by rfl) w1.heap.size (.slice (some ⟨w1.heap.size, 0, none⟩) 0 0) 0 [] (by rfl) ((own_empty (heap_alloc_new w1 _) (Nat.le_refl _)).alloc _).drew (by first | (simp; done) | (simp; omega)) (.slice ua g.kept.length uc) g.kept.length (pvals g.kept) (by rfl) (RowsV.srcP ((HU1.out.alloc _).alloc _).drew) (by rw [pvals_len]) (pvals_oneCell _) (by omega) ?_; intro v2 w2 hown2 hgrow2 hlies2; rw [Nat.zero_add, List.nil_append] at hown2; obtain ⟨a2, q2, rfl, hq2⟩ := hown2.form; have hb2 : Below w1.heap.size w1 w2 := below_grown (((Below.refl w1.heap.size w1).alloc (Nat.le_refl _) _).alloc (by first | (simp; done) | (simp; omega)) _).drew hgrow2 (by first | (simp; done) | (simp; omega)) (fun q hq => by simp [Value.ownBlock] at hq; omega); have hs2 := hb2.size; obtain ⟨⟨p0, p1, p2⟩, _, _⟩ := (HA.out.older hb2).p.facts; have hP : w2.heap[w1.heap.size + 1]? = some (.cells #[.int .i64 k, .int .i64 t, .string ⟨s.toArray⟩] 82 (0, 0)) := (hgrow2.block _ (by first | (simp; done) | (simp; omega)) (by simp [Value.ownBlock])).trans (heap_next w1 _ _))
          | (refine step_appw tyRPgs (by rfl) _ _ (by rfl) w1.heap.size (.slice (some ⟨w1.heap.size + 1, 0, none⟩) 0 0) 0 [] (by rfl) (own_empty (heap_alloc_next w1 _ _) (by omega)).drew (by first | (simp; done) | (simp; omega)) (.slice ua g.kept.length uc) g.kept.length (pvals g.kept) (by rfl) (RowsV.srcP ((HU1.out.alloc _).alloc _).drew) (by rw [pvals_len]) (pvals_oneCell _) (by omega) ?_; intro v2 w2 hown2 hgrow2 hlies2; rw [Nat.zero_add, List.nil_append] at hown2; obtain ⟨a2, q2, rfl, hq2⟩ := hown2.form; have hb2 : Below w1.heap.size w1 w2 := below_grown (((Below.refl w1.heap.size w1).alloc (Nat.le_refl _) _).alloc (by first | (simp; done) | (simp; omega)) _).drew hgrow2 (by first | (simp; done) | (simp; omega)) (fun q hq => by simp [Value.ownBlock] at hq; omega); have hs2 := hb2.size; obtain ⟨⟨p0, p1, p2⟩, _, _⟩ := (HA.out.older hb2).p.facts; have hP : w2.heap[w1.heap.size]? = some (.cells #[.int .i64 k, .int .i64 t, .string ⟨s.toArray⟩] 82 (0, 0)) := (hgrow2.block _ (by first | omega | (simp; omega)) (by simp [Value.ownBlock])).trans (heap_first w1 _ _))
          | (refine step_appw tyRPgs (by rfl) _ _ (by rfl) w1.heap.size (.slice a2 g.kept.length q2) g.kept.length (pvals g.kept) (by rfl) (hown2.alloc _) (by first | omega | (simp; omega)) (.slice (some ⟨w2.heap.size, 0, none⟩) 1 1) 1 [.int .i64 k, .int .i64 t, .string ⟨s.toArray⟩] (by rfl) (SrcAt.one (heap_alloc_new w2 _)) (by rfl) (by simp [Value.oneCell']) (by omega) ?_; intro v3 w3 hown3 hgrow3 hlies3; obtain ⟨a3, q3, rfl, hq3⟩ := hown3.form; have hb3 : Below w1.heap.size w1 w3 := below_grown (hb2.alloc (by omega) _) hgrow3 (by first | omega | (simp; omega)) (fun q hq => (hown2.lt q hq).1); obtain ⟨⟨g0, g1, g2, g3, g4⟩, ⟨m0, m1, m2, m3, m4⟩, hz3⟩ := (HA.out.older hb3).l.facts; obtain ⟨⟨x0, x1, x2⟩, _, _⟩ := (HA.out.older hb3).p.facts)
          | (refine step_appw tyRPgs (by rfl) _ _ (by rfl) w1.heap.size (.slice a2 g.kept.length q2) g.kept.length (pvals g.kept) (by rfl) hown2 (by first | omega | (simp; omega)) (.slice (some ⟨w1.heap.size + 1, 0, none⟩) 1 1) 1 [.int .i64 k, .int .i64 t, .string ⟨s.toArray⟩] (by rfl) (SrcAt.one hP) (by rfl) (by simp [Value.oneCell']) (by omega) ?_; intro v3 w3 hown3 hgrow3 hlies3; obtain ⟨a3, q3, rfl, hq3⟩ := hown3.form; have hb3 : Below w1.heap.size w1 w3 := below_grown hb2 hgrow3 (by first | omega | (simp; omega)) (fun q hq => (hown2.lt q hq).1); obtain ⟨⟨g0, g1, g2, g3, g4⟩, ⟨m0, m1, m2, m3, m4⟩, hz3⟩ := (HA.out.older hb3).l.facts; obtain ⟨⟨x0, x1, x2⟩, _, _⟩ := (HA.out.older hb3).p.facts)
          | (refine step_appw tyRPgs (by rfl) _ _ (by rfl) w1.heap.size (.slice a2 g.kept.length q2) g.kept.length (pvals g.kept) (by rfl) hown2 (by first | omega | (simp; omega)) (.slice (some ⟨w1.heap.size, 0, none⟩) 1 1) 1 [.int .i64 k, .int .i64 t, .string ⟨s.toArray⟩] (by rfl) (SrcAt.one hP) (by rfl) (by simp [Value.oneCell']) (by omega) ?_; intro v3 w3 hown3 hgrow3 hlies3; obtain ⟨a3, q3, rfl, hq3⟩ := hown3.form; have hb3 : Below w1.heap.size w1 w3 := below_grown hb2 hgrow3 (by first | omega | (simp; omega)) (fun q hq => (hown2.lt q hq).1); obtain ⟨⟨g0, g1, g2, g3, g4⟩, ⟨m0, m1, m2, m3, m4⟩, hz3⟩ := (HA.out.older hb3).l.facts; obtain ⟨⟨x0, x1, x2⟩, _, _⟩ := (HA.out.older hb3).p.facts)))
    all_goals
      go_wp2
      go_meet
      exact ⟨a3, q3, (own_setR hown3 (fun q hq => by have := (hown3.lt q hq).1; omega) 3 _).mono (fun q hq => by have := (hown3.lt q hq).1; omega), (HA.out.older hb3).l.set3 _, (HA.out.older hb3).z.other (by omega) 3 _, (HA.out.older hb3).bel.setCell (Nat.le_refl _) _⟩
  case rest =>
    obtain ⟨a3, q3, hown, hbl, hbz, hbe⟩ := hcut
    have HN1 := Lib.hid (hbl.own_ne hown (by decide))
    have HN2 := Lib.hid (hbz.own_ne hown (by decide))
    obtain ⟨⟨g0, g1, g2, g3, g4⟩, ⟨m0, m1, m2, m3, m4⟩, hz3⟩ := hbl.facts
    obtain ⟨⟨y0, y1, y2, y3, y4⟩, ⟨n0, n1, n2, n3, n4⟩, hz4⟩ := hbz.facts
    have HO := Lib.hid hown
    have HBL := Lib.hid hbl
    have HBZ := Lib.hid hbz
    have HBE := Lib.hid hbe
    clear hown hbe hbl hbz
    obtain ⟨b3, o3, c3, e3, hq3, _, hq4, hq5, _⟩ := HO.out.cells (by omega)
    cases e3
    by_cases hwin : g.win < g.kept.length + 1
    · have hne : ¬ q3 = 1 := by omega
      have hwini : (g.win : Int) < (g.kept.length : Int) + 1 := by omega
      have HPU := Lib.hid (HGP.out.symm.trans (show g.push ⟨k, t, s⟩ = GateM.mk g.win (g.applied + 1) (g.floor + 1) ((g.kept ++ [Pg.mk k t s]).drop 1) g.aside from if_pos hwin))
      go_wp2_with fail
      have HO5 := Lib.hid (own_pushed1 (own_setR (own_setR (own_setR HO.out HN1.out 0 (.int .i64 (g.applied + 1))) HN1.out 3 (.slice (some ⟨b3, o3 + 3, none⟩) g.kept.length (q3 - 1))) HN1.out 1 (.int .i64 (g.floor + 1))) (by omega))
      have HB5 := Lib.hid (((HBE.out.setCell (p := ⟨w.heap.size, 0, none⟩) (Nat.le_refl _) (.int .i64 (g.applied + 1))).setCell (p := ⟨w.heap.size, 3, none⟩) (Nat.le_refl _) (.slice (some ⟨b3, o3 + 3, none⟩) g.kept.length (q3 - 1))).setCell (p := ⟨w.heap.size, 1, none⟩) (Nat.le_refl _) (.int .i64 (g.floor + 1)))
      have HZ5 := Lib.hid (((HBZ.out.other (q := w.heap.size) (by omega) 0 (.int .i64 (g.applied + 1))).other (q := w.heap.size) (by omega) 3 (.slice (some ⟨b3, o3 + 3, none⟩) g.kept.length (q3 - 1))).other (q := w.heap.size) (by omega) 1 (.int .i64 (g.floor + 1)))
      refine (HF.out.at (g := gp) (l := l) (by rw [HPU.out]) (by rw [HPU.out]) (by rw [HPU.out]) hl HP.out ⟨by rw [HPU.out]; exact rows_own HO5.out, HS.out.aside.below HB5.out, TypedV.own HO5.out, HS.out.ta.below HB5.out⟩).mono ?_
      rintro e w6 ⟨ku6, au6, rfl, hs6, hb6⟩
      obtain ⟨ka, kc, rfl, _⟩ := hs6.kept.form
      obtain ⟨aa, ac, rfl, _⟩ := hs6.aside.form
      have HS6 := Lib.hid hs6
      have HZ6 := Lib.hid (HZ5.out.older hb6)
      have HB6 := Lib.hid (HB5.out.trans (hb6.mono HB5.out.size))
      clear hs6 hb6 y0 y1 y2 y3 y4 n0 n1 n2 n3 n4 hz4
      obtain ⟨⟨y0, y1, y2, y3, y4⟩, ⟨n0, n1, n2, n3, n4⟩, hz4⟩ := HZ6.out.facts
      go_wp2_with fail
      obtain ⟨⟨z0, z1, z2, z3, z4⟩, _, _⟩ := (HZ6.out.store (.int .i64 (gp.follow l).applied) (.int .i64 (gp.follow l).floor) (.int .i64 (gp.follow l).win) (.slice ka (gp.follow l).kept.length kc) (.slice aa (gp.follow l).aside.length ac)).facts
      refine bodyPost_ret (v := rgV (gp.follow l) (.slice ka (gp.follow l).kept.length kc) (.slice aa (gp.follow l).aside.length ac)) (by simp [results, Tryz.results40, go_sem, z0, z1, z2, z3, z4]) rfl ?_
      exact ⟨_, _, rfl, HS6.out.store HZ6.out _ _ _ _ _, below_store HB6.out (by omega) _ _ _ _ _⟩
    · have hwini : ¬ (g.win : Int) < (g.kept.length : Int) + 1 := by omega
      have HPU := Lib.hid (HGP.out.symm.trans (show g.push ⟨k, t, s⟩ = GateM.mk g.win (g.applied + 1) g.floor (g.kept ++ [Pg.mk k t s]) g.aside from if_neg hwin))
      go_wp2_with fail
      have HO5 := Lib.hid (own_pushed (own_setR HO.out HN1.out 0 (.int .i64 (g.applied + 1))))
      have HB5 := Lib.hid (HBE.out.setCell (p := ⟨w.heap.size, 0, none⟩) (Nat.le_refl _) (.int .i64 (g.applied + 1)))
      have HZ5 := Lib.hid (HBZ.out.other (q := w.heap.size) (by omega) 0 (.int .i64 (g.applied + 1)))
      refine (HF.out.at (g := gp) (l := l) (by rw [HPU.out]) (by rw [HPU.out]) (by rw [HPU.out]) hl HP.out ⟨by rw [HPU.out]; exact rows_own HO5.out, HS.out.aside.below HB5.out, TypedV.own HO5.out, HS.out.ta.below HB5.out⟩).mono ?_
      rintro e w6 ⟨ku6, au6, rfl, hs6, hb6⟩
      obtain ⟨ka, kc, rfl, _⟩ := hs6.kept.form
      obtain ⟨aa, ac, rfl, _⟩ := hs6.aside.form
      have HS6 := Lib.hid hs6
      have HZ6 := Lib.hid (HZ5.out.older hb6)
      have HB6 := Lib.hid (HB5.out.trans (hb6.mono HB5.out.size))
      clear hs6 hb6 y0 y1 y2 y3 y4 n0 n1 n2 n3 n4 hz4
      obtain ⟨⟨y0, y1, y2, y3, y4⟩, ⟨n0, n1, n2, n3, n4⟩, hz4⟩ := HZ6.out.facts
      go_wp2_with fail
      obtain ⟨⟨z0, z1, z2, z3, z4⟩, _, _⟩ := (HZ6.out.store (.int .i64 (gp.follow l).applied) (.int .i64 (gp.follow l).floor) (.int .i64 (gp.follow l).win) (.slice ka (gp.follow l).kept.length kc) (.slice aa (gp.follow l).aside.length ac)).facts
      refine bodyPost_ret (v := rgV (gp.follow l) (.slice ka (gp.follow l).kept.length kc) (.slice aa (gp.follow l).aside.length ac)) (by simp [results, Tryz.results40, go_sem, z0, z1, z2, z3, z4]) rfl ?_
      exact ⟨_, _, rfl, HS6.out.store HZ6.out _ _ _ _ _, below_store HB6.out (by omega) _ _ _ _ _⟩
/-- The blocks that follow makes at its head; its lists on the way. -/
structure FoS (w wr : World) (g : GateM) (l : List (Int × Pg)) (ku au : Value) : Prop where
  bel : Below w.heap.size w wr
  box : VBox wr w.heap.size (.int .i64 g.applied) (.int .i64 g.floor) (.int .i64 g.win) ku au
  res : VBox wr (w.heap.size + 1) (.int .i64 0) (.int .i64 0) (.int .i64 0) (.slice none 0 0) (.slice none 0 0)
  ref : RefS wr g l ku au
theorem foS_new {w : World} {g : GateM} {l : List (Int × Pg)} {ku au : Value} (h : RefS w g l ku au) :
    FoS w ((w.alloc (.cells #[.int .i64 g.applied, .int .i64 g.floor, .int .i64 g.win, ku, au] 34)).alloc (.cells #[.int .i64 0, .int .i64 0, .int .i64 0, .slice none 0 0, .slice none 0 0] 34)) g l ku au := by
  have hb := ((Below.refl w.heap.size w).alloc (Nat.le_refl _) (.cells #[.int .i64 g.applied, .int .i64 g.floor, .int .i64 g.win, ku, au] 34)).alloc (by simp) (.cells #[.int .i64 0, .int .i64 0, .int .i64 0, .slice none 0 0, .slice none 0 0] 34)
  refine ⟨hb, ?_, ?_, h.below hb⟩
  · exact (vbox_new w _ _ _ _ _).older ((Below.refl _ _).alloc (Nat.le_refl _) _)
  · have h2 := vbox_new (w.alloc (.cells #[.int .i64 g.applied, .int .i64 g.floor, .int .i64 g.win, ku, au] 34)) (.int .i64 0) (.int .i64 0) (.int .i64 0) (.slice none 0 0) (.slice none 0 0)
    simpa using h2
/-- The slice of what is aside moves on. -/
theorem FoS.aside {w wr : World} {g : GateM} {l r : List (Int × Pg)} {ku au ru : Value} (h : FoS w wr g l ku au) (hr : RowsV ecells 4 wr ru r) (hs : ∀ q, ru.ownBlock = some q → au.ownBlock = some q) : FoS w (wr.setCell ⟨w.heap.size, 4, none⟩ ru) g r ku ru := by
  have h1 : RefS wr g r ku ru := ⟨h.ref.kept, hr, h.ref.tk, h.ref.ta.same hs⟩
  exact ⟨h.bel.setCell (p := ⟨w.heap.size, 4, none⟩) (Nat.le_refl _) _, h.box.set4 _, h.res.other (by omega) 4 _, h1.set h.box 4 _⟩
theorem FoS.older {w wr w' : World} {g : GateM} {l : List (Int × Pg)} {ku au : Value} (h : FoS w wr g l ku au) (hb : Below wr.heap.size wr w') : FoS w w' g l ku au := ⟨h.bel.trans (hb.mono h.bel.size), h.box.older hb, h.res.older hb, h.ref.below hb⟩
theorem FoS.drewN {w wr : World} {g : GateM} {l : List (Int × Pg)} {ku au : Value} (h : FoS w wr g l ku au) (q : Nat) : FoS w (wr.drewN q) g l ku au := h.older (below_drewN (Below.refl _ _) q)
theorem near_head {g : GateM} {e : Int × Pg} {l : List (Int × Pg)} (h : GateM.Near g (e :: l)) : 0 ≤ g.applied ∧ g.applied ≤ 1099511627776 ∧ e.1 ≤ 1099511627776 ∧ e.2.value.length ≤ 134217728 := by
  have h1 := h.len
  have h2 := h.lo
  exact ⟨by omega, h.hi, h.hiA e (by simp), h.sizeA e (by simp)⟩
theorem follow_step (n : Nat) (ih : ∀ m, m < n → FollowOk m) : FollowOk n := by
  intro g l ku au w hl hn hs
  obtain ⟨gf, hgf⟩ : ∃ gf, g.follow l = gf := ⟨_, rfl⟩
  rw [hgf]
  have HGF := Lib.hid hgf
  have HIH := Lib.hid ih
  have HNR := Lib.hid hn
  have hap1 := hn.hi
  have hw2 := hn.win2
  have hap0 : 0 ≤ g.applied := by have := hn.len; have := hn.lo; omega
  obtain ⟨ua, uc, rfl, _⟩ := hs.kept.form
  obtain ⟨ea, ec, rfl, _⟩ := hs.aside.form
  have HF := Lib.hid (foS_new hs)
  clear hs ih hgf hn
  go_enter Tryz.func38, Tryz.ntmps38
  go_upto_region 1 with fail
  go_loopg [] l.length (fun q wr => ∃ (l2 : List (Int × Pg)) (ru : Value), l2.length ≤ q ∧ l2.length ≤ n ∧ Hid (g.follow l2 = gf) ∧ Hid (GateM.Near g l2) ∧ FoS w wr g l2 (.slice ua g.kept.length uc) ru)
  case atStart => exact ⟨l, _, Nat.le_refl _, hl, HGF, HNR, HF.out⟩
  case round =>
    obtain ⟨l2, ru, hq, hln, HG2, HN2, s⟩ := hrel
    obtain ⟨ra, rc, rfl, hrc⟩ := s.ref.aside.form
    have HS := Lib.hid s
    obtain ⟨⟨c0, c1, c2, c3, c4⟩, ⟨f0, f1, f2, f3, f4⟩, hz⟩ := s.box.facts
    obtain ⟨⟨e0, e1, e2, e3, e4⟩, ⟨j0, j1, j2, j3, j4⟩, hz2⟩ := s.res.facts
    cases l2 with
    | nil =>
      clear s
      have HE := Lib.hid (show g.follow [] = gf from HG2.out)
      go_wp2_with fail
      go_quiet (fail)
      obtain ⟨wA, hw9⟩ : ∃ wz, wr.drewN nq = wz := ⟨_, rfl⟩
      have HSA := Lib.hid (HS.out.drewN nq)
      rw [hw9] at HSA ⊢
      clear hw9
      clear c0 c1 c2 c3 c4 f0 f1 f2 f3 f4 e0 e1 e2 e3 e4 j0 j1 j2 j3 j4
      obtain ⟨⟨c0, c1, c2, c3, c4⟩, ⟨f0, f1, f2, f3, f4⟩, hz⟩ := HSA.out.box.facts
      obtain ⟨⟨e0, e1, e2, e3, e4⟩, ⟨j0, j1, j2, j3, j4⟩, hz2⟩ := HSA.out.res.facts
      go_wp2_with fail
      go_quiet (fail)
      obtain ⟨wB, hw9⟩ : ∃ wz, wA.drewN nq = wz := ⟨_, rfl⟩
      have HS2 := Lib.hid (HSA.out.drewN nq)
      rw [hw9] at HS2 ⊢
      clear hw9
      clear c0 c1 c2 c3 c4 f0 f1 f2 f3 f4 e0 e1 e2 e3 e4 j0 j1 j2 j3 j4
      obtain ⟨⟨c0, c1, c2, c3, c4⟩, ⟨f0, f1, f2, f3, f4⟩, hz⟩ := HS2.out.box.facts
      obtain ⟨⟨e0, e1, e2, e3, e4⟩, ⟨j0, j1, j2, j3, j4⟩, hz2⟩ := HS2.out.res.facts
      obtain ⟨⟨c0, c1, c2, c3, c4⟩, ⟨f0, f1, f2, f3, f4⟩, hz⟩ := HS2.out.box.facts
      obtain ⟨⟨e0, e1, e2, e3, e4⟩, ⟨j0, j1, j2, j3, j4⟩, hz2⟩ := HS2.out.res.facts
      go_wp2_with fail
      obtain ⟨⟨z0, z1, z2, z3, z4⟩, _, _⟩ := (HS2.out.res.store (.int .i64 g.applied) (.int .i64 g.floor) (.int .i64 g.win) (.slice ua g.kept.length uc) (.slice ra 0 rc)).facts
      refine bodyPost_ret (v := .agg #[.int .i64 g.applied, .int .i64 g.floor, .int .i64 g.win, (.slice ua g.kept.length uc), (.slice ra 0 rc)]) (by simp [results, Tryz.results38, go_sem, z0, z1, z2, z3, z4]) rfl ?_
      have h9 := HS2.out.ref.store HS2.out.res (.int .i64 g.applied) (.int .i64 g.floor) (.int .i64 g.win) (.slice ua g.kept.length uc) (.slice ra 0 rc)
      exact ⟨(.slice ua g.kept.length uc), (.slice ra 0 rc), by rw [← HE.out]; rfl, by rw [← HE.out]; exact ⟨h9.kept, h9.aside, h9.tk, h9.ta⟩, below_store HS2.out.bel (by omega) _ _ _ _ _⟩
    | cons y r =>
      have hnh := near_head HN2.out
      obtain ⟨b1, o1, c1', ee, hc1, hbz1, hcell1⟩ := s.ref.aside.at (i := 0) (by simp)
      cases ee
      simp only [List.getElem_cons_zero] at hcell1
      have HAS := Lib.hid s.ref.aside
      obtain ⟨yn, yk, yt, yv⟩ := y
      obtain ⟨hnh0, hnh1, hnh2, hnh3⟩ := hnh
      simp only at hnh2 hnh3
      have p0 : wr.cell? ⟨b1, o1, none⟩ = some (.int .i64 yn) := hcell1 0 _ rfl
      have p1 : wr.cell? ⟨b1, o1 + 1, none⟩ = some (.int .i64 yk) := hcell1 1 _ rfl
      have p2 : wr.cell? ⟨b1, o1 + 2, none⟩ = some (.int .i64 yt) := hcell1 2 _ rfl
      have p3 : wr.cell? ⟨b1, o1 + 3, none⟩ = some (.string ⟨yv.toArray⟩) := hcell1 3 _ rfl
      clear hcell1 s
      simp only [List.length_cons] at hrc
      by_cases h1 : yn ≤ g.applied
      · have HE := Lib.hid (show g.follow r = gf by have h := HG2.out; rw [GateM.follow, if_pos h1] at h; exact h)
        by_cases hrc1 : rc = 1
        · have hr0 : r = [] := List.eq_nil_of_length_eq_zero (by omega)
          subst hr0 hrc1
          go_wp2_with fail
          go_quiet (fail)
          go_wp2_with fail
          go_roundg (gk - 1)
          case rel => exact ⟨[], _, by simp, by simp, HE, Lib.hid HN2.out.tail, (HS.out.drewN nq).aside (RowsV.empty _ _ _ _ _) (fun q h => h)⟩
          case measure => simp only [List.length_cons] at hq; omega
        · have hne : ¬ 1 = rc := by omega
          go_wp2_with fail
          go_quiet (fail)
          go_wp2_with fail
          go_roundg (gk - 1)
          case rel => exact ⟨r, _, by simp only [List.length_cons] at hq; omega, by simp only [List.length_cons] at hln; omega, HE, Lib.hid HN2.out.tail, (HS.out.drewN nq).aside (HAS.out.tail.drewN _) (fun q h => h)⟩
          case measure => simp only [List.length_cons] at hq; omega
      · by_cases h2 : yn = g.applied + 1
        · have HE := Lib.hid (show (g.push ⟨yk, yt, yv⟩).follow r = gf by have h := HG2.out; rw [GateM.follow, if_neg h1, if_pos h2] at h; exact h)
          have h2b : (yn == g.applied + 1) = true := by rw [beq_iff_eq]; exact h2
          clear h2
          by_cases hrc1 : rc = 1
          · have hr0 : r = [] := List.eq_nil_of_length_eq_zero (by omega)
            subst hr0 hrc1
            go_wp2_with fail
            go_quiet (fail)
            obtain ⟨wA, hw9⟩ : ∃ wz, wr.drewN nq = wz := ⟨_, rfl⟩
            have HSA := Lib.hid (HS.out.drewN nq)
            have q0 : (wr.drewN nq).cell? ⟨b1, o1, none⟩ = some (.int .i64 yn) := p0
            have q1 : (wr.drewN nq).cell? ⟨b1, o1 + 1, none⟩ = some (.int .i64 yk) := p1
            have q2 : (wr.drewN nq).cell? ⟨b1, o1 + 2, none⟩ = some (.int .i64 yt) := p2
            have q3 : (wr.drewN nq).cell? ⟨b1, o1 + 3, none⟩ = some (.string ⟨yv.toArray⟩) := p3
            rw [hw9] at HSA q0 q1 q2 q3 ⊢
            clear hw9
            clear p0 p1 p2 p3
            have p0 := q0
            have p1 := q1
            have p2 := q2
            have p3 := q3
            clear q0 q1 q2 q3
            clear c0 c1 c2 c3 c4 f0 f1 f2 f3 f4 e0 e1 e2 e3 e4 j0 j1 j2 j3 j4
            obtain ⟨⟨c0, c1, c2, c3, c4⟩, ⟨f0, f1, f2, f3, f4⟩, hz⟩ := HSA.out.box.facts
            obtain ⟨⟨e0, e1, e2, e3, e4⟩, ⟨j0, j1, j2, j3, j4⟩, hz2⟩ := HSA.out.res.facts
            go_wp2_with fail
            go_quiet (fail)
            obtain ⟨wB, hw9⟩ : ∃ wz, wA.drewN nq = wz := ⟨_, rfl⟩
            have HS2 := Lib.hid (HSA.out.drewN nq)
            have q0 : (wA.drewN nq).cell? ⟨b1, o1, none⟩ = some (.int .i64 yn) := p0
            have q1 : (wA.drewN nq).cell? ⟨b1, o1 + 1, none⟩ = some (.int .i64 yk) := p1
            have q2 : (wA.drewN nq).cell? ⟨b1, o1 + 2, none⟩ = some (.int .i64 yt) := p2
            have q3 : (wA.drewN nq).cell? ⟨b1, o1 + 3, none⟩ = some (.string ⟨yv.toArray⟩) := p3
            rw [hw9] at HS2 q0 q1 q2 q3 ⊢
            clear hw9
            clear p0 p1 p2 p3
            have p0 := q0
            have p1 := q1
            have p2 := q2
            have p3 := q3
            clear q0 q1 q2 q3
            clear c0 c1 c2 c3 c4 f0 f1 f2 f3 f4 e0 e1 e2 e3 e4 j0 j1 j2 j3 j4
            obtain ⟨⟨c0, c1, c2, c3, c4⟩, ⟨f0, f1, f2, f3, f4⟩, hz⟩ := HS2.out.box.facts
            obtain ⟨⟨e0, e1, e2, e3, e4⟩, ⟨j0, j1, j2, j3, j4⟩, hz2⟩ := HS2.out.res.facts
            go_wp2_with fail
            have HS6 := Lib.hid ((HS2.out.aside (ru := (.slice (some ⟨b1, o1, none⟩) 0 0)) (RowsV.empty _ _ _ _ _) (fun q h => h)).older ((Below.refl _ _).alloc (Nat.le_refl _) (.cells #[.int .i64 yk, .int .i64 yt, .string ⟨yv.toArray⟩] 82)))
            obtain ⟨⟨c0, c1, c2, c3, c4⟩, ⟨f0, f1, f2, f3, f4⟩, hz⟩ := HS6.out.box.facts
            refine (keep_of (HIH.out [].length (by simp only [List.length_cons] at hln; simp only [List.length_nil]; omega)) g [] (.slice ua g.kept.length uc) (.slice (some ⟨b1, o1, none⟩) 0 0) ⟨yk, yt, yv⟩ _ (Nat.le_refl _) HN2.out.tail hnh3 (by omega) HS6.out.ref).mono ?_
            rw [HE.out]
            rintro e w6 ⟨ku6, au6, rfl, hs6, hb6⟩
            obtain ⟨ka, kc, rfl, _⟩ := hs6.kept.form
            obtain ⟨aa, ac, rfl, _⟩ := hs6.aside.form
            have HR6 := Lib.hid hs6
            have HS7 := Lib.hid (HS6.out.older hb6)
            clear hs6 hb6 e0 e1 e2 e3 e4 j0 j1 j2 j3 j4
            obtain ⟨⟨e0, e1, e2, e3, e4⟩, ⟨j0, j1, j2, j3, j4⟩, hz2⟩ := HS7.out.res.facts
            go_wp2_with fail
            obtain ⟨⟨z0, z1, z2, z3, z4⟩, _, _⟩ := (HS7.out.res.store (.int .i64 gf.applied) (.int .i64 gf.floor) (.int .i64 gf.win) (.slice ka gf.kept.length kc) (.slice aa gf.aside.length ac)).facts
            refine bodyPost_ret (v := rgV gf (.slice ka gf.kept.length kc) (.slice aa gf.aside.length ac)) (by simp [results, Tryz.results38, go_sem, z0, z1, z2, z3, z4]) rfl ?_
            exact ⟨_, _, rfl, HR6.out.store HS7.out.res _ _ _ _ _, below_store HS7.out.bel (by omega) _ _ _ _ _⟩
          · have hne : ¬ 1 = rc := by omega
            go_wp2_with fail
            go_quiet (fail)
            obtain ⟨wA, hw9⟩ : ∃ wz, wr.drewN nq = wz := ⟨_, rfl⟩
            have HSA := Lib.hid (HS.out.drewN nq)
            have q0 : (wr.drewN nq).cell? ⟨b1, o1, none⟩ = some (.int .i64 yn) := p0
            have q1 : (wr.drewN nq).cell? ⟨b1, o1 + 1, none⟩ = some (.int .i64 yk) := p1
            have q2 : (wr.drewN nq).cell? ⟨b1, o1 + 2, none⟩ = some (.int .i64 yt) := p2
            have q3 : (wr.drewN nq).cell? ⟨b1, o1 + 3, none⟩ = some (.string ⟨yv.toArray⟩) := p3
            rw [hw9] at HSA q0 q1 q2 q3 ⊢
            clear hw9
            clear p0 p1 p2 p3
            have p0 := q0
            have p1 := q1
            have p2 := q2
            have p3 := q3
            clear q0 q1 q2 q3
            clear c0 c1 c2 c3 c4 f0 f1 f2 f3 f4 e0 e1 e2 e3 e4 j0 j1 j2 j3 j4
            obtain ⟨⟨c0, c1, c2, c3, c4⟩, ⟨f0, f1, f2, f3, f4⟩, hz⟩ := HSA.out.box.facts
            obtain ⟨⟨e0, e1, e2, e3, e4⟩, ⟨j0, j1, j2, j3, j4⟩, hz2⟩ := HSA.out.res.facts
            go_wp2_with fail
            go_quiet (fail)
            obtain ⟨wB, hw9⟩ : ∃ wz, wA.drewN nq = wz := ⟨_, rfl⟩
            have HS2 := Lib.hid (HSA.out.drewN nq)
            have q0 : (wA.drewN nq).cell? ⟨b1, o1, none⟩ = some (.int .i64 yn) := p0
            have q1 : (wA.drewN nq).cell? ⟨b1, o1 + 1, none⟩ = some (.int .i64 yk) := p1
            have q2 : (wA.drewN nq).cell? ⟨b1, o1 + 2, none⟩ = some (.int .i64 yt) := p2
            have q3 : (wA.drewN nq).cell? ⟨b1, o1 + 3, none⟩ = some (.string ⟨yv.toArray⟩) := p3
            rw [hw9] at HS2 q0 q1 q2 q3 ⊢
            clear hw9
            clear p0 p1 p2 p3
            have p0 := q0
            have p1 := q1
            have p2 := q2
            have p3 := q3
            clear q0 q1 q2 q3
            clear c0 c1 c2 c3 c4 f0 f1 f2 f3 f4 e0 e1 e2 e3 e4 j0 j1 j2 j3 j4
            obtain ⟨⟨c0, c1, c2, c3, c4⟩, ⟨f0, f1, f2, f3, f4⟩, hz⟩ := HS2.out.box.facts
            obtain ⟨⟨e0, e1, e2, e3, e4⟩, ⟨j0, j1, j2, j3, j4⟩, hz2⟩ := HS2.out.res.facts
            go_wp2_with fail
            have HS6 := Lib.hid ((HS2.out.aside (ru := (.slice (some ⟨b1, o1 + 4, none⟩) r.length (rc - 1))) HS2.out.ref.aside.tail (fun q h => h)).older ((Below.refl _ _).alloc (Nat.le_refl _) (.cells #[.int .i64 yk, .int .i64 yt, .string ⟨yv.toArray⟩] 82)))
            obtain ⟨⟨c0, c1, c2, c3, c4⟩, ⟨f0, f1, f2, f3, f4⟩, hz⟩ := HS6.out.box.facts
            refine (keep_of (HIH.out r.length (by simp only [List.length_cons] at hln; omega)) g r (.slice ua g.kept.length uc) (.slice (some ⟨b1, o1 + 4, none⟩) r.length (rc - 1)) ⟨yk, yt, yv⟩ _ (Nat.le_refl _) HN2.out.tail hnh3 (by omega) HS6.out.ref).mono ?_
            rw [HE.out]
            rintro e w6 ⟨ku6, au6, rfl, hs6, hb6⟩
            obtain ⟨ka, kc, rfl, _⟩ := hs6.kept.form
            obtain ⟨aa, ac, rfl, _⟩ := hs6.aside.form
            have HR6 := Lib.hid hs6
            have HS7 := Lib.hid (HS6.out.older hb6)
            clear hs6 hb6 e0 e1 e2 e3 e4 j0 j1 j2 j3 j4
            obtain ⟨⟨e0, e1, e2, e3, e4⟩, ⟨j0, j1, j2, j3, j4⟩, hz2⟩ := HS7.out.res.facts
            go_wp2_with fail
            obtain ⟨⟨z0, z1, z2, z3, z4⟩, _, _⟩ := (HS7.out.res.store (.int .i64 gf.applied) (.int .i64 gf.floor) (.int .i64 gf.win) (.slice ka gf.kept.length kc) (.slice aa gf.aside.length ac)).facts
            refine bodyPost_ret (v := rgV gf (.slice ka gf.kept.length kc) (.slice aa gf.aside.length ac)) (by simp [results, Tryz.results38, go_sem, z0, z1, z2, z3, z4]) rfl ?_
            exact ⟨_, _, rfl, HR6.out.store HS7.out.res _ _ _ _ _, below_store HS7.out.bel (by omega) _ _ _ _ _⟩
        · have HE := Lib.hid (show g.withA ((yn, ⟨yk, yt, yv⟩) :: r) = gf by have h := HG2.out; rw [GateM.follow, if_neg h1, if_neg h2] at h; exact h)
          have h2b : (yn == g.applied + 1) = false := by rw [beq_eq_false_iff_ne]; exact h2
          clear h2
          go_wp2_with fail
          go_quiet (fail)
          obtain ⟨wA, hw9⟩ : ∃ wz, wr.drewN nq = wz := ⟨_, rfl⟩
          have HSA := Lib.hid (HS.out.drewN nq)
          have q0 : (wr.drewN nq).cell? ⟨b1, o1, none⟩ = some (.int .i64 yn) := p0
          have q1 : (wr.drewN nq).cell? ⟨b1, o1 + 1, none⟩ = some (.int .i64 yk) := p1
          have q2 : (wr.drewN nq).cell? ⟨b1, o1 + 2, none⟩ = some (.int .i64 yt) := p2
          have q3 : (wr.drewN nq).cell? ⟨b1, o1 + 3, none⟩ = some (.string ⟨yv.toArray⟩) := p3
          rw [hw9] at HSA q0 q1 q2 q3 ⊢
          clear hw9
          clear p0 p1 p2 p3
          have p0 := q0
          have p1 := q1
          have p2 := q2
          have p3 := q3
          clear q0 q1 q2 q3
          clear c0 c1 c2 c3 c4 f0 f1 f2 f3 f4 e0 e1 e2 e3 e4 j0 j1 j2 j3 j4
          obtain ⟨⟨c0, c1, c2, c3, c4⟩, ⟨f0, f1, f2, f3, f4⟩, hz⟩ := HSA.out.box.facts
          obtain ⟨⟨e0, e1, e2, e3, e4⟩, ⟨j0, j1, j2, j3, j4⟩, hz2⟩ := HSA.out.res.facts
          go_wp2_with fail
          go_quiet (fail)
          obtain ⟨wB, hw9⟩ : ∃ wz, wA.drewN nq = wz := ⟨_, rfl⟩
          have HS2 := Lib.hid (HSA.out.drewN nq)
          have q0 : (wA.drewN nq).cell? ⟨b1, o1, none⟩ = some (.int .i64 yn) := p0
          have q1 : (wA.drewN nq).cell? ⟨b1, o1 + 1, none⟩ = some (.int .i64 yk) := p1
          have q2 : (wA.drewN nq).cell? ⟨b1, o1 + 2, none⟩ = some (.int .i64 yt) := p2
          have q3 : (wA.drewN nq).cell? ⟨b1, o1 + 3, none⟩ = some (.string ⟨yv.toArray⟩) := p3
          rw [hw9] at HS2 q0 q1 q2 q3 ⊢
          clear hw9
          clear p0 p1 p2 p3
          have p0 := q0
          have p1 := q1
          have p2 := q2
          have p3 := q3
          clear q0 q1 q2 q3
          clear c0 c1 c2 c3 c4 f0 f1 f2 f3 f4 e0 e1 e2 e3 e4 j0 j1 j2 j3 j4
          obtain ⟨⟨c0, c1, c2, c3, c4⟩, ⟨f0, f1, f2, f3, f4⟩, hz⟩ := HS2.out.box.facts
          obtain ⟨⟨e0, e1, e2, e3, e4⟩, ⟨j0, j1, j2, j3, j4⟩, hz2⟩ := HS2.out.res.facts
          obtain ⟨⟨c0, c1, c2, c3, c4⟩, ⟨f0, f1, f2, f3, f4⟩, hz⟩ := HS2.out.box.facts
          obtain ⟨⟨e0, e1, e2, e3, e4⟩, ⟨j0, j1, j2, j3, j4⟩, hz2⟩ := HS2.out.res.facts
          go_wp2_with fail
          obtain ⟨⟨z0, z1, z2, z3, z4⟩, _, _⟩ := (HS2.out.res.store (.int .i64 g.applied) (.int .i64 g.floor) (.int .i64 g.win) (.slice ua g.kept.length uc) (.slice (some ⟨b1, o1, none⟩) (r.length + 1) rc)).facts
          refine bodyPost_ret (v := .agg #[.int .i64 g.applied, .int .i64 g.floor, .int .i64 g.win, (.slice ua g.kept.length uc), (.slice (some ⟨b1, o1, none⟩) (r.length + 1) rc)]) (by simp [results, Tryz.results38, go_sem, z0, z1, z2, z3, z4]) rfl ?_
          have h9 := HS2.out.ref.store HS2.out.res (.int .i64 g.applied) (.int .i64 g.floor) (.int .i64 g.win) (.slice ua g.kept.length uc) (.slice (some ⟨b1, o1, none⟩) (r.length + 1) rc)
          exact ⟨(.slice ua g.kept.length uc), (.slice (some ⟨b1, o1, none⟩) (r.length + 1) rc), by rw [← HE.out]; rfl, by rw [← HE.out]; exact ⟨h9.kept, h9.aside, h9.tk, h9.ta⟩, below_store HS2.out.bel (by omega) _ _ _ _ _⟩
theorem followOk (n : Nat) : FollowOk n := Nat.strongRecOn n follow_step
end A1
end Go.Proofs.YtnppicekfjdefaaGreatDoor
