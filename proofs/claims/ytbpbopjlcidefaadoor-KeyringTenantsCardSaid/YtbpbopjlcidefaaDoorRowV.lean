/- A value that is a slice of rows of cells (structs), as it is read; an argument of that kind, opened. No condition. -/
import Derived.Test.YtbpbopjlcidefaaDoorWin
import Derived.Test.YtbpbopjlcidefaaDoorOpen
namespace Go.Proofs.YtbpbopjlcidefaaDoor
open Go.RowKit Pl
namespace A1
/-- A value holds these rows: R tells an element's cells, k how many. -/
def RowsV {α : Type} (R : α → List Value) (k : Nat) (w : World) (v : Value) (xs : List α) : Prop :=
  (xs = [] ∧ (v = .slice none 0 0 ∨ ∃ a c, v = .slice (some a) 0 c)) ∨
  ∃ b o c : Nat, v = .slice (some ⟨b, o, none⟩) xs.length c ∧ xs.length ≤ c ∧ b < w.heap.size ∧ ∀ i x, xs[i]? = some x → ∀ j u, (R x)[j]? = some u → w.cell? ⟨b, o + (i * k + j), none⟩ = some u
section
variable {α : Type} {R : α → List Value} {k : Nat} {w w' : World} {v : Value} {xs : List α}
theorem RowsV.below (h : RowsV R k w v xs) (hb : Below w.heap.size w w') : RowsV R k w' v xs := by
  rcases h with h | ⟨b, o, c, h1, h2, h3, h4⟩
  · exact .inl h
  · exact .inr ⟨b, o, c, h1, h2, Nat.lt_of_lt_of_le h3 hb.size, fun i x hx j u hu => by rw [hb.cell (p := ⟨b, _, none⟩) h3]; exact h4 i x hx j u hu⟩
theorem RowsV.drew (h : RowsV R k w v xs) : RowsV R k w.drew v xs := h.below (Below.refl _ _).drew
theorem RowsV.drewN (h : RowsV R k w v xs) (q : Nat) : RowsV R k (w.drewN q) v xs := h.below (below_drewN (Below.refl _ _) q)
theorem RowsV.alloc (h : RowsV R k w v xs) (o : Obj) : RowsV R k (w.alloc o) v xs := h.below ((Below.refl _ _).alloc (Nat.le_refl _) o)
theorem RowsV.form (h : RowsV R k w v xs) : ∃ a c, v = .slice a xs.length c ∧ xs.length ≤ c := by
  rcases h with ⟨rfl, rfl | ⟨a, c, rfl⟩⟩ | ⟨b, o, c, rfl, h, _⟩
  · exact ⟨_, _, rfl, Nat.le_refl _⟩
  · exact ⟨_, _, rfl, Nat.zero_le _⟩
  · exact ⟨_, _, rfl, h⟩
theorem RowsV.nil : RowsV R k w (.slice none 0 0) [] := .inl ⟨rfl, .inl rfl⟩
theorem RowsV.touch {S : Nat → Prop} (h : RowsV R k w v xs) (ht : Touch S w w') (hn : ∀ q, v.ownBlock = some q → ¬ S q) : RowsV R k w' v xs := by
  rcases h with h | ⟨b, o, c, h1, h2, h3, h4⟩
  · exact .inl h
  · refine .inr ⟨b, o, c, h1, h2, Nat.lt_of_lt_of_le h3 ht.size, fun i x hx j u hu => ht.cell (h4 i x hx j u hu) (hn b ?_)⟩
    rw [h1]; rfl
end
end A1
namespace Op
open Go.ChangeShapes Go.WideShapes Go.Deep A1
set_option maxRecDepth 100000
/-- An argument that is a slice of structs: each row's form is told by hrow; K is what else is known of an element. -/
theorem open_rows {α H : Type} {enc : TypeId × Value → H} {P : Program} {w : World} {base : Nat} {spare : Nat → Bool} {held : Bool} {R : α → List Value} {k : Nat} (K : α → Prop) {t e : TypeId} {fuel : Nat} {v : Value} {x : DataW H × List MemPlace}
    (ht : P.underlying t = some (.slice e)) (hC : P.cellsOf e = k) (hk : 0 < k)
    (hrow : ∀ n cs y, cs.length = k → DataW.trod enc P w base spare held n e cs = some y → ∃ x : α, cs = R x ∧ K x)
    (h : DataW.trod enc P w base spare held fuel t [v] = some x) : ∃ xs : List α, RowsV R k w v xs ∧ xs.length ≤ 9223372036854775807 ∧ ∀ x ∈ xs, K x := by
  rcases open_slice ht h with ⟨h1, _⟩ | ⟨a, len, cap, m, n, D, Pl, hcs, hb, hl, hm, hmm, _, hi⟩
  · simp only [List.cons.injEq, and_true] at h1
    exact ⟨[], .inl ⟨rfl, .inl h1⟩, by simp, fun x hx => by cases hx⟩
  · simp only [List.cons.injEq, and_true] at hcs
    subst hcs
    have hmax : maxLen = 9223372036854775807 := rfl
    rcases Nat.eq_zero_or_pos len with h0 | h0
    · subst h0
      exact ⟨[], .inl ⟨rfl, .inr ⟨a, cap, rfl⟩⟩, by simp, fun x hx => by cases hx⟩
    · have hle : len ≤ m := by rw [hmm]; split <;> omega
      have hg : ∀ i, i < len → ∃ x : α, K x ∧ ∀ j u, (R x)[j]? = some u → w.cell? (a.add (i * k + j)) = some u := fun i hil => by
        obtain ⟨cs', hc, ht'⟩ := hi i (by omega)
        rw [hC] at hc
        obtain ⟨_, hcl, hat⟩ := World.cells?_some hc
        obtain ⟨x, hx, hkx⟩ := hrow n cs' _ hcl ht'
        refine ⟨x, hkx, fun j u hu => ?_⟩
        have hj : j < k := by
          have := (List.getElem?_eq_some_iff.1 hu).1
          rw [← hx, hcl] at this; exact this
        rw [← Go.Deep.add_add, hat j hj, hx]; exact hu
      obtain ⟨xs, hxl, hxs⟩ := list_of len hg
      obtain ⟨b, o, sp⟩ := a
      obtain ⟨x0, _, hx0⟩ := hg 0 h0
      obtain ⟨cs0, hc0, ht0⟩ := hi 0 (by omega)
      rw [hC] at hc0
      obtain ⟨_, hcl0, hat0⟩ := World.cells?_some hc0
      have h00 := hat0 0 hk
      have hsome : w.cell? ((Addr.add (Addr.add ⟨b, o, sp⟩ (0 * k)) 0)) = some (cs0[0]'(by omega)) := by rw [h00]; exact List.getElem?_eq_getElem (by omega)
      rw [Go.Deep.add_add] at hsome
      obtain rfl : sp = none := by simpa [Addr.add] using World.cell?_spot hsome
      rw [add_off] at hsome
      refine ⟨xs, .inr ⟨b, o, cap, by rw [hxl], by omega, cell_lt hsome, fun i x hx j u hu => ?_⟩, by omega, fun x hx => ?_⟩
      · obtain ⟨hil, hix⟩ := List.getElem?_eq_some_iff.1 hx
        have := (hxs i hil).2 j u (by rw [hix]; exact hu)
        rw [add_off] at this
        exact this
      · obtain ⟨i, hil, rfl⟩ := List.getElem_of_mem hx
        exact (hxs i hil).1
end Op
end Go.Proofs.YtbpbopjlcidefaaDoor
