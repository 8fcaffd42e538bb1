/- A value that is a slice of strings, as it is read. No condition. -/
import Derived.Test.YtijjggbiljkalaaDoorLib
namespace Go.Proofs.YtijjggbiljkalaaDoor
open Go.RowKit Pl
namespace A1
/-- A value holds these strings. -/
def StrsV (w : World) (v : Value) (xs : List Bs) : Prop :=
  (xs = [] ∧ (v = .slice none 0 0 ∨ ∃ a c, v = .slice (some a) 0 c)) ∨ ∃ b o c : Nat, v = .slice (some ⟨b, o, none⟩) xs.length c ∧ xs.length ≤ c ∧ b < w.heap.size ∧ CellsAt w b o xs
theorem StrsV.below {w w' : World} {v : Value} {xs : List Bs} (h : StrsV w v xs) (hb : Below w.heap.size w w') : StrsV w' v xs := by
  rcases h with h | ⟨b, o, c, h1, h2, h3, h4⟩
  · exact .inl h
  · exact .inr ⟨b, o, c, h1, h2, Nat.lt_of_lt_of_le h3 hb.size, h4.below hb h3⟩
theorem StrsV.drewN {w : World} {v : Value} {xs : List Bs} (h : StrsV w v xs) (q : Nat) : StrsV (w.drewN q) v xs :=
  h.below (below_drewN (Below.refl _ _) q)
theorem CellsAt.one {w : World} {b o k : Nat} {xs : List Bs} (h : CellsAt w b o xs) (hk : k < xs.length) : w.cell? ⟨b, o + k, none⟩ = some (.string ⟨(xs[k]).toArray⟩) := h k xs[k] (by simp [hk])
theorem StrsV.form {w : World} {v : Value} {xs : List Bs} (h : StrsV w v xs) : ∃ a c, v = .slice a xs.length c := by
  rcases h with ⟨rfl, rfl | ⟨a, c, rfl⟩⟩ | ⟨b, o, c, rfl, _⟩
  · exact ⟨_, _, rfl⟩
  · exact ⟨_, _, rfl⟩
  · exact ⟨_, _, rfl⟩
end A1
end Go.Proofs.YtijjggbiljkalaaDoor
