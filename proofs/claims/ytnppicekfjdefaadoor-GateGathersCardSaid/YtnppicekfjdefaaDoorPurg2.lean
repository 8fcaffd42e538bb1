/- Contracts: the reference's Check of a purge. Conditions: texts of at most 2^27 bytes. -/
import Derived.Test.YtnppicekfjdefaaDoorAddrG
import Derived.Test.YtnppicekfjdefaaDoorPurg1
namespace Go.Proofs.YtnppicekfjdefaaDoor
open Go.RowKit Pl Ad
attribute [local go_sem] ba_get ba_append ba_extract_end ba_extract_zero ba_extract
set_option maxRecDepth 100000
set_option maxHeartbeats 4000000
set_option linter.unusedVariables false
namespace A1

/-- Block R holds three cells. -/
def Box3 (w : World) (R T : Nat) (v0 v1 v2 : Value) : Prop := w.heap[R]? = some (.cells #[v0, v1, v2] T (0, 0))
theorem Box3.facts {w : World} {R T : Nat} {v0 v1 v2 : Value} (h : Box3 w R T v0 v1 v2) :
    (w.cell? ⟨R, 0, none⟩ = some v0 ∧ w.cell? ⟨R, 1, none⟩ = some v1 ∧ w.cell? ⟨R, 2, none⟩ = some v2) ∧ (w.frozen? ⟨R, 0, none⟩ = false ∧ w.frozen? ⟨R, 1, none⟩ = false ∧ w.frozen? ⟨R, 2, none⟩ = false) ∧ R < w.heap.size := by
  refine ⟨⟨?_, ?_, ?_⟩, ⟨?_, ?_, ?_⟩, (Array.getElem?_eq_some_iff.1 h).1⟩
  all_goals first
    | (rw [cell_of_row w R _ _ T _ h]; rfl)
    | (unfold World.frozen?; rw [h]; rfl)
theorem Box3.below {w w' : World} {R T B : Nat} {v0 v1 v2 : Value} (h : Box3 w R T v0 v1 v2) (hb : Below B w w') (hR : R < B) : Box3 w' R T v0 v1 v2 := (hb.block R hR).trans h
theorem box3_new (w : World) (T : Nat) (v0 v1 v2 : Value) : Box3 (w.alloc (.cells #[v0, v1, v2] T)) w.heap.size T v0 v1 v2 := heap_alloc_new w _
theorem Box3.drew {w : World} {R T : Nat} {v0 v1 v2 : Value} (h : Box3 w R T v0 v1 v2) : Box3 w.drew R T v0 v1 v2 := h
theorem Box3.alloc {w : World} {R T : Nat} {v0 v1 v2 : Value} (h : Box3 w R T v0 v1 v2) (o : Obj) : Box3 (w.alloc o) R T v0 v1 v2 := h.below ((Below.refl _ _).alloc (Nat.le_refl _) o) h.facts.2.2
theorem Box3.older {w w' : World} {R T : Nat} {v0 v1 v2 : Value} (h : Box3 w R T v0 v1 v2) (hb : Below w.heap.size w w') : Box3 w' R T v0 v1 v2 := h.below hb h.facts.2.2
@[reducible] def pgV (p : Pg) : Value := .agg #[.int .i64 p.kind, .int .i64 p.tenant, .string ⟨p.value.toArray⟩]

end A1
end Go.Proofs.YtnppicekfjdefaaDoor
