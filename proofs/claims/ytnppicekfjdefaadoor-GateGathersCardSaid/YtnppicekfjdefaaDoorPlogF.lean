/- Contracts: the laws' fits and Are over the log of purges. Conditions: at most a million purges. -/
import Derived.Test.YtnppicekfjdefaaDoorPlogR
import Derived.Test.YtnppicekfjdefaaDoorPurg6
import Derived.Test.YtnppicekfjdefaaDoorPurg4
namespace Go.Proofs.YtnppicekfjdefaaDoor
open Go.RowKit Pl Ad
attribute [local go_sem] ba_get ba_append ba_extract_end ba_extract_zero ba_extract
set_option maxRecDepth 100000
set_option maxHeartbeats 4000000
set_option linter.unusedVariables false
namespace A1
theorem neq_pg (k t k' t' : Int) (v v' : Bs) (w : World) : (binOp .neq 50 (.agg #[.int .i64 k, .int .i64 t, .string ⟨v.toArray⟩]) (.agg #[.int .i64 k', .int .i64 t', .string ⟨v'.toArray⟩])).run Tryd.prog w = .ok (.bool (!(k == k' && (t == t' && v == v')))) w := by
  rw [run_neq_struct, run_equalIn_agg w 9999 _ _ _ und_pg held_pg]
  simp [go_sem]
  by_cases h1 : k = k' <;> by_cases h2 : t = t' <;> by_cases h3 : v = v' <;> simp [h1, h2, h3]
attribute [local go_sem] guard_pg eql_pg neq_pg
/-- The cells of the k-th row. -/
theorem RowsV.at {α : Type} {R : α → List Value} {k : Nat} {w : World} {v : Value} {xs : List α} (h : RowsV R k w v xs) {i : Nat} (hi : i < xs.length) :
    ∃ b o c : Nat, v = .slice (some ⟨b, o, none⟩) xs.length c ∧ xs.length ≤ c ∧ b < w.heap.size ∧ ∀ j u, (R xs[i])[j]? = some u → w.cell? ⟨b, o + (i * k + j), none⟩ = some u := by
  rcases h with ⟨rfl, _⟩ | ⟨b, o, c, h1, h2, h3, h4⟩
  · simp at hi
  · exact ⟨b, o, c, h1, h2, h3, fun j u hu => h4 i xs[i] (List.getElem?_eq_getElem hi) j u hu⟩
end A1
end Go.Proofs.YtnppicekfjdefaaDoor
