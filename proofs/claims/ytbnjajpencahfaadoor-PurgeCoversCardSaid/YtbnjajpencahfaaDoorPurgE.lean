/- The comparison of two purges of the program's form. No condition. -/
import Derived.Test.YtbnjajpencahfaaDoorPurg4
import Derived.Laws.StructEq
namespace Go.Proofs.YtbnjajpencahfaaDoor
open Go.RowKit Pl Ad
set_option maxRecDepth 100000
set_option linter.unusedVariables false
namespace A1
theorem und_pg : Tryd.prog.underlying 30 = some (.struct (Tryd.prog.fieldsOf 30)) := by rfl
theorem held_pg : Tryd.prog.stoodInHeld 30 = false := by decide +kernel
theorem guardB_pg : Tryd.prog.eqGuardType Tryd.prog.depth 30 = false := by decide +kernel
theorem guard_pg (op : BinOp) (x y : Operand) (xs ys : Array Value) (w : World) : (eqGuard op 30 x y (.agg xs) (.agg ys)).run Tryd.prog w = .ok () w := run_eqGuard_agg w op 30 x y xs ys guardB_pg
theorem eql_pg (k t k' t' : Int) (v v' : Bs) (w : World) : (binOp .eql 30 (.agg #[.int .i64 k, .int .i64 t, .string ⟨v.toArray⟩]) (.agg #[.int .i64 k', .int .i64 t', .string ⟨v'.toArray⟩])).run Tryd.prog w = .ok (.bool (k == k' && (t == t' && v == v'))) w := by
  rw [run_eql_struct, run_equalIn_agg w 9999 _ _ _ und_pg held_pg]
  simp [go_sem]
  by_cases h1 : k = k' <;> by_cases h2 : t = t' <;> by_cases h3 : v = v' <;> simp [h1, h2, h3]
end A1
end Go.Proofs.YtbnjajpencahfaaDoor
