/- The comparison of two purges of the program's form. No condition. -/
import Derived.Test.YtbnjajpencahfaaGreatDoorPurg4
import Derived.Laws.StructEq
namespace Go.Proofs.YtbnjajpencahfaaGreatDoor
open Go.RowKit Pl Ad
set_option maxRecDepth 100000
set_option linter.unusedVariables false
namespace A1
theorem und_pg : Tryz.prog.underlying 31 = some (.struct (Tryz.prog.fieldsOf 31)) := by rfl
theorem held_pg : Tryz.prog.stoodInHeld 31 = false := by decide +kernel
theorem guardB_pg : Tryz.prog.eqGuardType Tryz.prog.depth 31 = false := by decide +kernel
theorem guard_pg (op : BinOp) (x y : Operand) (xs ys : Array Value) (w : World) : (eqGuard op 31 x y (.agg xs) (.agg ys)).run Tryz.prog w = .ok () w := run_eqGuard_agg w op 31 x y xs ys guardB_pg
theorem eql_pg (k t k' t' : Int) (v v' : Bs) (w : World) : (binOp .eql 31 (.agg #[.int .i64 k, .int .i64 t, .string ⟨v.toArray⟩]) (.agg #[.int .i64 k', .int .i64 t', .string ⟨v'.toArray⟩])).run Tryz.prog w = .ok (.bool (k == k' && (t == t' && v == v'))) w := by
  rw [run_eql_struct, run_equalIn_agg w 9999 _ _ _ und_pg held_pg]
  simp [go_sem]
  by_cases h1 : k = k' <;> by_cases h2 : t = t' <;> by_cases h3 : v = v' <;> simp [h1, h2, h3]
end A1
end Go.Proofs.YtbnjajpencahfaaGreatDoor
