/- The comparison of two purges of the reference. No condition. -/
import Derived.Test.YtofancbnaeabhaaGreatDoorPurg4
import Derived.Laws.StructEq
namespace Go.Proofs.YtofancbnaeabhaaGreatDoor
open Go.RowKit Pl Ad
set_option maxRecDepth 100000
set_option linter.unusedVariables false
namespace A1
theorem und_rpg : Tryz.prog.underlying 70 = some (.struct (Tryz.prog.fieldsOf 70)) := by rfl
theorem held_rpg : Tryz.prog.stoodInHeld 70 = false := by decide +kernel
theorem guardB_rpg : Tryz.prog.eqGuardType Tryz.prog.depth 70 = false := by decide +kernel
theorem guard_rpg (op : BinOp) (x y : Operand) (xs ys : Array Value) (w : World) : (eqGuard op 70 x y (.agg xs) (.agg ys)).run Tryz.prog w = .ok () w := run_eqGuard_agg w op 70 x y xs ys guardB_rpg
theorem eql_rpg (k t k' t' : Int) (v v' : Bs) (w : World) : (binOp .eql 70 (.agg #[.int .i64 k, .int .i64 t, .string ⟨v.toArray⟩]) (.agg #[.int .i64 k', .int .i64 t', .string ⟨v'.toArray⟩])).run Tryz.prog w = .ok (.bool (k == k' && (t == t' && v == v'))) w := by
  rw [run_eql_struct, run_equalIn_agg w 9999 _ _ _ und_rpg held_rpg]
  simp [go_sem]
  by_cases h1 : k = k' <;> by_cases h2 : t = t' <;> by_cases h3 : v = v' <;> simp [h1, h2, h3]
end A1
end Go.Proofs.YtofancbnaeabhaaGreatDoor
