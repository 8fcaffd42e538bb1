/- Contracts: purgelog's methods at a nil log. No condition. -/
import Derived.Test.YtnppicekfjdefaaDoorPlogR
namespace Go.Proofs.YtnppicekfjdefaaDoor
open Go.RowKit Pl Ad
attribute [local go_sem] ba_get ba_append ba_extract_end ba_extract_zero ba_extract
set_option maxRecDepth 100000
set_option maxHeartbeats 4000000
set_option linter.unusedVariables false
namespace A1
/-- ErrNone. -/
@[reducible] def noneV : Value := .iface 58 (.int .i64 3)
theorem nilAppend (k t : Int) (s : Bs) (w : World) : Calls Tryd.prog 23 #[.pointer none, .agg #[.int .i64 k, .int .i64 t, .string ⟨s.toArray⟩]] w fun e w' => e = .returned (.tuple #[.int .i64 0, noneV]) ∧ Below w.heap.size w w' := by
  go_enter Tryd.func23, Tryd.ntmps23
  go_wp2_with fail
  go_ret2
  exact ⟨rfl, (Below.refl _ _).alloc (Nat.le_refl _) _⟩
theorem nilSince (n : Int) (w : World) : Calls Tryd.prog 37 #[.pointer none, .int .i64 n] w fun e w' => e = .returned (.tuple #[.slice none 0 0, noneV]) ∧ w = w' := by
  go_enter Tryd.func37, Tryd.ntmps37
  go_wp2_with fail
  go_ret2
  exact ⟨rfl, rfl⟩
theorem nilCovered (xt : Int) (xa : Bs) (ua : Option Addr) (ul uc : Nat) (n : Int) (w : World) : Calls Tryd.prog 24 #[.pointer none, .agg #[.int .i64 xt, .string ⟨xa.toArray⟩, .slice ua ul uc], .int .i64 n] w fun e w' => e = .returned (.tuple #[.int .i64 0, .bool false, noneV]) ∧ Below w.heap.size w w' := by
  go_enter Tryd.func24, Tryd.ntmps24
  go_wp2_with (go_at_call 37; refine (nilSince n _).mono ?_; rintro e w' ⟨rfl, rfl⟩)
  go_ret3
  exact ⟨rfl, (Below.refl _ _).alloc (Nat.le_refl _) _⟩
theorem nilLast (w : World) : Calls Tryd.prog 36 #[.pointer none] w fun e w' => e = .returned (.int .i64 0) ∧ w = w' := by
  go_enter Tryd.func36, Tryd.ntmps36
  go_wp2_with fail
  go_ret
  exact ⟨rfl, rfl⟩
end A1
end Go.Proofs.YtnppicekfjdefaaDoor
