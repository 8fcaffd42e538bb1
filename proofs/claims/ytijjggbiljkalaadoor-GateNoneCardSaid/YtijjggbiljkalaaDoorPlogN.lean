/- Contracts: purgelog's methods at a nil log. No condition. -/
import Derived.Test.YtijjggbiljkalaaDoorPlogR
namespace Go.Proofs.YtijjggbiljkalaaDoor
open Go.RowKit Pl Ad
attribute [local go_sem] ba_get ba_append ba_extract_end ba_extract_zero ba_extract
set_option maxRecDepth 100000
set_option maxHeartbeats 4000000
set_option linter.unusedVariables false
namespace A1
/-- ErrNone. -/
@[reducible] def noneV : Value := .iface 29 (.int .i64 3)
theorem nilShrink (n : Int) (w : World) : Calls Tryd.prog 39 #[.pointer none, .int .i64 n] w fun e w' => e = .returned (.tuple #[]) ∧ w = w' := by
  go_enter Tryd.func39, Tryd.ntmps39
  go_wp2_with fail
  exact bodyPost_ret (v := .tuple #[]) (by simp [results, Tryd.results39, go_sem]) rfl ⟨rfl, rfl⟩
theorem nilAppend (k t : Int) (s : Bs) (w : World) : Calls Tryd.prog 22 #[.pointer none, .agg #[.int .i64 k, .int .i64 t, .string ⟨s.toArray⟩]] w fun e w' => e = .returned (.tuple #[.int .i64 0, noneV]) ∧ Below w.heap.size w w' := by
  go_enter Tryd.func22, Tryd.ntmps22
  go_wp2_with fail
  go_ret2
  exact ⟨rfl, (Below.refl _ _).alloc (Nat.le_refl _) _⟩
theorem nilGet (n : Int) (w : World) : Calls Tryd.prog 25 #[.pointer none, .int .i64 n] w fun e w' => e = .returned (.tuple #[noPg, noneV]) ∧ Below w.heap.size w w' := by
  go_enter Tryd.func25, Tryd.ntmps25
  go_wp2_with fail
  refine bodyPost_ret (v := .tuple #[noPg, noneV]) (by simp [results, Tryd.results25, go_sem]) rfl ⟨rfl, ?_⟩
  exact (Below.refl _ _).alloc (Nat.le_refl _) _
theorem nilSince (n : Int) (w : World) : Calls Tryd.prog 40 #[.pointer none, .int .i64 n] w fun e w' => e = .returned (.tuple #[.slice none 0 0, noneV]) ∧ w = w' := by
  go_enter Tryd.func40, Tryd.ntmps40
  go_wp2_with fail
  go_ret2
  exact ⟨rfl, rfl⟩
theorem nilCovered (xt : Int) (xa : Bs) (ua : Option Addr) (ul uc : Nat) (n : Int) (w : World) : Calls Tryd.prog 36 #[.pointer none, .agg #[.int .i64 xt, .string ⟨xa.toArray⟩, .slice ua ul uc], .int .i64 n] w fun e w' => e = .returned (.tuple #[.int .i64 0, .bool false, noneV]) ∧ Below w.heap.size w w' := by
  go_enter Tryd.func36, Tryd.ntmps36
  go_wp2_with (go_at_call 40; refine (nilSince n _).mono ?_; rintro e w' ⟨rfl, rfl⟩)
  go_ret3
  exact ⟨rfl, (Below.refl _ _).alloc (Nat.le_refl _) _⟩
theorem nilLast (w : World) : Calls Tryd.prog 17 #[.pointer none] w fun e w' => e = .returned (.int .i64 0) ∧ w = w' := by
  go_enter Tryd.func17, Tryd.ntmps17
  go_wp2_with fail
  go_ret
  exact ⟨rfl, rfl⟩
theorem nilFirst (w : World) : Calls Tryd.prog 18 #[.pointer none] w fun e w' => e = .returned (.int .i64 0) ∧ w = w' := by
  go_enter Tryd.func18, Tryd.ntmps18
  go_wp2_with fail
  go_ret
  exact ⟨rfl, rfl⟩
theorem nilCopy (w : World) : Calls Tryd.prog 28 #[.pointer none] w fun e w' => e = .returned (.pointer none) ∧ w = w' := by
  go_enter Tryd.func28, Tryd.ntmps28
  go_wp2_with fail
  go_ret
  exact ⟨rfl, rfl⟩
end A1
end Go.Proofs.YtijjggbiljkalaaDoor
