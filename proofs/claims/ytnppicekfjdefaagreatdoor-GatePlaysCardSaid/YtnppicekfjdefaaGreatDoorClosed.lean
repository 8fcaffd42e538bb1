/- The closed facts of the seat's program that every row asks. No condition. -/
import Derived.Test.YtnppicekfjdefaaGreatDoorFrame
namespace Go.Proofs.YtnppicekfjdefaaGreatDoor
set_option maxRecDepth 100000
theorem Op.andT {a b : Bool} (ha : a = true) (hb : b = true) : (a && b) = true := by rw [ha, hb]; rfl
namespace Fr
theorem sf_laidOut : laidOutB Tryz.prog = true := by kernel_rfl
theorem sf_mapsRowed : mapsRowed Tryz.prog = true := by kernel_rfl
theorem sf_stops : (Tryz.prog.stops == []) = true := by kernel_rfl
theorem sf_stopKnobs : (Tryz.prog.stopKnobs == []) = true := by kernel_rfl
theorem sf_plainKeys : (Rows.gatePlaysRow.plainKeys == Tryz.prog.plainKeys) = true := by kernel_rfl
theorem sf_heard : Tryz.prog.stopsHeard = true := by kernel_rfl
theorem sf_mayEnter : Tryz.prog.mayEnter = true := by kernel_rfl
theorem sf_lifted : (Rows.gatePlaysRow.lifted == Tryz.prog.liftsFinal) = true := by kernel_rfl
theorem sf_make : (Tryz.prog.make == some Rows.gatePlaysRow.make) = true := by kernel_rfl
end Fr
end Go.Proofs.YtnppicekfjdefaaGreatDoor
