/- The closed facts of the seat's program that every row asks. No condition. -/
import Derived.Test.YtnppicekfjdefaaDoorFrame
namespace Go.Proofs.YtnppicekfjdefaaDoor
set_option maxRecDepth 100000
theorem Op.andT {a b : Bool} (ha : a = true) (hb : b = true) : (a && b) = true := by rw [ha, hb]; rfl
namespace Fr
theorem sf_laidOut : laidOutB Tryd.prog = true := by kernel_rfl
theorem sf_mapsRowed : mapsRowed Tryd.prog = true := by kernel_rfl
theorem sf_stops : (Tryd.prog.stops == []) = true := by kernel_rfl
theorem sf_stopKnobs : (Tryd.prog.stopKnobs == []) = true := by kernel_rfl
theorem sf_plainKeys : (Rows.gateSafeRow.plainKeys == Tryd.prog.plainKeys) = true := by kernel_rfl
theorem sf_heard : Tryd.prog.stopsHeard = true := by kernel_rfl
theorem sf_mayEnter : Tryd.prog.mayEnter = true := by kernel_rfl
theorem sf_lifted : (Rows.gateSafeRow.lifted == Tryd.prog.liftsFinal) = true := by kernel_rfl
theorem sf_make : (Tryd.prog.make == some Rows.gateSafeRow.make) = true := by kernel_rfl
end Fr
end Go.Proofs.YtnppicekfjdefaaDoor
