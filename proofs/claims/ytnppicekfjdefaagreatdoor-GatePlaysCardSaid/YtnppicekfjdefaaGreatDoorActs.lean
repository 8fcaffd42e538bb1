/- The acts of the laws over the log of purges, opened. No condition. An argument that is an array of three slices of acts, opened. No condition. -/
import Derived.Test.YtnppicekfjdefaaGreatDoorRowV
import Derived.Test.YtnppicekfjdefaaGreatDoorOpen
import Derived.Test.YtnppicekfjdefaaGreatDoorPurgP
import Derived.Lib.SmallJoins
section
namespace Go.Proofs.YtnppicekfjdefaaGreatDoor
open Go.ChangeShapes Go.WideShapes Go.Deep Go.RowKit Pl
set_option maxRecDepth 100000
open Ad
namespace Op
theorem u8_range {n : Int} (h : (Lit.int .u8 n).wf = true) : 0 ≤ n ∧ n < 256 := by
  simp only [Lit.wf, Bool.and_eq_true, decide_eq_true_eq] at h
  have h1 : IntKind.min .u8 = 0 := rfl
  have h2 : IntKind.max .u8 = 255 := by decide
  omega
end Op
end Go.Proofs.YtnppicekfjdefaaGreatDoor
end

section
namespace Go.Proofs.YtnppicekfjdefaaGreatDoor.Op
open Go.ChangeShapes Go.WideShapes Go.Deep Go.RowKit Pl A1 Ad
set_option maxRecDepth 100000
end Go.Proofs.YtnppicekfjdefaaGreatDoor.Op
end
