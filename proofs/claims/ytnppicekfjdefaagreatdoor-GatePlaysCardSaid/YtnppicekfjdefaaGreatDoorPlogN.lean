/- Contracts: purgelog's methods at a nil log. No condition. -/
import Derived.Test.YtnppicekfjdefaaGreatDoorPlogR
namespace Go.Proofs.YtnppicekfjdefaaGreatDoor
open Go.RowKit Pl Ad
attribute [local go_sem] ba_get ba_append ba_extract_end ba_extract_zero ba_extract
set_option maxRecDepth 100000
set_option maxHeartbeats 4000000
set_option linter.unusedVariables false
namespace A1
/-- ErrNone. -/
@[reducible] def noneV : Value := .iface 60 (.int .i64 3)
end A1
end Go.Proofs.YtnppicekfjdefaaGreatDoor
