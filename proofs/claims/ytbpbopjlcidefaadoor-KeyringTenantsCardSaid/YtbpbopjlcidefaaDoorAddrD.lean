/- Contracts: the laws' Of and Ref, the fixed example. No condition beyond the library's variable. -/
import Derived.Test.YtbpbopjlcidefaaDoorAddrC
namespace Go.Proofs.YtbpbopjlcidefaaDoor
open Go.RowKit Pl Ad
attribute [local go_sem] ba_get conv_one conv_one_drewN ba_append ba_extract
set_option maxRecDepth 100000
set_option maxHeartbeats 4000000
set_option linter.unusedVariables false
namespace A1

def awakeH : Bs := [65, 46, 69, 120, 97, 109, 112, 108, 101]
def awakeT : Bs := [47, 98, 47, 37, 55, 101, 99, 47, 46, 47, 100, 47, 46, 46, 47, 37, 50, 102, 63, 120, 61, 37, 51, 100, 38, 121]
def awakeA : Adr := ⟨[97, 46, 101, 120, 97, 109, 112, 108, 101], [47, 98, 47, 126, 99, 47, 37, 50, 70], [120, 61, 37, 51, 68, 38, 121], true⟩
theorem awake_parse : parse awakeH awakeT = .ok awakeA := by rfl

end A1
end Go.Proofs.YtbpbopjlcidefaaDoor
