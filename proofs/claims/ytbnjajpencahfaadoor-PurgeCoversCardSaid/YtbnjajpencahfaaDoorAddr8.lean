/- Contract: the reference's dots. Conditions: texts of at most 2^31 bytes. -/
import Derived.Test.YtbnjajpencahfaaDoorAddrQ
import Derived.Test.YtbnjajpencahfaaDoorAddr7
namespace Go.Proofs.YtbnjajpencahfaaDoor
open Go.RowKit Pl Ad
attribute [local go_sem] ba_get conv_one conv_one_drewN ba_append ba_extract
set_option maxRecDepth 100000
set_option maxHeartbeats 4000000
set_option linter.unusedVariables false
namespace A1

end A1
end Go.Proofs.YtbnjajpencahfaaDoor
