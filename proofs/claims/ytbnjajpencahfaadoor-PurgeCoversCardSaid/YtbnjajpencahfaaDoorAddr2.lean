/- Contracts: quaysideref01.Lower, address.canonical and the reference's canonical. Conditions: texts of at most 2^31 bytes. -/
import Derived.Test.YtbnjajpencahfaaDoorAddr1
import Derived.BigQuiet
import Derived.Deep.QuietTactic
namespace Go.Proofs.YtbnjajpencahfaaDoor
open Go.RowKit Pl Ad
attribute [local go_sem] ba_get conv_one conv_one_drewN ba_append ba_extract
set_option maxRecDepth 100000
set_option maxHeartbeats 4000000
set_option linter.unusedVariables false
namespace A1
theorem lower_len (l : Bs) : (lower l).length = l.length := by simp [lower]
theorem lower_take (l : Bs) (k : Nat) (h : k < l.length) : lower (l.take (k + 1)) = lower (l.take k) ++ [lowB l[k]] := by
  simp only [lower, take_snoc h, List.map_append, List.map_cons, List.map_nil]
def marks : Bs := [33, 36, 38, 39, 40, 41, 42, 43, 44, 59, 61, 58, 64, 47]

end A1
end Go.Proofs.YtbnjajpencahfaaDoor
