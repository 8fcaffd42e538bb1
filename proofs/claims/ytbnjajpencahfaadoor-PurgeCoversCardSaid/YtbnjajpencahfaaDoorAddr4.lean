/- Contract: the reference's Cut. Conditions: texts of at most 2^31 bytes. -/
import Derived.Test.YtbnjajpencahfaaDoorAddr1
import Derived.Test.YtbnjajpencahfaaDoorApp
namespace Go.Proofs.YtbnjajpencahfaaDoor
open Go.RowKit Pl Ad
attribute [local go_sem] ba_get conv_one conv_one_drewN ba_append ba_extract
set_option maxRecDepth 100000
set_option maxHeartbeats 4000000
set_option linter.unusedVariables false
namespace A1

theorem cut_hit (c : UInt8) (l : Bs) (j k : Nat) (hk : k < l.length) (h : l[k] = c) (acc : List Bs) :
    acc ++ splitAcc c ((l.drop j).take (k - j)) (l.drop k) = (acc ++ [(l.drop j).take (k - j)]) ++ splitAcc c ((l.drop (k + 1)).take (k + 1 - (k + 1))) (l.drop (k + 1)) := by
  rw [drop_cons hk, splitAcc, if_pos h]; simp
theorem cut_miss (c : UInt8) (l : Bs) (j k : Nat) (hj : j ≤ k) (hk : k < l.length) (h : ¬ l[k] = c) (acc : List Bs) :
    acc ++ splitAcc c ((l.drop j).take (k - j)) (l.drop k) = acc ++ splitAcc c ((l.drop j).take (k + 1 - j)) (l.drop (k + 1)) := by
  rw [drop_cons hk, splitAcc, if_neg h]
  have e : (l.drop j).take (k + 1 - j) = (l.drop j).take (k - j) ++ [l[k]] := by
    rw [show k + 1 - j = (k - j) + 1 by omega, take_snoc (by simp; omega)]
    simp [show j + (k - j) = k by omega]
  rw [e]

end A1
end Go.Proofs.YtbnjajpencahfaaDoor
