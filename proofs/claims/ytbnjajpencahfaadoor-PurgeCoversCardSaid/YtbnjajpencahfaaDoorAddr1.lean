/- Contracts of the small functions of package address and of its references: bytes, hexadecimal digits, membership, lower case. Conditions: texts of at most 2^31 bytes. -/
import Derived.Test.YtbnjajpencahfaaDoorAddrP
import Derived.Test.YtbnjajpencahfaaDoorLib
import Derived.WalkKit
import Derived.WalkLawsBesides
import Derived.WalkSpells
import Derived.Lib.Hide
namespace Go.Proofs.YtbnjajpencahfaaDoor
open Go.RowKit Pl Ad
attribute [local go_sem] ba_get
theorem ret_bool {a b : Bool} (h : a = b) : Ending.returned (.bool a) = Ending.returned (.bool b) := by rw [h]
theorem ret_int {k : IntKind} {a b : Int} (h : a = b) : Ending.returned (.int k a) = Ending.returned (.int k b) := by rw [h]
theorem ret_str {a b : Bs} (h : a = b) : Ending.returned (.string ⟨a.toArray⟩) = Ending.returned (.string ⟨b.toArray⟩) := by rw [h]

set_option maxRecDepth 100000
set_option maxHeartbeats 4000000
set_option linter.unusedVariables false
namespace A1
theorem alnum_any (c : Int) (w : World) (h0 : 0 ≤ c) (h1 : c ≤ 255) :
    Calls Tryd.prog 41 #[.int .u8 c] w fun e w' => e = .returned (.bool (alnumB c)) ∧ w = w' := by
  go_enter Tryd.func41, Tryd.ntmps41
  go_wp2
  all_goals go_ret
  all_goals exact ⟨ret_bool (by rw [Bool.eq_iff_iff]; simp [alnumB]; try omega), rfl⟩

theorem unres_of (c : Int) : unresB c = (alnumB c || (decide (c = 45) || decide (c = 46) || decide (c = 95) || decide (c = 126))) := by
  rw [Bool.eq_iff_iff]; simp [alnumB, unresB]; omega

theorem unreserved_any (c : Int) (w : World) (h0 : 0 ≤ c) (h1 : c ≤ 255) :
    Calls Tryd.prog 43 #[.int .u8 c] w fun e w' => e = .returned (.bool (unresB c)) ∧ w = w' := by
  go_enter Tryd.func43, Tryd.ntmps43
  go_wp2_with (go_at_call 41; refine (alnum_any _ _ (by omega) (by omega)).mono ?_; rintro e w' ⟨rfl, rfl⟩)
  all_goals go_ret
  all_goals exact ⟨ret_bool (by rw [unres_of, Bool.eq_iff_iff]; simp [*]), rfl⟩

theorem digit_any (c : Int) (w : World) (h0 : 0 ≤ c) (h1 : c ≤ 255) :
    Calls Tryd.prog 44 #[.int .u8 c] w fun e w' => e = .returned (.int .i64 (hexv c)) ∧ w = w' := by
  go_enter Tryd.func44, Tryd.ntmps44
  go_wp2
  all_goals go_ret
  all_goals exact ⟨ret_int (by unfold hexv; split <;> (try split) <;> (try split) <;> omega), rfl⟩

theorem inB_nil (c : Int) : inB [] c = false := rfl
theorem inB_cons (b : UInt8) (t : Bs) (c : Int) : inB (b :: t) c = (decide ((b.toNat : Int) = c) || inB t c) := rfl

end A1
end Go.Proofs.YtbnjajpencahfaaDoor
