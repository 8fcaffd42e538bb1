/- Contracts of the small functions of package address and of its references: bytes, hexadecimal digits, membership, lower case. Conditions: texts of at most 2^31 bytes. -/
import Derived.Test.YtijjggbiljkalaaDoorAddrP
import Derived.Test.YtijjggbiljkalaaDoorLib
import Derived.WalkKit
import Derived.WalkLawsBesides
import Derived.WalkSpells
import Derived.Lib.Hide
namespace Go.Proofs.YtijjggbiljkalaaDoor
open Go.RowKit Pl Ad
attribute [local go_sem] ba_get
theorem ret_bool {a b : Bool} (h : a = b) : Ending.returned (.bool a) = Ending.returned (.bool b) := by rw [h]
theorem ret_int {k : IntKind} {a b : Int} (h : a = b) : Ending.returned (.int k a) = Ending.returned (.int k b) := by rw [h]
theorem ret_str {a b : Bs} (h : a = b) : Ending.returned (.string ⟨a.toArray⟩) = Ending.returned (.string ⟨b.toArray⟩) := by rw [h]

set_option maxRecDepth 100000
set_option maxHeartbeats 4000000
set_option linter.unusedVariables false
namespace A1
theorem alnum_any (c : Int) (w : World) (h0 : 0 ≤ c) (h1 : c ≤ 255) :
    Calls Tryd.prog 94 #[.int .u8 c] w fun e w' => e = .returned (.bool (alnumB c)) ∧ w = w' := by
  go_enter Tryd.func94, Tryd.ntmps94
  go_wp2
  all_goals go_ret
  all_goals exact ⟨ret_bool (by rw [Bool.eq_iff_iff]; simp [alnumB]; try omega), rfl⟩

theorem refAlnum_any (c : Int) (w : World) (h0 : 0 ≤ c) (h1 : c ≤ 255) :
    Calls Tryd.prog 131 #[.int .u8 c] w fun e w' => e = .returned (.bool (alnumB c)) ∧ w = w' := by
  go_enter Tryd.func131, Tryd.ntmps131
  go_wp2
  all_goals go_ret
  all_goals exact ⟨ret_bool (by rw [Bool.eq_iff_iff]; simp [alnumB]; try omega), rfl⟩

theorem unres_of (c : Int) : unresB c = (alnumB c || (decide (c = 45) || decide (c = 46) || decide (c = 95) || decide (c = 126))) := by
  rw [Bool.eq_iff_iff]; simp [alnumB, unresB]; omega

theorem unreserved_any (c : Int) (w : World) (h0 : 0 ≤ c) (h1 : c ≤ 255) :
    Calls Tryd.prog 96 #[.int .u8 c] w fun e w' => e = .returned (.bool (unresB c)) ∧ w = w' := by
  go_enter Tryd.func96, Tryd.ntmps96
  go_wp2_with (go_at_call 94; refine (alnum_any _ _ (by omega) (by omega)).mono ?_; rintro e w' ⟨rfl, rfl⟩)
  all_goals go_ret
  all_goals exact ⟨ret_bool (by rw [unres_of, Bool.eq_iff_iff]; simp [*]), rfl⟩

theorem digit_any (c : Int) (w : World) (h0 : 0 ≤ c) (h1 : c ≤ 255) :
    Calls Tryd.prog 97 #[.int .u8 c] w fun e w' => e = .returned (.int .i64 (hexv c)) ∧ w = w' := by
  go_enter Tryd.func97, Tryd.ntmps97
  go_wp2
  all_goals go_ret
  all_goals exact ⟨ret_int (by unfold hexv; split <;> (try split) <;> (try split) <;> omega), rfl⟩

theorem refHex_any (c : Int) (w : World) (h0 : 0 ≤ c) (h1 : c ≤ 255) :
    Calls Tryd.prog 135 #[.int .u8 c] w fun e w' => e = .returned (.int .i64 (hexv c)) ∧ w = w' := by
  go_enter Tryd.func135, Tryd.ntmps135
  go_wp2
  all_goals go_ret
  all_goals exact ⟨ret_int (by unfold hexv; split <;> (try split) <;> (try split) <;> omega), rfl⟩

theorem inB_nil (c : Int) : inB [] c = false := rfl
theorem inB_cons (b : UInt8) (t : Bs) (c : Int) : inB (b :: t) c = (decide ((b.toNat : Int) = c) || inB t c) := rfl

theorem in_any (l : Bs) (c : Int) (w : World) (h0 : 0 ≤ c) (h1 : c ≤ 255) (hl : l.length ≤ 2147483648) :
    Calls Tryd.prog 134 #[.string ⟨l.toArray⟩, .int .u8 c] w fun e w' => e = .returned (.bool (inB l c)) ∧ w = w' := by
  go_enter Tryd.func134, Tryd.ntmps134
  go_wp2
  go_loop [8] (fun i => ∃ k : Nat, k ≤ l.length ∧ i = .int .i64 k ∧ Hid (inB l c = inB (l.drop k) c)) (fun i => l.length - (intOf i).toNat)
  case atStart => exact ⟨0, Nat.zero_le _, rfl, rfl⟩
  case round =>
    obtain ⟨k, hk, rfl, H⟩ := hrel
    by_cases hlt : k < l.length
    · have H2 := Lib.hid (drop_cons hlt)
      by_cases he : (l[k].toNat : Int) = c
      · have hb : ((l[k].toNat : Int) == c) = true := beq_iff_eq.2 he
        have H3 := Lib.hid he
        clear he
        go_wp2
        go_ret
        exact ⟨ret_bool (by rw [H.out, H2.out, inB_cons, H3.out]; simp), rfl⟩
      · have hb : ((l[k].toNat : Int) == c) = false := beq_eq_false_iff_ne.2 he
        go_wp2
        go_round
        case rel => exact ⟨k + 1, by omega, by go_num, by show inB l c = _; rw [H.out, H2.out, inB_cons]; simp [he]⟩
        case measure => simp [intOf]; omega
    · go_wp2
      go_ret
      exact ⟨ret_bool (by rw [H.out, List.drop_of_length_le (by omega), inB_nil]), rfl⟩

theorem refUnreserved_any (c : Int) (w : World) (h0 : 0 ≤ c) (h1 : c ≤ 255) :
    Calls Tryd.prog 133 #[.int .u8 c] w fun e w' => e = .returned (.bool (unresB c)) ∧ w = w' := by
  go_enter Tryd.func133, Tryd.ntmps133
  go_wp2_with (first | (go_at_call 131; refine (refAlnum_any _ _ (by omega) (by omega)).mono ?_; rintro e w' ⟨rfl, rfl⟩) | (go_at_call 134; refine (in_any [45, 46, 95, 126] _ _ (by omega) (by omega) (by decide)).mono ?_; rintro e w' ⟨rfl, rfl⟩))
  all_goals go_ret
  all_goals exact ⟨ret_bool (by rw [unres_of, Bool.eq_iff_iff]; simp [*, inB]; try omega), rfl⟩

end A1
end Go.Proofs.YtijjggbiljkalaaDoor
