/- Contracts of the small functions of package address and of its references: bytes, hexadecimal digits, membership, lower case. Conditions: texts of at most 2^31 bytes. -/
import Derived.Test.YthbjpekgiiflkaaDoorAddrP
import Derived.Test.YthbjpekgiiflkaaDoorLib
import Derived.WalkKit
import Derived.WalkLawsBesides
import Derived.WalkSpells
import Derived.Lib.Hide
namespace Go.Proofs.YthbjpekgiiflkaaDoor
open Go.RowKit Pl Ad
attribute [local go_sem] ba_get

theorem ret_bool {a b : Bool} (h : a = b) : Ending.returned (.bool a) = Ending.returned (.bool b) := by rw [h]
theorem ret_int {k : IntKind} {a b : Int} (h : a = b) : Ending.returned (.int k a) = Ending.returned (.int k b) := by rw [h]
theorem ret_str {a b : Bs} (h : a = b) : Ending.returned (.string ⟨a.toArray⟩) = Ending.returned (.string ⟨b.toArray⟩) := by rw [h]

set_option maxRecDepth 100000
set_option maxHeartbeats 4000000
set_option linter.unusedVariables false
namespace A1
theorem alnum_any (c : Int) (w : World) (h0 : 0 ≤ c) (h1 : c ≤ 255) :
    Calls Tryd.prog 36 #[.int .u8 c] w fun e w' => e = .returned (.bool (alnumB c)) ∧ w = w' := by
  go_enter Tryd.func36, Tryd.ntmps36
  go_wp2
  all_goals go_ret
  all_goals exact ⟨ret_bool (by rw [Bool.eq_iff_iff]; simp [alnumB]; try omega), rfl⟩

theorem refAlnum_any (c : Int) (w : World) (h0 : 0 ≤ c) (h1 : c ≤ 255) :
    Calls Tryd.prog 38 #[.int .u8 c] w fun e w' => e = .returned (.bool (alnumB c)) ∧ w = w' := by
  go_enter Tryd.func38, Tryd.ntmps38
  go_wp2
  all_goals go_ret
  all_goals exact ⟨ret_bool (by rw [Bool.eq_iff_iff]; simp [alnumB]; try omega), rfl⟩

theorem unres_of (c : Int) : unresB c = (alnumB c || (decide (c = 45) || decide (c = 46) || decide (c = 95) || decide (c = 126))) := by
  rw [Bool.eq_iff_iff]; simp [alnumB, unresB]; omega

theorem unreserved_any (c : Int) (w : World) (h0 : 0 ≤ c) (h1 : c ≤ 255) :
    Calls Tryd.prog 53 #[.int .u8 c] w fun e w' => e = .returned (.bool (unresB c)) ∧ w = w' := by
  go_enter Tryd.func53, Tryd.ntmps53
  go_wp2_with (go_at_call 36; refine (alnum_any _ _ (by omega) (by omega)).mono ?_; rintro e w' ⟨rfl, rfl⟩)
  all_goals go_ret
  all_goals exact ⟨ret_bool (by rw [unres_of, Bool.eq_iff_iff]; simp [*]), rfl⟩

theorem digit_any (c : Int) (w : World) (h0 : 0 ≤ c) (h1 : c ≤ 255) :
    Calls Tryd.prog 54 #[.int .u8 c] w fun e w' => e = .returned (.int .i64 (hexv c)) ∧ w = w' := by
  go_enter Tryd.func54, Tryd.ntmps54
  go_wp2
  all_goals go_ret
  all_goals exact ⟨ret_int (by unfold hexv; split <;> (try split) <;> (try split) <;> omega), rfl⟩

theorem refHex_any (c : Int) (w : World) (h0 : 0 ≤ c) (h1 : c ≤ 255) :
    Calls Tryd.prog 60 #[.int .u8 c] w fun e w' => e = .returned (.int .i64 (hexv c)) ∧ w = w' := by
  go_enter Tryd.func60, Tryd.ntmps60
  go_wp2
  all_goals go_ret
  all_goals exact ⟨ret_int (by unfold hexv; split <;> (try split) <;> (try split) <;> omega), rfl⟩

theorem inB_nil (c : Int) : inB [] c = false := rfl
theorem inB_cons (b : UInt8) (t : Bs) (c : Int) : inB (b :: t) c = (decide ((b.toNat : Int) = c) || inB t c) := rfl

theorem in_any (l : Bs) (c : Int) (w : World) (h0 : 0 ≤ c) (h1 : c ≤ 255) (hl : l.length ≤ 2147483648) :
    Calls Tryd.prog 59 #[.string ⟨l.toArray⟩, .int .u8 c] w fun e w' => e = .returned (.bool (inB l c)) ∧ w = w' := by
  go_enter Tryd.func59, Tryd.ntmps59
  go_wp2
  go_loop [8] (fun i => ∃ k : Nat, k ≤ l.length ∧ i = .int .i64 k ∧ Hid (inB l c = inB (l.drop k) c)) (fun i => l.length - (intOf i).toNat)
  case atStart => exact ⟨0, Nat.zero_le _, rfl, rfl⟩
  case round =>
    obtain ⟨k, hk, rfl, H⟩ := hrel
    by_cases hlt : k < l.length
    · have H2 := Lib.hid (drop_cons hlt)
      by_cases he : (l[k].toNat : Int) = c
      · have hb : ((l[k].toNat : Int) == c) = true := beq_iff_eq.2 he
        have H3 := Lib.hid he
        clear he
        go_wp2
        go_ret
        exact ⟨ret_bool (by rw [H.out, H2.out, inB_cons, H3.out]; simp), rfl⟩
      · have hb : ((l[k].toNat : Int) == c) = false := beq_eq_false_iff_ne.2 he
        go_wp2
        go_round
        case rel => exact ⟨k + 1, by omega, by go_num, by show inB l c = _; rw [H.out, H2.out, inB_cons]; simp [he]⟩
        case measure => simp [intOf]; omega
    · go_wp2
      go_ret
      exact ⟨ret_bool (by rw [H.out, List.drop_of_length_le (by omega), inB_nil]), rfl⟩

theorem refUnreserved_any (c : Int) (w : World) (h0 : 0 ≤ c) (h1 : c ≤ 255) :
    Calls Tryd.prog 58 #[.int .u8 c] w fun e w' => e = .returned (.bool (unresB c)) ∧ w = w' := by
  go_enter Tryd.func58, Tryd.ntmps58
  go_wp2_with (first | (go_at_call 38; refine (refAlnum_any _ _ (by omega) (by omega)).mono ?_; rintro e w' ⟨rfl, rfl⟩) | (go_at_call 59; refine (in_any [45, 46, 95, 126] _ _ (by omega) (by omega) (by decide)).mono ?_; rintro e w' ⟨rfl, rfl⟩))
  all_goals go_ret
  all_goals exact ⟨ret_bool (by rw [unres_of, Bool.eq_iff_iff]; simp [*, inB]; try omega), rfl⟩

theorem tchar_any (c : Int) (w : World) (h0 : 0 ≤ c) (h1 : c ≤ 255) :
    Calls Tryd.prog 51 #[.int .u8 c] w fun e w' => e = .returned (.bool (tcharB c)) ∧ w = w' := by
  by_cases ha : (48 ≤ c ∧ c ≤ 57) ∨ (97 ≤ c ∧ c ≤ 122) ∨ (65 ≤ c ∧ c ≤ 90)
  · have hs : tcharB c = true := by simp [tcharB, alnumB, ha]
    have Hs := Lib.hid hs
    clear hs
    rcases ha with ha | ha | ha
    all_goals
      go_enter Tryd.func51, Tryd.ntmps51
      go_wp2
      go_ret
      exact ⟨ret_bool Hs.out.symm, rfl⟩
  · have hs : tcharB c = inB [33, 35, 36, 37, 38, 39, 42, 43, 45, 46, 94, 95, 96, 124, 126] c := by simp [tcharB, alnumB, ha]
    have Hs := Lib.hid hs
    clear hs
    go_enter Tryd.func51, Tryd.ntmps51
    go_wp2
    all_goals
      generalize hM : (#[33, 35, 36, 37, 38, 39, 42, 43, 45, 46, 94, 95, 96, 124, 126] : Array UInt8) = M
      obtain ⟨l, rfl⟩ : ∃ l : Bs, M = l.toArray := ⟨M.toList, rfl⟩
      have hl : l = [33, 35, 36, 37, 38, 39, 42, 43, 45, 46, 94, 95, 96, 124, 126] := (congrArg Array.toList hM).symm
      have hl1 : l.length ≤ 15 := by rw [hl]; decide
      have hl2 : 15 ≤ l.length := by rw [hl]; decide
      have HL := Lib.hid hl
      clear hM hl
      go_loop [29] (fun i => ∃ k : Nat, k ≤ 15 ∧ i = .int .i64 k ∧ Hid (inB l c = inB (l.drop k) c)) (fun i => 15 - (intOf i).toNat)
      case atStart => exact ⟨0, Nat.zero_le _, rfl, rfl⟩
      case round =>
        obtain ⟨k, hk, rfl, H⟩ := hrel
        by_cases hlt : k < 15
        · have hlt' : k < l.length := by omega
          have H2 := Lib.hid (drop_cons hlt')
          by_cases he : (l[k].toNat : Int) = c
          · have hb : ((l[k].toNat : Int) == c) = true := beq_iff_eq.2 he
            have H3 := Lib.hid he
            clear he
            go_wp2
            go_ret
            exact ⟨ret_bool (by rw [Hs.out, ← HL.out, H.out, H2.out, inB_cons, H3.out]; simp), rfl⟩
          · have hb : ((l[k].toNat : Int) == c) = false := beq_eq_false_iff_ne.2 he
            go_wp2
            go_round
            case rel => exact ⟨k + 1, by omega, by go_num, by show inB l c = _; rw [H.out, H2.out, inB_cons]; simp [he]⟩
            case measure => simp [intOf]; omega
        · go_wp2
          go_ret
          exact ⟨ret_bool (by rw [Hs.out, ← HL.out, H.out, List.drop_of_length_le (by omega), inB_nil]), rfl⟩

theorem token_nil : (([] : Bs).all fun b => tcharB b.toNat) = true := rfl
theorem token_any (l : Bs) (w : World) (hl : l.length ≤ 2147483648) :
    Calls Tryd.prog 40 #[.string ⟨l.toArray⟩] w fun e w' => e = .returned (.bool (tokenB l)) ∧ w = w' := by
  go_enter Tryd.func40, Tryd.ntmps40
  go_wp2
  go_loop [6] (fun i => ∃ k : Nat, k ≤ l.length ∧ i = .int .i64 k ∧ Hid ((l.all fun b => tcharB b.toNat) = ((l.drop k).all fun b => tcharB b.toNat))) (fun i => l.length - (intOf i).toNat)
  case atStart => exact ⟨0, Nat.zero_le _, rfl, rfl⟩
  case round =>
    obtain ⟨k, hk, rfl, H⟩ := hrel
    by_cases hlt : k < l.length
    · have H2 := Lib.hid (drop_cons hlt)
      have h255 := byte_lt l[k]
      by_cases he : tcharB (l[k].toNat : Int) = true
      · have hb : tcharB (l[k].toNat : Int) = true := he
        go_wp2_with (go_at_call 51; refine (tchar_any _ _ (by omega) (by omega)).mono ?_; rintro e w' ⟨rfl, rfl⟩)
        go_round
        case rel => exact ⟨k + 1, by omega, by go_num, by show (l.all _) = _; rw [H.out, H2.out, List.all_cons, he]; rfl⟩
        case measure => simp [intOf]; omega
      · have hb : tcharB (l[k].toNat : Int) = false := by simpa using he
        go_wp2_with (go_at_call 51; refine (tchar_any _ _ (by omega) (by omega)).mono ?_; rintro e w' ⟨rfl, rfl⟩)
        go_ret
        exact ⟨ret_bool (by rw [tokenB, H.out, H2.out, List.all_cons]; simp [he]), rfl⟩
    · go_wp2
      go_ret
      exact ⟨ret_bool (by rw [tokenB, H.out, List.drop_of_length_le (by omega), token_nil]; cases l <;> simp), rfl⟩

end A1
end Go.Proofs.YthbjpekgiiflkaaDoor
