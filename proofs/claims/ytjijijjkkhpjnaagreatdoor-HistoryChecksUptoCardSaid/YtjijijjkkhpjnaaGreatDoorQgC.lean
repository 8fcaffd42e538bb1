/- Contracts and plain facts that the statement's proof leans on (texts joined). No condition beyond those that each names. -/
import Derived.WalkKit
import Derived.WalkLawsBesides
import Derived.WalkSpells
import Derived.Lib.Hide
import Derived.BigQuiet
import Derived.Deep.QuietTactic
import Derived.Deep.RegionLaw
import Derived.Laws.ResultCell
import Derived.Test.YtjijijjkkhpjnaaGreatDoorQgA
import Derived.Test.YtjijijjkkhpjnaaGreatDoorQgB
section
section
namespace Go.Proofs.YtjijijjkkhpjnaaGreatDoor
open Go.RowKit Pl Ad
attribute [local go_sem] ba_get
theorem ret_bool {a b : Bool} (h : a = b) : Ending.returned (.bool a) = Ending.returned (.bool b) := by rw [h]
theorem ret_int {k : IntKind} {a b : Int} (h : a = b) : Ending.returned (.int k a) = Ending.returned (.int k b) := by rw [h]
theorem ret_str {a b : Bs} (h : a = b) : Ending.returned (.string ⟨a.toArray⟩) = Ending.returned (.string ⟨b.toArray⟩) := by rw [h]

set_option maxRecDepth 100000
set_option maxHeartbeats 4000000
set_option linter.unusedVariables false
namespace A1
theorem alnum_any (c : Int) (w : World) (h0 : 0 ≤ c) (h1 : c ≤ 255) :
    Calls Tryz.prog 137 #[.int .u8 c] w fun e w' => e = .returned (.bool (alnumB c)) ∧ w = w' := by
  go_enter Tryz.func137, Tryz.ntmps137
  go_wp2
  all_goals go_ret
  all_goals exact ⟨ret_bool (by rw [Bool.eq_iff_iff]; simp [alnumB]; try omega), rfl⟩

theorem unres_of (c : Int) : unresB c = (alnumB c || (decide (c = 45) || decide (c = 46) || decide (c = 95) || decide (c = 126))) := by
  rw [Bool.eq_iff_iff]; simp [alnumB, unresB]; omega

theorem unreserved_any (c : Int) (w : World) (h0 : 0 ≤ c) (h1 : c ≤ 255) :
    Calls Tryz.prog 138 #[.int .u8 c] w fun e w' => e = .returned (.bool (unresB c)) ∧ w = w' := by
  go_enter Tryz.func138, Tryz.ntmps138
  go_wp2_with (go_at_call 137; refine (alnum_any _ _ (by omega) (by omega)).mono ?_; rintro e w' ⟨rfl, rfl⟩)
  all_goals go_ret
  all_goals exact ⟨ret_bool (by rw [unres_of, Bool.eq_iff_iff]; simp [*]), rfl⟩

theorem digit_any (c : Int) (w : World) (h0 : 0 ≤ c) (h1 : c ≤ 255) :
    Calls Tryz.prog 139 #[.int .u8 c] w fun e w' => e = .returned (.int .i64 (hexv c)) ∧ w = w' := by
  go_enter Tryz.func139, Tryz.ntmps139
  go_wp2
  all_goals go_ret
  all_goals exact ⟨ret_int (by unfold hexv; split <;> (try split) <;> (try split) <;> omega), rfl⟩

end A1
end Go.Proofs.YtjijijjkkhpjnaaGreatDoor
end

section
namespace Go.Proofs.YtjijijjkkhpjnaaGreatDoor
open Go.RowKit Pl Ad
attribute [local go_sem] ba_get conv_one conv_one_drewN ba_append ba_extract
set_option maxRecDepth 100000
set_option maxHeartbeats 4000000
set_option linter.unusedVariables false
namespace A1
theorem lower_len (l : Bs) : (lower l).length = l.length := by simp [lower]
theorem lower_take (l : Bs) (k : Nat) (h : k < l.length) : lower (l.take (k + 1)) = lower (l.take k) ++ [lowB l[k]] := by
  simp only [lower, take_snoc h, List.map_append, List.map_cons, List.map_nil]
end A1
end Go.Proofs.YtjijijjkkhpjnaaGreatDoor
end

section
namespace Go.Proofs.YtjijijjkkhpjnaaGreatDoor
open Go.RowKit Pl Ad
attribute [local go_sem] ba_get conv_one conv_one_drewN ba_append ba_extract
set_option maxRecDepth 100000
set_option maxHeartbeats 4000000
set_option linter.unusedVariables false
namespace A1

theorem inB_mem (l : Bs) (b : UInt8) : inB l (b.toNat : Int) = true ↔ b ∈ l := by
  simp only [inB, List.any_eq_true, decide_eq_true_eq]
  constructor
  · rintro ⟨x, hx, h⟩
    have : x = b := UInt8.toNat_inj.1 (by omega)
    exact this ▸ hx
  · exact fun h => ⟨b, h, rfl⟩
theorem idx_in (l : Bs) (b : UInt8) : (Lib.indexByte l b < 0) ↔ inB l (b.toNat : Int) = false := by
  rw [mem_iff_indexByte, ← inB_mem, Bool.not_eq_true]

theorem canonical_any (l others : Bs) (w : World) (hl : l.length ≤ 2147483648) (hm : others.length ≤ 2147483648) :
    Calls Tryz.prog 120 #[.string ⟨l.toArray⟩, .string ⟨others.toArray⟩] w fun e w' => e = .returned (.tuple #[.string ⟨(optS (canon l others)).toArray⟩, .bool (canon l others).isSome]) ∧ Below w.heap.size w w' := by
  go_enter Tryz.func120, Tryz.ntmps120
  go_wp2
  go_loopw [6, 7] (fun s i wr => ∃ (v : Value) (k : Nat) (out : Bs), v = s ∧ k ≤ l.length ∧ i = .int .i64 k ∧ wr.ownsRow w.heap.size 5 1 v out.length (bvals out) ∧ out.length ≤ k ∧ Below w.heap.size w wr ∧ Hid (canon l others = canonL others (l.drop k) out)) (fun _ i _ => l.length - (intOf i).toNat)
  case atStart => exact ⟨_, 0, [], rfl, Nat.zero_le _, rfl, World.ownsRow_nil _ _ _ _, Nat.zero_le _, Below.refl _ _, rfl⟩
  case round =>
    obtain ⟨v, k, out, rfl, hk, rfl, hown, ho, hb, H⟩ := hrel
    have hz := hb.size
    by_cases hlt : k < l.length
    · have h255 := byte_lt l[k]
      have H2 := Lib.hid (drop_cons hlt)
      by_cases hc : l[k] = 37
      · have hc1 : (l[k].toNat : Int) = 37 := by rw [hc]; rfl
        have hc2 : ((l[k].toNat : Int) == 37) = true := beq_iff_eq.2 hc1
        clear hc1
        by_cases hk2 : k + 2 < l.length
        · have hk1 : k + 1 < l.length := by omega
          have ha := byte_lt (l[k + 1]'hk1)
          have hb2 := byte_lt (l[k + 2]'hk2)
          have H3 := Lib.hid (show l.drop k = 37 :: (l[k + 1]'hk1) :: (l[k + 2]'hk2) :: l.drop (k + 3) by rw [drop3 hk2, hc])
          clear hc
          obtain ⟨r1, r2⟩ := hexv_range ((l[k + 1]'hk1).toNat : Int)
          obtain ⟨r3, r4⟩ := hexv_range ((l[k + 2]'hk2).toNat : Int)
          by_cases h3 : hexv ((l[k + 1]'hk1).toNat : Int) < 0
          · have HF := Lib.hid (canonL_nohex others (l[k + 1]'hk1) (l[k + 2]'hk2) (l.drop (k + 3)) out (.inl h3))
            go_wp2_with ((go_at_call 139; refine (digit_any _ _ (by omega) (by omega)).mono ?_; rintro e w' ⟨rfl, rfl⟩))
            go_ret2
            exact ⟨by rw [H.out, H3.out, HF.out]; rfl, hb⟩
          · by_cases h4 : hexv ((l[k + 2]'hk2).toNat : Int) < 0
            · have HF := Lib.hid (canonL_nohex others (l[k + 1]'hk1) (l[k + 2]'hk2) (l.drop (k + 3)) out (.inr h4))
              go_wp2_with ((go_at_call 139; refine (digit_any _ _ (by omega) (by omega)).mono ?_; rintro e w' ⟨rfl, rfl⟩))
              go_ret2
              exact ⟨by rw [H.out, H3.out, HF.out]; rfl, hb⟩
            · have g3 : 0 ≤ hexv ((l[k + 1]'hk1).toNat : Int) := by omega
              have g4 : 0 ≤ hexv ((l[k + 2]'hk2).toNat : Int) := by omega
              have HL := Lib.hid (canonL_low others (l[k + 1]'hk1) (l[k + 2]'hk2) (l.drop (k + 3)) out h3 h4)
              have HP := Lib.hid (canonL_pct others (l[k + 1]'hk1) (l[k + 2]'hk2) (l.drop (k + 3)) out h3 h4)
              have s1 : IntKind.i64.wrap ((k : Int) + 1) = (k : Int) + 1 := IntWalk.i64_in _ (by omega)
              have s2 : IntKind.i64.wrap ((k : Int) + 2) = (k : Int) + 2 := IntWalk.i64_in _ (by omega)
              have s3 : IntKind.i64.wrap (16 * hexv ((l[k + 1]'hk1).toNat : Int)) = 16 * hexv ((l[k + 1]'hk1).toNat : Int) := IntWalk.i64_in _ (by omega)
              have s4 : IntKind.i64.wrap (16 * hexv ((l[k + 1]'hk1).toNat : Int) + hexv ((l[k + 2]'hk2).toNat : Int)) = 16 * hexv ((l[k + 1]'hk1).toNat : Int) + hexv ((l[k + 2]'hk2).toNat : Int) := IntWalk.i64_in _ (by omega)
              have s5 : IntKind.u8.wrap (16 * hexv ((l[k + 1]'hk1).toNat : Int) + hexv ((l[k + 2]'hk2).toNat : Int)) = 16 * hexv ((l[k + 1]'hk1).toNat : Int) + hexv ((l[k + 2]'hk2).toNat : Int) := by
                simp only [IntKind.wrap, IntKind.signed, IntKind.bits]; simp; omega
              have z1 : ((k : Int) + 1).toNat = k + 1 := by omega
              have z2 : ((k : Int) + 2).toNat = k + 2 := by omega
              have S1 := Lib.hid s1
              have S2 := Lib.hid s2
              have S3 := Lib.hid s3
              have S4 := Lib.hid s4
              have S5 := Lib.hid s5
              clear s1 s2 s3 s4 s5
              go_wp2_with ((go_at_call 139; refine (digit_any _ _ (by omega) (by omega)).mono ?_; rintro e w' ⟨rfl, rfl⟩))
              have s1 := S1.out
              have s2 := S2.out
              have s3 := S3.out
              have s4 := S4.out
              have s5 := S5.out
              have b1 : (0 : Int) ≤ (k : Int) + 1 := by omega
              have b2 : (0 : Int) ≤ (k : Int) + 2 := by omega
              have b3 : (k : Int) + 1 < (l.length : Int) := by omega
              have b4 : (k : Int) + 2 < (l.length : Int) := by omega
              go_quiet ((go_at_call 139; exact quiet_eq (digit_any _ _ (by omega) (by omega))))
              clear s1 s2 s3 s4 s5 S1 S2 S3 S4 S5
              have hn0 : 0 ≤ 16 * hexv ((l[k + 1]'hk1).toNat : Int) + hexv ((l[k + 2]'hk2).toNat : Int) := by omega
              have hn1 : 16 * hexv ((l[k + 1]'hk1).toNat : Int) + hexv ((l[k + 2]'hk2).toNat : Int) ≤ 255 := by omega
              clear g3 g4 r1 r2 r3 r4
              generalize 16 * hexv ((l[k + 1]'hk1).toNat : Int) + hexv ((l[k + 2]'hk2).toNat : Int) = n at HL HP hn0 hn1 ⊢
              obtain ⟨m, rfl⟩ := Int.eq_ofNat_of_zero_le hn0
              have H4 := Lib.hid (H.out.trans (congrArg (fun x => canonL others x out) H3.out))
              clear H H2 H3 ha hb2 hc2
              by_cases h5 : (m : Int) < 32
              · have HF := Lib.hid (HL.out (.inl (by omega)))
                go_wp2
                go_ret2
                exact ⟨by rw [H4.out, HF.out]; rfl, below_drewN hb _⟩
              · by_cases h6 : (m : Int) = 127
                · have HF := Lib.hid (HL.out (.inr (by omega)))
                  have h6' : ((m : Int) == 127) = true := beq_iff_eq.2 h6
                  clear h6
                  go_wp2
                  go_ret2
                  exact ⟨by rw [H4.out, HF.out]; rfl, below_drewN hb _⟩
                · have HF := Lib.hid (HP.out (by omega) (by omega))
                  clear HL HP
                  by_cases hu : unresB (m : Int) = true
                  · have HO := Lib.hid (show pctOut (m : Int) = [UInt8.ofNat m] by unfold pctOut; rw [if_pos hu]; rfl)
                    have HV := Lib.hid (show [Value.int .u8 (m : Int)] = bvals (pctOut (m : Int)) by rw [HO.out]; simp [bvals]; omega)
                    go_wp2_with (first | (go_at_call 138; refine (unreserved_any _ _ (by omega) (by omega)).mono ?_; rintro e w' ⟨rfl, rfl⟩) | (at_builtin; refine wpList_app tyBytes rfl _ _ rfl w w.heap.size w.heap.size v out.length (bvals out) rfl (hown.alloc _) ((below_drewN hb _).alloc (by simp; omega) _) (by simp; omega) (Nat.le_refl _) wr.heap.size 1 1 [.int .u8 (m : Int)] rfl (blockIs_new _ _ _) rfl (by simp [Value.oneCell']) (by omega) ?_; intro v' w' hown' hb' hgrow'))
                    go_roundw
                    case rel => exact ⟨_, k + 3, out ++ pctOut m, rfl, by omega, by go_num, by rw [HV.out, bvals_append] at hown'; rw [HO.out] at hown' ⊢; simpa using hown', by rw [HO.out]; simp; omega, hb', by show canon _ _ = _; rw [H4.out, HF.out]⟩
                    case measure => simp [intOf]; omega
                  · have hu' : unresB (m : Int) = false := by simpa using hu
                    clear hu
                    have HO := Lib.hid (pctOut_enc m (by omega) hu')
                    have ho3 := pctOut_len (m : Int)
                    go_wp2_with ((go_at_call 138; refine (unreserved_any _ _ (by omega) (by omega)).mono ?_; rintro e w' ⟨rfl, rfl⟩))
                    have q1 : (0 : Int) ≤ (m : Int) / 16 := by omega
                    have q2 : (m : Int) / 16 < 16 := by omega
                    have q3 : ((m : Int) / 16).toNat = m / 16 := by omega
                    have q4 : (0 : Int) ≤ (m : Int) % 16 := by omega
                    have q5 : (m : Int) % 16 < 16 := by omega
                    have q6 : ((m : Int) % 16).toNat = m % 16 := by omega
                    have q7 := and15 m (by omega)
                    have e1 : m / 16 < ([48, 49, 50, 51, 52, 53, 54, 55, 56, 57, 65, 66, 67, 68, 69, 70] : Bs).length := by simp; omega
                    have e2 : m % 16 < ([48, 49, 50, 51, 52, 53, 54, 55, 56, 57, 65, 66, 67, 68, 69, 70] : Bs).length := by simp; omega
                    have HV := Lib.hid (show [Value.int .u8 37, Value.int .u8 ((([48, 49, 50, 51, 52, 53, 54, 55, 56, 57, 65, 66, 67, 68, 69, 70] : Bs)[m / 16]'e1).toNat : Int), Value.int .u8 ((([48, 49, 50, 51, 52, 53, 54, 55, 56, 57, 65, 66, 67, 68, 69, 70] : Bs)[m % 16]'e2).toNat : Int)] = bvals (pctOut (m : Int)) by rw [pctOut_enc2 m hu', hexD_at (m / 16) (by omega) e1, hexD_at (m % 16) (by omega) e2]; rfl)
                    go_region_law ((refine step_app tyBytes (by rfl) _ _ (by rfl) w w.heap.size w.heap.size v out.length (bvals out) (by rfl) (hown.alloc _) ((below_drewN hb _).alloc (by simp; omega) _) (by simp; omega) (Nat.le_refl _) wr.heap.size 3 3 _ (by rfl) (blockIs_new _ _ _) (by rfl) (by simp [Value.oneCell']) (by omega) ?_; intro v' w' hown' hb' hgrow'))
                    all_goals
                      go_wp2
                      go_roundw
                      case rel => exact ⟨_, k + 3, out ++ pctOut m, rfl, by omega, by go_num, by rw [List.length_append]; have h9 := HV.out ▸ hown'; rw [bvals_append] at h9; have h8 := h9.1; rw [bvals_len, List.length_append] at h8; rw [show (pctOut (m : Int)).length = 3 by omega]; exact h9, by rw [List.length_append]; omega, hb', by show canon _ _ = _; rw [H4.out, HF.out]⟩
                      case measure => simp [intOf]; omega
        · have HF := Lib.hid (canonL_short others (l.drop (k + 1)) out (by simp; omega))
          have H3 := Lib.hid (show l.drop k = 37 :: l.drop (k + 1) by rw [H2.out, hc])
          clear hc
          go_wp2
          go_ret2
          exact ⟨by rw [H.out, H3.out, HF.out]; rfl, hb⟩
      · have HC := Lib.hid hc
        have hc1 : ¬ (l[k].toNat : Int) = 37 := fun h => hc (UInt8.toNat_inj.1 (show l[k].toNat = 37 by omega))
        clear hc
        by_cases hu : unresB (l[k].toNat : Int) = true
        · have HU := Lib.hid hu
          go_wp2_with (first | (go_at_call 138; refine (unreserved_any _ _ (by omega) (by omega)).mono ?_; rintro e w' ⟨rfl, rfl⟩) | (at_builtin; refine wpList_app tyBytes rfl _ _ rfl w w.heap.size w.heap.size v out.length (bvals out) rfl (hown.alloc _) (hb.alloc (by omega) _) (by simp; omega) (Nat.le_refl _) wr.heap.size 1 1 [.int .u8 (l[k].toNat : Int)] rfl (blockIs_new _ _ _) rfl (by simp [Value.oneCell']) (by omega) ?_; intro v' w' hown' hb' hgrow'))
          go_roundw
          case rel => exact ⟨_, k + 1, out ++ [l[k]], rfl, by omega, by go_num, by simpa [bvals] using hown', by simp; omega, hb', by show canon _ _ = _; rw [H.out, H2.out, canonL_plain _ _ _ _ HC.out (.inl HU.out)]⟩
          case measure => simp [intOf]; omega
        · have hu' : unresB (l[k].toNat : Int) = false := by simpa using hu
          have HU := Lib.hid hu'
          clear hu
          by_cases hi : inB others (l[k].toNat : Int) = true
          · have HI := Lib.hid hi
            have hx : ¬ Lib.indexByte others l[k] < 0 := fun h => by rw [(idx_in others l[k]).1 h] at hi; cases hi
            clear hi
            go_wp2_with (first | (go_at_call 138; refine (unreserved_any _ _ (by omega) (by omega)).mono ?_; rintro e w' ⟨rfl, rfl⟩) | (go_at_call 100; refine (indexByte_any others _ _).mono ?_; rintro e w' ⟨rfl, rfl⟩) | (at_builtin; refine wpList_app tyBytes rfl _ _ rfl w w.heap.size w.heap.size v out.length (bvals out) rfl (hown.alloc _) (hb.alloc (by omega) _) (by simp; omega) (Nat.le_refl _) wr.heap.size 1 1 [.int .u8 (l[k].toNat : Int)] rfl (blockIs_new _ _ _) rfl (by simp [Value.oneCell']) (by omega) ?_; intro v' w' hown' hb' hgrow'))
            go_roundw
            case rel => exact ⟨_, k + 1, out ++ [l[k]], rfl, by omega, by go_num, by simpa [bvals] using hown', by simp; omega, hb', by show canon _ _ = _; rw [H.out, H2.out, canonL_plain _ _ _ _ HC.out (.inr HI.out)]⟩
            case measure => simp [intOf]; omega
          · have hi' : inB others (l[k].toNat : Int) = false := by simpa using hi
            have HI := Lib.hid hi'
            have hx : Lib.indexByte others l[k] < 0 := (idx_in others l[k]).2 hi'
            clear hi hi'
            go_wp2_with (first | (go_at_call 138; refine (unreserved_any _ _ (by omega) (by omega)).mono ?_; rintro e w' ⟨rfl, rfl⟩) | (go_at_call 100; refine (indexByte_any others _ _).mono ?_; rintro e w' ⟨rfl, rfl⟩))
            go_ret2
            exact ⟨by rw [H.out, H2.out, canonL_bad _ _ _ _ HC.out HU.out HI.out]; rfl, hb⟩
    · have hconv := conv_owned out hown
      go_wp2
      go_ret2
      exact ⟨by rw [H.out, List.drop_of_length_le (by omega), canonL_nil]; rfl, hb⟩
end A1
end Go.Proofs.YtjijijjkkhpjnaaGreatDoor
end

section
namespace Go.Proofs.YtjijijjkkhpjnaaGreatDoor
open Go.RowKit Pl Ad
attribute [local go_sem] ba_get conv_one conv_one_drewN ba_append ba_extract
set_option maxRecDepth 100000
set_option maxHeartbeats 4000000
set_option linter.unusedVariables false
namespace A1

theorem cut_hit (c : UInt8) (l : Bs) (j k : Nat) (hk : k < l.length) (h : l[k] = c) (acc : List Bs) :
    acc ++ splitAcc c ((l.drop j).take (k - j)) (l.drop k) = (acc ++ [(l.drop j).take (k - j)]) ++ splitAcc c ((l.drop (k + 1)).take (k + 1 - (k + 1))) (l.drop (k + 1)) := by
  rw [drop_cons hk, splitAcc, if_pos h]; simp
theorem cut_miss (c : UInt8) (l : Bs) (j k : Nat) (hj : j ≤ k) (hk : k < l.length) (h : ¬ l[k] = c) (acc : List Bs) :
    acc ++ splitAcc c ((l.drop j).take (k - j)) (l.drop k) = acc ++ splitAcc c ((l.drop j).take (k + 1 - j)) (l.drop (k + 1)) := by
  rw [drop_cons hk, splitAcc, if_neg h]
  have e : (l.drop j).take (k + 1 - j) = (l.drop j).take (k - j) ++ [l[k]] := by
    rw [show k + 1 - j = (k - j) + 1 by omega, take_snoc (by simp; omega)]
    simp [show j + (k - j) = k by omega]
  rw [e]

end A1
end Go.Proofs.YtjijijjkkhpjnaaGreatDoor
end

section
namespace Go.Proofs.YtjijijjkkhpjnaaGreatDoor
open Go.RowKit Pl Ad
attribute [local go_sem] ba_get conv_one conv_one_drewN ba_append ba_extract
set_option maxRecDepth 100000
set_option maxHeartbeats 4000000
set_option linter.unusedVariables false
namespace A1

theorem hostOk_no (l : Bs) (h : ¬ l.length ≤ 100 ∨ (splitOn 46 l).all labelB = false) : hostOk l = false := by
  unfold hostOk
  rcases h with h | h
  · rw [decide_eq_false h]; rfl
  · rw [h]; simp
theorem hostOk_yes (l : Bs) (h1 : l.length ≤ 100) (h2 : (splitOn 46 l).all labelB = true) : hostOk l = true := by
  unfold hostOk; rw [h2, decide_eq_true h1]; rfl

theorem splitAcc_len (c : UInt8) : ∀ (acc l x : Bs), x ∈ splitAcc c acc l → x.length ≤ acc.length + l.length
  | acc, [], x, h => by simp [splitAcc] at h; subst h; simp
  | acc, b :: t, x, h => by
    rw [splitAcc] at h
    split at h
    · rcases List.mem_cons.1 h with rfl | h
      · omega
      · have := splitAcc_len c [] t x h; simp at this ⊢; omega
    · have := splitAcc_len c (acc ++ [b]) t x h; simp at this ⊢; omega
theorem splitOn_len (c : UInt8) (l x : Bs) (h : x ∈ splitOn c l) : x.length ≤ l.length := by simpa using splitAcc_len c [] l x h
theorem splitAcc_count (c : UInt8) : ∀ (acc l : Bs), (splitAcc c acc l).length ≤ l.length + 1
  | acc, [] => by simp [splitAcc]
  | acc, b :: t => by
    rw [splitAcc]; split
    · have := splitAcc_count c [] t; simp; omega
    · have := splitAcc_count c (acc ++ [b]) t; simp; omega
theorem splitOn_count (c : UInt8) (l : Bs) : (splitOn c l).length ≤ l.length + 1 := splitAcc_count c [] l

/-- What a host's function returns. -/
def hostS (l : Bs) : Bs := if hostOk l then lower l else []
theorem hostS_no (l : Bs) (h : hostOk l = false) : hostS l = [] := by rw [hostS, h]; rfl
theorem hostS_yes (l : Bs) (h : hostOk l = true) : hostS l = lower l := by rw [hostS, h]; rfl

end A1
end Go.Proofs.YtjijijjkkhpjnaaGreatDoor
end

section
namespace Go.Proofs.YtjijijjkkhpjnaaGreatDoor
open Go.RowKit Pl Ad
attribute [local go_sem] ba_get conv_one conv_one_drewN ba_append ba_extract
set_option maxRecDepth 100000
set_option maxHeartbeats 4000000
set_option linter.unusedVariables false
namespace A1

/-- The error code n as a value. -/
@[reducible] def errV (n : Int) : Value := .iface 108 (.int .i64 n)
def hostE (l : Bs) : Value := if hostOk l then .nilIface else errV 8
theorem hostE_no (l : Bs) (h : hostOk l = false) : hostE l = errV 8 := by rw [hostE, h]; rfl
theorem hostE_yes (l : Bs) (h : hostOk l = true) : hostE l = .nilIface := by rw [hostE, h]; rfl

/-- []byte(s): the new slice's capacity, and the world behind it. -/
def bcap (w : World) (l : Bs) : Nat := grownCap w l.length 0 5
def brow (w : World) (l : Bs) : List Value := bvals l ++ List.replicate (bcap w l - l.length) (.int .u8 0)
def bworld (w : World) (l : Bs) : World := w.drew.alloc (.cells (brow w l).toArray 5 ((brow w l).length, (brow w l).length + 1))
theorem conv_bytes (w : World) (l : Bs) : (convert 9 84 (.string ⟨l.toArray⟩)).run Tryz.prog w = .ok (.slice (some ⟨w.heap.size, 0, none⟩) l.length (bcap w l)) (bworld w l) := by
  rw [run_bytes_of_string w 9 84 5 ⟨l.toArray⟩ Tryz.underlying9 Tryz.underlying84 Tryz.underlying5]
  have e : bytesRow ⟨l.toArray⟩ (grownCap w (⟨l.toArray⟩ : ByteArray).size 0 5) = (brow w l).toArray := by
    unfold bytesRow brow bcap bvals
    rw [← Array.toList_inj]
    simp
    rfl
  rw [e]
  rfl
theorem bworld_below (w : World) (l : Bs) : Below w.heap.size w (bworld w l) := ((Below.refl _ _).drew).alloc (Nat.le_refl _) _
theorem bworld_size (w : World) (l : Bs) : (bworld w l).heap.size = w.heap.size + 1 := by simp [bworld]

/-- Block g holds the bytes l at its head, and may be written there. -/
def BytesAt (w : World) (g : Nat) (l : Bs) : Prop := ∃ C : List Value, w.heap[g]? = some (.cells C.toArray 5 (C.length, C.length + 1)) ∧ l.length ≤ C.length ∧ ∀ k (h : k < l.length), C[k]? = some (.int .u8 (l[k].toNat : Int))
theorem bytesAt_new (w : World) (l : Bs) : BytesAt (bworld w l) w.heap.size l := by
  refine ⟨brow w l, heap_alloc_new w.drew _, by simp [brow, bvals], fun k h => ?_⟩
  rw [brow, List.getElem?_append_left (by simpa [bvals] using h)]
  simp [bvals, h]
theorem BytesAt.cell {w : World} {g : Nat} {l : Bs} (h : BytesAt w g l) (k : Nat) (hk : k < l.length) : w.cell? ⟨g, k, none⟩ = some (.int .u8 (l[k].toNat : Int)) := by
  obtain ⟨C, h1, _, h3⟩ := h
  rw [cell_of_row w g k C.toArray 5 _ h1]
  simpa using h3 k hk
theorem BytesAt.frozen {w : World} {g : Nat} {l : Bs} (h : BytesAt w g l) (k : Nat) (hk : k < l.length) : w.frozen? ⟨g, k, none⟩ = false := by
  obtain ⟨C, h1, h2, _⟩ := h
  unfold World.frozen?
  rw [h1]
  simp; omega
theorem BytesAt.set {w : World} {g : Nat} {l : Bs} (h : BytesAt w g l) (k : Nat) (hk : k < l.length) (b : UInt8) (n : Int) (hn : (b.toNat : Int) = n) : BytesAt (w.setCell ⟨g, k, none⟩ (.int .u8 n)) g (l.set k b) := by
  obtain ⟨C, h1, h2, h3⟩ := h
  refine ⟨C.set k (.int .u8 n), ?_, by simpa using h2, fun j hj => ?_⟩
  · simp only [World.setCell, Array.getElem?_modify, if_pos, h1, Option.map_some, Option.isSome_none, Bool.false_eq_true, if_false, List.length_set]
    simp
  · rw [List.length_set] at hj
    by_cases e : k = j
    · subst e
      simp [hn, show k < C.length by omega]
    · rw [List.getElem?_set_ne e, h3 j hj]
      simp [List.getElem_set_ne e]
theorem BytesAt.conv {w : World} {g : Nat} {l : Bs} (h : BytesAt w g l) (c : Nat) : (convert 84 9 (.slice (some ⟨g, 0, none⟩) l.length c)).run Tryz.prog w = .ok (.string ⟨l.toArray⟩) w :=
  run_convert_bytes_back w 84 9 5 ⟨g, 0, none⟩ c l Tryz.underlying84 Tryz.underlying5 Tryz.underlying9 (fun j hj => by
    have hadd : (⟨g, 0, none⟩ : Addr).add j = ⟨g, j, none⟩ := by unfold Addr.add; split <;> simp_all
    rw [hadd]; exact h.cell j hj)

/-- The bytes before place k in lower case. -/
def lowTo (l : Bs) (k : Nat) : Bs := lower (l.take k) ++ l.drop k
theorem lowTo_len (l : Bs) (k : Nat) : (lowTo l k).length = l.length := by
  unfold lowTo; rw [List.length_append, lower_len, List.length_take, List.length_drop]; omega
theorem lowTo_at (l : Bs) (k : Nat) (h : k < l.length) (h2 : k < (lowTo l k).length) : (lowTo l k)[k] = l[k] := by
  have e : (lowTo l k)[k]? = some l[k] := by
    unfold lowTo
    rw [List.getElem?_append_right (by rw [lower_len, List.length_take]; omega)]
    simp [lower_len, show min k l.length = k by omega, h]
  rw [List.getElem?_eq_getElem h2] at e
  exact Option.some.inj e
theorem lowTo_succ (l : Bs) (k : Nat) (h : k < l.length) : lowTo l (k + 1) = (lowTo l k).set k (lowB l[k]) := by
  unfold lowTo
  rw [lower_take l k h, drop_cons h, List.set_append_right _ _ (by rw [lower_len, List.length_take]; omega)]
  rw [lower_len, List.length_take, show k - min k l.length = 0 by omega, List.set_cons_zero, List.append_assoc]
  rfl
theorem lowTo_same (l : Bs) (k : Nat) (h : k < l.length) (h2 : lowB l[k] = l[k]) : lowTo l (k + 1) = lowTo l k := by
  unfold lowTo
  rw [lower_take l k h, drop_cons h, h2]; simp
theorem lowTo_all (l : Bs) (k : Nat) (h : l.length ≤ k) : lowTo l k = lower l := by
  unfold lowTo; rw [List.take_of_length_le h, List.drop_of_length_le h, List.append_nil]

theorem lowB_in (b : UInt8) (h1 : 65 ≤ b.toNat) (h2 : b.toNat ≤ 90) : (((lowB b).toNat : Nat) : Int) = (b.toNat : Int) + 32 := by
  unfold lowB
  rw [if_pos ⟨h1, h2⟩, UInt8.toNat_add]
  show (((b.toNat + 32) % 256 : Nat) : Int) = _
  omega

theorem host_any (l : Bs) (w : World) (hl : l.length ≤ 2147483648) (hr : Ready w) :
    Calls Tryz.prog 119 #[.string ⟨l.toArray⟩] w fun e w' => e = .returned (.tuple #[.string ⟨(hostS l).toArray⟩, hostE l]) ∧ Below w.heap.size w w' := by
  have hcnt := splitOn_count 46 l
  have hlen := splitOn_len 46 l
  by_cases h100 : l.length ≤ 100
  · go_enter Tryz.func119, Tryz.ntmps119
    go_wp2_with fail
    refine (split_any l 46 w hl hr).mono ?_
    rintro e w1 ⟨b, c, rfl, hcap, hwb, hbw, hcells, hb1⟩
    generalize hxs0 : splitOn 46 l = xs at hcells hcap hcnt hlen
    have HXS := Lib.hid hxs0
    clear hxs0
    have hxs : ∀ (k : Nat) (x : Bs), xs[k]? = some x → x.length ≤ l.length := fun k x h => hlen x (List.mem_of_getElem? h)
    have HXL := Lib.hid hxs
    clear hxs hlen
    go_wp2_with fail
    go_loop [18] (fun i => ∃ k : Nat, k ≤ xs.length ∧ i = .int .i64 k ∧ Hid (xs.all labelB = (xs.drop k).all labelB)) (fun i => xs.length - (intOf i).toNat)
    case atStart => exact ⟨0, Nat.zero_le _, rfl, rfl⟩
    case round =>
      obtain ⟨k, hk, rfl, H⟩ := hrel
      by_cases hlt : k < xs.length
      · have hc := hcells k xs[k] (by simp [hlt])
        rw [Nat.zero_add] at hc
        generalize hx : xs[k] = x at hc
        have HX := Lib.hid hx
        clear hx
        have hxl := HXL.out k x (by rw [← HX.out]; simp [hlt])
        by_cases g1 : 1 ≤ x.length ∧ x.length ≤ 63
        · obtain ⟨g1, g2⟩ := g1
          have p0 : 0 < x.length := by omega
          have p1 : x.length - 1 < x.length := by omega
          have p2 : ((x.length : Int) - 1).toNat = x.length - 1 := by omega
          by_cases h1 : x[0] = 45
          · have HB := Lib.hid (labelB_head x p0 h1)
            have h1' : ((x[0].toNat : Int) == 45) = true := by rw [h1]; rfl
            clear h1
            go_wp2
            go_ret2
            have HN := Lib.hid (show xs.all labelB = false by rw [H.out, drop_cons hlt, List.all_cons, HX.out, HB.out, Bool.false_and])
            have HO := hostOk_no l (.inr (by rw [HXS.out, HN.out]))
            exact ⟨by rw [hostS_no l HO, hostE_no l HO]; rfl, hb1⟩
          · have h1' : ((x[0].toNat : Int) == 45) = false := beq_eq_false_iff_ne.2 (fun h => h1 (UInt8.toNat_inj.1 (show x[0].toNat = 45 by omega)))
            by_cases h2 : x[x.length - 1] = 45
            · have HB := Lib.hid (labelB_last x p1 h2)
              have h2' : ((x[x.length - 1].toNat : Int) == 45) = true := by rw [h2]; rfl
              clear h1 h2
              go_wp2
              go_ret2
              have HN := Lib.hid (show xs.all labelB = false by rw [H.out, drop_cons hlt, List.all_cons, HX.out, HB.out, Bool.false_and])
              have HO := hostOk_no l (.inr (by rw [HXS.out, HN.out]))
              exact ⟨by rw [hostS_no l HO, hostE_no l HO]; rfl, hb1⟩
            · have h2' : ((x[x.length - 1].toNat : Int) == 45) = false := beq_eq_false_iff_ne.2 (fun h => h2 (UInt8.toNat_inj.1 (show x[x.length - 1].toNat = 45 by omega)))
              have HA := Lib.hid (labelB_all x g1 g2 p0 p1 h1 h2)
              clear h1 h2
              go_wp2
              go_loop [44] (fun i => ∃ j : Nat, j ≤ x.length ∧ i = .int .i64 j ∧ Hid (labelB x = (x.drop j).all okC)) (fun i => x.length - (intOf i).toNat)
              case atStart => exact ⟨0, Nat.zero_le _, rfl, HA.out⟩
              case round =>
                obtain ⟨j, hj, rfl, HJ⟩ := hrel
                by_cases hjl : j < x.length
                · have h255 := byte_lt x[j]
                  have HD := Lib.hid (drop_cons hjl)
                  by_cases ho : okC x[j] = true
                  · have HO := Lib.hid ho
                    have HR := Lib.hid (show labelB x = (x.drop (j + 1)).all okC by rw [HJ.out, HD.out, List.all_cons, ho, Bool.true_and])
                    rw [okC, Bool.or_eq_true, decide_eq_true_eq] at ho
                    rcases ho with ho | ho
                    · go_wp2_with ((go_at_call 137; refine (alnum_any _ _ (by omega) (by omega)).mono ?_; rintro e w' ⟨rfl, rfl⟩))
                      go_round
                      case rel => exact ⟨j + 1, by omega, by go_num, HR.out⟩
                      case measure => simp [intOf]; omega
                    · have ho' : ((x[j].toNat : Int) == 45) = true := by rw [ho]; rfl
                      have ho2 : ((x[j].toNat : Int) != 45) = false := by rw [ho]; rfl
                      clear ho
                      go_wp2_with ((go_at_call 137; refine (alnum_any _ _ (by omega) (by omega)).mono ?_; rintro e w' ⟨rfl, rfl⟩))
                      all_goals
                        go_round
                        case rel => exact ⟨j + 1, by omega, by go_num, HR.out⟩
                        case measure => simp [intOf]; omega
                  · have ho2 : okC x[j] = false := by simpa using ho
                    have HB := Lib.hid (show labelB x = false by rw [HJ.out, HD.out, List.all_cons, ho2, Bool.false_and])
                    rw [okC, Bool.or_eq_false_iff, decide_eq_false_iff_not] at ho2
                    obtain ⟨ho3, ho4⟩ := ho2
                    have ho5 : ((x[j].toNat : Int) == 45) = false := beq_eq_false_iff_ne.2 (fun h => ho4 (UInt8.toNat_inj.1 (show x[j].toNat = 45 by omega)))
                    have ho6 : ((x[j].toNat : Int) != 45) = true := by rw [bne, ho5]; rfl
                    clear ho ho4
                    go_wp2_with ((go_at_call 137; refine (alnum_any _ _ (by omega) (by omega)).mono ?_; rintro e w' ⟨rfl, rfl⟩))
                    go_ret2
                    have HN := Lib.hid (show xs.all labelB = false by rw [H.out, drop_cons hlt, List.all_cons, HX.out, HB.out, Bool.false_and])
                    have HO := hostOk_no l (.inr (by rw [HXS.out, HN.out]))
                    exact ⟨by rw [hostS_no l HO, hostE_no l HO]; rfl, hb1⟩
                · have HT := Lib.hid (show labelB x = true by rw [HJ.out, List.drop_of_length_le (by omega)]; rfl)
                  go_wp2
                  go_round
                  case rel => exact ⟨k + 1, by omega, by go_num, by show xs.all labelB = _; rw [H.out, drop_cons hlt, List.all_cons, HX.out, HT.out, Bool.true_and]⟩
                  case measure => simp [intOf]; omega
        · have HB := Lib.hid (labelB_len x g1)
          by_cases g3 : 1 ≤ x.length
          · have g4 : 63 < x.length := by omega
            clear g1
            go_wp2
            go_ret2
            have HN := Lib.hid (show xs.all labelB = false by rw [H.out, drop_cons hlt, List.all_cons, HX.out, HB.out, Bool.false_and])
            have HO := hostOk_no l (.inr (by rw [HXS.out, HN.out]))
            exact ⟨by rw [hostS_no l HO, hostE_no l HO]; rfl, hb1⟩
          · clear g1
            go_wp2
            go_ret2
            have HN := Lib.hid (show xs.all labelB = false by rw [H.out, drop_cons hlt, List.all_cons, HX.out, HB.out, Bool.false_and])
            have HO := hostOk_no l (.inr (by rw [HXS.out, HN.out]))
            exact ⟨by rw [hostS_no l HO, hostE_no l HO]; rfl, hb1⟩
      · have HT := Lib.hid (show xs.all labelB = true by rw [H.out, List.drop_of_length_le (by omega)]; rfl)
        have HO := Lib.hid (hostOk_yes l h100 (by rw [HXS.out, HT.out]))
        have hcv := conv_bytes w1 l
        have HBA := Lib.hid (bytesAt_new w1 l)
        have hbz := bworld_size w1 l
        have hb2 := hb1.trans ((bworld_below w1 l).mono hb1.size)
        have hz1 := hb1.size
        go_wp2
        go_loopw [65] (fun i wr => ∃ k : Nat, k ≤ l.length ∧ i = .int .i64 k ∧ Hid (BytesAt wr w1.heap.size (lowTo l k)) ∧ Below w.heap.size w wr ∧ w1.heap.size < wr.heap.size) (fun i _ => l.length - (intOf i).toNat)
        case atStart => exact ⟨0, Nat.zero_le _, rfl, by show BytesAt _ _ (lowTo l 0); rw [show lowTo l 0 = l by simp [lowTo, lower]]; exact HBA.out, hb2, by omega⟩
        case round =>
          clear hcv hbz hb2
          obtain ⟨k, hk, rfl, HB, hb2, hsz⟩ := hrel
          by_cases hlt : k < l.length
          · have h255 := byte_lt l[k]
            have hlt2 : k < (lowTo l k).length := by rw [lowTo_len]; exact hlt
            have hcell := HB.out.cell k hlt2
            rw [lowTo_at l k hlt hlt2] at hcell
            have hfrz := HB.out.frozen k hlt2
            clear hlt2
            by_cases he : 65 ≤ l[k].toNat ∧ l[k].toNat ≤ 90
            · have HN := Lib.hid (show BytesAt (wr.setCell ⟨w1.heap.size, k, none⟩ (.int .u8 ((l[k].toNat : Int) + 32))) w1.heap.size (lowTo l (k + 1)) by
                rw [lowTo_succ l k hlt]
                exact HB.out.set k (by rw [lowTo_len]; exact hlt) _ _ (lowB_in _ he.1 he.2))
              obtain ⟨he1, he2⟩ := he
              have g1 : (65 : Int) ≤ (l[k].toNat : Int) := by omega
              have g2 : (l[k].toNat : Int) ≤ 90 := by omega
              clear he1 he2
              go_wp2
              go_roundw
              case rel => exact ⟨k + 1, by omega, by go_num, HN.out, hb2.setCell hz1 _, by simpa using hsz⟩
              case measure => simp [intOf]; omega
            · have HN := Lib.hid (show BytesAt wr w1.heap.size (lowTo l (k + 1)) by
                rw [lowTo_same l k hlt (if_neg he)]
                exact HB.out)
              have g1 : ¬ ((65 : Int) ≤ (l[k].toNat : Int) ∧ (l[k].toNat : Int) ≤ 90) := by omega
              clear he
              go_wp2
              all_goals
                go_roundw
                case rel => exact ⟨k + 1, by omega, by go_num, HN.out, hb2, hsz⟩
                case measure => simp [intOf]; omega
          · have hback := HB.out.conv (bcap w1 l)
            rw [lowTo_len, lowTo_all l k (by omega)] at hback
            go_wp2
            go_ret2
            exact ⟨by rw [hostS_yes l HO.out, hostE_yes l HO.out]; rfl, hb2⟩
  · have HO := Lib.hid (hostOk_no l (.inl h100))
    go_enter Tryz.func119, Tryz.ntmps119
    go_wp2
    go_ret2
    exact ⟨by rw [hostS_no l HO.out, hostE_no l HO.out]; rfl, Below.refl _ _⟩
end A1
end Go.Proofs.YtjijijjkkhpjnaaGreatDoor
end

section
namespace Go.Proofs.YtjijijjkkhpjnaaGreatDoor
open Go.RowKit Pl Ad
attribute [local go_sem] ba_get conv_one conv_one_drewN ba_append ba_extract
set_option maxRecDepth 100000
set_option maxHeartbeats 4000000
set_option linter.unusedVariables false
namespace A1

/-- What an owned slice looks like: nil, or a row's head. -/
theorem owned_cases {w : World} {B e size n : Nat} {v : Value} {xs : List Value} (h : w.ownsRow B e size v n xs) : v = .slice none n 0 ∨ ∃ g c, v = .slice (some ⟨g, 0, none⟩) n c := by
  rcases h.2 with ⟨h1, h2⟩ | ⟨g, cap, _, h1, _⟩
  · exact .inl (by rw [h1, h2])
  · exact .inr ⟨g, cap, h1⟩
theorem owned_pop {w : World} {B g c : Nat} {left : List Bs} (hne : left ≠ []) (h : w.ownsRow B 9 1 (.slice (some ⟨g, 0, none⟩) left.length c) left.length (svals left)) :
    w.ownsRow B 9 1 (.slice (some ⟨g, 0, none⟩) (left.length - 1) c) (left.length - 1) (svals left.dropLast) := by
  have hl : left.length - 1 + 1 = left.length := by have := List.length_pos_iff.2 hne; omega
  have e : svals left = svals left.dropLast ++ svals [left.getLast hne] := by rw [svals_append, List.dropLast_concat_getLast]
  refine ownsRow_pop (last := svals [left.getLast hne]) (by rw [svals_len, List.length_dropLast]; omega) ?_
  rw [hl, ← e]
  exact h
theorem text_any (h p q : Bs) (b : Bool) (w : World) (hh : h.length ≤ 2147483648) (hp : p.length ≤ 2147483648) (hq : q.length ≤ 2147483648) :
    Calls Tryz.prog 102 #[.agg #[.string ⟨h.toArray⟩, .string ⟨p.toArray⟩, .string ⟨q.toArray⟩, .bool b]] w fun e w' => e = .returned (.string ⟨(adText h p q b).toArray⟩) ∧ Below w.heap.size w w' := by
  cases b
  · have H := Lib.hid (show adText h p q false = h ++ p by simp [adText])
    go_enter Tryz.func102, Tryz.ntmps102
    go_wp2
    go_ret
    exact ⟨ret_str H.out.symm, (Below.refl _ _).alloc (Nat.le_refl _) _⟩
  · have H := Lib.hid (show adText h p q true = h ++ (p ++ 63 :: q) by simp [adText])
    go_enter Tryz.func102, Tryz.ntmps102
    go_wp2
    go_ret
    exact ⟨ret_str (by rw [H.out]), (Below.refl _ _).alloc (Nat.le_refl _) _⟩

theorem assert_errno (v : Value) (w : World) : (Instr.typeAssert (.iface 108 v) 28 108 true).run Tryz.prog w = .ok (.tuple #[v, .bool true]) w := by kernel_rfl
attribute [local go_sem] assert_errno
end A1
end Go.Proofs.YtjijijjkkhpjnaaGreatDoor
end
end

