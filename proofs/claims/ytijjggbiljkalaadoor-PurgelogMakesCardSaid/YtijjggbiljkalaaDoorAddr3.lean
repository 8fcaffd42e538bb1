/- Contract: address.canonical. Conditions: texts of at most 2^31 bytes. -/
import Derived.Test.YtijjggbiljkalaaDoorAddr1
import Derived.Test.YtijjggbiljkalaaDoorApp
import Derived.BigQuiet
import Derived.Deep.QuietTactic
import Derived.Deep.RegionLaw
namespace Go.Proofs.YtijjggbiljkalaaDoor
open Go.RowKit Pl Ad
attribute [local go_sem] ba_get conv_one conv_one_drewN ba_append ba_extract
set_option maxRecDepth 100000
set_option maxHeartbeats 4000000
set_option linter.unusedVariables false
namespace A1

theorem inB_mem (l : Bs) (b : UInt8) : inB l (b.toNat : Int) = true ↔ b ∈ l := by
  simp only [inB, List.any_eq_true, decide_eq_true_eq]
  constructor
  · rintro ⟨x, hx, h⟩
    have : x = b := UInt8.toNat_inj.1 (by omega)
    exact this ▸ hx
  · exact fun h => ⟨b, h, rfl⟩
theorem idx_in (l : Bs) (b : UInt8) : (Lib.indexByte l b < 0) ↔ inB l (b.toNat : Int) = false := by
  rw [mem_iff_indexByte, ← inB_mem, Bool.not_eq_true]

theorem canonical_any (l others : Bs) (w : World) (hl : l.length ≤ 2147483648) (hm : others.length ≤ 2147483648) :
    Calls Tryd.prog 84 #[.string ⟨l.toArray⟩, .string ⟨others.toArray⟩] w fun e w' => e = .returned (.tuple #[.string ⟨(optS (canon l others)).toArray⟩, .bool (canon l others).isSome]) ∧ Below w.heap.size w w' := by
  go_enter Tryd.func84, Tryd.ntmps84
  go_wp2
  go_loopw [6, 7] (fun s i wr => ∃ (v : Value) (k : Nat) (out : Bs), v = s ∧ k ≤ l.length ∧ i = .int .i64 k ∧ wr.ownsRow w.heap.size 5 1 v out.length (bvals out) ∧ out.length ≤ k ∧ Below w.heap.size w wr ∧ Hid (canon l others = canonL others (l.drop k) out)) (fun _ i _ => l.length - (intOf i).toNat)
  case atStart => exact ⟨_, 0, [], rfl, Nat.zero_le _, rfl, World.ownsRow_nil _ _ _ _, Nat.zero_le _, Below.refl _ _, rfl⟩
  case round =>
    obtain ⟨v, k, out, rfl, hk, rfl, hown, ho, hb, H⟩ := hrel
    have hz := hb.size
    by_cases hlt : k < l.length
    · have h255 := byte_lt l[k]
      have H2 := Lib.hid (drop_cons hlt)
      by_cases hc : l[k] = 37
      · have hc1 : (l[k].toNat : Int) = 37 := by rw [hc]; rfl
        have hc2 : ((l[k].toNat : Int) == 37) = true := beq_iff_eq.2 hc1
        clear hc1
        by_cases hk2 : k + 2 < l.length
        · have hk1 : k + 1 < l.length := by omega
          have ha := byte_lt (l[k + 1]'hk1)
          have hb2 := byte_lt (l[k + 2]'hk2)
          have H3 := Lib.hid (show l.drop k = 37 :: (l[k + 1]'hk1) :: (l[k + 2]'hk2) :: l.drop (k + 3) by rw [drop3 hk2, hc])
          clear hc
          obtain ⟨r1, r2⟩ := hexv_range ((l[k + 1]'hk1).toNat : Int)
          obtain ⟨r3, r4⟩ := hexv_range ((l[k + 2]'hk2).toNat : Int)
          by_cases h3 : hexv ((l[k + 1]'hk1).toNat : Int) < 0
          · have HF := Lib.hid (canonL_nohex others (l[k + 1]'hk1) (l[k + 2]'hk2) (l.drop (k + 3)) out (.inl h3))
            go_wp2_with ((go_at_call 97; refine (digit_any _ _ (by omega) (by omega)).mono ?_; rintro e w' ⟨rfl, rfl⟩))
            go_ret2
            exact ⟨by rw [H.out, H3.out, HF.out]; rfl, hb⟩
          · by_cases h4 : hexv ((l[k + 2]'hk2).toNat : Int) < 0
            · have HF := Lib.hid (canonL_nohex others (l[k + 1]'hk1) (l[k + 2]'hk2) (l.drop (k + 3)) out (.inr h4))
              go_wp2_with ((go_at_call 97; refine (digit_any _ _ (by omega) (by omega)).mono ?_; rintro e w' ⟨rfl, rfl⟩))
              go_ret2
              exact ⟨by rw [H.out, H3.out, HF.out]; rfl, hb⟩
            · have g3 : 0 ≤ hexv ((l[k + 1]'hk1).toNat : Int) := by omega
              have g4 : 0 ≤ hexv ((l[k + 2]'hk2).toNat : Int) := by omega
              have HL := Lib.hid (canonL_low others (l[k + 1]'hk1) (l[k + 2]'hk2) (l.drop (k + 3)) out h3 h4)
              have HP := Lib.hid (canonL_pct others (l[k + 1]'hk1) (l[k + 2]'hk2) (l.drop (k + 3)) out h3 h4)
              have s1 : IntKind.i64.wrap ((k : Int) + 1) = (k : Int) + 1 := IntWalk.i64_in _ (by omega)
              have s2 : IntKind.i64.wrap ((k : Int) + 2) = (k : Int) + 2 := IntWalk.i64_in _ (by omega)
              have s3 : IntKind.i64.wrap (16 * hexv ((l[k + 1]'hk1).toNat : Int)) = 16 * hexv ((l[k + 1]'hk1).toNat : Int) := IntWalk.i64_in _ (by omega)
              have s4 : IntKind.i64.wrap (16 * hexv ((l[k + 1]'hk1).toNat : Int) + hexv ((l[k + 2]'hk2).toNat : Int)) = 16 * hexv ((l[k + 1]'hk1).toNat : Int) + hexv ((l[k + 2]'hk2).toNat : Int) := IntWalk.i64_in _ (by omega)
              have s5 : IntKind.u8.wrap (16 * hexv ((l[k + 1]'hk1).toNat : Int) + hexv ((l[k + 2]'hk2).toNat : Int)) = 16 * hexv ((l[k + 1]'hk1).toNat : Int) + hexv ((l[k + 2]'hk2).toNat : Int) := by
                simp only [IntKind.wrap, IntKind.signed, IntKind.bits]; simp; omega
              have z1 : ((k : Int) + 1).toNat = k + 1 := by omega
              have z2 : ((k : Int) + 2).toNat = k + 2 := by omega
              have S1 := Lib.hid s1
              have S2 := Lib.hid s2
              have S3 := Lib.hid s3
              have S4 := Lib.hid s4
              have S5 := Lib.hid s5
              clear s1 s2 s3 s4 s5
              go_wp2_with ((go_at_call 97; refine (digit_any _ _ (by omega) (by omega)).mono ?_; rintro e w' ⟨rfl, rfl⟩))
              have s1 := S1.out
              have s2 := S2.out
              have s3 := S3.out
              have s4 := S4.out
              have s5 := S5.out
              have b1 : (0 : Int) ≤ (k : Int) + 1 := by omega
              have b2 : (0 : Int) ≤ (k : Int) + 2 := by omega
              have b3 : (k : Int) + 1 < (l.length : Int) := by omega
              have b4 : (k : Int) + 2 < (l.length : Int) := by omega
              go_quiet ((go_at_call 97; exact quiet_eq (digit_any _ _ (by omega) (by omega))))
              clear s1 s2 s3 s4 s5 S1 S2 S3 S4 S5
              have hn0 : 0 ≤ 16 * hexv ((l[k + 1]'hk1).toNat : Int) + hexv ((l[k + 2]'hk2).toNat : Int) := by omega
              have hn1 : 16 * hexv ((l[k + 1]'hk1).toNat : Int) + hexv ((l[k + 2]'hk2).toNat : Int) ≤ 255 := by omega
              clear g3 g4 r1 r2 r3 r4
              generalize 16 * hexv ((l[k + 1]'hk1).toNat : Int) + hexv ((l[k + 2]'hk2).toNat : Int) = n at HL HP hn0 hn1 ⊢
              obtain ⟨m, rfl⟩ := Int.eq_ofNat_of_zero_le hn0
              have H4 := Lib.hid (H.out.trans (congrArg (fun x => canonL others x out) H3.out))
              clear H H2 H3 ha hb2 hc2
              by_cases h5 : (m : Int) < 32
              · have HF := Lib.hid (HL.out (.inl (by omega)))
                go_wp2
                go_ret2
                exact ⟨by rw [H4.out, HF.out]; rfl, below_drewN hb _⟩
              · by_cases h6 : (m : Int) = 127
                · have HF := Lib.hid (HL.out (.inr (by omega)))
                  have h6' : ((m : Int) == 127) = true := beq_iff_eq.2 h6
                  clear h6
                  go_wp2
                  go_ret2
                  exact ⟨by rw [H4.out, HF.out]; rfl, below_drewN hb _⟩
                · have HF := Lib.hid (HP.out (by omega) (by omega))
                  clear HL HP
                  by_cases hu : unresB (m : Int) = true
                  · have HO := Lib.hid (show pctOut (m : Int) = [UInt8.ofNat m] by unfold pctOut; rw [if_pos hu]; rfl)
                    have HV := Lib.hid (show [Value.int .u8 (m : Int)] = bvals (pctOut (m : Int)) by rw [HO.out]; simp [bvals]; omega)
                    go_wp2_with (first | (go_at_call 96; refine (unreserved_any _ _ (by omega) (by omega)).mono ?_; rintro e w' ⟨rfl, rfl⟩) | (at_builtin; refine wpList_app tyBytes rfl _ _ rfl w w.heap.size w.heap.size v out.length (bvals out) rfl (hown.alloc _) ((below_drewN hb _).alloc (by simp; omega) _) (by simp; omega) (Nat.le_refl _) wr.heap.size 1 1 [.int .u8 (m : Int)] rfl (blockIs_new _ _ _) rfl (by simp [Value.oneCell']) (by omega) ?_; intro v' w' hown' hb' hgrow'))
                    go_roundw
                    case rel => exact ⟨_, k + 3, out ++ pctOut m, rfl, by omega, by go_num, by rw [HV.out, bvals_append] at hown'; rw [HO.out] at hown' ⊢; simpa using hown', by rw [HO.out]; simp; omega, hb', by show canon _ _ = _; rw [H4.out, HF.out]⟩
                    case measure => simp [intOf]; omega
                  · have hu' : unresB (m : Int) = false := by simpa using hu
                    clear hu
                    have HO := Lib.hid (pctOut_enc m (by omega) hu')
                    have ho3 := pctOut_len (m : Int)
                    go_wp2_with ((go_at_call 96; refine (unreserved_any _ _ (by omega) (by omega)).mono ?_; rintro e w' ⟨rfl, rfl⟩))
                    have q1 : (0 : Int) ≤ (m : Int) / 16 := by omega
                    have q2 : (m : Int) / 16 < 16 := by omega
                    have q3 : ((m : Int) / 16).toNat = m / 16 := by omega
                    have q4 : (0 : Int) ≤ (m : Int) % 16 := by omega
                    have q5 : (m : Int) % 16 < 16 := by omega
                    have q6 : ((m : Int) % 16).toNat = m % 16 := by omega
                    have q7 := and15 m (by omega)
                    have e1 : m / 16 < ([48, 49, 50, 51, 52, 53, 54, 55, 56, 57, 65, 66, 67, 68, 69, 70] : Bs).length := by simp; omega
                    have e2 : m % 16 < ([48, 49, 50, 51, 52, 53, 54, 55, 56, 57, 65, 66, 67, 68, 69, 70] : Bs).length := by simp; omega
                    have HV := Lib.hid (show [Value.int .u8 37, Value.int .u8 ((([48, 49, 50, 51, 52, 53, 54, 55, 56, 57, 65, 66, 67, 68, 69, 70] : Bs)[m / 16]'e1).toNat : Int), Value.int .u8 ((([48, 49, 50, 51, 52, 53, 54, 55, 56, 57, 65, 66, 67, 68, 69, 70] : Bs)[m % 16]'e2).toNat : Int)] = bvals (pctOut (m : Int)) by rw [pctOut_enc2 m hu', hexD_at (m / 16) (by omega) e1, hexD_at (m % 16) (by omega) e2]; rfl)
                    go_region_law ((refine step_app tyBytes (by rfl) _ _ (by rfl) w w.heap.size w.heap.size v out.length (bvals out) (by rfl) (hown.alloc _) ((below_drewN hb _).alloc (by simp; omega) _) (by simp; omega) (Nat.le_refl _) wr.heap.size 3 3 _ (by rfl) (blockIs_new _ _ _) (by rfl) (by simp [Value.oneCell']) (by omega) ?_; intro v' w' hown' hb' hgrow'))
                    all_goals
                      go_wp2
                      go_roundw
                      case rel => exact ⟨_, k + 3, out ++ pctOut m, rfl, by omega, by go_num, by rw [List.length_append]; have h9 := HV.out ▸ hown'; rw [bvals_append] at h9; have h8 := h9.1; rw [bvals_len, List.length_append] at h8; rw [show (pctOut (m : Int)).length = 3 by omega]; exact h9, by rw [List.length_append]; omega, hb', by show canon _ _ = _; rw [H4.out, HF.out]⟩
                      case measure => simp [intOf]; omega
        · have HF := Lib.hid (canonL_short others (l.drop (k + 1)) out (by simp; omega))
          have H3 := Lib.hid (show l.drop k = 37 :: l.drop (k + 1) by rw [H2.out, hc])
          clear hc
          go_wp2
          go_ret2
          exact ⟨by rw [H.out, H3.out, HF.out]; rfl, hb⟩
      · have HC := Lib.hid hc
        have hc1 : ¬ (l[k].toNat : Int) = 37 := fun h => hc (UInt8.toNat_inj.1 (show l[k].toNat = 37 by omega))
        clear hc
        by_cases hu : unresB (l[k].toNat : Int) = true
        · have HU := Lib.hid hu
          go_wp2_with (first | (go_at_call 96; refine (unreserved_any _ _ (by omega) (by omega)).mono ?_; rintro e w' ⟨rfl, rfl⟩) | (at_builtin; refine wpList_app tyBytes rfl _ _ rfl w w.heap.size w.heap.size v out.length (bvals out) rfl (hown.alloc _) (hb.alloc (by omega) _) (by simp; omega) (Nat.le_refl _) wr.heap.size 1 1 [.int .u8 (l[k].toNat : Int)] rfl (blockIs_new _ _ _) rfl (by simp [Value.oneCell']) (by omega) ?_; intro v' w' hown' hb' hgrow'))
          go_roundw
          case rel => exact ⟨_, k + 1, out ++ [l[k]], rfl, by omega, by go_num, by simpa [bvals] using hown', by simp; omega, hb', by show canon _ _ = _; rw [H.out, H2.out, canonL_plain _ _ _ _ HC.out (.inl HU.out)]⟩
          case measure => simp [intOf]; omega
        · have hu' : unresB (l[k].toNat : Int) = false := by simpa using hu
          have HU := Lib.hid hu'
          clear hu
          by_cases hi : inB others (l[k].toNat : Int) = true
          · have HI := Lib.hid hi
            have hx : ¬ Lib.indexByte others l[k] < 0 := fun h => by rw [(idx_in others l[k]).1 h] at hi; cases hi
            clear hi
            go_wp2_with (first | (go_at_call 96; refine (unreserved_any _ _ (by omega) (by omega)).mono ?_; rintro e w' ⟨rfl, rfl⟩) | (go_at_call 71; refine (indexByte_any others _ _).mono ?_; rintro e w' ⟨rfl, rfl⟩) | (at_builtin; refine wpList_app tyBytes rfl _ _ rfl w w.heap.size w.heap.size v out.length (bvals out) rfl (hown.alloc _) (hb.alloc (by omega) _) (by simp; omega) (Nat.le_refl _) wr.heap.size 1 1 [.int .u8 (l[k].toNat : Int)] rfl (blockIs_new _ _ _) rfl (by simp [Value.oneCell']) (by omega) ?_; intro v' w' hown' hb' hgrow'))
            go_roundw
            case rel => exact ⟨_, k + 1, out ++ [l[k]], rfl, by omega, by go_num, by simpa [bvals] using hown', by simp; omega, hb', by show canon _ _ = _; rw [H.out, H2.out, canonL_plain _ _ _ _ HC.out (.inr HI.out)]⟩
            case measure => simp [intOf]; omega
          · have hi' : inB others (l[k].toNat : Int) = false := by simpa using hi
            have HI := Lib.hid hi'
            have hx : Lib.indexByte others l[k] < 0 := (idx_in others l[k]).2 hi'
            clear hi hi'
            go_wp2_with (first | (go_at_call 96; refine (unreserved_any _ _ (by omega) (by omega)).mono ?_; rintro e w' ⟨rfl, rfl⟩) | (go_at_call 71; refine (indexByte_any others _ _).mono ?_; rintro e w' ⟨rfl, rfl⟩))
            go_ret2
            exact ⟨by rw [H.out, H2.out, canonL_bad _ _ _ _ HC.out HU.out HI.out]; rfl, hb⟩
    · have hconv := conv_owned out hown
      go_wp2
      go_ret2
      exact ⟨by rw [H.out, List.drop_of_length_le (by omega), canonL_nil]; rfl, hb⟩
end A1
end Go.Proofs.YtijjggbiljkalaaDoor
