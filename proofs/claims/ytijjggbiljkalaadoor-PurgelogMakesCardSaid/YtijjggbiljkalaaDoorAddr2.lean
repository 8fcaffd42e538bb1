/- Contracts: quaysideref01.Lower, address.canonical and the reference's canonical. Conditions: texts of at most 2^31 bytes. -/
import Derived.Test.YtijjggbiljkalaaDoorAddr1
import Derived.BigQuiet
import Derived.Deep.QuietTactic
namespace Go.Proofs.YtijjggbiljkalaaDoor
open Go.RowKit Pl Ad
attribute [local go_sem] ba_get conv_one conv_one_drewN ba_append ba_extract
set_option maxRecDepth 100000
set_option maxHeartbeats 4000000
set_option linter.unusedVariables false
namespace A1
theorem lower_len (l : Bs) : (lower l).length = l.length := by simp [lower]
theorem lower_take (l : Bs) (k : Nat) (h : k < l.length) : lower (l.take (k + 1)) = lower (l.take k) ++ [lowB l[k]] := by
  simp only [lower, take_snoc h, List.map_append, List.map_cons, List.map_nil]
theorem lower_any (l : Bs) (w : World) (hl : l.length ≤ 2147483648) :
    Calls Tryd.prog 132 #[.string ⟨l.toArray⟩] w fun e w' => e = .returned (.string ⟨(lower l).toArray⟩) ∧ Below w.heap.size w w' := by
  go_enter Tryd.func132, Tryd.ntmps132
  go_wp2
  go_loopw [3, 8] (fun s i wr => ∃ k : Nat, k ≤ l.length ∧ i = .int .i64 k ∧ s = .string ⟨(lower (l.take k)).toArray⟩ ∧ Below w.heap.size w wr) (fun _ i _ => l.length - (intOf i).toNat)
  case atStart => exact ⟨0, Nat.zero_le _, rfl, rfl, Below.refl _ _⟩
  case round =>
    obtain ⟨k, hk, rfl, rfl, hb⟩ := hrel
    have hz := hb.size
    by_cases hlt : k < l.length
    · have h255 := byte_lt l[k]
      have hn : (lower (l.take k)).length ≤ k := by rw [lower_len]; exact List.length_take_le _ _
      have E3 := Lib.hid (lower_take l k hlt)
      by_cases he : 65 ≤ l[k].toNat ∧ l[k].toNat ≤ 90
      · have E1 := Lib.hid (show lowB l[k] = l[k] + 32 from if_pos he)
        obtain ⟨he1, he2⟩ := he
        have g1 : (65 : Int) ≤ (l[k].toNat : Int) := by omega
        have g2 : (l[k].toNat : Int) ≤ 90 := by omega
        clear he1 he2
        go_wp2
        go_roundw
        case rel => exact ⟨k + 1, by omega, by go_num, by rw [E3.out, E1.out], hb.alloc (by omega) _⟩
        case measure => simp [intOf]; omega
      · have E1 := Lib.hid (show lowB l[k] = l[k] from if_neg he)
        have g1 : ¬ ((65 : Int) ≤ (l[k].toNat : Int) ∧ (l[k].toNat : Int) ≤ 90) := by omega
        clear he
        go_wp2
        all_goals
          go_roundw
          case rel => exact ⟨k + 1, by omega, by go_num, by rw [E3.out, E1.out], hb.alloc (by omega) _⟩
          case measure => simp [intOf]; omega
    · go_wp2
      go_ret
      exact ⟨ret_str (by rw [List.take_of_length_le (by omega)]), hb⟩

def marks : Bs := [33, 36, 38, 39, 40, 41, 42, 43, 44, 59, 61, 58, 64, 47]

theorem refCanonical_any (l more : Bs) (w : World) (hl : l.length ≤ 2147483648) (hm : more.length ≤ 2147483648) :
    Calls Tryd.prog 116 #[.string ⟨l.toArray⟩, .string ⟨more.toArray⟩] w fun e w' => e = .returned (.tuple #[.string ⟨(optS (canon l (marks ++ more))).toArray⟩, .bool (canon l (marks ++ more)).isSome]) ∧ Below w.heap.size w w' := by
  go_enter Tryd.func116, Tryd.ntmps116
  go_wp2
  go_loopw [6, 7] (fun s i wr => ∃ (k : Nat) (out : Bs), k ≤ l.length ∧ i = .int .i64 k ∧ s = .string ⟨out.toArray⟩ ∧ out.length ≤ k ∧ Below w.heap.size w wr ∧ Hid (canon l (marks ++ more) = canonL (marks ++ more) (l.drop k) out)) (fun _ i _ => l.length - (intOf i).toNat)
  case atStart => exact ⟨0, [], Nat.zero_le _, rfl, rfl, Nat.zero_le _, Below.refl _ _, rfl⟩
  case round =>
    obtain ⟨k, out, hk, rfl, rfl, ho, hb, H⟩ := hrel
    have hz := hb.size
    by_cases hlt : k < l.length
    · have h255 := byte_lt l[k]
      have H2 := Lib.hid (drop_cons hlt)
      by_cases hc : l[k] = 37
      · have hc1 : (l[k].toNat : Int) = 37 := by rw [hc]; rfl
        have hc2 : ((l[k].toNat : Int) == 37) = true := beq_iff_eq.2 hc1
        clear hc1
        by_cases hk2 : k + 2 < l.length
        · have hk1 : k + 1 < l.length := by omega
          have ha := byte_lt (l[k + 1]'hk1)
          have hb2 := byte_lt (l[k + 2]'hk2)
          have H3 := Lib.hid (show l.drop k = 37 :: (l[k + 1]'hk1) :: (l[k + 2]'hk2) :: l.drop (k + 3) by rw [drop3 hk2, hc])
          clear hc
          obtain ⟨r1, r2⟩ := hexv_range ((l[k + 1]'hk1).toNat : Int)
          obtain ⟨r3, r4⟩ := hexv_range ((l[k + 2]'hk2).toNat : Int)
          by_cases h3 : hexv ((l[k + 1]'hk1).toNat : Int) < 0
          · have HF := Lib.hid (canonL_nohex (marks ++ more) (l[k + 1]'hk1) (l[k + 2]'hk2) (l.drop (k + 3)) out (.inl h3))
            go_wp2_with ((go_at_call 135; refine (refHex_any _ _ (by omega) (by omega)).mono ?_; rintro e w' ⟨rfl, rfl⟩))
            go_ret2
            exact ⟨by rw [H.out, H3.out, HF.out]; rfl, hb⟩
          · by_cases h4 : hexv ((l[k + 2]'hk2).toNat : Int) < 0
            · have HF := Lib.hid (canonL_nohex (marks ++ more) (l[k + 1]'hk1) (l[k + 2]'hk2) (l.drop (k + 3)) out (.inr h4))
              go_wp2_with ((go_at_call 135; refine (refHex_any _ _ (by omega) (by omega)).mono ?_; rintro e w' ⟨rfl, rfl⟩))
              go_ret2
              exact ⟨by rw [H.out, H3.out, HF.out]; rfl, hb⟩
            · have g3 : 0 ≤ hexv ((l[k + 1]'hk1).toNat : Int) := by omega
              have g4 : 0 ≤ hexv ((l[k + 2]'hk2).toNat : Int) := by omega
              have HL := Lib.hid (canonL_low (marks ++ more) (l[k + 1]'hk1) (l[k + 2]'hk2) (l.drop (k + 3)) out h3 h4)
              have HP := Lib.hid (canonL_pct (marks ++ more) (l[k + 1]'hk1) (l[k + 2]'hk2) (l.drop (k + 3)) out h3 h4)
              have s1 : IntKind.i64.wrap ((k : Int) + 1) = (k : Int) + 1 := IntWalk.i64_in _ (by omega)
              have s2 : IntKind.i64.wrap ((k : Int) + 2) = (k : Int) + 2 := IntWalk.i64_in _ (by omega)
              have s3 : IntKind.i64.wrap (16 * hexv ((l[k + 1]'hk1).toNat : Int)) = 16 * hexv ((l[k + 1]'hk1).toNat : Int) := IntWalk.i64_in _ (by omega)
              have s4 : IntKind.i64.wrap (16 * hexv ((l[k + 1]'hk1).toNat : Int) + hexv ((l[k + 2]'hk2).toNat : Int)) = 16 * hexv ((l[k + 1]'hk1).toNat : Int) + hexv ((l[k + 2]'hk2).toNat : Int) := IntWalk.i64_in _ (by omega)
              have z1 : ((k : Int) + 1).toNat = k + 1 := by omega
              have z2 : ((k : Int) + 2).toNat = k + 2 := by omega
              have S1 := Lib.hid s1
              have S2 := Lib.hid s2
              have S3 := Lib.hid s3
              have S4 := Lib.hid s4
              clear s1 s2 s3 s4
              go_wp2_with ((go_at_call 135; refine (refHex_any _ _ (by omega) (by omega)).mono ?_; rintro e w' ⟨rfl, rfl⟩))
              have s1 := S1.out
              have s2 := S2.out
              have s3 := S3.out
              have s4 := S4.out
              have b1 : (0 : Int) ≤ (k : Int) + 1 := by omega
              have b2 : (0 : Int) ≤ (k : Int) + 2 := by omega
              have b3 : (k : Int) + 1 < (l.length : Int) := by omega
              have b4 : (k : Int) + 2 < (l.length : Int) := by omega
              go_quiet ((go_at_call 135; exact quiet_eq (refHex_any _ _ (by omega) (by omega))))
              clear s1 s2 s3 s4 S1 S2 S3 S4
              have hn0 : 0 ≤ 16 * hexv ((l[k + 1]'hk1).toNat : Int) + hexv ((l[k + 2]'hk2).toNat : Int) := by omega
              have hn1 : 16 * hexv ((l[k + 1]'hk1).toNat : Int) + hexv ((l[k + 2]'hk2).toNat : Int) ≤ 255 := by omega
              clear g3 g4 r1 r2 r3 r4
              generalize 16 * hexv ((l[k + 1]'hk1).toNat : Int) + hexv ((l[k + 2]'hk2).toNat : Int) = n at HL HP hn0 hn1 ⊢
              obtain ⟨m, rfl⟩ := Int.eq_ofNat_of_zero_le hn0
              have H4 := Lib.hid (H.out.trans (congrArg (fun x => canonL (marks ++ more) x out) H3.out))
              clear H H2 H3 ha hb2 hc2
              by_cases h5 : (m : Int) < 32
              · have HF := Lib.hid (HL.out (.inl (by omega)))
                go_wp2
                go_ret2
                exact ⟨by rw [H4.out, HF.out]; rfl, below_drewN hb _⟩
              · by_cases h6 : (m : Int) = 127
                · have HF := Lib.hid (HL.out (.inr (by omega)))
                  have h6' : ((m : Int) == 127) = true := beq_iff_eq.2 h6
                  clear h6
                  go_wp2
                  go_ret2
                  exact ⟨by rw [H4.out, HF.out]; rfl, below_drewN hb _⟩
                · have HF := Lib.hid (HP.out (by omega) (by omega))
                  clear HL HP
                  by_cases hu : unresB (m : Int) = true
                  · have HO := Lib.hid (show pctOut (m : Int) = [UInt8.ofNat m] by unfold pctOut; rw [if_pos hu]; rfl)
                    go_wp2_with ((go_at_call 133; refine (refUnreserved_any _ _ (by omega) (by omega)).mono ?_; rintro e w' ⟨rfl, rfl⟩))
                    go_roundw
                    case rel => exact ⟨k + 3, out ++ pctOut m, by omega, by go_num, by rw [HO.out], by rw [HO.out]; simp; omega, (below_drewN hb _).alloc (by simp; omega) _, by show canon _ _ = _; rw [H4.out, HF.out]⟩
                    case measure => simp [intOf]; omega
                  · have hu' : unresB (m : Int) = false := by simpa using hu
                    clear hu
                    have HO := Lib.hid (pctOut_enc m (by omega) hu')
                    have ho3 := pctOut_len (m : Int)
                    go_wp2_with ((go_at_call 133; refine (refUnreserved_any _ _ (by omega) (by omega)).mono ?_; rintro e w' ⟨rfl, rfl⟩))
                    have s1 : IntKind.i64.wrap ((m : Int) / 16 + 1) = (m : Int) / 16 + 1 := IntWalk.i64_in _ (by omega)
                    have s2 : IntKind.i64.wrap ((m : Int) % 16 + 1) = (m : Int) % 16 + 1 := IntWalk.i64_in _ (by omega)
                    go_quiet (fail)
                    go_wp2
                    go_roundw
                    case rel => exact ⟨k + 3, out ++ pctOut m, by omega, by go_num, by rw [HO.out], by rw [List.length_append]; omega, below_drewN hb _, by show canon _ _ = _; rw [H4.out, HF.out]⟩
                    case measure => simp [intOf]; omega
        · have HF := Lib.hid (canonL_short (marks ++ more) (l.drop (k + 1)) out (by simp; omega))
          have H3 := Lib.hid (show l.drop k = 37 :: l.drop (k + 1) by rw [H2.out, hc])
          clear hc
          go_wp2
          go_ret2
          exact ⟨by rw [H.out, H3.out, HF.out]; rfl, hb⟩
      · have HC := Lib.hid hc
        have hc1 : ¬ (l[k].toNat : Int) = 37 := fun h => hc (UInt8.toNat_inj.1 (show l[k].toNat = 37 by omega))
        clear hc
        by_cases hu : unresB (l[k].toNat : Int) = true
        · have HU := Lib.hid hu
          go_wp2_with (go_at_call 133; refine (refUnreserved_any _ _ (by omega) (by omega)).mono ?_; rintro e w' ⟨rfl, rfl⟩)
          go_roundw
          case rel => exact ⟨k + 1, out ++ [l[k]], by omega, by go_num, by simp [take_one _ _ hlt], by simp; omega, hb, by show canon _ _ = _; rw [H.out, H2.out, canonL_plain _ _ _ _ HC.out (.inl HU.out)]⟩
          case measure => simp [intOf]; omega
        · have hu' : unresB (l[k].toNat : Int) = false := by simpa using hu
          have HU := Lib.hid hu'
          clear hu
          by_cases hi : inB (marks ++ more) (l[k].toNat : Int) = true
          · have HI := Lib.hid hi
            rw [inB_append, Bool.or_eq_true] at hi
            rcases hi with hi | hi
            all_goals
              go_wp2_with (first | (go_at_call 133; refine (refUnreserved_any _ _ (by omega) (by omega)).mono ?_; rintro e w' ⟨rfl, rfl⟩) | (go_at_call_of 134 (more); refine (in_any more _ _ (by omega) (by omega) hm).mono ?_; rintro e w' ⟨rfl, rfl⟩) | (go_at_call 134; refine (in_any marks _ _ (by omega) (by omega) (by decide)).mono ?_; rintro e w' ⟨rfl, rfl⟩))
              all_goals
                go_roundw
                case rel => exact ⟨k + 1, out ++ [l[k]], by omega, by go_num, by simp [take_one _ _ hlt], by simp; omega, hb, by show canon _ _ = _; rw [H.out, H2.out, canonL_plain _ _ _ _ HC.out (.inr HI.out)]⟩
                case measure => simp [intOf]; omega
          · have hi' : inB (marks ++ more) (l[k].toNat : Int) = false := by simpa using hi
            have HI := Lib.hid hi'
            rw [inB_append, Bool.or_eq_false_iff] at hi'
            obtain ⟨hi1, hi2⟩ := hi'
            clear hi
            go_wp2_with (first | (go_at_call 133; refine (refUnreserved_any _ _ (by omega) (by omega)).mono ?_; rintro e w' ⟨rfl, rfl⟩) | (go_at_call_of 134 (more); refine (in_any more _ _ (by omega) (by omega) hm).mono ?_; rintro e w' ⟨rfl, rfl⟩) | (go_at_call 134; refine (in_any marks _ _ (by omega) (by omega) (by decide)).mono ?_; rintro e w' ⟨rfl, rfl⟩))
            go_ret2
            exact ⟨by rw [H.out, H2.out, canonL_bad _ _ _ _ HC.out HU.out HI.out]; rfl, hb⟩
    · go_wp2
      go_ret2
      exact ⟨by rw [H.out, List.drop_of_length_le (by omega), canonL_nil]; rfl, hb⟩
end A1
end Go.Proofs.YtijjggbiljkalaaDoor
