/- Contract: the reference's Host. Conditions: texts of at most 2^31 bytes. -/
import Derived.Test.YtijjggbiljkalaaDoorAddr2
import Derived.Test.YtijjggbiljkalaaDoorAddr4
namespace Go.Proofs.YtijjggbiljkalaaDoor
open Go.RowKit Pl Ad
attribute [local go_sem] ba_get conv_one conv_one_drewN ba_append ba_extract
set_option maxRecDepth 100000
set_option maxHeartbeats 4000000
set_option linter.unusedVariables false
namespace A1

theorem hostOk_no (l : Bs) (h : ¬ l.length ≤ 100 ∨ (splitOn 46 l).all labelB = false) : hostOk l = false := by
  unfold hostOk
  rcases h with h | h
  · rw [decide_eq_false h]; rfl
  · rw [h]; simp
theorem hostOk_yes (l : Bs) (h1 : l.length ≤ 100) (h2 : (splitOn 46 l).all labelB = true) : hostOk l = true := by
  unfold hostOk; rw [h2, decide_eq_true h1]; rfl

theorem splitAcc_len (c : UInt8) : ∀ (acc l x : Bs), x ∈ splitAcc c acc l → x.length ≤ acc.length + l.length
  | acc, [], x, h => by simp [splitAcc] at h; subst h; simp
  | acc, b :: t, x, h => by
    rw [splitAcc] at h
    split at h
    · rcases List.mem_cons.1 h with rfl | h
      · omega
      · have := splitAcc_len c [] t x h; simp at this ⊢; omega
    · have := splitAcc_len c (acc ++ [b]) t x h; simp at this ⊢; omega
theorem splitOn_len (c : UInt8) (l x : Bs) (h : x ∈ splitOn c l) : x.length ≤ l.length := by simpa using splitAcc_len c [] l x h
theorem splitAcc_count (c : UInt8) : ∀ (acc l : Bs), (splitAcc c acc l).length ≤ l.length + 1
  | acc, [] => by simp [splitAcc]
  | acc, b :: t => by
    rw [splitAcc]; split
    · have := splitAcc_count c [] t; simp; omega
    · have := splitAcc_count c (acc ++ [b]) t; simp; omega
theorem splitOn_count (c : UInt8) (l : Bs) : (splitOn c l).length ≤ l.length + 1 := splitAcc_count c [] l

/-- What a host's function returns. -/
def hostS (l : Bs) : Bs := if hostOk l then lower l else []
theorem hostS_no (l : Bs) (h : hostOk l = false) : hostS l = [] := by rw [hostS, h]; rfl
theorem hostS_yes (l : Bs) (h : hostOk l = true) : hostS l = lower l := by rw [hostS, h]; rfl

theorem refHost_any (l : Bs) (w : World) (hl : l.length ≤ 2147483648) :
    Calls Tryd.prog 115 #[.string ⟨l.toArray⟩] w fun e w' => e = .returned (.tuple #[.string ⟨(hostS l).toArray⟩, .bool (hostOk l)]) ∧ Below w.heap.size w w' := by
  have hcnt := splitOn_count 46 l
  have hlen := splitOn_len 46 l
  go_enter Tryd.func115, Tryd.ntmps115
  go_wp2_with fail
  refine (refCut_any l 46 w hl).mono ?_
  rintro e w1 ⟨b, c, rfl, hcap, hwb, hbw, hcells, hb1⟩
  generalize hxs0 : splitOn 46 l = xs at hcells hcap hcnt hlen
  have HXS := Lib.hid hxs0
  clear hxs0
  have hxs : ∀ (k : Nat) (x : Bs), xs[k]? = some x → x.length ≤ l.length := fun k x h => hlen x (List.mem_of_getElem? h)
  have HXL := Lib.hid hxs
  clear hxs hlen
  go_wp2_with fail
  go_loop [12] (fun i => ∃ k : Nat, k ≤ xs.length ∧ i = .int .i64 k ∧ Hid (xs.all labelB = (xs.drop k).all labelB)) (fun i => xs.length - (intOf i).toNat)
  case atStart => exact ⟨0, Nat.zero_le _, rfl, rfl⟩
  case round =>
    obtain ⟨k, hk, rfl, H⟩ := hrel
    by_cases hlt : k < xs.length
    · have hc := hcells k xs[k] (by simp [hlt])
      rw [Nat.zero_add] at hc
      generalize hx : xs[k] = x at hc
      have HX := Lib.hid hx
      clear hx
      have hxl := HXL.out k x (by rw [← HX.out]; simp [hlt])
      by_cases g1 : 1 ≤ x.length ∧ x.length ≤ 63
      · obtain ⟨g1, g2⟩ := g1
        have p0 : 0 < x.length := by omega
        have p1 : x.length - 1 < x.length := by omega
        have p2 : ((x.length : Int) - 1).toNat = x.length - 1 := by omega
        by_cases h1 : x[0] = 45
        · have HB := Lib.hid (labelB_head x p0 h1)
          have h1' : ((x[0].toNat : Int) == 45) = true := by rw [h1]; rfl
          clear h1
          go_wp2
          go_ret2
          have HN := Lib.hid (show xs.all labelB = false by rw [H.out, drop_cons hlt, List.all_cons, HX.out, HB.out, Bool.false_and])
          have HO := hostOk_no l (.inr (by rw [HXS.out, HN.out]))
          exact ⟨by rw [hostS_no l HO, HO]; rfl, hb1⟩
        · have h1' : ((x[0].toNat : Int) == 45) = false := beq_eq_false_iff_ne.2 (fun h => h1 (UInt8.toNat_inj.1 (show x[0].toNat = 45 by omega)))
          by_cases h2 : x[x.length - 1] = 45
          · have HB := Lib.hid (labelB_last x p1 h2)
            have h2' : ((x[x.length - 1].toNat : Int) == 45) = true := by rw [h2]; rfl
            clear h1 h2
            go_wp2
            go_ret2
            have HN := Lib.hid (show xs.all labelB = false by rw [H.out, drop_cons hlt, List.all_cons, HX.out, HB.out, Bool.false_and])
            have HO := hostOk_no l (.inr (by rw [HXS.out, HN.out]))
            exact ⟨by rw [hostS_no l HO, HO]; rfl, hb1⟩
          · have h2' : ((x[x.length - 1].toNat : Int) == 45) = false := beq_eq_false_iff_ne.2 (fun h => h2 (UInt8.toNat_inj.1 (show x[x.length - 1].toNat = 45 by omega)))
            have HA := Lib.hid (labelB_all x g1 g2 p0 p1 h1 h2)
            clear h1 h2
            go_wp2
            go_loop [45] (fun i => ∃ j : Nat, j ≤ x.length ∧ i = .int .i64 j ∧ Hid (labelB x = (x.drop j).all okC)) (fun i => x.length - (intOf i).toNat)
            case atStart => exact ⟨0, Nat.zero_le _, rfl, HA.out⟩
            case round =>
              obtain ⟨j, hj, rfl, HJ⟩ := hrel
              by_cases hjl : j < x.length
              · have h255 := byte_lt x[j]
                have HD := Lib.hid (drop_cons hjl)
                by_cases ho : okC x[j] = true
                · have HO := Lib.hid ho
                  have HR := Lib.hid (show labelB x = (x.drop (j + 1)).all okC by rw [HJ.out, HD.out, List.all_cons, ho, Bool.true_and])
                  rw [okC, Bool.or_eq_true, decide_eq_true_eq] at ho
                  rcases ho with ho | ho
                  · go_wp2_with ((go_at_call 131; refine (refAlnum_any _ _ (by omega) (by omega)).mono ?_; rintro e w' ⟨rfl, rfl⟩))
                    go_round
                    case rel => exact ⟨j + 1, by omega, by go_num, HR.out⟩
                    case measure => simp [intOf]; omega
                  · have ho' : ((x[j].toNat : Int) == 45) = true := by rw [ho]; rfl
                    have ho2 : ((x[j].toNat : Int) != 45) = false := by rw [ho]; rfl
                    clear ho
                    go_wp2_with ((go_at_call 131; refine (refAlnum_any _ _ (by omega) (by omega)).mono ?_; rintro e w' ⟨rfl, rfl⟩))
                    all_goals
                      go_round
                      case rel => exact ⟨j + 1, by omega, by go_num, HR.out⟩
                      case measure => simp [intOf]; omega
                · have ho2 : okC x[j] = false := by simpa using ho
                  have HB := Lib.hid (show labelB x = false by rw [HJ.out, HD.out, List.all_cons, ho2, Bool.false_and])
                  rw [okC, Bool.or_eq_false_iff, decide_eq_false_iff_not] at ho2
                  obtain ⟨ho3, ho4⟩ := ho2
                  have ho5 : ((x[j].toNat : Int) == 45) = false := beq_eq_false_iff_ne.2 (fun h => ho4 (UInt8.toNat_inj.1 (show x[j].toNat = 45 by omega)))
                  have ho6 : ((x[j].toNat : Int) != 45) = true := by rw [bne, ho5]; rfl
                  clear ho ho4
                  go_wp2_with ((go_at_call 131; refine (refAlnum_any _ _ (by omega) (by omega)).mono ?_; rintro e w' ⟨rfl, rfl⟩))
                  go_ret2
                  have HN := Lib.hid (show xs.all labelB = false by rw [H.out, drop_cons hlt, List.all_cons, HX.out, HB.out, Bool.false_and])
                  have HO := hostOk_no l (.inr (by rw [HXS.out, HN.out]))
                  exact ⟨by rw [hostS_no l HO, HO]; rfl, hb1⟩
              · have HT := Lib.hid (show labelB x = true by rw [HJ.out, List.drop_of_length_le (by omega)]; rfl)
                go_wp2
                go_round
                case rel => exact ⟨k + 1, by omega, by go_num, by show xs.all labelB = _; rw [H.out, drop_cons hlt, List.all_cons, HX.out, HT.out, Bool.true_and]⟩
                case measure => simp [intOf]; omega
      · have HB := Lib.hid (labelB_len x g1)
        by_cases g3 : 1 ≤ x.length
        · have g4 : 63 < x.length := by omega
          clear g1
          go_wp2
          go_ret2
          have HN := Lib.hid (show xs.all labelB = false by rw [H.out, drop_cons hlt, List.all_cons, HX.out, HB.out, Bool.false_and])
          have HO := hostOk_no l (.inr (by rw [HXS.out, HN.out]))
          exact ⟨by rw [hostS_no l HO, HO]; rfl, hb1⟩
        · clear g1
          go_wp2
          go_ret2
          have HN := Lib.hid (show xs.all labelB = false by rw [H.out, drop_cons hlt, List.all_cons, HX.out, HB.out, Bool.false_and])
          have HO := hostOk_no l (.inr (by rw [HXS.out, HN.out]))
          exact ⟨by rw [hostS_no l HO, HO]; rfl, hb1⟩
    · have HT := Lib.hid (show xs.all labelB = true by rw [H.out, List.drop_of_length_le (by omega)]; rfl)
      by_cases h100 : l.length ≤ 100
      · have HO := Lib.hid (hostOk_yes l h100 (by rw [HXS.out, HT.out]))
        go_wp2_with (go_at_call 132; refine (lower_any l _ hl).mono ?_; rintro e w2 ⟨rfl, hb2⟩)
        go_ret2
        exact ⟨by rw [hostS_yes l HO.out, HO.out]; rfl, hb1.trans (hb2.mono hb1.size)⟩
      · have HO := Lib.hid (hostOk_no l (.inl h100))
        go_wp2
        go_ret2
        exact ⟨by rw [hostS_no l HO.out, HO.out]; rfl, hb1⟩
end A1
end Go.Proofs.YtijjggbiljkalaaDoor
