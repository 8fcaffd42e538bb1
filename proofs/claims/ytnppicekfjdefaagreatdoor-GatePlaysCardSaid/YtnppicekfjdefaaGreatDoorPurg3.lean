/- Contract: tags.Clean: the words it returns are tags; of a tag it returns the tag alone. Conditions: texts of at most 2^31 bytes. -/
import Derived.Test.YtnppicekfjdefaaGreatDoorSlib
import Derived.Test.YtnppicekfjdefaaGreatDoorPurg1
namespace Go.Proofs.YtnppicekfjdefaaGreatDoor
open Go.RowKit Pl Ad
attribute [local go_sem] ba_get ba_append ba_extract
set_option maxRecDepth 100000
set_option maxHeartbeats 4000000
set_option linter.unusedVariables false
namespace A1

theorem strsV_own {w : World} {B : Nat} {v : Value} {xs : List Bs} (h : OwnWin w B 9 1 v xs.length (svals xs)) : StrsV w v xs := by
  rcases h.2 with ⟨h1, h2⟩ | ⟨g, o, cap, cur, rfl, hb, hg, hnc, _⟩
  · exact .inl ⟨List.eq_nil_of_length_eq_zero h2, .inl h1⟩
  · refine .inr ⟨g, o, cap, rfl, hnc, (Array.getElem?_eq_some_iff.1 hg).1, fun k x hx => ?_⟩
    have hk : k < xs.length := (List.getElem?_eq_some_iff.1 hx).1
    obtain ⟨g', o', c', e', _, _, _, _, hc⟩ := h.cells (by omega)
    cases e'
    exact hc k (str x) (by simp [svals, hx])

/-- What Clean returns. -/
def CleanR (s : Bs) (w : World) (e : Ending) (w' : World) : Prop := Below w.heap.size w w' ∧
  ((e = .returned (.tuple #[.slice none 0 0, .iface 60 (.int .i64 2)]) ∧ goodB s = false) ∨
   ∃ v xs, e = .returned (.tuple #[v, .nilIface]) ∧ StrsV w' v xs ∧ xs.length ≤ 16 ∧ (∀ x ∈ xs, goodB x = true) ∧ (goodB s = true → xs = [s]))

theorem byteF {c m : UInt8} (h : ¬ c = m) : ((c.toNat : Int) == (m.toNat : Int)) = false := beq_eq_false_iff_ne.2 (fun e => h (UInt8.toNat_inj.1 (by omega)))
theorem good_at {s : Bs} {k : Nat} (hk : k < s.length) (h : goodB s = true) : ¬ s[k] = 32 ∧ ¬ s[k] = 9 :=
  ⟨fun e => goodB_noblank h (e ▸ List.getElem_mem hk), fun e => goodB_notab h (e ▸ List.getElem_mem hk)⟩
theorem mid_all (s : Bs) (j : Nat) (h0 : j = s.length) : (s.drop 0).take (j - 0) = s := by subst h0; simp

theorem clean_any (s : Bs) (w : World) (hl : s.length ≤ 2147483648) :
    Calls Tryz.prog 62 #[.string ⟨s.toArray⟩] w (CleanR s w) := by
  go_enter Tryz.func62, Tryz.ntmps62
  go_wp2
  go_loopw [4, 5] (fun v i wr => ∃ (u : Value) (k : Nat) (xs : List Bs), u = v ∧ k ≤ s.length ∧ i = .int .i64 k ∧ OwnWin wr w.heap.size 9 1 u xs.length (svals xs) ∧ xs.length ≤ 16 ∧ Below w.heap.size w wr ∧ Hid (∀ x ∈ xs, goodB x = true) ∧ Hid (goodB s = true → (k = 0 ∧ xs = []) ∨ (k = s.length ∧ xs = [s]))) (fun _ i _ => s.length - (intOf i).toNat)
  case atStart => exact ⟨_, 0, [], rfl, Nat.zero_le _, rfl, OwnWin.nil _ _ _ _, by simp, Below.refl _ _, fun x hx => by simp at hx, fun _ => .inl ⟨rfl, rfl⟩⟩
  case round =>
    obtain ⟨v, k, xs, rfl, hk, rfl, hown, hxl, hb, HG, HS⟩ := hrel
    obtain ⟨a0, c0, rfl, _⟩ := hown.form
    have hz := hb.size
    by_cases hlt : k < s.length
    · by_cases hbl : s[k] = 32 ∨ s[k] = 9
      · have HN := Lib.hid (show goodB s = true → False from fun h => by
          rcases hbl with h9 | h9
          · exact (good_at hlt h).1 h9
          · exact (good_at hlt h).2 h9)
        rcases hbl with h9 | h9
        · have h32 : ((s[k].toNat : Int) == 32) = true := by rw [h9]; rfl
          clear h9
          go_wp2_with fail
          go_roundw
          case rel => exact ⟨_, k + 1, xs, rfl, by omega, by go_num, hown, hxl, hb, HG, fun h => (HN.out h).elim⟩
          case measure => simp [intOf]; omega
        · have h32 : ((s[k].toNat : Int) == 32) = false := by rw [h9]; rfl
          have h09 : ((s[k].toNat : Int) == 9) = true := by rw [h9]; rfl
          clear h9
          go_wp2_with fail
          go_roundw
          case rel => exact ⟨_, k + 1, xs, rfl, by omega, by go_num, hown, hxl, hb, HG, fun h => (HN.out h).elim⟩
          case measure => simp [intOf]; omega
      · have HNB := Lib.hid hbl
        have h32 : ((s[k].toNat : Int) == 32) = false := byteF fun e => hbl (.inl e)
        have h09 : ((s[k].toNat : Int) == 9) = false := byteF fun e => hbl (.inr e)
        clear hbl
        go_wp2_with fail
        go_loop [6] (fun i => ∃ j : Nat, k ≤ j ∧ j ≤ s.length ∧ i = .int .i64 j) (fun i => s.length - (intOf i).toNat)
        case atStart => exact ⟨k, Nat.le_refl _, by omega, rfl⟩
        case round =>
          obtain ⟨j, hkj, hj, rfl⟩ := hrel
          clear h32 h09
          by_cases hgo : ∃ h : j < s.length, ¬ (s[j] = 32 ∨ s[j] = 9)
          · obtain ⟨hjl, hnb⟩ := hgo
            have h32 : ((s[j].toNat : Int) == 32) = false := byteF fun e => hnb (.inl e)
            have h09 : ((s[j].toNat : Int) == 9) = false := byteF fun e => hnb (.inr e)
            have h32' : ((s[j].toNat : Int) != 32) = true := by rw [bne, h32]; rfl
            have h09' : ((s[j].toNat : Int) != 9) = true := by rw [bne, h09]; rfl
            clear hnb
            go_wp2_with fail
            go_round
            case rel => exact ⟨j + 1, by omega, by omega, by go_num⟩
            case measure => simp [intOf]; omega
          · have hkj2 : k < j := by
              rcases Nat.lt_or_ge k j with h | h
              · exact h
              · exfalso
                obtain rfl : j = k := by omega
                exact hgo ⟨hlt, HNB.out⟩
            have HEND := Lib.hid (show goodB s = true → j = s.length from fun h => by
              rcases Nat.lt_or_ge j s.length with h1 | h1
              · exfalso
                exact hgo ⟨h1, fun h2 => by
                  rcases h2 with h2 | h2
                  · exact (good_at h1 h).1 h2
                  · exact (good_at h1 h).2 h2⟩
              · omega)
            have HST := Lib.hid (show j = s.length ∨ ∃ h : j < s.length, (s[j] = 32 ∨ s[j] = 9) by
              by_cases h1 : j < s.length
              · by_cases h2 : s[j] = 32 ∨ s[j] = 9
                · exact .inr ⟨h1, h2⟩
                · exact absurd ⟨h1, h2⟩ hgo
              · exact .inl (by omega))
            clear hgo
            have HW := Lib.hid (show goodB s = true → k = 0 ∧ xs = [] from fun h => by
              rcases HS.out h with h1 | h1
              · exact h1
              · omega)
            have hwl : ((s.drop k).take (j - k)).length ≤ 2147483648 := by rw [List.length_take, List.length_drop]; omega
            have HWD := Lib.hid (show goodB s = true → (s.drop k).take (j - k) = s from fun h => by
              obtain ⟨rfl, _⟩ := HW.out h
              exact mid_all s j (HEND.out h))
            generalize hwd : (s.drop k).take (j - k) = word at hwl HWD
            rcases HST.out with h1 | ⟨h1, h2⟩
            · have hj2 : ¬ j < s.length := by omega
              clear h1
              cases hg : goodB word with
              | false =>
                have HGW := Lib.hid hg
                have HNG := Lib.hid (show goodB s = false from by rw [Bool.eq_false_iff]; intro h; rw [HWD.out h, h] at hg; cases hg)
                clear hg
                skip
                go_wp2_with (first | (go_at_call 75; refine (good_any word _ hwl).mono ?_; rintro e w2 ⟨rfl, rfl⟩; rw [HGW.out]))
                go_ret2
                exact ⟨hb, .inl ⟨rfl, HNG.out⟩⟩
              | true =>
                have HGW := Lib.hid hg
                clear hg
                have HSV := Lib.hid (strsV_own hown)
                by_cases h16 : xs.length < 16
                · by_cases hm : word ∈ xs
                  · have HMEM := Lib.hid (decide_eq_true hm)
                    have HNG := Lib.hid (show goodB s = true → False from fun h => by obtain ⟨_, hx⟩ := HW.out h; rw [hx] at hm; cases hm)
                    clear hm
                    skip
                    go_wp2_with (first | (go_at_call 75; refine (good_any word _ hwl).mono ?_; rintro e w2 ⟨rfl, rfl⟩; rw [HGW.out]) | (go_at_call 48; refine (contains_any _ xs word _ HSV.out (by omega)).mono ?_; rintro e w2 ⟨rfl, rfl⟩; rw [HMEM.out]))
                    go_roundw
                    case rel => exact ⟨_, j, xs, rfl, by omega, rfl, hown, hxl, hb, HG, fun h => (HNG.out h).elim⟩
                    case measure => simp [intOf]; omega
                  · have HMEM := Lib.hid (decide_eq_false hm)
                    clear hm
                    skip
                    go_wp2_with (first | (go_at_call 75; refine (good_any word _ hwl).mono ?_; rintro e w2 ⟨rfl, rfl⟩; rw [HGW.out]) | (go_at_call 48; refine (contains_any _ xs word _ HSV.out (by omega)).mono ?_; rintro e w2 ⟨rfl, rfl⟩; rw [HMEM.out]) | (at_builtin; refine wpList_appw tyStrs rfl _ _ rfl w.heap.size (.slice a0 xs.length c0) xs.length (svals xs) rfl (hown.alloc _) (by simp; omega) (.slice (some ⟨wr.heap.size, 0, none⟩) 1 1) 1 [str word] rfl (SrcAt.one (heap_alloc_new wr _)) rfl (by simp [Value.oneCell']) (by omega) ?_; intro v' w' hown' hgrow' hlies'))
                    go_roundw
                    case rel => exact ⟨_, j, xs ++ [word], rfl, by omega, rfl, by rw [List.length_append, ← svals_append]; exact hown', by simp; omega, (hb.alloc (by omega) _).grown hgrow' (by simp; omega) (fun q hq => (hown.lt q hq).1), fun x hx => by rcases List.mem_append.1 hx with hx | hx; exact HG.out x hx; rw [List.mem_singleton.1 hx]; exact HGW.out, fun h => .inr ⟨HEND.out h, by rw [(HW.out h).2, HWD.out h]; rfl⟩⟩
                    case measure => simp [intOf]; omega
                · have HNG := Lib.hid (show goodB s = true → False from fun h => by obtain ⟨_, hx⟩ := HW.out h; rw [hx] at h16; simp at h16)
                  skip
                  go_wp2_with (first | (go_at_call 75; refine (good_any word _ hwl).mono ?_; rintro e w2 ⟨rfl, rfl⟩; rw [HGW.out]) | (go_at_call 48; refine (contains_any _ xs word _ HSV.out (by omega)).mono ?_; rintro e w2 ⟨rfl, rfl⟩; rw [HMEM.out]))
                  go_roundw
                  case rel => exact ⟨_, j, xs, rfl, by omega, rfl, hown, hxl, hb, HG, fun h => (HNG.out h).elim⟩
                  case measure => simp [intOf]; omega
            · rcases h2 with h2 | h2
              · have h32 : ((s[j].toNat : Int) == 32) = true := by rw [h2]; rfl
                have h32' : ((s[j].toNat : Int) != 32) = false := by rw [bne, h32]; rfl
                clear h2
                cases hg : goodB word with
                | false =>
                  have HGW := Lib.hid hg
                  have HNG := Lib.hid (show goodB s = false from by rw [Bool.eq_false_iff]; intro h; rw [HWD.out h, h] at hg; cases hg)
                  clear hg
                  skip
                  go_wp2_with (first | (go_at_call 75; refine (good_any word _ hwl).mono ?_; rintro e w2 ⟨rfl, rfl⟩; rw [HGW.out]))
                  go_ret2
                  exact ⟨hb, .inl ⟨rfl, HNG.out⟩⟩
                | true =>
                  have HGW := Lib.hid hg
                  clear hg
                  have HSV := Lib.hid (strsV_own hown)
                  by_cases h16 : xs.length < 16
                  · by_cases hm : word ∈ xs
                    · have HMEM := Lib.hid (decide_eq_true hm)
                      have HNG := Lib.hid (show goodB s = true → False from fun h => by obtain ⟨_, hx⟩ := HW.out h; rw [hx] at hm; cases hm)
                      clear hm
                      skip
                      go_wp2_with (first | (go_at_call 75; refine (good_any word _ hwl).mono ?_; rintro e w2 ⟨rfl, rfl⟩; rw [HGW.out]) | (go_at_call 48; refine (contains_any _ xs word _ HSV.out (by omega)).mono ?_; rintro e w2 ⟨rfl, rfl⟩; rw [HMEM.out]))
                      go_roundw
                      case rel => exact ⟨_, j, xs, rfl, by omega, rfl, hown, hxl, hb, HG, fun h => (HNG.out h).elim⟩
                      case measure => simp [intOf]; omega
                    · have HMEM := Lib.hid (decide_eq_false hm)
                      clear hm
                      skip
                      go_wp2_with (first | (go_at_call 75; refine (good_any word _ hwl).mono ?_; rintro e w2 ⟨rfl, rfl⟩; rw [HGW.out]) | (go_at_call 48; refine (contains_any _ xs word _ HSV.out (by omega)).mono ?_; rintro e w2 ⟨rfl, rfl⟩; rw [HMEM.out]) | (at_builtin; refine wpList_appw tyStrs rfl _ _ rfl w.heap.size (.slice a0 xs.length c0) xs.length (svals xs) rfl (hown.alloc _) (by simp; omega) (.slice (some ⟨wr.heap.size, 0, none⟩) 1 1) 1 [str word] rfl (SrcAt.one (heap_alloc_new wr _)) rfl (by simp [Value.oneCell']) (by omega) ?_; intro v' w' hown' hgrow' hlies'))
                      go_roundw
                      case rel => exact ⟨_, j, xs ++ [word], rfl, by omega, rfl, by rw [List.length_append, ← svals_append]; exact hown', by simp; omega, (hb.alloc (by omega) _).grown hgrow' (by simp; omega) (fun q hq => (hown.lt q hq).1), fun x hx => by rcases List.mem_append.1 hx with hx | hx; exact HG.out x hx; rw [List.mem_singleton.1 hx]; exact HGW.out, fun h => .inr ⟨HEND.out h, by rw [(HW.out h).2, HWD.out h]; rfl⟩⟩
                      case measure => simp [intOf]; omega
                  · have HNG := Lib.hid (show goodB s = true → False from fun h => by obtain ⟨_, hx⟩ := HW.out h; rw [hx] at h16; simp at h16)
                    skip
                    go_wp2_with (first | (go_at_call 75; refine (good_any word _ hwl).mono ?_; rintro e w2 ⟨rfl, rfl⟩; rw [HGW.out]) | (go_at_call 48; refine (contains_any _ xs word _ HSV.out (by omega)).mono ?_; rintro e w2 ⟨rfl, rfl⟩; rw [HMEM.out]))
                    go_roundw
                    case rel => exact ⟨_, j, xs, rfl, by omega, rfl, hown, hxl, hb, HG, fun h => (HNG.out h).elim⟩
                    case measure => simp [intOf]; omega
              · have h32 : ((s[j].toNat : Int) == 32) = false := by rw [h2]; rfl
                have h32' : ((s[j].toNat : Int) != 32) = true := by rw [bne, h32]; rfl
                have h09 : ((s[j].toNat : Int) == 9) = true := by rw [h2]; rfl
                have h09' : ((s[j].toNat : Int) != 9) = false := by rw [bne, h09]; rfl
                clear h2
                cases hg : goodB word with
                | false =>
                  have HGW := Lib.hid hg
                  have HNG := Lib.hid (show goodB s = false from by rw [Bool.eq_false_iff]; intro h; rw [HWD.out h, h] at hg; cases hg)
                  clear hg
                  skip
                  go_wp2_with (first | (go_at_call 75; refine (good_any word _ hwl).mono ?_; rintro e w2 ⟨rfl, rfl⟩; rw [HGW.out]))
                  go_ret2
                  exact ⟨hb, .inl ⟨rfl, HNG.out⟩⟩
                | true =>
                  have HGW := Lib.hid hg
                  clear hg
                  have HSV := Lib.hid (strsV_own hown)
                  by_cases h16 : xs.length < 16
                  · by_cases hm : word ∈ xs
                    · have HMEM := Lib.hid (decide_eq_true hm)
                      have HNG := Lib.hid (show goodB s = true → False from fun h => by obtain ⟨_, hx⟩ := HW.out h; rw [hx] at hm; cases hm)
                      clear hm
                      skip
                      go_wp2_with (first | (go_at_call 75; refine (good_any word _ hwl).mono ?_; rintro e w2 ⟨rfl, rfl⟩; rw [HGW.out]) | (go_at_call 48; refine (contains_any _ xs word _ HSV.out (by omega)).mono ?_; rintro e w2 ⟨rfl, rfl⟩; rw [HMEM.out]))
                      go_roundw
                      case rel => exact ⟨_, j, xs, rfl, by omega, rfl, hown, hxl, hb, HG, fun h => (HNG.out h).elim⟩
                      case measure => simp [intOf]; omega
                    · have HMEM := Lib.hid (decide_eq_false hm)
                      clear hm
                      skip
                      go_wp2_with (first | (go_at_call 75; refine (good_any word _ hwl).mono ?_; rintro e w2 ⟨rfl, rfl⟩; rw [HGW.out]) | (go_at_call 48; refine (contains_any _ xs word _ HSV.out (by omega)).mono ?_; rintro e w2 ⟨rfl, rfl⟩; rw [HMEM.out]) | (at_builtin; refine wpList_appw tyStrs rfl _ _ rfl w.heap.size (.slice a0 xs.length c0) xs.length (svals xs) rfl (hown.alloc _) (by simp; omega) (.slice (some ⟨wr.heap.size, 0, none⟩) 1 1) 1 [str word] rfl (SrcAt.one (heap_alloc_new wr _)) rfl (by simp [Value.oneCell']) (by omega) ?_; intro v' w' hown' hgrow' hlies'))
                      go_roundw
                      case rel => exact ⟨_, j, xs ++ [word], rfl, by omega, rfl, by rw [List.length_append, ← svals_append]; exact hown', by simp; omega, (hb.alloc (by omega) _).grown hgrow' (by simp; omega) (fun q hq => (hown.lt q hq).1), fun x hx => by rcases List.mem_append.1 hx with hx | hx; exact HG.out x hx; rw [List.mem_singleton.1 hx]; exact HGW.out, fun h => .inr ⟨HEND.out h, by rw [(HW.out h).2, HWD.out h]; rfl⟩⟩
                      case measure => simp [intOf]; omega
                  · have HNG := Lib.hid (show goodB s = true → False from fun h => by obtain ⟨_, hx⟩ := HW.out h; rw [hx] at h16; simp at h16)
                    skip
                    go_wp2_with (first | (go_at_call 75; refine (good_any word _ hwl).mono ?_; rintro e w2 ⟨rfl, rfl⟩; rw [HGW.out]) | (go_at_call 48; refine (contains_any _ xs word _ HSV.out (by omega)).mono ?_; rintro e w2 ⟨rfl, rfl⟩; rw [HMEM.out]))
                    go_roundw
                    case rel => exact ⟨_, j, xs, rfl, by omega, rfl, hown, hxl, hb, HG, fun h => (HNG.out h).elim⟩
                    case measure => simp [intOf]; omega
    · have HF := Lib.hid (show goodB s = true → xs = [s] from fun h => by
        rcases HS.out h with h1 | h1
        · have := goodB_lens h; omega
        · exact h1.2)
      have hsl : (xs.mergeSort fun x y => decide (x ≤ y)).length = xs.length := List.length_mergeSort _
      have HSL := Lib.hid hsl
      clear hsl
      go_wp2_with fail
      refine (sort_any w.heap.size _ xs wr hown (by omega)).mono ?_
      rintro e w2 ⟨rfl, hown2, ht2⟩
      have HB2 := Lib.hid (hb.trans (ht2.below (B := w.heap.size) hz (fun q hq => (hown.lt q hq).1)))
      have HO2 := Lib.hid (show OwnWin w2 w.heap.size 9 1 (.slice a0 xs.length c0) (xs.mergeSort fun x y => decide (x ≤ y)).length (svals (xs.mergeSort fun x y => decide (x ≤ y))) by rw [HSL.out]; exact hown2)
      clear ht2 hown2
      go_wp2_with fail
      go_ret2
      refine ⟨HB2.out, .inr ⟨_, xs.mergeSort fun x y => decide (x ≤ y), rfl, strsV_own HO2.out, by rw [HSL.out]; exact hxl, fun x hx => HG.out x (List.mem_mergeSort.1 hx), fun h => by rw [HF.out h]; simp⟩⟩
end A1
end Go.Proofs.YtnppicekfjdefaaGreatDoor
