/- PROVED: AddressSegments returns true for every input and leaves its arguments as they were. No condition beyond the statement's own (the listed tables of package unicode/utf8 read as the program's text lays them, which the card ties). -/
import Derived.Test.YthbjpekgiiflkaaDoorFrame
import Derived.Test.YthbjpekgiiflkaaDoorAddrD
import Derived.Test.YthbjpekgiiflkaaDoorAddrH
import Derived.Test.YthbjpekgiiflkaaDoorAddrM
namespace Go.Proofs.YthbjpekgiiflkaaDoor.lawSegs
open Go.ChangeShapes Go.WideShapes Go.ChangeAt Go.RowKit Pl Ad A1
open Go.ChangeMaps (open_string shut_string)
attribute [local go_sem] ba_get conv_one conv_one_drewN ba_append ba_extract
set_option maxRecDepth 100000
set_option maxHeartbeats 4000000
set_option linter.unusedVariables false


attribute [local go_sem] ba_extract_end ba_extract_zero
theorem cut_facts (p : Bs) : (cutAt 47 p).1.length ≤ p.length ∧ (∀ (k : Nat) (h : k < (cutAt 47 p).1.length) (h2 : k < p.length), p[k] ≠ 47) ∧ ((cutAt 47 p).1.length < p.length → ∃ h : (cutAt 47 p).1.length < p.length, p[(cutAt 47 p).1.length] = 47) := by
  rcases cutAt_ways 47 p with ⟨h, e⟩ | ⟨a, q, rfl, h, e⟩
  · rw [e]
    exact ⟨Nat.le_refl _, fun k _ h2 h3 => h (h3 ▸ List.getElem_mem h2), fun h9 => absurd h9 (Nat.lt_irrefl _)⟩
  · rw [e]
    refine ⟨by simp, fun k hk h2 h3 => ?_, fun h9 => ⟨h9, by simp⟩⟩
    simp only at hk
    rw [List.getElem_append_left hk] at h3
    exact h (h3 ▸ List.getElem_mem hk)

theorem strs_cell {w : World} {a : Option Addr} {c : Nat} {xs : List Bs} (h : StrsV w (.slice a xs.length c) xs) : ∀ (k : Nat) (hk : k < xs.length), ∃ b o : Nat, a = some ⟨b, o, none⟩ ∧ xs.length ≤ c ∧ w.cell? ⟨b, o + k, none⟩ = some (.string ⟨(xs[k]).toArray⟩) := by
  intro k hk
  rcases h with ⟨rfl, _⟩ | ⟨b, o, c', e, hc, _, hcl⟩
  · simp at hk
  · simp only [Value.slice.injEq, true_and] at e
    obtain ⟨rfl, rfl⟩ := e
    exact ⟨b, o, rfl, hc, hcl k xs[k] (by simp [hk])⟩

theorem len_slashed : ∀ xs : List Bs, xs.length ≤ (slashed xs).length
  | [] => Nat.zero_le _
  | x :: r => by
    have h := len_slashed r
    rw [show x :: r = [x] ++ r from rfl, slashed_append, slashed_one]
    simp only [List.length_append, List.length_cons, List.length_nil]
    omega

theorem lawQ_eq (n v : Bs) : lawQ n v = 97 :: 61 :: 49 :: 38 :: (n ++ 61 :: (v ++ 38 :: (n ++ [61, 111, 116, 104, 101, 114]))) := by simp [lawQ]

theorem walk_large (p n v : Bs) (w : World) (hr : Ready w) (h1 : p.length ≤ 140737488351232) (h2 : n.length ≤ 140737488351232) (h3 : v.length ≤ 140737488351232) (hl : ¬ p.length + n.length + v.length ≤ 1500) :
    Calls Tryd.prog 8 #[.string ⟨p.toArray⟩, .string ⟨n.toArray⟩, .string ⟨v.toArray⟩] w fun e w' => e = .returned (.bool true) ∧ Below w.heap.size w w' := by
  go_enter Tryd.func8, Tryd.ntmps8
  go_wp2_with fail
  refine (awake_any _ hr).mono ?_
  rintro e w1 ⟨rfl, hb1⟩
  go_wp2_with fail
  refine (awake_any _ (hr.below hb1)).mono ?_
  rintro e w2 ⟨rfl, hb2⟩
  go_wp2_with fail
  go_ret
  exact ⟨rfl, hb1.trans (hb2.mono hb1.size)⟩

theorem walk_main (p n v : Bs) (w : World) (hr : Ready w) (hl : p.length + n.length + v.length ≤ 1500) :
    Calls Tryd.prog 8 #[.string ⟨p.toArray⟩, .string ⟨n.toArray⟩, .string ⟨v.toArray⟩] w fun e w' => e = .returned (.bool true) ∧ Below w.heap.size w w' := by
  obtain ⟨hN1, hN2, hN3⟩ := cut_facts p
  have HSL := Lib.hid (slashed_segs p)
  generalize (cutAt 47 p).1.length = N at hN1 hN2 hN3 HSL
  have HN2 := Lib.hid hN2
  have HN3 := Lib.hid hN3
  clear hN2 hN3
  go_enter Tryd.func8, Tryd.ntmps8
  go_wp2_with fail
  refine (awake_any _ hr).mono ?_
  rintro e w1 ⟨rfl, hb1⟩
  have hr1 := Lib.hid (hr.below hb1)
  have HB1 := Lib.hid hb1
  clear hb1
  have hr := Lib.hid hr
  go_wp2_with fail
  go_loop [7] (fun i => ∃ k : Nat, k ≤ N ∧ i = .int .i64 k) (fun i => N - (intOf i).toNat)
  case atStart => exact ⟨0, Nat.zero_le _, rfl⟩
  case round =>
    obtain ⟨k, hk, rfl⟩ := hrel
    by_cases hlt : k < N
    · have hkp : k < p.length := by omega
      have hc := HN2.out k hlt hkp
      generalize hx : p[k] = x at hc
      have hx2 : ((x.toNat : Int) == 47) = false := beq_eq_false_iff_ne.2 (fun h => hc (UInt8.toNat_inj.1 (show x.toNat = 47 by omega)))
      have hx3 : ((x.toNat : Int) != 47) = true := by rw [bne, hx2]; rfl
      clear hc
      go_wp2_with fail
      go_round
      case rel => exact ⟨k + 1, by omega, by go_num⟩
      case measure => simp [intOf]; omega
    · obtain rfl : k = N := by omega
      by_cases hend : k < p.length
      · obtain ⟨_, hc⟩ := HN3.out hend
        generalize hx : p[k] = x at hc
        have hx2 : ((x.toNat : Int) == 47) = true := by rw [hc]; rfl
        have hx3 : ((x.toNat : Int) != 47) = false := by rw [bne, hx2]; rfl
        clear hc
        go_wp2_with fail
        refine (segments_any p _ (by omega) hr1.out).mono ?_
        rintro e w2 ⟨u, rfl, hu, hb2⟩
        have HB2 := Lib.hid (HB1.out.trans (hb2.mono HB1.out.size))
        have hr2 := Lib.hid (hr1.out.below hb2)
        clear hb2
        obtain ⟨a, c, rfl⟩ := hu.form
        have HC := Lib.hid (strs_cell hu)
        clear hu
        have HRM := Lib.hid (show (slashed (segs p)).length ≤ 1500 by rw [HSL.out, List.length_drop]; omega)
        have HLN := Lib.hid (show (segs p).length ≤ 1500 from Nat.le_trans (len_slashed _) HRM.out)
        generalize segs p = xs at HSL HC HRM HLN
        have hln := HLN.out
        go_wp2_with fail
        go_loop [8, 48] (fun s i => ∃ k : Nat, k ≤ xs.length ∧ i = .int .i64 k ∧ s = .string ⟨(slashed (xs.take k)).toArray⟩) (fun _ i => xs.length - (intOf i).toNat)
        case atStart => exact ⟨0, Nat.zero_le _, rfl, rfl⟩
        case round =>
          obtain ⟨j, hj, rfl, rfl⟩ := hrel
          by_cases hlt2 : j < xs.length
          · obtain ⟨b, o, rfl, hcap, hcell⟩ := HC.out j hlt2
            have HT := Lib.hid (show slashed (xs.take (j + 1)) = slashed (xs.take j) ++ 47 :: xs[j] by rw [take_snoc hlt2, slashed_append, slashed_one])
            have hl2 : (slashed (xs.take j)).length + (xs[j].length + 1) ≤ 1500 := by
              have h9 := room_take xs (j + 1)
              rw [room, HT.out, List.length_append, List.length_cons] at h9
              exact Nat.le_trans h9 HRM.out
            generalize hy : xs[j] = y at hcell HT hl2
            clear hy
            go_wp2_with fail
            go_round
            case rel => exact ⟨j + 1, by omega, by go_num, by rw [HT.out]⟩
            case measure => simp [intOf]; omega
          · have HT := Lib.hid (show slashed (xs.take j) = (p.drop k).take (p.length - k) by rw [List.take_of_length_le (by omega), HSL.out, List.take_of_length_le (by simp)])
            rw [HT.out]
            go_wp2_with fail
            go_loop [66] (fun i => ∃ m : Nat, m ≤ n.length + v.length ∧ i = .int .i64 m ∧ Hid ((38 : UInt8) ∉ (n ++ v).take m ∧ (61 : UInt8) ∉ (n ++ v).take m)) (fun i => n.length + v.length - (intOf i).toNat)
            case atStart => exact ⟨0, Nat.zero_le _, rfl, by simp, by simp⟩
            case round =>
              obtain ⟨m, hm, rfl, H⟩ := hrel
              by_cases hlt3 : m < n.length + v.length
              · have hlt4 : m < (n ++ v).length := by simpa using hlt3
                have HS := Lib.hid (take_snoc hlt4)
                generalize hz : (n ++ v)[m] = z at HS
                by_cases h38 : z = 38
                · have hz1 : ((z.toNat : Int) == 38) = true := by rw [h38]; rfl
                  clear h38
                  go_wp2_with fail
                  go_ret
                  exact ⟨rfl, HB2.out⟩
                · have hz1 : ((z.toNat : Int) == 38) = false := beq_eq_false_iff_ne.2 (fun h => h38 (UInt8.toNat_inj.1 (show z.toNat = 38 by omega)))
                  by_cases h61 : z = 61
                  · have hz2 : ((z.toNat : Int) == 61) = true := by rw [h61]; rfl
                    clear h38 h61
                    go_wp2_with fail
                    go_ret
                    exact ⟨rfl, HB2.out⟩
                  · have hz2 : ((z.toNat : Int) == 61) = false := beq_eq_false_iff_ne.2 (fun h => h61 (UInt8.toNat_inj.1 (show z.toNat = 61 by omega)))
                    have HG := Lib.hid (show (38 : UInt8) ∉ (n ++ v).take (m + 1) ∧ (61 : UInt8) ∉ (n ++ v).take (m + 1) by
                      rw [HS.out]
                      obtain ⟨g1, g2⟩ := H.out
                      exact ⟨by simp only [List.mem_append, List.mem_singleton, not_or]; exact ⟨g1, fun e => h38 e.symm⟩, by simp only [List.mem_append, List.mem_singleton, not_or]; exact ⟨g2, fun e => h61 e.symm⟩⟩)
                    clear h38 h61
                    go_wp2_with fail
                    go_round
                    case rel => exact ⟨m + 1, by omega, by go_num, HG.out⟩
                    case measure => simp [intOf]; omega
              · have HG := Lib.hid (show ((38 : UInt8) ∉ n ∧ (61 : UInt8) ∉ n) ∧ ((38 : UInt8) ∉ v ∧ (61 : UInt8) ∉ v) by
                  obtain ⟨g1, g2⟩ := H.out
                  rw [List.take_of_length_le (by simp; omega)] at g1 g2
                  simp only [List.mem_append, not_or] at g1 g2
                  exact ⟨⟨g1.1, g2.1⟩, g1.2, g2.2⟩)
                clear H
                have hlq : List.length (97 :: 61 :: 49 :: 38 :: (n ++ 61 :: (v ++ 38 :: (n ++ [61, 111, 116, 104, 101, 114]))) : Bs) ≤ 10000 := by simp; omega
                by_cases hna : n = [97]
                · have hn1 : (n == [97]) = true := by simpa using hna
                  have HQ1 := Lib.hid (show argL (97 :: 61 :: 49 :: 38 :: (n ++ 61 :: (v ++ 38 :: (n ++ [61, 111, 116, 104, 101, 114])))) n true = some [49] by rw [← lawQ_eq, lawQ_arg HG.out.1 HG.out.2, if_pos hna])
                  clear hna
                  have HQ2 := Lib.hid (show argL (97 :: 61 :: 49 :: 38 :: (n ++ 61 :: (v ++ 38 :: (n ++ [61, 111, 116, 104, 101, 114])))) (n ++ [61, 120]) true = none by rw [← lawQ_eq, lawQ_none HG.out.1 HG.out.2])
                  have hX2 := box_new w2 38 (.string ⟨#[]⟩) (.string ⟨#[]⟩) (.string ⟨(97 :: 61 :: 49 :: 38 :: (n ++ 61 :: (v ++ 38 :: (n ++ [61, 111, 116, 104, 101, 114]))) : Bs).toArray⟩) (.bool true)
                  have hA2 := (Below.refl w2.heap.size w2).alloc (Nat.le_refl _) (.cells #[.string ⟨#[]⟩, .string ⟨#[]⟩, .string ⟨(97 :: 61 :: 49 :: 38 :: (n ++ 61 :: (v ++ 38 :: (n ++ [61, 111, 116, 104, 101, 114]))) : Bs).toArray⟩, .bool true] 38)
                  have hr3 := Lib.hid (hr2.out.below hA2)
                  have HB3 := Lib.hid (HB2.out.trans (hA2.mono HB2.out.size))
                  clear hA2
                  go_wp2_with fail
                  refine (arg_any [] [] (97 :: 61 :: 49 :: 38 :: (n ++ 61 :: (v ++ 38 :: (n ++ [61, 111, 116, 104, 101, 114])))) n true _ (by omega) (by omega) hr3.out).mono ?_
                  rintro e w3 ⟨rfl, hb3⟩
                  rw [HQ1.out, argV_some]
                  have hX3 := hX2.below hb3 (by simp)
                  have hr4 := Lib.hid (hr3.out.below hb3)
                  have HB4 := Lib.hid (HB3.out.trans (hb3.mono HB3.out.size))
                  clear hX2 hb3
                  obtain ⟨⟨c0, c1, c2, c3⟩, ⟨_, _, _, f3⟩, hz3⟩ := hX3.facts
                  go_wp2_with fail
                  refine (arg_any [] [] (97 :: 61 :: 49 :: 38 :: (n ++ 61 :: (v ++ 38 :: (n ++ [61, 111, 116, 104, 101, 114])))) (n ++ [61, 120]) true _ (by omega) (by simp; omega) hr4.out).mono ?_
                  rintro e w4 ⟨rfl, hb4⟩
                  rw [HQ2.out, argV_none]
                  have hX4 := hX3.below hb4 hz3
                  clear c0 c1 c2 c3 f3 hX3
                  have hb5 := Lib.hid ((HB4.out.trans (hb4.mono HB4.out.size)).setCell (p := ⟨w2.heap.size, 3, none⟩) HB2.out.size (.bool false))
                  have hr5 := Lib.hid ((hr.out.below hb5.out))
                  clear hb4
                  obtain ⟨⟨c0, c1, c2, c3⟩, ⟨_, _, _, f3⟩, hz4⟩ := hX4.facts
                  go_wp2_with fail
                  refine (arg_any [] [] (97 :: 61 :: 49 :: 38 :: (n ++ 61 :: (v ++ 38 :: (n ++ [61, 111, 116, 104, 101, 114])))) n false _ (by omega) (by omega) hr5.out).mono ?_
                  rintro e w5 ⟨rfl, hb6⟩
                  rw [argL_off, argV_none]
                  go_wp2_with fail
                  go_ret
                  exact ⟨rfl, hb5.out.trans (hb6.mono hb5.out.size)⟩
                · have hn1 : (n == [97]) = false := by simpa using hna
                  have HQ1 := Lib.hid (show argL (97 :: 61 :: 49 :: 38 :: (n ++ 61 :: (v ++ 38 :: (n ++ [61, 111, 116, 104, 101, 114])))) n true = some v by rw [← lawQ_eq, lawQ_arg HG.out.1 HG.out.2, if_neg hna])
                  clear hna
                  have HQ2 := Lib.hid (show argL (97 :: 61 :: 49 :: 38 :: (n ++ 61 :: (v ++ 38 :: (n ++ [61, 111, 116, 104, 101, 114])))) (n ++ [61, 120]) true = none by rw [← lawQ_eq, lawQ_none HG.out.1 HG.out.2])
                  have hX2 := box_new w2 38 (.string ⟨#[]⟩) (.string ⟨#[]⟩) (.string ⟨(97 :: 61 :: 49 :: 38 :: (n ++ 61 :: (v ++ 38 :: (n ++ [61, 111, 116, 104, 101, 114]))) : Bs).toArray⟩) (.bool true)
                  have hA2 := (Below.refl w2.heap.size w2).alloc (Nat.le_refl _) (.cells #[.string ⟨#[]⟩, .string ⟨#[]⟩, .string ⟨(97 :: 61 :: 49 :: 38 :: (n ++ 61 :: (v ++ 38 :: (n ++ [61, 111, 116, 104, 101, 114]))) : Bs).toArray⟩, .bool true] 38)
                  have hr3 := Lib.hid (hr2.out.below hA2)
                  have HB3 := Lib.hid (HB2.out.trans (hA2.mono HB2.out.size))
                  clear hA2
                  go_wp2_with fail
                  refine (arg_any [] [] (97 :: 61 :: 49 :: 38 :: (n ++ 61 :: (v ++ 38 :: (n ++ [61, 111, 116, 104, 101, 114])))) n true _ (by omega) (by omega) hr3.out).mono ?_
                  rintro e w3 ⟨rfl, hb3⟩
                  rw [HQ1.out, argV_some]
                  have hX3 := hX2.below hb3 (by simp)
                  have hr4 := Lib.hid (hr3.out.below hb3)
                  have HB4 := Lib.hid (HB3.out.trans (hb3.mono HB3.out.size))
                  clear hX2 hb3
                  obtain ⟨⟨c0, c1, c2, c3⟩, ⟨_, _, _, f3⟩, hz3⟩ := hX3.facts
                  go_wp2_with fail
                  refine (arg_any [] [] (97 :: 61 :: 49 :: 38 :: (n ++ 61 :: (v ++ 38 :: (n ++ [61, 111, 116, 104, 101, 114])))) (n ++ [61, 120]) true _ (by omega) (by simp; omega) hr4.out).mono ?_
                  rintro e w4 ⟨rfl, hb4⟩
                  rw [HQ2.out, argV_none]
                  have hX4 := hX3.below hb4 hz3
                  clear c0 c1 c2 c3 f3 hX3
                  have hb5 := Lib.hid ((HB4.out.trans (hb4.mono HB4.out.size)).setCell (p := ⟨w2.heap.size, 3, none⟩) HB2.out.size (.bool false))
                  have hr5 := Lib.hid ((hr.out.below hb5.out))
                  clear hb4
                  obtain ⟨⟨c0, c1, c2, c3⟩, ⟨_, _, _, f3⟩, hz4⟩ := hX4.facts
                  go_wp2_with fail
                  refine (arg_any [] [] (97 :: 61 :: 49 :: 38 :: (n ++ 61 :: (v ++ 38 :: (n ++ [61, 111, 116, 104, 101, 114])))) n false _ (by omega) (by omega) hr5.out).mono ?_
                  rintro e w5 ⟨rfl, hb6⟩
                  rw [argL_off, argV_none]
                  go_wp2_with fail
                  go_ret
                  exact ⟨rfl, hb5.out.trans (hb6.mono hb5.out.size)⟩

      · clear HN2 HN3
        go_wp2_with fail
        refine (segments_any p _ (by omega) hr1.out).mono ?_
        rintro e w2 ⟨u, rfl, hu, hb2⟩
        have HB2 := Lib.hid (HB1.out.trans (hb2.mono HB1.out.size))
        have hr2 := Lib.hid (hr1.out.below hb2)
        clear hb2
        obtain ⟨a, c, rfl⟩ := hu.form
        have HC := Lib.hid (strs_cell hu)
        clear hu
        have HRM := Lib.hid (show (slashed (segs p)).length ≤ 1500 by rw [HSL.out, List.length_drop]; omega)
        have HLN := Lib.hid (show (segs p).length ≤ 1500 from Nat.le_trans (len_slashed _) HRM.out)
        generalize segs p = xs at HSL HC HRM HLN
        have hln := HLN.out
        go_wp2_with fail
        go_loop [8, 48] (fun s i => ∃ k : Nat, k ≤ xs.length ∧ i = .int .i64 k ∧ s = .string ⟨(slashed (xs.take k)).toArray⟩) (fun _ i => xs.length - (intOf i).toNat)
        case atStart => exact ⟨0, Nat.zero_le _, rfl, rfl⟩
        case round =>
          obtain ⟨j, hj, rfl, rfl⟩ := hrel
          by_cases hlt2 : j < xs.length
          · obtain ⟨b, o, rfl, hcap, hcell⟩ := HC.out j hlt2
            have HT := Lib.hid (show slashed (xs.take (j + 1)) = slashed (xs.take j) ++ 47 :: xs[j] by rw [take_snoc hlt2, slashed_append, slashed_one])
            have hl2 : (slashed (xs.take j)).length + (xs[j].length + 1) ≤ 1500 := by
              have h9 := room_take xs (j + 1)
              rw [room, HT.out, List.length_append, List.length_cons] at h9
              exact Nat.le_trans h9 HRM.out
            generalize hy : xs[j] = y at hcell HT hl2
            clear hy
            go_wp2_with fail
            go_round
            case rel => exact ⟨j + 1, by omega, by go_num, by rw [HT.out]⟩
            case measure => simp [intOf]; omega
          · have HT := Lib.hid (show slashed (xs.take j) = (p.drop k).take (p.length - k) by rw [List.take_of_length_le (by omega), HSL.out, List.take_of_length_le (by simp)])
            rw [HT.out]
            go_wp2_with fail
            go_loop [66] (fun i => ∃ m : Nat, m ≤ n.length + v.length ∧ i = .int .i64 m ∧ Hid ((38 : UInt8) ∉ (n ++ v).take m ∧ (61 : UInt8) ∉ (n ++ v).take m)) (fun i => n.length + v.length - (intOf i).toNat)
            case atStart => exact ⟨0, Nat.zero_le _, rfl, by simp, by simp⟩
            case round =>
              obtain ⟨m, hm, rfl, H⟩ := hrel
              by_cases hlt3 : m < n.length + v.length
              · have hlt4 : m < (n ++ v).length := by simpa using hlt3
                have HS := Lib.hid (take_snoc hlt4)
                generalize hz : (n ++ v)[m] = z at HS
                by_cases h38 : z = 38
                · have hz1 : ((z.toNat : Int) == 38) = true := by rw [h38]; rfl
                  clear h38
                  go_wp2_with fail
                  go_ret
                  exact ⟨rfl, HB2.out⟩
                · have hz1 : ((z.toNat : Int) == 38) = false := beq_eq_false_iff_ne.2 (fun h => h38 (UInt8.toNat_inj.1 (show z.toNat = 38 by omega)))
                  by_cases h61 : z = 61
                  · have hz2 : ((z.toNat : Int) == 61) = true := by rw [h61]; rfl
                    clear h38 h61
                    go_wp2_with fail
                    go_ret
                    exact ⟨rfl, HB2.out⟩
                  · have hz2 : ((z.toNat : Int) == 61) = false := beq_eq_false_iff_ne.2 (fun h => h61 (UInt8.toNat_inj.1 (show z.toNat = 61 by omega)))
                    have HG := Lib.hid (show (38 : UInt8) ∉ (n ++ v).take (m + 1) ∧ (61 : UInt8) ∉ (n ++ v).take (m + 1) by
                      rw [HS.out]
                      obtain ⟨g1, g2⟩ := H.out
                      exact ⟨by simp only [List.mem_append, List.mem_singleton, not_or]; exact ⟨g1, fun e => h38 e.symm⟩, by simp only [List.mem_append, List.mem_singleton, not_or]; exact ⟨g2, fun e => h61 e.symm⟩⟩)
                    clear h38 h61
                    go_wp2_with fail
                    go_round
                    case rel => exact ⟨m + 1, by omega, by go_num, HG.out⟩
                    case measure => simp [intOf]; omega
              · have HG := Lib.hid (show ((38 : UInt8) ∉ n ∧ (61 : UInt8) ∉ n) ∧ ((38 : UInt8) ∉ v ∧ (61 : UInt8) ∉ v) by
                  obtain ⟨g1, g2⟩ := H.out
                  rw [List.take_of_length_le (by simp; omega)] at g1 g2
                  simp only [List.mem_append, not_or] at g1 g2
                  exact ⟨⟨g1.1, g2.1⟩, g1.2, g2.2⟩)
                clear H
                have hlq : List.length (97 :: 61 :: 49 :: 38 :: (n ++ 61 :: (v ++ 38 :: (n ++ [61, 111, 116, 104, 101, 114]))) : Bs) ≤ 10000 := by simp; omega
                by_cases hna : n = [97]
                · have hn1 : (n == [97]) = true := by simpa using hna
                  have HQ1 := Lib.hid (show argL (97 :: 61 :: 49 :: 38 :: (n ++ 61 :: (v ++ 38 :: (n ++ [61, 111, 116, 104, 101, 114])))) n true = some [49] by rw [← lawQ_eq, lawQ_arg HG.out.1 HG.out.2, if_pos hna])
                  clear hna
                  have HQ2 := Lib.hid (show argL (97 :: 61 :: 49 :: 38 :: (n ++ 61 :: (v ++ 38 :: (n ++ [61, 111, 116, 104, 101, 114])))) (n ++ [61, 120]) true = none by rw [← lawQ_eq, lawQ_none HG.out.1 HG.out.2])
                  have hX2 := box_new w2 38 (.string ⟨#[]⟩) (.string ⟨#[]⟩) (.string ⟨(97 :: 61 :: 49 :: 38 :: (n ++ 61 :: (v ++ 38 :: (n ++ [61, 111, 116, 104, 101, 114]))) : Bs).toArray⟩) (.bool true)
                  have hA2 := (Below.refl w2.heap.size w2).alloc (Nat.le_refl _) (.cells #[.string ⟨#[]⟩, .string ⟨#[]⟩, .string ⟨(97 :: 61 :: 49 :: 38 :: (n ++ 61 :: (v ++ 38 :: (n ++ [61, 111, 116, 104, 101, 114]))) : Bs).toArray⟩, .bool true] 38)
                  have hr3 := Lib.hid (hr2.out.below hA2)
                  have HB3 := Lib.hid (HB2.out.trans (hA2.mono HB2.out.size))
                  clear hA2
                  go_wp2_with fail
                  refine (arg_any [] [] (97 :: 61 :: 49 :: 38 :: (n ++ 61 :: (v ++ 38 :: (n ++ [61, 111, 116, 104, 101, 114])))) n true _ (by omega) (by omega) hr3.out).mono ?_
                  rintro e w3 ⟨rfl, hb3⟩
                  rw [HQ1.out, argV_some]
                  have hX3 := hX2.below hb3 (by simp)
                  have hr4 := Lib.hid (hr3.out.below hb3)
                  have HB4 := Lib.hid (HB3.out.trans (hb3.mono HB3.out.size))
                  clear hX2 hb3
                  obtain ⟨⟨c0, c1, c2, c3⟩, ⟨_, _, _, f3⟩, hz3⟩ := hX3.facts
                  go_wp2_with fail
                  refine (arg_any [] [] (97 :: 61 :: 49 :: 38 :: (n ++ 61 :: (v ++ 38 :: (n ++ [61, 111, 116, 104, 101, 114])))) (n ++ [61, 120]) true _ (by omega) (by simp; omega) hr4.out).mono ?_
                  rintro e w4 ⟨rfl, hb4⟩
                  rw [HQ2.out, argV_none]
                  have hX4 := hX3.below hb4 hz3
                  clear c0 c1 c2 c3 f3 hX3
                  have hb5 := Lib.hid ((HB4.out.trans (hb4.mono HB4.out.size)).setCell (p := ⟨w2.heap.size, 3, none⟩) HB2.out.size (.bool false))
                  have hr5 := Lib.hid ((hr.out.below hb5.out))
                  clear hb4
                  obtain ⟨⟨c0, c1, c2, c3⟩, ⟨_, _, _, f3⟩, hz4⟩ := hX4.facts
                  go_wp2_with fail
                  refine (arg_any [] [] (97 :: 61 :: 49 :: 38 :: (n ++ 61 :: (v ++ 38 :: (n ++ [61, 111, 116, 104, 101, 114])))) n false _ (by omega) (by omega) hr5.out).mono ?_
                  rintro e w5 ⟨rfl, hb6⟩
                  rw [argL_off, argV_none]
                  go_wp2_with fail
                  go_ret
                  exact ⟨rfl, hb5.out.trans (hb6.mono hb5.out.size)⟩
                · have hn1 : (n == [97]) = false := by simpa using hna
                  have HQ1 := Lib.hid (show argL (97 :: 61 :: 49 :: 38 :: (n ++ 61 :: (v ++ 38 :: (n ++ [61, 111, 116, 104, 101, 114])))) n true = some v by rw [← lawQ_eq, lawQ_arg HG.out.1 HG.out.2, if_neg hna])
                  clear hna
                  have HQ2 := Lib.hid (show argL (97 :: 61 :: 49 :: 38 :: (n ++ 61 :: (v ++ 38 :: (n ++ [61, 111, 116, 104, 101, 114])))) (n ++ [61, 120]) true = none by rw [← lawQ_eq, lawQ_none HG.out.1 HG.out.2])
                  have hX2 := box_new w2 38 (.string ⟨#[]⟩) (.string ⟨#[]⟩) (.string ⟨(97 :: 61 :: 49 :: 38 :: (n ++ 61 :: (v ++ 38 :: (n ++ [61, 111, 116, 104, 101, 114]))) : Bs).toArray⟩) (.bool true)
                  have hA2 := (Below.refl w2.heap.size w2).alloc (Nat.le_refl _) (.cells #[.string ⟨#[]⟩, .string ⟨#[]⟩, .string ⟨(97 :: 61 :: 49 :: 38 :: (n ++ 61 :: (v ++ 38 :: (n ++ [61, 111, 116, 104, 101, 114]))) : Bs).toArray⟩, .bool true] 38)
                  have hr3 := Lib.hid (hr2.out.below hA2)
                  have HB3 := Lib.hid (HB2.out.trans (hA2.mono HB2.out.size))
                  clear hA2
                  go_wp2_with fail
                  refine (arg_any [] [] (97 :: 61 :: 49 :: 38 :: (n ++ 61 :: (v ++ 38 :: (n ++ [61, 111, 116, 104, 101, 114])))) n true _ (by omega) (by omega) hr3.out).mono ?_
                  rintro e w3 ⟨rfl, hb3⟩
                  rw [HQ1.out, argV_some]
                  have hX3 := hX2.below hb3 (by simp)
                  have hr4 := Lib.hid (hr3.out.below hb3)
                  have HB4 := Lib.hid (HB3.out.trans (hb3.mono HB3.out.size))
                  clear hX2 hb3
                  obtain ⟨⟨c0, c1, c2, c3⟩, ⟨_, _, _, f3⟩, hz3⟩ := hX3.facts
                  go_wp2_with fail
                  refine (arg_any [] [] (97 :: 61 :: 49 :: 38 :: (n ++ 61 :: (v ++ 38 :: (n ++ [61, 111, 116, 104, 101, 114])))) (n ++ [61, 120]) true _ (by omega) (by simp; omega) hr4.out).mono ?_
                  rintro e w4 ⟨rfl, hb4⟩
                  rw [HQ2.out, argV_none]
                  have hX4 := hX3.below hb4 hz3
                  clear c0 c1 c2 c3 f3 hX3
                  have hb5 := Lib.hid ((HB4.out.trans (hb4.mono HB4.out.size)).setCell (p := ⟨w2.heap.size, 3, none⟩) HB2.out.size (.bool false))
                  have hr5 := Lib.hid ((hr.out.below hb5.out))
                  clear hb4
                  obtain ⟨⟨c0, c1, c2, c3⟩, ⟨_, _, _, f3⟩, hz4⟩ := hX4.facts
                  go_wp2_with fail
                  refine (arg_any [] [] (97 :: 61 :: 49 :: 38 :: (n ++ 61 :: (v ++ 38 :: (n ++ [61, 111, 116, 104, 101, 114])))) n false _ (by omega) (by omega) hr5.out).mono ?_
                  rintro e w5 ⟨rfl, hb6⟩
                  rw [argL_off, argV_none]
                  go_wp2_with fail
                  go_ret
                  exact ⟨rfl, hb5.out.trans (hb6.mono hb5.out.size)⟩


theorem walk (p n v : Bs) (w : World) (hr : Ready w) (h1 : p.length ≤ 140737488351232) (h2 : n.length ≤ 140737488351232) (h3 : v.length ≤ 140737488351232) :
    Calls Tryd.prog 8 #[.string ⟨p.toArray⟩, .string ⟨n.toArray⟩, .string ⟨v.toArray⟩] w fun e w' => e = .returned (.bool true) ∧ Below w.heap.size w w' := by
  by_cases hl : p.length + n.length + v.length ≤ 1500
  · exact walk_main p n v w hr hl
  · exact walk_large p n v w hr h1 h2 h3 hl

/-- What the walk gives, for every argument. -/
theorem contract (H : Type) (enc : TypeId × Value → H) (W : World) (base : Nat) (args : Array Value) (ds gs : List (DataW H)) (before : List MemPlace)
    (hval : ∀ (j : Nat) t v, Tryd.f8.params[j]? = some t → args[j]? = some v → Value.okWide Tryd.prog W .any base t v)
    (hW : DataW.Whole enc Tryd.prog Tryd.f8.params.toList Rows.addressSegmentsSpec.vars false W args.toList ds gs before) (hsz : (DataW.weightsEach Tryd.prog Tryd.f8.params.toList (ds ++ gs)).all (· ≤ reachBytes) = true) (hr : Ready W) :
    Calls Tryd.prog 8 args W fun e W' => ∃ v, e = .returned v ∧ Rows.addressSegmentsSpec.post enc Tryd.prog Tryd.f8 false true false false W args v W' := by
  have hW' := hW
  have hlt := fun p hp => hW.lt p hp
  obtain ⟨p, q, hA0, hV, rfl, hfz, hnd⟩ := hW
  have hA : DataW.TrodAll enc Tryd.prog W 0 (fun _ => true) true Tryd.f8.params.toList args.toList ds p := hA0
  have hA1 := hA
  obtain ⟨rfl, rfl⟩ := trodVars_none hV
  rw [Tryd.params8] at hA hval
  obtain ⟨v0, vs0, d0, ds0, p0, q0, hargs, rfl, rfl, h0, r0⟩ := trodAll_cons hA
  obtain ⟨v1, vs1, d1, ds1, p1, q1, rfl, rfl, rfl, h1, r1⟩ := trodAll_cons r0
  obtain ⟨v2, vs2, d2, ds2, p2, q2, rfl, rfl, rfl, h2, r2⟩ := trodAll_cons r1
  obtain ⟨rfl, rfl, rfl⟩ := trodAll_nil r2
  obtain rfl : args = #[v0, v1, v2] := by cases args; simp_all
  have fin : ∀ W', Below W.heap.size W W' → Rows.addressSegmentsSpec.post enc Tryd.prog Tryd.f8 false true false false W #[v0, v1, v2] (.bool true) W' := fun W' hb => by
    simp only [List.append_nil] at hA1 hW' hlt
    exact ⟨_, _, _, [], _, [], hW', trodAll_cons_mk (shut_bool Tryd.underlying4 _) trodAll_mk0, Fr.trodAll_below (by kernel_rfl) _ (by kernel_rfl) hA1 hb hlt, rfl, hb.frame _, fun h => by cases h⟩
  clear hW' hA0 hA1 hlt
  rw [Tryd.params8, List.append_nil] at hsz
  obtain ⟨s0, rfl, rfl, rfl, hs0⟩ := open_string Tryd.underlying9 (hval 0 9 v0 rfl rfl) h0
  obtain ⟨⟨l0⟩⟩ := s0
  have z0 : l0.length ≤ 140737488351232 := sized_string hsz (j := 0) rfl rfl
  obtain ⟨s1, rfl, rfl, rfl, hs1⟩ := open_string Tryd.underlying9 (hval 1 9 v1 rfl rfl) h1
  obtain ⟨⟨l1⟩⟩ := s1
  have z1 : l1.length ≤ 140737488351232 := sized_string hsz (j := 1) rfl rfl
  obtain ⟨s2, rfl, rfl, rfl, hs2⟩ := open_string Tryd.underlying9 (hval 2 9 v2 rfl rfl) h2
  obtain ⟨⟨l2⟩⟩ := s2
  have z2 : l2.length ≤ 140737488351232 := sized_string hsz (j := 2) rfl rfl
  refine (walk l0 l1 l2 W hr z0 z1 z2).mono fun e W' ⟨he, hb⟩ => ?_
  subst he
  exact ⟨_, rfl, fin W' hb⟩

theorem laid_met (os : Os) : laidMet Tryd.prog Rows.addressSegmentsRow.laid ((Fr.laidWorld os).forCall (fun _ _ => 0) ⟨#[], #[.string ⟨#[]⟩, .string ⟨#[]⟩, .string ⟨#[]⟩], []⟩).memory :=
  laidMet_of_run' 8 (by kernel_rfl) (by kernel_rfl)
theorem reads (os : Os) {H : Type} (enc : TypeId × Value → H) : ∃ places, DataW.whole enc Tryd.prog ((Fr.laidWorld os).forCall (fun _ _ => 0) ⟨#[], #[.string ⟨#[]⟩, .string ⟨#[]⟩, .string ⟨#[]⟩], []⟩).memory Tryd.f8.params.toList Rows.addressSegmentsSpec.vars false (#[.string ⟨#[]⟩, .string ⟨#[]⟩, .string ⟨#[]⟩] : Array Value).toList 8 = some ([.lit (.string []), .lit (.string []), .lit (.string [])], [], places) :=
  ⟨[], by kernel_rfl⟩

theorem lifted (os : Os) (started : os.Started) (H : Type) (enc : TypeId × Value → H) (F : Stop.Interp) :
    ReturnsInHanded {} Tryd.checked os 8 .any ((OpenSpec.ofChange Rows.addressSegmentsSpec).preRow enc Tryd.prog Tryd.f8 Rows.addressSegmentsRow.domain false Rows.addressSegmentsRow.laid) (((OpenSpec.ofChange Rows.addressSegmentsSpec).at F).post enc Tryd.prog Tryd.f8 false true false false) := by
  obtain ⟨places, hx⟩ := reads os enc
  refine returnsInHanded_of_row (C := Tryd.checked) (s := OpenSpec.ofChange Rows.addressSegmentsSpec) Fr.own started (by kernel_rfl) Tryd.func8
    (witness_row_at (enc := enc) (C := Tryd.checked) false (Fr.laidWorld os) #[.string ⟨#[]⟩, .string ⟨#[]⟩, .string ⟨#[]⟩] rfl (by kernel_rfl) (by kernel_rfl) (by kernel_rfl)
      (OpenSpec.preRow_of_cond 8 hx (by kernel_rfl) (fun k hk => by cases hk) (by kernel_rfl) (laid_met os))) ?_
  intro W base args ds gs before hval hW _ hcond hsz _ hsh _
  exact contract H enc W base args ds gs before hval hW (by have h9 : (DataW.weightsEach Tryd.prog (Tryd.f8.params.toList ++ []) (ds ++ gs)).all (· ≤ reachBytes) = true := hsz; rw [List.append_nil] at h9; exact h9) (Fr.ready hsh)

theorem said : Rows.AddressSegmentsSaid :=
  OpenClaim.holds_of_cond 8 Tryd.f8 rfl rfl rfl rfl rfl rfl rfl ⟨rfl, rfl, rfl, rfl, rfl⟩ rfl rfl rfl rfl rfl (by kernel_rfl) Tryd.func8 (by kernel_rfl)
    (of_decide_eq_true (by kernel_rfl)) (by unfold Func.isWrapper; first | (rw [if_pos (by decide +kernel)]; kernel_rfl) | (rw [if_neg (by decide +kernel)]; exact ⟨rfl, rfl⟩))
    (fun os started H enc _ F => by rw [OpenClaim.pre_eq_preRow]; exact lifted os started H enc F)

theorem plain (f : FuncId) (fn : Func) (hf : Tryd.pinned.checked.prog.funcNamed "quayside/quaysidelaw03.AddressSegments" = some f) (hfn : Tryd.pinned.checked.prog.funcs[f]? = some fn) :
    true = Tryd.pinned.checked.prog.looks [] ∧ ∀ (j : Nat) t, fn.params[j]? = some t → Tryd.pinned.checked.prog.wantsStandIn t = false := by
  obtain rfl : f = 8 := Option.some.inj ((show Tryd.prog.funcNamed "quayside/quaysidelaw03.AddressSegments" = some 8 by kernel_rfl).symm.trans hf) |>.symm
  obtain rfl : fn = Tryd.f8 := (Option.some.inj (Tryd.func8.symm.trans hfn)).symm
  refine ⟨by kernel_rfl, fun j t ht => ?_⟩
  rw [Tryd.params8] at ht
  have hm : t ∈ [9] := by simpa using Array.mem_of_getElem? ht
  have hall : ([9].all fun u => !Tryd.prog.wantsStandIn u) = true := by kernel_rfl
  exact (show Tryd.prog.wantsStandIn t = false by simpa using List.all_eq_true.1 hall t hm)

theorem proved : Rows.AddressSegmentsCardSaid :=
  Claim7.holds_tied_plain_at .later [] _ _ _ _ said (fun _ h => by cases h) (by kernel_rfl) (fun _ h => by cases h) addressSegments_row_tie rfl ⟨rfl, rfl⟩ (by kernel_rfl) rfl plain (by kernel_rfl)
#print axioms proved
end Go.Proofs.YthbjpekgiiflkaaDoor.lawSegs
