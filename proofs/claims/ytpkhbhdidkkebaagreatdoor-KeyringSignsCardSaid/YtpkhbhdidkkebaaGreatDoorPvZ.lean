/- Contracts and plain facts that the statement's proof leans on (texts joined). No condition beyond those that each names. -/
import Derived.Deep.RegionHeld3
import Derived.OrdersHeld
import Derived.Test.YtpkhbhdidkkebaaGreatDoorPvT
import Derived.Test.YtpkhbhdidkkebaaGreatDoorPvY
section
namespace Go.Proofs.YtpkhbhdidkkebaaGreatDoor
open Go.RowKit Pl Ad
set_option maxRecDepth 100000
set_option maxHeartbeats 4000000
set_option linter.unusedVariables false
set_option linter.unusedSimpArgs false
namespace Dg
open Kr
theorem zeros_test2 {n j : Nat} (hj : j ≤ zerosN n) : (n + 1 + j) % 64 = 56 ↔ j = zerosN n := by
 unfold zerosN at hj ⊢
 omega
theorem rpad_any (a : Option Addr) (c : Nat) (m : Bs) (w : World) (h : SrcAt w (.slice a m.length c) m.length (bvals m)) (hm : m.length ≤ 1073741824) :
 Calls Tryz.prog 166 #[.slice a m.length c] w fun e w' => ∃ ua uc, e = .returned (.slice ua (m ++ tailM m.length).length uc) ∧ OwnWin w' w.heap.size 5 1 (.slice ua (m ++ tailM m.length).length uc) (m ++ tailM m.length).length (bvals (m ++ tailM m.length)) ∧ Below w.heap.size w w' := by
 have hb1 := (Below.refl w.heap.size w).alloc (Nat.le_refl _) (.cells #[] 5)
 have HS := Lib.hid (h.older hb1)
 have HE := Lib.hid (show OwnWin (w.alloc (.cells #[] 5)) w.heap.size 5 1 (.slice (some ⟨w.heap.size, 0, none⟩) 0 0) 0 [] from ownK_empty (heap_alloc_new w _) (Nat.le_refl _))
 have HB1 := Lib.hid hb1
 have HL := Lib.hid (show (bvals m).length = m.length * 1 by rw [bvals_len]; omega)
 have HNM := Lib.hid (show 0 + m.length ≤ 1099511627776 by omega)
 have hz64 := zeros_lt m.length
 have hm8 : IntKind.u64.wrap ((m.length : Int) * 8) = (m.length : Int) * 8 := by rw [IntKind.wrap_u64]; omega
 have HM8 := Lib.hid hm8
 clear h hb1 hm8
 go_enter Tryz.func166, Tryz.ntmps166
 go_wp2_with (first
  | (at_builtin; refine wpList_appw tyBytes (by rfl) _ _ (by rfl) w.heap.size (.slice (some ⟨w.heap.size, 0, none⟩) 0 0) 0 [] (by rfl) HE.out HB1.out.size (.slice a m.length c) m.length (bvals m) (by rfl) HS.out HL.out (bvals_one _) HNM.out ?_; intro v' w1 hown1 hgrow1 hlies1; rw [Nat.zero_add, List.nil_append] at hown1; obtain ⟨ua, uc, rfl, hud⟩ := hown1.form; have HOW := Lib.hid hown1; have HBW := Lib.hid (belowK_grown HB1.out hgrow1 HB1.out.size (fun q hq => (HE.out.lt q hq).1)); have HZZ : Hid (∀ C : Array Value, w.heap.size ≤ (w1.alloc (.cells C 5)).heap.size) := Lib.hid (fun C => by have := HBW.out.size; simp; omega); clear hown1 hgrow1 hlies1)
  | (at_builtin; refine wpList_appw tyBytes (by rfl) _ _ (by rfl) w.heap.size (.slice ua m.length uc) m.length _ (by rfl) (HOW.out.alloc _) (HZZ.out _) (.slice (some ⟨w1.heap.size, 0, none⟩) 1 1) 1 [.int .u8 128] (by rfl) (srcMany (heap_alloc_new w1 _)) (by rfl) (by simp [Value.oneCell']) (by omega) ?_; intro v' w2 hown2 hgrow2 hlies2))
 obtain ⟨ub, ud, rfl, hud⟩ := hown2.form
 have HBN := Lib.hid (belowK_grown (HBW.out.alloc HBW.out.size _) hgrow2 (Nat.le_trans HBW.out.size (by simp)) (fun q hq => (HOW.out.lt q hq).1))
 have HON := Lib.hid (show OwnWin w2 w.heap.size 5 1 (.slice ub (m.length + 1) ud) (m.length + 1) (bvals (m ++ 128 :: List.replicate 0 0)) by rw [show m ++ 128 :: List.replicate 0 0 = m ++ [128] from rfl, ← bvals_append]; exact hown2)
 clear hown2 hgrow2 hlies2 HZZ
 go_wp2_with fail
 go_loopg [3] (zerosN m.length) (fun gq sv wr => ∃ (j N : Nat) (a : Option Addr) (c : Nat), j ≤ zerosN m.length ∧ Hid (zerosN m.length ≤ gq + j) ∧ sv = .slice a N c ∧ Hid (N = m.length + 1 + j) ∧ OwnWin wr w.heap.size 5 1 (.slice a N c) N (bvals (m ++ 128 :: List.replicate j 0)) ∧ Below w.heap.size w wr)
 case atStart => exact ⟨0, m.length + 1, ub, ud, Nat.zero_le _, Lib.hid (by omega), rfl, Lib.hid rfl, HON.out, HBN.out⟩
 case round =>
  obtain ⟨j, N, ua, uc, hj, HQ, rfl, HN, hown, hbel⟩ := hrel
  clear HON HBN HOW HBW
  have HOW := Lib.hid hown
  have HBW := Lib.hid hbel
  have hN0 : (0 : Int) ≤ (N : Int) := by omega
  have hNb : N ≤ 1073742000 := by have := HN.out; omega
  have HZZ : Hid (∀ C : Array Value, w.heap.size ≤ (wr.alloc (.cells C 5)).heap.size) := Lib.hid (fun C => by have := HBW.out.size; simp; omega)
  clear hown hbel
  by_cases hlt : j = zerosN m.length
  ·have ht : ((N : Int) % 64 != 56) = false := by
    have h9 := (zeros_test2 hj).2 hlt
    have h8 := HN.out
    simp only [bne_eq_false_iff_eq]
    omega
   have HON := Lib.hid (show OwnWin wr w.heap.size 5 1 (.slice ua N uc) N (bvals (m ++ 128 :: List.replicate (zerosN m.length) 0 ++ (be8 (8 * m.length)).take 0)) by rw [List.take_zero, List.append_nil, ← hlt]; exact HOW.out)
   have HM := Lib.hid (show N = m.length + 1 + zerosN m.length by rw [← hlt]; exact HN.out)
   clear hlt
   have hm8 := HM8.out
   go_wp2_with fail
   go_loopg [22, 5, 3] 8 (fun gq iv s5 sv wr => ∃ (k : Nat) (i : Int) (N : Nat) (a : Option Addr) (c : Nat), i = k ∧ k ≤ 8 ∧ Hid (8 ≤ gq + k) ∧ iv = .int .i64 i ∧ sv = .slice a N c ∧ Hid (N = m.length + 1 + zerosN m.length + k) ∧ OwnWin wr w.heap.size 5 1 (.slice a N c) N (bvals (m ++ 128 :: List.replicate (zerosN m.length) 0 ++ (be8 (8 * m.length)).take k)) ∧ Below w.heap.size w wr)
   case atStart => exact ⟨0, 0, N, ua, uc, rfl, Nat.zero_le _, Lib.hid (by omega), rfl, rfl, Lib.hid (by have := HM.out; omega), HON.out, HBW.out⟩
   case round =>
    obtain ⟨k, i, N, ua, uc, hki, hk8, HQ, rfl, rfl, HN, hown, hbel⟩ := hrel
    clear HON HOW HBW HM HZZ
    have HOW := Lib.hid hown
    have HBW := Lib.hid hbel
    have HZZ : Hid (∀ C : Array Value, w.heap.size ≤ (wr.alloc (.cells C 5)).heap.size) := Lib.hid (fun C => by have := HBW.out.size; simp; omega)
    have hNb : N ≤ 1073742000 := by have := HN.out; omega
    clear hown hbel
    rcases (show (k = 0 ∧ i = 0) ∨ (k = 1 ∧ i = 1) ∨ (k = 2 ∧ i = 2) ∨ (k = 3 ∧ i = 3) ∨ (k = 4 ∧ i = 4) ∨ (k = 5 ∧ i = 5) ∨ (k = 6 ∧ i = 6) ∨ (k = 7 ∧ i = 7) ∨ (k = 8 ∧ i = 8) by omega) with ⟨rfl, rfl⟩ | ⟨rfl, rfl⟩ | ⟨rfl, rfl⟩ | ⟨rfl, rfl⟩ | ⟨rfl, rfl⟩ | ⟨rfl, rfl⟩ | ⟨rfl, rfl⟩ | ⟨rfl, rfl⟩ | ⟨rfl, rfl⟩
    ·clear hk8 hki
     have HBY := Lib.hid (show ((m.length : Int) * 8 / 72057594037927936) = ((UInt8.ofNat (8 * m.length / 2 ^ (56 - 8 * 0))).toNat : Int) by rw [UInt8.toNat_ofNat']; omega)
     go_wp2_with ((at_builtin; refine wpList_appw tyBytes (by rfl) _ _ (by rfl) w.heap.size (.slice ua N uc) N _ (by rfl) (HOW.out.alloc _) (HZZ.out _) (.slice (some ⟨wr.heap.size, 0, none⟩) 1 1) 1 [.int .u8 ((m.length : Int) * 8 / 72057594037927936)] (by rfl) (srcMany (heap_alloc_new wr _)) (by rfl) (by simp [Value.oneCell']) (by omega) ?_; intro v' w2 hown2 hgrow2 hlies2))
     obtain ⟨ub, ud, rfl, hud⟩ := hown2.form
     have HBN := Lib.hid (belowK_grown (HBW.out.alloc HBW.out.size _) hgrow2 (Nat.le_trans HBW.out.size (by simp)) (fun q hq => (HOW.out.lt q hq).1))
     have HON := Lib.hid (show OwnWin w2 w.heap.size 5 1 (.slice ub (N + 1) ud) (N + 1) (bvals (m ++ 128 :: List.replicate (zerosN m.length) 0 ++ (be8 (8 * m.length)).take (0 + 1))) by rw [be8_take _ _ (by omega), ← List.append_assoc, ← bvals_append]; have h9 := hown2; rw [HBY.out] at h9; exact h9)
     clear hown2 hgrow2 hlies2
     go_roundg (gk - 1)
     case rel => exact ⟨1, 1, N + 1, ub, ud, by omega, by omega, Lib.hid (by have := HQ.out; omega), by go_num, rfl, Lib.hid (by have := HN.out; omega), HON.out, HBN.out⟩
     case measure => have := HQ.out; omega
    ·clear hk8 hki
     have HBY := Lib.hid (show ((m.length : Int) * 8 / 281474976710656) = ((UInt8.ofNat (8 * m.length / 2 ^ (56 - 8 * 1))).toNat : Int) by rw [UInt8.toNat_ofNat']; omega)
     go_wp2_with ((at_builtin; refine wpList_appw tyBytes (by rfl) _ _ (by rfl) w.heap.size (.slice ua N uc) N _ (by rfl) (HOW.out.alloc _) (HZZ.out _) (.slice (some ⟨wr.heap.size, 0, none⟩) 1 1) 1 [.int .u8 ((m.length : Int) * 8 / 281474976710656)] (by rfl) (srcMany (heap_alloc_new wr _)) (by rfl) (by simp [Value.oneCell']) (by omega) ?_; intro v' w2 hown2 hgrow2 hlies2))
     obtain ⟨ub, ud, rfl, hud⟩ := hown2.form
     have HBN := Lib.hid (belowK_grown (HBW.out.alloc HBW.out.size _) hgrow2 (Nat.le_trans HBW.out.size (by simp)) (fun q hq => (HOW.out.lt q hq).1))
     have HON := Lib.hid (show OwnWin w2 w.heap.size 5 1 (.slice ub (N + 1) ud) (N + 1) (bvals (m ++ 128 :: List.replicate (zerosN m.length) 0 ++ (be8 (8 * m.length)).take (1 + 1))) by rw [be8_take _ _ (by omega), ← List.append_assoc, ← bvals_append]; have h9 := hown2; rw [HBY.out] at h9; exact h9)
     clear hown2 hgrow2 hlies2
     go_roundg (gk - 1)
     case rel => exact ⟨2, 2, N + 1, ub, ud, by omega, by omega, Lib.hid (by have := HQ.out; omega), by go_num, rfl, Lib.hid (by have := HN.out; omega), HON.out, HBN.out⟩
     case measure => have := HQ.out; omega
    ·clear hk8 hki
     have HBY := Lib.hid (show ((m.length : Int) * 8 / 1099511627776) = ((UInt8.ofNat (8 * m.length / 2 ^ (56 - 8 * 2))).toNat : Int) by rw [UInt8.toNat_ofNat']; omega)
     go_wp2_with ((at_builtin; refine wpList_appw tyBytes (by rfl) _ _ (by rfl) w.heap.size (.slice ua N uc) N _ (by rfl) (HOW.out.alloc _) (HZZ.out _) (.slice (some ⟨wr.heap.size, 0, none⟩) 1 1) 1 [.int .u8 ((m.length : Int) * 8 / 1099511627776)] (by rfl) (srcMany (heap_alloc_new wr _)) (by rfl) (by simp [Value.oneCell']) (by omega) ?_; intro v' w2 hown2 hgrow2 hlies2))
     obtain ⟨ub, ud, rfl, hud⟩ := hown2.form
     have HBN := Lib.hid (belowK_grown (HBW.out.alloc HBW.out.size _) hgrow2 (Nat.le_trans HBW.out.size (by simp)) (fun q hq => (HOW.out.lt q hq).1))
     have HON := Lib.hid (show OwnWin w2 w.heap.size 5 1 (.slice ub (N + 1) ud) (N + 1) (bvals (m ++ 128 :: List.replicate (zerosN m.length) 0 ++ (be8 (8 * m.length)).take (2 + 1))) by rw [be8_take _ _ (by omega), ← List.append_assoc, ← bvals_append]; have h9 := hown2; rw [HBY.out] at h9; exact h9)
     clear hown2 hgrow2 hlies2
     go_roundg (gk - 1)
     case rel => exact ⟨3, 3, N + 1, ub, ud, by omega, by omega, Lib.hid (by have := HQ.out; omega), by go_num, rfl, Lib.hid (by have := HN.out; omega), HON.out, HBN.out⟩
     case measure => have := HQ.out; omega
    ·clear hk8 hki
     have HBY := Lib.hid (show ((m.length : Int) * 8 / 4294967296) = ((UInt8.ofNat (8 * m.length / 2 ^ (56 - 8 * 3))).toNat : Int) by rw [UInt8.toNat_ofNat']; omega)
     go_wp2_with ((at_builtin; refine wpList_appw tyBytes (by rfl) _ _ (by rfl) w.heap.size (.slice ua N uc) N _ (by rfl) (HOW.out.alloc _) (HZZ.out _) (.slice (some ⟨wr.heap.size, 0, none⟩) 1 1) 1 [.int .u8 ((m.length : Int) * 8 / 4294967296)] (by rfl) (srcMany (heap_alloc_new wr _)) (by rfl) (by simp [Value.oneCell']) (by omega) ?_; intro v' w2 hown2 hgrow2 hlies2))
     obtain ⟨ub, ud, rfl, hud⟩ := hown2.form
     have HBN := Lib.hid (belowK_grown (HBW.out.alloc HBW.out.size _) hgrow2 (Nat.le_trans HBW.out.size (by simp)) (fun q hq => (HOW.out.lt q hq).1))
     have HON := Lib.hid (show OwnWin w2 w.heap.size 5 1 (.slice ub (N + 1) ud) (N + 1) (bvals (m ++ 128 :: List.replicate (zerosN m.length) 0 ++ (be8 (8 * m.length)).take (3 + 1))) by rw [be8_take _ _ (by omega), ← List.append_assoc, ← bvals_append]; have h9 := hown2; rw [HBY.out] at h9; exact h9)
     clear hown2 hgrow2 hlies2
     go_roundg (gk - 1)
     case rel => exact ⟨4, 4, N + 1, ub, ud, by omega, by omega, Lib.hid (by have := HQ.out; omega), by go_num, rfl, Lib.hid (by have := HN.out; omega), HON.out, HBN.out⟩
     case measure => have := HQ.out; omega
    ·clear hk8 hki
     have HBY := Lib.hid (show ((m.length : Int) * 8 / 16777216 % 256) = ((UInt8.ofNat (8 * m.length / 2 ^ (56 - 8 * 4))).toNat : Int) by rw [UInt8.toNat_ofNat']; omega)
     go_wp2_with ((at_builtin; refine wpList_appw tyBytes (by rfl) _ _ (by rfl) w.heap.size (.slice ua N uc) N _ (by rfl) (HOW.out.alloc _) (HZZ.out _) (.slice (some ⟨wr.heap.size, 0, none⟩) 1 1) 1 [.int .u8 ((m.length : Int) * 8 / 16777216 % 256)] (by rfl) (srcMany (heap_alloc_new wr _)) (by rfl) (by simp [Value.oneCell']) (by omega) ?_; intro v' w2 hown2 hgrow2 hlies2))
     obtain ⟨ub, ud, rfl, hud⟩ := hown2.form
     have HBN := Lib.hid (belowK_grown (HBW.out.alloc HBW.out.size _) hgrow2 (Nat.le_trans HBW.out.size (by simp)) (fun q hq => (HOW.out.lt q hq).1))
     have HON := Lib.hid (show OwnWin w2 w.heap.size 5 1 (.slice ub (N + 1) ud) (N + 1) (bvals (m ++ 128 :: List.replicate (zerosN m.length) 0 ++ (be8 (8 * m.length)).take (4 + 1))) by rw [be8_take _ _ (by omega), ← List.append_assoc, ← bvals_append]; have h9 := hown2; rw [HBY.out] at h9; exact h9)
     clear hown2 hgrow2 hlies2
     go_roundg (gk - 1)
     case rel => exact ⟨5, 5, N + 1, ub, ud, by omega, by omega, Lib.hid (by have := HQ.out; omega), by go_num, rfl, Lib.hid (by have := HN.out; omega), HON.out, HBN.out⟩
     case measure => have := HQ.out; omega
    ·clear hk8 hki
     have HBY := Lib.hid (show ((m.length : Int) * 8 / 65536 % 256) = ((UInt8.ofNat (8 * m.length / 2 ^ (56 - 8 * 5))).toNat : Int) by rw [UInt8.toNat_ofNat']; omega)
     go_wp2_with ((at_builtin; refine wpList_appw tyBytes (by rfl) _ _ (by rfl) w.heap.size (.slice ua N uc) N _ (by rfl) (HOW.out.alloc _) (HZZ.out _) (.slice (some ⟨wr.heap.size, 0, none⟩) 1 1) 1 [.int .u8 ((m.length : Int) * 8 / 65536 % 256)] (by rfl) (srcMany (heap_alloc_new wr _)) (by rfl) (by simp [Value.oneCell']) (by omega) ?_; intro v' w2 hown2 hgrow2 hlies2))
     obtain ⟨ub, ud, rfl, hud⟩ := hown2.form
     have HBN := Lib.hid (belowK_grown (HBW.out.alloc HBW.out.size _) hgrow2 (Nat.le_trans HBW.out.size (by simp)) (fun q hq => (HOW.out.lt q hq).1))
     have HON := Lib.hid (show OwnWin w2 w.heap.size 5 1 (.slice ub (N + 1) ud) (N + 1) (bvals (m ++ 128 :: List.replicate (zerosN m.length) 0 ++ (be8 (8 * m.length)).take (5 + 1))) by rw [be8_take _ _ (by omega), ← List.append_assoc, ← bvals_append]; have h9 := hown2; rw [HBY.out] at h9; exact h9)
     clear hown2 hgrow2 hlies2
     go_roundg (gk - 1)
     case rel => exact ⟨6, 6, N + 1, ub, ud, by omega, by omega, Lib.hid (by have := HQ.out; omega), by go_num, rfl, Lib.hid (by have := HN.out; omega), HON.out, HBN.out⟩
     case measure => have := HQ.out; omega
    ·clear hk8 hki
     have HBY := Lib.hid (show ((m.length : Int) * 8 / 256 % 256) = ((UInt8.ofNat (8 * m.length / 2 ^ (56 - 8 * 6))).toNat : Int) by rw [UInt8.toNat_ofNat']; omega)
     go_wp2_with ((at_builtin; refine wpList_appw tyBytes (by rfl) _ _ (by rfl) w.heap.size (.slice ua N uc) N _ (by rfl) (HOW.out.alloc _) (HZZ.out _) (.slice (some ⟨wr.heap.size, 0, none⟩) 1 1) 1 [.int .u8 ((m.length : Int) * 8 / 256 % 256)] (by rfl) (srcMany (heap_alloc_new wr _)) (by rfl) (by simp [Value.oneCell']) (by omega) ?_; intro v' w2 hown2 hgrow2 hlies2))
     obtain ⟨ub, ud, rfl, hud⟩ := hown2.form
     have HBN := Lib.hid (belowK_grown (HBW.out.alloc HBW.out.size _) hgrow2 (Nat.le_trans HBW.out.size (by simp)) (fun q hq => (HOW.out.lt q hq).1))
     have HON := Lib.hid (show OwnWin w2 w.heap.size 5 1 (.slice ub (N + 1) ud) (N + 1) (bvals (m ++ 128 :: List.replicate (zerosN m.length) 0 ++ (be8 (8 * m.length)).take (6 + 1))) by rw [be8_take _ _ (by omega), ← List.append_assoc, ← bvals_append]; have h9 := hown2; rw [HBY.out] at h9; exact h9)
     clear hown2 hgrow2 hlies2
     go_roundg (gk - 1)
     case rel => exact ⟨7, 7, N + 1, ub, ud, by omega, by omega, Lib.hid (by have := HQ.out; omega), by go_num, rfl, Lib.hid (by have := HN.out; omega), HON.out, HBN.out⟩
     case measure => have := HQ.out; omega
    ·clear hk8 hki
     have HBY := Lib.hid (show ((m.length : Int) * 8 % 256) = ((UInt8.ofNat (8 * m.length / 2 ^ (56 - 8 * 7))).toNat : Int) by rw [UInt8.toNat_ofNat']; omega)
     go_wp2_with ((at_builtin; refine wpList_appw tyBytes (by rfl) _ _ (by rfl) w.heap.size (.slice ua N uc) N _ (by rfl) (HOW.out.alloc _) (HZZ.out _) (.slice (some ⟨wr.heap.size, 0, none⟩) 1 1) 1 [.int .u8 ((m.length : Int) * 8 % 256)] (by rfl) (srcMany (heap_alloc_new wr _)) (by rfl) (by simp [Value.oneCell']) (by omega) ?_; intro v' w2 hown2 hgrow2 hlies2))
     obtain ⟨ub, ud, rfl, hud⟩ := hown2.form
     have HBN := Lib.hid (belowK_grown (HBW.out.alloc HBW.out.size _) hgrow2 (Nat.le_trans HBW.out.size (by simp)) (fun q hq => (HOW.out.lt q hq).1))
     have HON := Lib.hid (show OwnWin w2 w.heap.size 5 1 (.slice ub (N + 1) ud) (N + 1) (bvals (m ++ 128 :: List.replicate (zerosN m.length) 0 ++ (be8 (8 * m.length)).take (7 + 1))) by rw [be8_take _ _ (by omega), ← List.append_assoc, ← bvals_append]; have h9 := hown2; rw [HBY.out] at h9; exact h9)
     clear hown2 hgrow2 hlies2
     go_roundg (gk - 1)
     case rel => exact ⟨8, 8, N + 1, ub, ud, by omega, by omega, Lib.hid (by have := HQ.out; omega), by go_num, rfl, Lib.hid (by have := HN.out; omega), HON.out, HBN.out⟩
     case measure => have := HQ.out; omega
    ·clear hk8 hki
     have HRN := Lib.hid (show OwnWin wr w.heap.size 5 1 (.slice ua N uc) N (bvals (m ++ tailM m.length)) by rw [← tail_parts]; exact HOW.out)
     have hNl : N = (m ++ tailM m.length).length := by have h9 := HRN.out.1; rw [bvals_len] at h9; omega
     have HNL := Lib.hid hNl
     clear hNl
     go_wp2_with fail
     go_ret
     exact ⟨ua, uc, by rw [← HNL.out]; rfl, by rw [← HNL.out]; exact HRN.out, HBW.out⟩
  ·have ht : ((N : Int) % 64 != 56) = true := by
    have h9 : ¬ (m.length + 1 + j) % 64 = 56 := fun e => hlt ((zeros_test2 hj).1 e)
    have h8 := HN.out
    simp only [bne_iff_ne, ne_eq]
    omega
   go_wp2_with ((at_builtin; refine wpList_appw tyBytes (by rfl) _ _ (by rfl) w.heap.size (.slice ua N uc) N _ (by rfl) (HOW.out.alloc _) (HZZ.out _) (.slice (some ⟨wr.heap.size, 0, none⟩) 1 1) 1 [.int .u8 0] (by rfl) (srcMany (heap_alloc_new wr _)) (by rfl) (by simp [Value.oneCell']) (by omega) ?_; intro v' w2 hown2 hgrow2 hlies2))
   obtain ⟨ub, ud, rfl, hud⟩ := hown2.form
   have HBN := Lib.hid (belowK_grown (HBW.out.alloc HBW.out.size _) hgrow2 (Nat.le_trans HBW.out.size (by simp)) (fun q hq => (HOW.out.lt q hq).1))
   have HON := Lib.hid (show OwnWin w2 w.heap.size 5 1 (.slice ub (N + 1) ud) (N + 1) (bvals (m ++ 128 :: List.replicate (j + 1) 0)) by rw [List.replicate_succ', show m ++ 128 :: (List.replicate j 0 ++ [0]) = (m ++ 128 :: List.replicate j 0) ++ [0] by simp, ← bvals_append]; exact hown2)
   clear hown2 hgrow2 hlies2
   go_roundg (gk - 1)
   case rel => exact ⟨j + 1, N + 1, ub, ud, by omega, Lib.hid (by have := HQ.out; omega), rfl, Lib.hid (by have := HN.out; omega), HON.out, HBN.out⟩
   case measure => have := HQ.out; omega
theorem own_blkAt {w : World} {B n i : Nat} {g o c : Nat} {l : Bs} (h : OwnWin w B 5 1 (.slice (some ⟨g, o, none⟩) n c) n (bvals l)) (hn : n = l.length) (hl : i + 64 ≤ l.length) : BlkAt w ((l.drop i).take 64) g (o + i) := by
 subst hn
 obtain ⟨g', o', c', e', _, _, _, hlt, hc⟩ := h.cells (by omega)
 cases e'
 refine ⟨by rw [List.length_take, List.length_drop]; omega, hlt, fun j hj => ?_⟩
 rw [List.length_take, List.length_drop] at hj
 have := hc (i + j) (.int .u8 ((l[i + j]'(by omega)).toNat : Int)) (by simp [bvals, show i + j < l.length by omega])
 rw [Nat.add_assoc, this, List.getElem_take, List.getElem_drop]
end Dg
end Go.Proofs.YtpkhbhdidkkebaaGreatDoor
end

