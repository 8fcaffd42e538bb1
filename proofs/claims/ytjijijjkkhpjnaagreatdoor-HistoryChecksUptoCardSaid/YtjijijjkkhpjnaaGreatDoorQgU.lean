/- Contracts and plain facts that the statement's proof leans on (texts joined). No condition beyond those that each names. -/
import Derived.Test.YtjijijjkkhpjnaaGreatDoorQgM
import Derived.Test.YtjijijjkkhpjnaaGreatDoorQgT
section
namespace Go.Proofs.YtjijijjkkhpjnaaGreatDoor
open Go.RowKit Pl Ad
attribute [local go_sem] ba_get ba_append ba_extract conv_one
set_option maxRecDepth 100000
set_option maxHeartbeats 4000000
set_option linter.unusedVariables false
set_option linter.unusedSimpArgs false
namespace Hy
open A1 Kr
theorem vvals_flat (l : List VioM) : vvals l = l.flatMap vioR := by
  induction l with
  | nil => rfl
  | cons v r ih => rw [List.flatMap_cons, ← ih]; rfl
theorem rrule_else (h : HisM) (va vb vc vd ve lv : Value) (r : Int) (w : World) (h1 : ¬ r = 1) (h2 : ¬ r = 2) (h3 : ¬ r = 3) (h4 : ¬ r = 4) (h5 : ¬ r = 5) :
    Calls Tryz.prog 32 #[.agg #[va, vb, vc, vd, ve, .int .i64 h.bound, .int .i64 h.fin], lv, .int .i64 r] w fun e w' => ∃ v, e = .returned v ∧ OwnWin w' w.heap.size 90 3 v (ruleL h r).length (vvals (ruleL h r)) ∧ Below w.heap.size w w' := by
  have HE := Lib.hid (show ruleL h r = [] by unfold ruleL; rw [if_neg h1, if_neg h2, if_neg h3, if_neg h4, if_neg h5])
  have d1 : (r == 1) = false := beq_eq_false_iff_ne.2 h1
  have d2 : (r == 2) = false := beq_eq_false_iff_ne.2 h2
  have d3 : (r == 3) = false := beq_eq_false_iff_ne.2 h3
  have d4 : (r == 4) = false := beq_eq_false_iff_ne.2 h4
  have d5 : (r == 5) = false := beq_eq_false_iff_ne.2 h5
  have HB := Lib.hid ((Below.refl w.heap.size w).alloc (Nat.le_refl _) (.cells #[va, vb, vc, vd, ve, .int .i64 h.bound, .int .i64 h.fin] 69))
  go_enter Tryz.func32, Tryz.ntmps32
  go_wp2_with fail
  obtain ⟨w1, hw1⟩ : ∃ z, w.alloc (.cells #[va, vb, vc, vd, ve, .int .i64 h.bound, .int .i64 h.fin] 69) = z := ⟨_, rfl⟩
  rw [hw1] at HB ⊢
  clear hw1
  go_loopg [30, 7] 0 (fun gq iv ov wr => iv = .int .i64 0 ∧ ov = .slice none 0 0 ∧ wr = w1)
  case atStart => exact ⟨rfl, rfl, rfl⟩
  case round =>
    obtain ⟨rfl, rfl, hwr⟩ := hrel
    subst hwr
    go_wp2_with fail
    go_ret
    exact ⟨_, rfl, by rw [HE.out]; exact OwnWin.nil _ _ _ _, HB.out⟩
theorem rrule_any (h : HisM) (va vb vc vd ve lv : Value) (B : Nat) (r : Int) (w : World) (hr : Ready w) (ha : HisAt w B va vb vc vd ve h) (hsm : h.Small) (hB : B ≤ 134217728) (hlv : RowsV psdR 4 w lv (h.prgs.map psdM)) :
    Calls Tryz.prog 32 #[.agg #[va, vb, vc, vd, ve, .int .i64 h.bound, .int .i64 h.fin], lv, .int .i64 r] w fun e w' => ∃ v, e = .returned v ∧ OwnWin w' w.heap.size 90 3 v (ruleL h r).length (vvals (ruleL h r)) ∧ Below w.heap.size w w' := by
  by_cases h1 : r = 1
  · subst h1; exact rrule1_any h va vb vc vd ve lv B w hr ha hsm hB hlv
  by_cases h2 : r = 2
  · subst h2; exact rrule2_any h va vb vc vd ve lv B w hr ha hsm hB hlv
  by_cases h3 : r = 3
  · subst h3; exact rrule3_any h va vb vc vd ve lv B w hr ha hsm hB hlv
  by_cases h4 : r = 4
  · subst h4; exact rrule4_any h va vb vc vd ve lv B w hr ha hsm hB hlv
  by_cases h5 : r = 5
  · subst h5; exact rrule5_any h va vb vc vd ve lv B w hr ha hsm hB hlv
  exact rrule_else h va vb vc vd ve lv r w h1 h2 h3 h4 h5
theorem rcheck_any (h : HisM) (va vb vc vd ve lv : Value) (B : Nat) (w : World) (hr : Ready w) (hlv : RowsV psdR 4 w lv (h.prgs.map psdM)) (ha : HisAt w B va vb vc vd ve h) (hsm : h.Small) (hB : B ≤ 134217728) :
    Calls Tryz.prog 35 #[.agg #[va, vb, vc, vd, ve, .int .i64 h.bound, .int .i64 h.fin], lv] w fun e w' => ∃ v, e = .returned v ∧ OwnWin w' w.heap.size 90 3 v (checkL h).length (vvals (checkL h)) ∧ Below w.heap.size w w' := by
  have HA := Lib.hid ha
  have HSM := Lib.hid hsm
  have HBB := Lib.hid hB
  have HRY := Lib.hid hr
  have HLV := Lib.hid hlv
  have H5 := Lib.hid (firstL_five h)
  have HB0 := Lib.hid ((Below.refl w.heap.size w).alloc (Nat.le_refl _) (.cells #[va, vb, vc, vd, ve, .int .i64 h.bound, .int .i64 h.fin] 69))
  have HXH := Lib.hid (Bx.new w 69 #[va, vb, vc, vd, ve, .int .i64 h.bound, .int .i64 h.fin])
  clear ha hsm hB hr hlv
  go_enter Tryz.func35, Tryz.ntmps35
  go_wp2_with fail
  obtain ⟨w1, hw1⟩ : ∃ z, w.alloc (.cells #[va, vb, vc, vd, ve, .int .i64 h.bound, .int .i64 h.fin] 69) = z := ⟨_, rfl⟩
  obtain ⟨b0, hb0⟩ : ∃ z, w.heap.size = z := ⟨_, rfl⟩
  rw [hw1] at HB0 HXH ⊢
  rw [hb0] at HXH ⊢
  clear hw1 hb0
  go_loopg [6, 5] 5 (fun gq iv vv wr => ∃ (k : Nat) (a : Option Addr) (c : Nat), iv = .int .i64 ((k : Int) + 1) ∧ vv = .slice a (firstL h k).length c ∧ k ≤ 5 ∧ Hid (5 ≤ gq + k) ∧ Hid (Below w1.heap.size w1 wr) ∧ Hid (OwnWin wr w1.heap.size 90 3 (.slice a (firstL h k).length c) (firstL h k).length (vvals (firstL h k))))
  case atStart => exact ⟨0, none, 0, rfl, rfl, Nat.zero_le _, Lib.hid (by omega), Lib.hid (Below.refl _ _), Lib.hid (OwnWin.nil _ _ _ _)⟩
  case round =>
    obtain ⟨k, a, c, rfl, rfl, hk, HQ, HBW, HO⟩ := hrel
    have HFS := Lib.hid (firstL_succ h k)
    have HFL := Lib.hid (firstL_len HSM.out k)
    have HRL := Lib.hid (ruleL_len HSM.out ((k : Int) + 1))
    obtain ⟨acc, hacc⟩ : ∃ z, firstL h k = z := ⟨_, rfl⟩
    rw [hacc] at HO HFS HFL ⊢
    by_cases hlt : k < 5
    · have HLT := Lib.hid hlt
      have hle : (k : Int) + 1 ≤ 5 := by omega
      have h0 := (HXH.out.older HBW.out).cell (i := 0) rfl
      have h1 := (HXH.out.older HBW.out).cell (i := 1) rfl
      have h2 := (HXH.out.older HBW.out).cell (i := 2) rfl
      have h3 := (HXH.out.older HBW.out).cell (i := 3) rfl
      have h4 := (HXH.out.older HBW.out).cell (i := 4) rfl
      have h5 := (HXH.out.older HBW.out).cell (i := 5) rfl
      have h6 := (HXH.out.older HBW.out).cell (i := 6) rfl
      have HBX := Lib.hid (HB0.out.trans (HBW.out.mono HB0.out.size))
      clear hacc
      go_wp2_with fail
      refine (rrule_any h va vb vc vd ve lv B ((k : Int) + 1) _ (HRY.out.below HBX.out) (HA.out.below HBX.out) HSM.out HBB.out (HLV.out.below HBX.out)).mono ?_
      rintro e w3 ⟨u, rfl, hou, hb3⟩
      have HB3 := Lib.hid (HBW.out.trans (hb3.mono HBW.out.size))
      have HO3 := Lib.hid (HO.out.older hb3)
      have HOU := Lib.hid hou
      obtain ⟨ua, uc, rfl, _⟩ := hou.form
      clear hou hb3 h0 h1 h2 h3 h4 h5 h6
      obtain ⟨rl, hrl⟩ : ∃ z, ruleL h ((k : Int) + 1) = z := ⟨_, rfl⟩
      rw [hrl] at HOU HFS HRL ⊢
      clear hrl
      go_wp2_with (at_builtin; refine wpList_appw tyVio (by rfl) _ _ (by rfl) w1.heap.size (.slice a acc.length c) acc.length _ (by rfl) HO3.out HB3.out.size (.slice ua rl.length uc) rl.length (vvals rl) (by rfl) (SrcAt.of HOU.out) (vvals_len rl) (vvals_one' rl) (by have h91 := HFL.out; have h92 := HRL.out; omega) ?_; intro v4 w4 hown4 hgrow4 hlies4; have HO4 := Lib.hid hown4; have HG4 := Lib.hid hgrow4; clear hown4 hgrow4 hlies4)
      have HOW4 := Lib.hid (show OwnWin w4 w1.heap.size 90 3 v4 (firstL h (k + 1)).length (vvals (firstL h (k + 1))) by rw [HFS.out, List.length_append, vvals_append]; exact HO4.out)
      obtain ⟨a4, c4, rfl, _⟩ := HOW4.out.form
      have HB4 := Lib.hid (HB3.out.grown HG4.out HB3.out.size (fun q hq => (HO3.out.lt q hq).1))
      go_roundg (gk - 1)
      case rel => exact ⟨k + 1, a4, c4, by go_num, rfl, by have := HLT.out; omega, Lib.hid (by have := HQ.out; omega), HB4, HOW4⟩
      case measure => have := HQ.out; have := HLT.out; omega
    · obtain rfl : k = 5 := by omega
      have HE := Lib.hid (show checkL h = acc by rw [← H5.out, hacc])
      clear hacc
      go_wp2_with fail
      go_ret
      exact ⟨_, rfl, by rw [HE.out]; exact HO.out.mono (fun q hq => Nat.le_trans HB0.out.size (HO.out.lt q hq).1), HB0.out.trans (HBW.out.mono HB0.out.size)⟩
end Hy
end Go.Proofs.YtjijijjkkhpjnaaGreatDoor
end

