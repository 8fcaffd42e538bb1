/- Contracts and plain facts that the statement's proof leans on (texts joined). No condition beyond those that each names. -/
import Derived.Test.YtjijijjkkhpjnaaGreatDoorQfG
import Derived.Test.YtjijijjkkhpjnaaGreatDoorQfH
import Derived.Test.YtjijijjkkhpjnaaGreatDoorQfL
section
namespace Go.Proofs.YtjijijjkkhpjnaaGreatDoor
open Go.RowKit Pl Ad
attribute [local go_sem] ba_get ba_append ba_extract conv_one
set_option maxRecDepth 100000
set_option maxHeartbeats 4000000
set_option linter.unusedVariables false
set_option linter.unusedSimpArgs false
namespace Hy
open A1 Kr
theorem hformat_any (l : List VioM) (v : Value) (w : World) (hx : RowsV vioR 3 w v l) (hl : l.length ≤ 50) (ha : ∀ x ∈ l, VioAt 1048576 x) (ht : TabH w) :
    Calls Tryz.prog 37 #[v] w fun e w' => e = .returned (.string ⟨(fmtV l).toArray⟩) ∧ Below w.heap.size w w' := by
  obtain ⟨va, vc, rfl, hvc⟩ := hx.form
  have HX := Lib.hid hx
  have HA := Lib.hid ha
  have HT := Lib.hid ht
  clear ht
  clear hx ha
  obtain ⟨n, hn⟩ : ∃ z, l.length = z := ⟨_, rfl⟩
  have HN := Lib.hid hn
  have HF := Lib.hid (show fmtV l = if n = 0 then [110, 111, 32, 118, 105, 111, 108, 97, 116, 105, 111, 110, 115, 10] else l.flatMap vioT by unfold fmtV; rw [hn])
  rw [hn] at HX hl hvc ⊢
  clear hn
  by_cases h0 : n = 0
  · subst h0
    rw [show fmtV l = [110, 111, 32, 118, 105, 111, 108, 97, 116, 105, 111, 110, 115, 10] from HF.out]
    clear HF HN HA HX
    go_enter Tryz.func37, Tryz.ntmps37
    go_wp2_with fail
    go_ret
    exact ⟨rfl, Below.refl _ _⟩
  · have e1 : ¬ (n : Int) = 0 := by omega
    have e2 : ((n : Int) == 0) = false := by rw [beq_eq_false_iff_ne]; omega
    have e3 : (n == 0) = false := by rw [beq_eq_false_iff_ne]; omega
    obtain ⟨out, hout⟩ : ∃ z, fmtV l = z := ⟨_, rfl⟩
    have HOUT := Lib.hid (show l.flatMap vioT = out by rw [← hout, HF.out, if_neg h0])
    rw [hout]
    clear hout HF h0
    go_enter Tryz.func37, Tryz.ntmps37
    go_wp2_with fail
    go_loopg [11, 3] n (fun gq iv ov wr => ∃ (k : Nat) (acc : Bs), iv = .int .i64 k ∧ k ≤ n ∧ Hid (n ≤ gq + k) ∧ ov = .string ⟨acc.toArray⟩ ∧ Hid (acc = (l.take k).flatMap vioT) ∧ acc.length ≤ k * 1048700 ∧ Hid (Below w.heap.size w wr))
    case atStart => exact ⟨0, [], rfl, Nat.zero_le _, Lib.hid (by omega), rfl, Lib.hid rfl, Nat.zero_le _, Lib.hid (Below.refl _ _)⟩
    case round =>
      obtain ⟨k, acc, rfl, hk, HQ, rfl, HAC, hal, HB⟩ := hrel
      by_cases hlt : k < n
      · have HLT := Lib.hid hlt
        have q1 : (k : Int) < (n : Int) := by omega
        obtain ⟨x, hxk⟩ : ∃ x, l[k]? = some x := ⟨_, List.getElem?_eq_getElem (by rw [HN.out]; exact hlt)⟩
        have HTK := Lib.hid (take_vio hxk)
        have HVA := Lib.hid (HA.out x (List.mem_of_getElem? hxk))
        obtain ⟨b5, o5, e5, _, hbl, hrow⟩ := row_at (HX.out.below HB.out) hxk
        cases e5
        obtain ⟨vr, vi, vt⟩ := x
        have d0 := hrow 0 _ rfl
        have d1 := hrow 1 _ rfl
        have d2 := hrow 2 _ rfl
        rw [Nat.add_zero] at d0
        have t1 : (Lib.itoa vr).length ≤ 20 := itoa_len HVA.out.1
        have t2 : (Lib.itoa vi).length ≤ 20 := itoa_len HVA.out.2.1
        have t3 : vt.length ≤ 1048576 := HVA.out.2.2
        have t4 : acc.length ≤ 52435000 := by omega
        clear hrow hxk
        obtain ⟨s1, hs1⟩ : ∃ z, Lib.itoa vr = z := ⟨_, rfl⟩
        obtain ⟨s2, hs2⟩ : ∃ z, Lib.itoa vi = z := ⟨_, rfl⟩
        have HS1 := Lib.hid hs1
        have HS2 := Lib.hid hs2
        rw [hs1] at t1
        rw [hs2] at t2
        clear hs1 hs2
        go_upto_region 7 with fail
        have HBX := Lib.hid (Bx.new wr 90 #[.int .i64 vr, .int .i64 vi, .string ⟨vt.toArray⟩])
        have HB5 := Lib.hid (HB.out.alloc HB.out.size (.cells #[.int .i64 vr, .int .i64 vi, .string ⟨vt.toArray⟩] 90))
        obtain ⟨wb, hwb⟩ : ∃ z, wr.alloc (.cells #[.int .i64 vr, .int .i64 vi, .string ⟨vt.toArray⟩] 90) = z := ⟨_, rfl⟩
        obtain ⟨bb, hbb⟩ : ∃ z, wr.heap.size = z := ⟨_, rfl⟩
        rw [hwb] at HBX HB5 ⊢
        rw [hbb] at HBX ⊢
        clear hwb hbb d0 d1 d2
        have HTW := Lib.hid (HT.out.below HB5.out)
        have x0 := HBX.out.cell (i := 0) rfl
        have x1 := HBX.out.cell (i := 1) rfl
        have x2 := HBX.out.cell (i := 2) rfl
        refine wp_region_held_drew (S := (fun w' => w'.cell? ⟨bb, 0, none⟩ = some (.int .i64 vr) ∧ w'.cell? ⟨bb, 1, none⟩ = some (.int .i64 vi) ∧ w'.cell? ⟨bb, 2, none⟩ = some (.string ⟨vt.toArray⟩))) (by kernel_rfl) (by exact ⟨x0, x1, x2⟩) (fun hHeld => ?_)
        refine Hd.tk 0 ?_
        try simp only [Act.put, List.setIfInBounds_toArray, List.set_cons_zero, List.set_cons_succ]
        refine Hd.tk 1 ?_
        try simp only [Act.put, List.setIfInBounds_toArray, List.set_cons_zero, List.set_cons_succ]
        refine Hd.tk 2 ?_
        try simp only [Act.put, List.setIfInBounds_toArray, List.set_cons_zero, List.set_cons_succ]
        refine Hd.tk 6 ?_
        try simp only [Act.put, List.setIfInBounds_toArray, List.set_cons_zero, List.set_cons_succ]
        refine Hd.tk 7 ?_
        try simp only [Act.put, List.setIfInBounds_toArray, List.set_cons_zero, List.set_cons_succ]
        refine Hd.tk 11 ?_
        try simp only [Act.put, List.setIfInBounds_toArray, List.set_cons_zero, List.set_cons_succ]
        refine Hd.tk 12 ?_
        try simp only [Act.put, List.setIfInBounds_toArray, List.set_cons_zero, List.set_cons_succ]
        refine wpAnyH_ready (rs := [3]) (by kernel_rfl) (by simp) (AllReadyH.cons (by simp only [List.getElem?_toArray, List.getElem?_cons_succ, List.getElem?_cons_zero]; rfl) (fun K hK => ?_) AllReadyH.nil)
        go_simp
        go_at_call 49
        refine (itoa_int vr HVA.out.1 _ (HTW.out.below (Below.refl _ _).drew)).mono ?_
        rintro e wq1 ⟨rfl, hq1⟩
        have hqw1 : Below wb.heap.size wb wq1 := ((Below.refl _ _).drew).trans hq1
        rw [HS1.out]
        go_wp2_with fail
        refine hK.out _ _ (by exact ⟨keepH hqw1 x0, keepH hqw1 x1, keepH hqw1 x2⟩) (fun hHe1 => ?_)
        clear hK K
        try simp only [Act.put, List.setIfInBounds_toArray, List.set_cons_zero, List.set_cons_succ]
        refine Hd.tk 4 ?_ (hv := by intro wT hT; (try dsimp only at hT); (go_simp; rw [if_neg (by (try simp only [List.length_append, List.length_cons, List.length_nil]); omega)]); try with_reducible rfl)
        try simp only [Act.put, List.setIfInBounds_toArray, List.set_cons_zero, List.set_cons_succ]
        refine Hd.tk 5 ?_ (hv := by intro wT hT; (try dsimp only at hT); (go_simp; rw [if_neg (by (try simp only [List.length_append, List.length_cons, List.length_nil]); omega)]); try with_reducible rfl)
        try simp only [Act.put, List.setIfInBounds_toArray, List.set_cons_zero, List.set_cons_succ]
        refine wpAnyH_ready (rs := [8]) (by kernel_rfl) (by simp) (AllReadyH.cons (by simp only [List.getElem?_toArray, List.getElem?_cons_succ, List.getElem?_cons_zero]; rfl) (fun K hK => ?_) AllReadyH.nil)
        go_simp
        go_at_call 49
        refine (itoa_int vi HVA.out.2.1 _ (HTW.out.below hqw1)).mono ?_
        rintro e wq2 ⟨rfl, hq2⟩
        have hqw2 : Below wb.heap.size wb wq2 := hqw1.trans (hq2.mono hqw1.size)
        rw [HS2.out]
        go_wp2_with fail
        refine hK.out _ _ (by exact ⟨keepH hqw2 x0, keepH hqw2 x1, keepH hqw2 x2⟩) (fun hHe2 => ?_)
        clear hK K
        try simp only [Act.put, List.setIfInBounds_toArray, List.set_cons_zero, List.set_cons_succ]
        refine Hd.tk 9 ?_ (hv := by intro wT hT; (try dsimp only at hT); (go_simp; rw [if_neg (by (try simp only [List.length_append, List.length_cons, List.length_nil]); omega)]); try with_reducible rfl)
        try simp only [Act.put, List.setIfInBounds_toArray, List.set_cons_zero, List.set_cons_succ]
        refine Hd.tk 10 ?_ (hv := by intro wT hT; (try dsimp only at hT); (go_simp; rw [if_neg (by (try simp only [List.length_append, List.length_cons, List.length_nil]); omega)]); try with_reducible rfl)
        try simp only [Act.put, List.setIfInBounds_toArray, List.set_cons_zero, List.set_cons_succ]
        refine Hd.tk 13 ?_ (hv := by intro wT hT; (try dsimp only at hT); (go_simp; rw [if_neg (by (try simp only [List.length_append, List.length_cons, List.length_nil]); omega)]); try with_reducible rfl)
        try simp only [Act.put, List.setIfInBounds_toArray, List.set_cons_zero, List.set_cons_succ]
        refine Hd.tk 14 ?_ (hv := by intro wT hT; (try dsimp only at hT); (go_simp; rw [if_neg (by (try simp only [List.length_append, List.length_cons, List.length_nil]); omega)]); try with_reducible rfl)
        try simp only [Act.put, List.setIfInBounds_toArray, List.set_cons_zero, List.set_cons_succ]
        refine Hd.tk 15 ?_ (hv := by intro wT hT; (try dsimp only at hT); (go_simp; rw [if_neg (by (try simp only [List.length_append, List.length_cons, List.length_nil]); omega)]); try with_reducible rfl)
        try simp only [Act.put, List.setIfInBounds_toArray, List.set_cons_zero, List.set_cons_succ]
        refine Hd.tk 16 ?_
        try simp only [Act.put, List.setIfInBounds_toArray, List.set_cons_zero, List.set_cons_succ]
        refine wpAnyH_done (by kernel_rfl) ?_ _
        have HB6 := Lib.hid (HB5.out.trans (hqw2.mono HB5.out.size))
        go_wp2_with fail
        go_roundg (gk - 1)
        case rel => exact ⟨k + 1, _, by go_num, by have := HLT.out; omega, Lib.hid (by have := HQ.out; omega), rfl, Lib.hid (by rw [HTK.out, ← HAC.out]; unfold vioT; rw [HS1.out, HS2.out]; simp), by simp; omega, HB6⟩
        case measure => have := HQ.out; have := HLT.out; omega
      · obtain rfl : n = k := by omega
        have HE := Lib.hid (show out = acc by rw [HAC.out, ← HOUT.out, List.take_of_length_le (by rw [HN.out]; exact Nat.le_refl _)])
        go_wp2_with fail
        go_ret
        exact ⟨by rw [HE.out]; rfl, HB.out⟩
theorem rformat_any (l : List VioM) (v : Value) (w : World) (hx : RowsV vioR 3 w v l) (hl : l.length ≤ 50) (ha : ∀ x ∈ l, VioAt 1048576 x) :
    Calls Tryz.prog 38 #[v] w fun e w' => e = .returned (.string ⟨(fmtV l).toArray⟩) ∧ Below w.heap.size w w' := by
  obtain ⟨va, vc, rfl, hvc⟩ := hx.form
  have HX := Lib.hid hx
  have HA := Lib.hid ha
  clear hx ha
  obtain ⟨n, hn⟩ : ∃ z, l.length = z := ⟨_, rfl⟩
  have HN := Lib.hid hn
  have HF := Lib.hid (show fmtV l = if n = 0 then [110, 111, 32, 118, 105, 111, 108, 97, 116, 105, 111, 110, 115, 10] else l.flatMap vioT by unfold fmtV; rw [hn])
  rw [hn] at HX hl hvc ⊢
  clear hn
  by_cases h0 : n = 0
  · subst h0
    rw [show fmtV l = [110, 111, 32, 118, 105, 111, 108, 97, 116, 105, 111, 110, 115, 10] from HF.out]
    clear HF HN HA HX
    go_enter Tryz.func38, Tryz.ntmps38
    go_wp2_with fail
    go_ret
    exact ⟨rfl, Below.refl _ _⟩
  · have e1 : ¬ (n : Int) = 0 := by omega
    have e2 : ((n : Int) == 0) = false := by rw [beq_eq_false_iff_ne]; omega
    have e3 : (n == 0) = false := by rw [beq_eq_false_iff_ne]; omega
    obtain ⟨out, hout⟩ : ∃ z, fmtV l = z := ⟨_, rfl⟩
    have HOUT := Lib.hid (show l.flatMap vioT = out by rw [← hout, HF.out, if_neg h0])
    rw [hout]
    clear hout HF h0
    go_enter Tryz.func38, Tryz.ntmps38
    go_wp2_with fail
    go_loopg [10, 3] n (fun gq iv ov wr => ∃ (k : Nat) (acc : Bs), iv = .int .i64 k ∧ k ≤ n ∧ Hid (n ≤ gq + k) ∧ ov = .string ⟨acc.toArray⟩ ∧ Hid (acc = (l.take k).flatMap vioT) ∧ acc.length ≤ k * 1048700 ∧ Hid (Below w.heap.size w wr))
    case atStart => exact ⟨0, [], rfl, Nat.zero_le _, Lib.hid (by omega), rfl, Lib.hid rfl, Nat.zero_le _, Lib.hid (Below.refl _ _)⟩
    case round =>
      obtain ⟨k, acc, rfl, hk, HQ, rfl, HAC, hal, HB⟩ := hrel
      by_cases hlt : k < n
      · have HLT := Lib.hid hlt
        have q1 : (k : Int) < (n : Int) := by omega
        obtain ⟨x, hxk⟩ : ∃ x, l[k]? = some x := ⟨_, List.getElem?_eq_getElem (by rw [HN.out]; exact hlt)⟩
        have HTK := Lib.hid (take_vio hxk)
        have HVA := Lib.hid (HA.out x (List.mem_of_getElem? hxk))
        obtain ⟨b5, o5, e5, _, hbl, hrow⟩ := row_at (HX.out.below HB.out) hxk
        cases e5
        obtain ⟨vr, vi, vt⟩ := x
        have d0 := hrow 0 _ rfl
        have d1 := hrow 1 _ rfl
        have d2 := hrow 2 _ rfl
        rw [Nat.add_zero] at d0
        have t1 : (Lib.itoa vr).length ≤ 20 := itoa_len HVA.out.1
        have t2 : (Lib.itoa vi).length ≤ 20 := itoa_len HVA.out.2.1
        have t3 : vt.length ≤ 1048576 := HVA.out.2.2
        have t4 : acc.length ≤ 52435000 := by omega
        clear hrow hxk
        obtain ⟨s1, hs1⟩ : ∃ z, Lib.itoa vr = z := ⟨_, rfl⟩
        obtain ⟨s2, hs2⟩ : ∃ z, Lib.itoa vi = z := ⟨_, rfl⟩
        have HS1 := Lib.hid hs1
        have HS2 := Lib.hid hs2
        rw [hs1] at t1
        rw [hs2] at t2
        clear hs1 hs2
        have q2 : (0 : Int) ≤ (k : Int) := by omega
        go_upto_region 7 with fail
        refine wp_region_held_drew (S := (fun w' => w'.cell? ⟨b5, o5 + k * 3, none⟩ = some (.int .i64 vr) ∧ w'.cell? ⟨b5, o5 + k * 3 + 1, none⟩ = some (.int .i64 vi) ∧ w'.cell? ⟨b5, o5 + k * 3 + 2, none⟩ = some (.string ⟨vt.toArray⟩))) (by kernel_rfl) (by exact ⟨d0, d1, d2⟩) (fun hHeld => ?_)
        refine Hd.tk 0 ?_
        try simp only [Act.put, List.setIfInBounds_toArray, List.set_cons_zero, List.set_cons_succ]
        refine Hd.tk 1 ?_ (hv := by intro wT hT; (try dsimp only at hT); (go_simp; rw [if_neg (by (try simp only [List.length_append, List.length_cons, List.length_nil]); omega)]); try with_reducible rfl)
        try simp only [Act.put, List.setIfInBounds_toArray, List.set_cons_zero, List.set_cons_succ]
        refine Hd.tk 2 ?_
        try simp only [Act.put, List.setIfInBounds_toArray, List.set_cons_zero, List.set_cons_succ]
        refine Hd.tk 3 ?_
        try simp only [Act.put, List.setIfInBounds_toArray, List.set_cons_zero, List.set_cons_succ]
        refine Hd.tk 4 ?_
        try simp only [Act.put, List.setIfInBounds_toArray, List.set_cons_zero, List.set_cons_succ]
        refine Hd.tk 5 ?_
        try simp only [Act.put, List.setIfInBounds_toArray, List.set_cons_zero, List.set_cons_succ]
        refine Hd.tk 6 ?_
        try simp only [Act.put, List.setIfInBounds_toArray, List.set_cons_zero, List.set_cons_succ]
        refine Hd.tk 10 ?_
        try simp only [Act.put, List.setIfInBounds_toArray, List.set_cons_zero, List.set_cons_succ]
        refine Hd.tk 11 ?_
        try simp only [Act.put, List.setIfInBounds_toArray, List.set_cons_zero, List.set_cons_succ]
        refine Hd.tk 12 ?_
        try simp only [Act.put, List.setIfInBounds_toArray, List.set_cons_zero, List.set_cons_succ]
        refine Hd.tk 13 ?_
        try simp only [Act.put, List.setIfInBounds_toArray, List.set_cons_zero, List.set_cons_succ]
        refine Hd.tk 14 ?_
        try simp only [Act.put, List.setIfInBounds_toArray, List.set_cons_zero, List.set_cons_succ]
        refine Hd.tk 18 ?_
        try simp only [Act.put, List.setIfInBounds_toArray, List.set_cons_zero, List.set_cons_succ]
        refine Hd.tk 19 ?_
        try simp only [Act.put, List.setIfInBounds_toArray, List.set_cons_zero, List.set_cons_succ]
        refine Hd.tk 20 ?_
        try simp only [Act.put, List.setIfInBounds_toArray, List.set_cons_zero, List.set_cons_succ]
        refine Hd.tk 21 ?_
        try simp only [Act.put, List.setIfInBounds_toArray, List.set_cons_zero, List.set_cons_succ]
        refine Hd.tk 22 ?_
        try simp only [Act.put, List.setIfInBounds_toArray, List.set_cons_zero, List.set_cons_succ]
        refine wpAnyH_ready (rs := [7]) (by kernel_rfl) (by simp) (AllReadyH.cons (by simp only [List.getElem?_toArray, List.getElem?_cons_succ, List.getElem?_cons_zero]; rfl) (fun K hK => ?_) AllReadyH.nil)
        go_simp
        go_at_call 36
        refine (digits_int vr HVA.out.1 _).mono ?_
        rintro e wq1 ⟨rfl, hq1⟩
        have hqw1 : Below wr.heap.size wr wq1 := ((Below.refl _ _).drew).trans hq1
        rw [HS1.out]
        go_wp2_with fail
        refine hK.out _ _ (by exact ⟨keepH hqw1 d0, keepH hqw1 d1, keepH hqw1 d2⟩) (fun hHe1 => ?_)
        clear hK K
        try simp only [Act.put, List.setIfInBounds_toArray, List.set_cons_zero, List.set_cons_succ]
        refine Hd.tk 8 ?_ (hv := by intro wT hT; (try dsimp only at hT); (go_simp; rw [if_neg (by (try simp only [List.length_append, List.length_cons, List.length_nil]); omega)]); try with_reducible rfl)
        try simp only [Act.put, List.setIfInBounds_toArray, List.set_cons_zero, List.set_cons_succ]
        refine Hd.tk 9 ?_ (hv := by intro wT hT; (try dsimp only at hT); (go_simp; rw [if_neg (by (try simp only [List.length_append, List.length_cons, List.length_nil]); omega)]); try with_reducible rfl)
        try simp only [Act.put, List.setIfInBounds_toArray, List.set_cons_zero, List.set_cons_succ]
        refine wpAnyH_ready (rs := [15]) (by kernel_rfl) (by simp) (AllReadyH.cons (by simp only [List.getElem?_toArray, List.getElem?_cons_succ, List.getElem?_cons_zero]; rfl) (fun K hK => ?_) AllReadyH.nil)
        go_simp
        go_at_call 36
        refine (digits_int vi HVA.out.2.1 _).mono ?_
        rintro e wq2 ⟨rfl, hq2⟩
        have hqw2 : Below wr.heap.size wr wq2 := hqw1.trans (hq2.mono hqw1.size)
        rw [HS2.out]
        go_wp2_with fail
        refine hK.out _ _ (by exact ⟨keepH hqw2 d0, keepH hqw2 d1, keepH hqw2 d2⟩) (fun hHe2 => ?_)
        clear hK K
        try simp only [Act.put, List.setIfInBounds_toArray, List.set_cons_zero, List.set_cons_succ]
        refine Hd.tk 16 ?_ (hv := by intro wT hT; (try dsimp only at hT); (go_simp; rw [if_neg (by (try simp only [List.length_append, List.length_cons, List.length_nil]); omega)]); try with_reducible rfl)
        try simp only [Act.put, List.setIfInBounds_toArray, List.set_cons_zero, List.set_cons_succ]
        refine Hd.tk 17 ?_ (hv := by intro wT hT; (try dsimp only at hT); (go_simp; rw [if_neg (by (try simp only [List.length_append, List.length_cons, List.length_nil]); omega)]); try with_reducible rfl)
        try simp only [Act.put, List.setIfInBounds_toArray, List.set_cons_zero, List.set_cons_succ]
        refine Hd.tk 23 ?_ (hv := by intro wT hT; (try dsimp only at hT); (go_simp; rw [if_neg (by (try simp only [List.length_append, List.length_cons, List.length_nil]); omega)]); try with_reducible rfl)
        try simp only [Act.put, List.setIfInBounds_toArray, List.set_cons_zero, List.set_cons_succ]
        refine Hd.tk 24 ?_ (hv := by intro wT hT; (try dsimp only at hT); (go_simp; rw [if_neg (by (try simp only [List.length_append, List.length_cons, List.length_nil]); omega)]); try with_reducible rfl)
        try simp only [Act.put, List.setIfInBounds_toArray, List.set_cons_zero, List.set_cons_succ]
        refine Hd.tk 25 ?_
        try simp only [Act.put, List.setIfInBounds_toArray, List.set_cons_zero, List.set_cons_succ]
        refine wpAnyH_done (by kernel_rfl) ?_ _
        have HB6 := Lib.hid (HB.out.trans (hqw2.mono HB.out.size))
        go_wp2_with fail
        go_roundg (gk - 1)
        case rel => exact ⟨k + 1, _, by go_num, by have := HLT.out; omega, Lib.hid (by have := HQ.out; omega), rfl, Lib.hid (by rw [HTK.out, ← HAC.out]; unfold vioT; rw [HS1.out, HS2.out]; simp), by simp; omega, HB6⟩
        case measure => have := HQ.out; have := HLT.out; omega
      · obtain rfl : n = k := by omega
        have HE := Lib.hid (show out = acc by rw [HAC.out, ← HOUT.out, List.take_of_length_le (by rw [HN.out]; exact Nat.le_refl _)])
        go_wp2_with fail
        go_ret
        exact ⟨by rw [HE.out]; rfl, HB.out⟩
end Hy
end Go.Proofs.YtjijijjkkhpjnaaGreatDoor
end

section
namespace Go.Proofs.YtjijijjkkhpjnaaGreatDoor
namespace Fr
open Go.ChangeShapes Go.WideShapes Go.ChangeAt Go.RowKit
theorem tab_laid {w : World} {name : String} {k : IntKind} {zs : List Int} {g n : Nat} {t e : TypeId} (hg : Tryz.prog.globalNamed name = some g) (ht : (Tryz.prog.globals[g]?).map (·.type) = some t) (hu : Tryz.prog.underlying t = some (.array n e)) (he : Tryz.prog.underlying e = some (.int k)) (hce : Tryz.prog.cellsOf e = 1) (hct : Tryz.prog.cellsOf t = n)
    (h : ∃ g t cs fuel p, Tryz.prog.globalNamed name = some g ∧ (Tryz.prog.globals[g]?).map (·.type) = some t ∧ w.var? Tryz.prog name = some cs ∧ DataW.trod (fun _ => ()) Tryz.prog w 0 (fun _ => true) false fuel t cs.toList = some (Lib.tabData k zs, p)) : Lib.TabIs Tryz.prog w name k zs := by
  obtain ⟨g', t', cs, fuel, p, hg', ht', hv, hd⟩ := h
  obtain rfl := Option.some.inj (hg.symm.trans hg')
  obtain rfl := Option.some.inj (ht.symm.trans ht')
  unfold Lib.TabIs
  rw [hv, ← Lib.cells_of_tab hu he hce hct hd]
theorem fmt_laid {w : World} {laid : List (String × DataW Unit)} (h : laidMetH Tryz.prog laid w) (hp : (laid.all fun x => x.2.handleName?.isNone) = true) (hm : ("quayside/purge.words", Rows.laid_quayside_purge_words) ∈ laid)
    (hs : ("strconv.ErrSyntax", Rows.laid_strconv_ErrSyntax) ∈ laid) (hr : ("strconv.ErrRange", Rows.laid_strconv_ErrRange) ∈ laid) (h1 : ("internal/strconv.uint64pow10", Rows.laid_internal_strconv_uint64pow10) ∈ laid) : Hy.FmtAt w := by
  refine ⟨parse_laid h hp hm hs hr, ?_⟩
  rw [Go.MakeChecks.laidMetH_plain Tryz.prog laid w hp] at h
  obtain ⟨ps, hv, _⟩ := h
  exact tab_laid (g := 4) (t := 220) (e := 173) (n := 20) (by kernel_rfl) (by kernel_rfl) Tryz.underlying220 Tryz.underlying173 (by kernel_rfl) (by kernel_rfl)
      (by have h9 := laid_reads hv _ _ h1; rw [show (Rows.laid_internal_strconv_uint64pow10 : DataW Unit) = Lib.tabData .u64 Lib.pow10Tab by kernel_rfl] at h9; exact h9)
end Fr
end Go.Proofs.YtjijijjkkhpjnaaGreatDoor
end

