/- Contracts and plain facts that the statement's proof leans on (texts joined). No condition beyond those that each names. -/
import Derived.Test.YtjijijjkkhpjnaaGreatDoorQgS
section
namespace Go.Proofs.YtjijijjkkhpjnaaGreatDoor
open Go.RowKit Pl Ad
attribute [local go_sem] ba_get ba_append ba_extract conv_one
set_option maxRecDepth 100000
set_option maxHeartbeats 4000000
set_option linter.unusedVariables false
set_option linter.unusedSimpArgs false
namespace Hy
open A1 Kr
theorem rrule1_any (hm : HisM) (va vb vc vd ve lv : Value) (B : Nat) (w : World) (hr : Ready w) (ha : HisAt w B va vb vc vd ve hm) (hsm : hm.Small) (hB : B ≤ 134217728) (hlv : RowsV psdR 4 w lv (hm.prgs.map psdM)) :
    Calls Tryz.prog 32 #[.agg #[va, vb, vc, vd, ve, .int .i64 hm.bound, .int .i64 hm.fin], lv, .int .i64 1] w fun e w' => ∃ v, e = .returned v ∧ OwnWin w' w.heap.size 90 3 v (vio1 hm).length (vvals (vio1 hm)) ∧ Below w.heap.size w w' := by
  obtain ⟨la, lc, rfl, hlc⟩ := ha.srvs.form
  have HA := Lib.hid ha
  have HSM := Lib.hid hsm
  have HBB := Lib.hid hB
  have HRY := Lib.hid hr
  have HLV := Lib.hid hlv
  obtain ⟨n, hn⟩ : ∃ z, hm.srvs.length = z := ⟨_, rfl⟩
  have HN := Lib.hid hn
  rw [hn] at HA hlc ⊢
  have hn1 : n ≤ 1000 := by rw [← hn]; exact hsm.nsrv
  clear ha hsm hB hr hlv hn
  obtain ⟨vl, hvl⟩ : ∃ z, vio1 hm = z := ⟨_, rfl⟩
  have HVL := Lib.hid (show vl = vioF 1 tx1 (fun _ x => purgedB hm x) (hm.srvs.drop 0) 0 from hvl.symm)
  rw [hvl]
  clear hvl
  go_enter Tryz.func32, Tryz.ntmps32
  go_upto_region 1 with fail
  have HX0 := Lib.hid (Bx.new w 69 #[va, vb, .slice la n lc, vd, ve, .int .i64 hm.bound, .int .i64 hm.fin])
  have HB0 := Lib.hid ((Below.refl w.heap.size w).alloc (Nat.le_refl _) (.cells #[va, vb, .slice la n lc, vd, ve, .int .i64 hm.bound, .int .i64 hm.fin] 69))
  obtain ⟨w1, hw1⟩ : ∃ z, w.alloc (.cells #[va, vb, .slice la n lc, vd, ve, .int .i64 hm.bound, .int .i64 hm.fin] 69) = z := ⟨_, rfl⟩
  obtain ⟨b0, hb0⟩ : ∃ z, w.heap.size = z := ⟨_, rfl⟩
  have HW0 := Lib.hid (show b0 = w.heap.size from hb0.symm)
  rw [hw1] at HX0 HB0 ⊢
  rw [hb0] at HX0 ⊢
  clear hw1 hb0
  have c0 := HX0.out.cell (i := 0) rfl
  have c1 := HX0.out.cell (i := 1) rfl
  have c2 := HX0.out.cell (i := 2) rfl
  have c3 := HX0.out.cell (i := 3) rfl
  have c4 := HX0.out.cell (i := 4) rfl
  have c5 := HX0.out.cell (i := 5) rfl
  have c6 := HX0.out.cell (i := 6) rfl
  go_wp2_with fail
  go_loopg [30, 7] n (fun gq iv ov wr => ∃ (k : Nat) (acc : List VioM) (a : Option Addr) (c : Nat), iv = .int .i64 k ∧ k ≤ n ∧ Hid (n ≤ gq + k) ∧ ov = .slice a acc.length c ∧ acc.length ≤ k ∧ Hid (vl = acc ++ vioF 1 tx1 (fun _ x => purgedB hm x) (hm.srvs.drop k) k) ∧ Hid (Below w1.heap.size w1 wr) ∧ Hid (OwnWin wr w1.heap.size 90 3 (.slice a acc.length c) acc.length (vvals acc)))
  case atStart => exact ⟨0, [], none, 0, rfl, Nat.zero_le _, Lib.hid (by omega), rfl, Nat.le_refl _, HVL, Lib.hid (Below.refl _ _), Lib.hid (OwnWin.nil _ _ _ _)⟩
  case round =>
    obtain ⟨k, acc, a, c, rfl, hk, HQ, rfl, hac, HV, HB, HO⟩ := hrel
    by_cases hlt : k < n
    · have HLT := Lib.hid hlt
      have q1 : (k : Int) < (n : Int) := by omega
      have q2 : (0 : Int) ≤ (k : Int) := by omega
      have hac2 : acc.length ≤ 1000 := by omega
      obtain ⟨x, hxk⟩ : ∃ x, hm.srvs[k]? = some x := ⟨_, List.getElem?_eq_getElem (by rw [HN.out]; exact hlt)⟩
      have HVD := Lib.hid (vioF_drop (r := 1) (tx := tx1) (bad := fun _ x => purgedB hm x) hxk)
      have HXM := Lib.hid (List.mem_of_getElem? hxk)
      have HAx := Lib.hid (HA.out.below (HB0.out.trans (HB.out.mono HB0.out.size)))
      have c0 := (HX0.out.older HB.out).cell (i := 0) rfl
      have c1 := (HX0.out.older HB.out).cell (i := 1) rfl
      have c2 := (HX0.out.older HB.out).cell (i := 2) rfl
      have c3 := (HX0.out.older HB.out).cell (i := 3) rfl
      have c4 := (HX0.out.older HB.out).cell (i := 4) rfl
      have c5 := (HX0.out.older HB.out).cell (i := 5) rfl
      have c6 := (HX0.out.older HB.out).cell (i := 6) rfl
      obtain ⟨bl, ol, e5, _, hbl, hrow⟩ := row_at HAx.out.srvs hxk
      cases e5
      have hsv := HAx.out.srv x HXM.out
      have HSI := Lib.hid (HSM.out.srvs x HXM.out)
      obtain ⟨bd, hbd⟩ : ∃ z, purgedB hm x = z := ⟨_, rfl⟩
      have HEQ := Lib.hid ((taken_eq (s := x) HSM.out).trans hbd)
      rw [hbd] at HVD
      clear hbd
      obtain ⟨edge, sadr, stag, ten, ask, at_, frm, til, tv, tags, pv, parts, ended⟩ := x
      obtain ⟨_, hsa, _, htg, htl, _, hq, hql, hpt⟩ := hsv
      simp only at hsa htl hql
      obtain ⟨ta, tn, tc, htv⟩ : ∃ (a : Option Addr) (m c : Nat), tv = .slice a m c := by
        rcases htg with ⟨_, h9 | ⟨_, _, h9⟩⟩ | ⟨_, _, _, h9, _⟩ <;> exact ⟨_, _, _, h9⟩
      obtain ⟨qa, qc, hqv, _⟩ := hq.form
      simp only at htv hqv
      subst htv hqv
      have HTG := Lib.hid htg
      have HQ0 := Lib.hid hq
      have HPT := Lib.hid hpt
      obtain ⟨qn, hqn⟩ : ∃ z, parts.length = z := ⟨_, rfl⟩
      have HQN := Lib.hid hqn
      have d0 := hrow 0 _ rfl
      have d1 := hrow 1 _ rfl
      have d2 := hrow 2 _ rfl
      have d3 := hrow 3 _ rfl
      have d4 := hrow 4 _ rfl
      have d5 := hrow 5 _ rfl
      have d6 := hrow 6 _ rfl
      have d7 := hrow 7 _ rfl
      have d8 := hrow 8 _ rfl
      have d9 := hrow 9 _ rfl
      have d10 := hrow 10 _ rfl
      rw [Nat.add_zero] at d0
      rw [hqn] at d9 hql
      try simp only [hqn] at HEQ
      simp only [hqn] at HQ0
      clear htg hq hpt hqn hrow
      cases bd with
      | true =>
        have HVT := Lib.hid (show vl = (acc ++ [⟨1, (k : Int), tx1⟩]) ++ vioF 1 tx1 (fun _ x => purgedB hm x) (hm.srvs.drop (k + 1)) (k + 1) by rw [HV.out, HVD.out]; simp)
        have HBr := Lib.hid (HB0.out.trans (HB.out.mono HB0.out.size))
        go_upto_region 19 with fail
        refine wp_region_held_drew (S := (fun w' => w'.cell? ⟨b0, 0, none⟩ = some (va) ∧ w'.cell? ⟨b0, 1, none⟩ = some (vb) ∧ w'.cell? ⟨b0, 2, none⟩ = some (.slice (some ⟨bl, ol, none⟩) n lc) ∧ w'.cell? ⟨b0, 3, none⟩ = some (vd) ∧ w'.cell? ⟨b0, 4, none⟩ = some (ve) ∧ w'.cell? ⟨b0, 5, none⟩ = some (.int .i64 hm.bound) ∧ w'.cell? ⟨b0, 6, none⟩ = some (.int .i64 hm.fin) ∧ w'.cell? ⟨bl, ol + k * 11, none⟩ = some (.string ⟨edge.toArray⟩) ∧ w'.cell? ⟨bl, ol + k * 11 + 1, none⟩ = some (.string ⟨sadr.toArray⟩) ∧ w'.cell? ⟨bl, ol + k * 11 + 2, none⟩ = some (.string ⟨stag.toArray⟩) ∧ w'.cell? ⟨bl, ol + k * 11 + 3, none⟩ = some (.int .i64 ten) ∧ w'.cell? ⟨bl, ol + k * 11 + 4, none⟩ = some (.int .i64 ask) ∧ w'.cell? ⟨bl, ol + k * 11 + 5, none⟩ = some (.int .i64 at_) ∧ w'.cell? ⟨bl, ol + k * 11 + 6, none⟩ = some (.int .i64 frm) ∧ w'.cell? ⟨bl, ol + k * 11 + 7, none⟩ = some (.int .i64 til) ∧ w'.cell? ⟨bl, ol + k * 11 + 8, none⟩ = some (.slice ta tn tc) ∧ w'.cell? ⟨bl, ol + k * 11 + 9, none⟩ = some (.slice qa qn qc) ∧ w'.cell? ⟨bl, ol + k * 11 + 10, none⟩ = some (.bool ended))) (by kernel_rfl) (by exact ⟨c0, c1, c2, c3, c4, c5, c6, d0, d1, d2, d3, d4, d5, d6, d7, d8, d9, d10⟩) (fun hHeld => ?_)
        refine Hd.tk 0 ?_
        try simp only [Act.put, List.setIfInBounds_toArray, List.set_cons_zero, List.set_cons_succ]
        refine Hd.tk 1 ?_
        try simp only [Act.put, List.setIfInBounds_toArray, List.set_cons_zero, List.set_cons_succ]
        refine Hd.tk 2 ?_
        try simp only [Act.put, List.setIfInBounds_toArray, List.set_cons_zero, List.set_cons_succ]
        refine Hd.tk 3 ?_
        try simp only [Act.put, List.setIfInBounds_toArray, List.set_cons_zero, List.set_cons_succ]
        refine Hd.tk 4 ?_
        try simp only [Act.put, List.setIfInBounds_toArray, List.set_cons_zero, List.set_cons_succ]
        refine Hd.tk 5 ?_
        try simp only [Act.put, List.setIfInBounds_toArray, List.set_cons_zero, List.set_cons_succ]
        refine Hd.tk 6 ?_
        try simp only [Act.put, List.setIfInBounds_toArray, List.set_cons_zero, List.set_cons_succ]
        refine wpAnyH_ready (rs := [7]) (by kernel_rfl) (by simp) (AllReadyH.cons (by simp only [List.getElem?_toArray, List.getElem?_cons_succ, List.getElem?_cons_zero]; rfl) (fun K hK => ?_) AllReadyH.nil)
        go_simp
        go_at_call 61
        refine (rtaken_any hm.pubs va vb (.slice (some ⟨bl, ol, none⟩) n lc) vd ve hm.bound hm.fin B hm.prgs edge sadr stag ten ask at_ frm til ta tn tc qa qn qc ended tags parts lv _ (HRY.out.below (HBr.out.drew)) (HA.out.below (HBr.out.drew)).pubs HSM.out.npub (HA.out.below (HBr.out.drew)).pub (fun p hp => (HSM.out.pubs p hp).1) (HA.out.below (HBr.out.drew)).prgs HSM.out.nprg (fun g hg => ⟨Nat.le_trans (HA.out.prg g hg) HBB.out, (HSM.out.prgs g hg).1, (HSM.out.prgs g hg).2⟩) (HLV.out.below (HBr.out.drew)) (HTG.out.below (Below.refl _ _).drew) (by have := HBB.out; omega) (by have := HBB.out; omega) (HQ0.out.below (Below.refl _ _).drew) (by rw [HQN.out]; have := HBB.out; omega) (fun x hx => (HPT.out x hx).1.older (Below.refl _ _).drew)).mono ?_
        rintro e wq1 ⟨rfl, hq1⟩
        have hqw1 : Below wr.heap.size wr wq1 := ((Below.refl _ _).drew).trans hq1
        rw [HEQ.out]
        go_wp2_with fail
        refine hK.out _ _ (by exact ⟨keepH hqw1 c0, keepH hqw1 c1, keepH hqw1 c2, keepH hqw1 c3, keepH hqw1 c4, keepH hqw1 c5, keepH hqw1 c6, keepH hqw1 d0, keepH hqw1 d1, keepH hqw1 d2, keepH hqw1 d3, keepH hqw1 d4, keepH hqw1 d5, keepH hqw1 d6, keepH hqw1 d7, keepH hqw1 d8, keepH hqw1 d9, keepH hqw1 d10⟩) (fun hHe1 => ?_)
        clear hK K
        try simp only [Act.put, List.setIfInBounds_toArray, List.set_cons_zero, List.set_cons_succ]
        refine Hd.tk 8 ?_
        try simp only [Act.put, List.setIfInBounds_toArray, List.set_cons_zero, List.set_cons_succ]
        refine wpAnyH_done (by kernel_rfl) ?_ _
        have HB3 := Lib.hid (HB.out.trans (hqw1.mono HB.out.size))
        have HO3 := Lib.hid (HO.out.older hqw1)
        clear hqw1
        clear c0 c1 c2 c3 c4 c5 c6 d0 d1 d2 d3 d4 d5 d6 d7 d8 d9 d10
        go_upto_region 28 with (first | (go_at_call 66; refine (texts_any 1 tx1 _ (by simp)).mono ?_; rintro e w4 ⟨rfl, hb4⟩; have HB4 := Lib.hid (HB3.out.trans (hb4.mono HB3.out.size)); have HO4 := Lib.hid (HO3.out.older hb4); clear hb4) | (at_builtin; have HO5 := Lib.hid (HO4.out.older ((Below.refl _ _).alloc (Nat.le_refl _) (.cells #[.int .i64 1, .int .i64 (k : Int), .string ⟨tx1.toArray⟩] 90))); have HB5 := Lib.hid (HB4.out.alloc HB4.out.size (.cells #[.int .i64 1, .int .i64 (k : Int), .string ⟨tx1.toArray⟩] 90)); refine wpList_appw tyVio (by rfl) _ _ (by rfl) w1.heap.size (.slice a acc.length c) acc.length _ (by rfl) HO5.out HB5.out.size (.slice (some ⟨w4.heap.size, 0, none⟩) 1 1) 1 [.int .i64 1, .int .i64 (k : Int), .string ⟨tx1.toArray⟩] (by rfl) (src_cells (heap_alloc_new w4 _)) (by rfl) (by simp [Value.oneCell']) (by omega) ?_; intro v6 w6 ho hg hl; have HO6 := Lib.hid ho; have HB6 := Lib.hid (HB5.out.grown hg HB5.out.size (fun q hq => (HO5.out.lt q hq).1)); obtain ⟨u6, t6, rfl, _⟩ := ho.form; clear ho hg hl))
        go_wp2_with fail
        go_roundg (gk - 1)
        case rel => exact ⟨k + 1, acc ++ [⟨1, (k : Int), tx1⟩], u6, t6, by go_num, by have := HLT.out; omega, Lib.hid (by have := HQ.out; omega), by simp, by simp; omega, HVT, HB6, Lib.hid (by have := HO6.out; rw [List.length_append, vvals_append, vvals_one]; exact this)⟩
        case measure => have := HQ.out; have := HLT.out; omega
      | false =>
        have HVT := Lib.hid (show vl = acc ++ vioF 1 tx1 (fun _ x => purgedB hm x) (hm.srvs.drop (k + 1)) (k + 1) by rw [HV.out, HVD.out]; simp)
        have HBr := Lib.hid (HB0.out.trans (HB.out.mono HB0.out.size))
        go_upto_region 19 with fail
        refine wp_region_held_drew (S := (fun w' => w'.cell? ⟨b0, 0, none⟩ = some (va) ∧ w'.cell? ⟨b0, 1, none⟩ = some (vb) ∧ w'.cell? ⟨b0, 2, none⟩ = some (.slice (some ⟨bl, ol, none⟩) n lc) ∧ w'.cell? ⟨b0, 3, none⟩ = some (vd) ∧ w'.cell? ⟨b0, 4, none⟩ = some (ve) ∧ w'.cell? ⟨b0, 5, none⟩ = some (.int .i64 hm.bound) ∧ w'.cell? ⟨b0, 6, none⟩ = some (.int .i64 hm.fin) ∧ w'.cell? ⟨bl, ol + k * 11, none⟩ = some (.string ⟨edge.toArray⟩) ∧ w'.cell? ⟨bl, ol + k * 11 + 1, none⟩ = some (.string ⟨sadr.toArray⟩) ∧ w'.cell? ⟨bl, ol + k * 11 + 2, none⟩ = some (.string ⟨stag.toArray⟩) ∧ w'.cell? ⟨bl, ol + k * 11 + 3, none⟩ = some (.int .i64 ten) ∧ w'.cell? ⟨bl, ol + k * 11 + 4, none⟩ = some (.int .i64 ask) ∧ w'.cell? ⟨bl, ol + k * 11 + 5, none⟩ = some (.int .i64 at_) ∧ w'.cell? ⟨bl, ol + k * 11 + 6, none⟩ = some (.int .i64 frm) ∧ w'.cell? ⟨bl, ol + k * 11 + 7, none⟩ = some (.int .i64 til) ∧ w'.cell? ⟨bl, ol + k * 11 + 8, none⟩ = some (.slice ta tn tc) ∧ w'.cell? ⟨bl, ol + k * 11 + 9, none⟩ = some (.slice qa qn qc) ∧ w'.cell? ⟨bl, ol + k * 11 + 10, none⟩ = some (.bool ended))) (by kernel_rfl) (by exact ⟨c0, c1, c2, c3, c4, c5, c6, d0, d1, d2, d3, d4, d5, d6, d7, d8, d9, d10⟩) (fun hHeld => ?_)
        refine Hd.tk 0 ?_
        try simp only [Act.put, List.setIfInBounds_toArray, List.set_cons_zero, List.set_cons_succ]
        refine Hd.tk 1 ?_
        try simp only [Act.put, List.setIfInBounds_toArray, List.set_cons_zero, List.set_cons_succ]
        refine Hd.tk 2 ?_
        try simp only [Act.put, List.setIfInBounds_toArray, List.set_cons_zero, List.set_cons_succ]
        refine Hd.tk 3 ?_
        try simp only [Act.put, List.setIfInBounds_toArray, List.set_cons_zero, List.set_cons_succ]
        refine Hd.tk 4 ?_
        try simp only [Act.put, List.setIfInBounds_toArray, List.set_cons_zero, List.set_cons_succ]
        refine Hd.tk 5 ?_
        try simp only [Act.put, List.setIfInBounds_toArray, List.set_cons_zero, List.set_cons_succ]
        refine Hd.tk 6 ?_
        try simp only [Act.put, List.setIfInBounds_toArray, List.set_cons_zero, List.set_cons_succ]
        refine wpAnyH_ready (rs := [7]) (by kernel_rfl) (by simp) (AllReadyH.cons (by simp only [List.getElem?_toArray, List.getElem?_cons_succ, List.getElem?_cons_zero]; rfl) (fun K hK => ?_) AllReadyH.nil)
        go_simp
        go_at_call 61
        refine (rtaken_any hm.pubs va vb (.slice (some ⟨bl, ol, none⟩) n lc) vd ve hm.bound hm.fin B hm.prgs edge sadr stag ten ask at_ frm til ta tn tc qa qn qc ended tags parts lv _ (HRY.out.below (HBr.out.drew)) (HA.out.below (HBr.out.drew)).pubs HSM.out.npub (HA.out.below (HBr.out.drew)).pub (fun p hp => (HSM.out.pubs p hp).1) (HA.out.below (HBr.out.drew)).prgs HSM.out.nprg (fun g hg => ⟨Nat.le_trans (HA.out.prg g hg) HBB.out, (HSM.out.prgs g hg).1, (HSM.out.prgs g hg).2⟩) (HLV.out.below (HBr.out.drew)) (HTG.out.below (Below.refl _ _).drew) (by have := HBB.out; omega) (by have := HBB.out; omega) (HQ0.out.below (Below.refl _ _).drew) (by rw [HQN.out]; have := HBB.out; omega) (fun x hx => (HPT.out x hx).1.older (Below.refl _ _).drew)).mono ?_
        rintro e wq1 ⟨rfl, hq1⟩
        have hqw1 : Below wr.heap.size wr wq1 := ((Below.refl _ _).drew).trans hq1
        rw [HEQ.out]
        go_wp2_with fail
        refine hK.out _ _ (by exact ⟨keepH hqw1 c0, keepH hqw1 c1, keepH hqw1 c2, keepH hqw1 c3, keepH hqw1 c4, keepH hqw1 c5, keepH hqw1 c6, keepH hqw1 d0, keepH hqw1 d1, keepH hqw1 d2, keepH hqw1 d3, keepH hqw1 d4, keepH hqw1 d5, keepH hqw1 d6, keepH hqw1 d7, keepH hqw1 d8, keepH hqw1 d9, keepH hqw1 d10⟩) (fun hHe1 => ?_)
        clear hK K
        try simp only [Act.put, List.setIfInBounds_toArray, List.set_cons_zero, List.set_cons_succ]
        refine Hd.tk 8 ?_
        try simp only [Act.put, List.setIfInBounds_toArray, List.set_cons_zero, List.set_cons_succ]
        refine wpAnyH_done (by kernel_rfl) ?_ _
        have HB3 := Lib.hid (HB.out.trans (hqw1.mono HB.out.size))
        have HO3 := Lib.hid (HO.out.older hqw1)
        clear hqw1
        clear c0 c1 c2 c3 c4 c5 c6 d0 d1 d2 d3 d4 d5 d6 d7 d8 d9 d10
        go_wp2_with fail
        go_roundg (gk - 1)
        case rel => exact ⟨k + 1, acc, a, c, by go_num, by have := HLT.out; omega, Lib.hid (by have := HQ.out; omega), rfl, by omega, HVT, HB3, HO3⟩
        case measure => have := HQ.out; have := HLT.out; omega
    · have HE := Lib.hid (show vl = acc by rw [HV.out, vioF_end (by rw [HN.out]; omega)]; simp)
      obtain rfl : n = k := by omega
      go_wp2_with fail
      go_ret
      exact ⟨_, rfl, by rw [HE.out]; exact HO.out.mono (fun q hq => Nat.le_trans HB0.out.size (HO.out.lt q hq).1), HB0.out.trans (HB.out.mono HB0.out.size)⟩
theorem rrule2_any (hm : HisM) (va vb vc vd ve lv : Value) (B : Nat) (w : World) (hr : Ready w) (ha : HisAt w B va vb vc vd ve hm) (hsm : hm.Small) (hB : B ≤ 134217728) (hlv : RowsV psdR 4 w lv (hm.prgs.map psdM)) :
    Calls Tryz.prog 32 #[.agg #[va, vb, vc, vd, ve, .int .i64 hm.bound, .int .i64 hm.fin], lv, .int .i64 2] w fun e w' => ∃ v, e = .returned v ∧ OwnWin w' w.heap.size 90 3 v (vio2 hm).length (vvals (vio2 hm)) ∧ Below w.heap.size w w' := by
  obtain ⟨la, lc, rfl, hlc⟩ := ha.prgs.form
  have HA := Lib.hid ha
  have HSM := Lib.hid hsm
  have HBB := Lib.hid hB
  have HRY := Lib.hid hr
  have HLV := Lib.hid hlv
  obtain ⟨n, hn⟩ : ∃ z, hm.prgs.length = z := ⟨_, rfl⟩
  have HN := Lib.hid hn
  rw [hn] at HA hlc ⊢
  have hn1 : n ≤ 1000 := by rw [← hn]; exact hsm.nprg
  clear ha hsm hB hr hlv hn
  obtain ⟨vl, hvl⟩ : ∃ z, vio2 hm = z := ⟨_, rfl⟩
  have HVL := Lib.hid (show vl = vioF 2 tx2 (fun _ x => lateB hm x) (hm.prgs.drop 0) 0 from hvl.symm)
  rw [hvl]
  clear hvl
  go_enter Tryz.func32, Tryz.ntmps32
  go_upto_region 1 with fail
  have HX0 := Lib.hid (Bx.new w 69 #[va, .slice la n lc, vc, vd, ve, .int .i64 hm.bound, .int .i64 hm.fin])
  have HB0 := Lib.hid ((Below.refl w.heap.size w).alloc (Nat.le_refl _) (.cells #[va, .slice la n lc, vc, vd, ve, .int .i64 hm.bound, .int .i64 hm.fin] 69))
  obtain ⟨w1, hw1⟩ : ∃ z, w.alloc (.cells #[va, .slice la n lc, vc, vd, ve, .int .i64 hm.bound, .int .i64 hm.fin] 69) = z := ⟨_, rfl⟩
  obtain ⟨b0, hb0⟩ : ∃ z, w.heap.size = z := ⟨_, rfl⟩
  have HW0 := Lib.hid (show b0 = w.heap.size from hb0.symm)
  rw [hw1] at HX0 HB0 ⊢
  rw [hb0] at HX0 ⊢
  clear hw1 hb0
  have c0 := HX0.out.cell (i := 0) rfl
  have c1 := HX0.out.cell (i := 1) rfl
  have c2 := HX0.out.cell (i := 2) rfl
  have c3 := HX0.out.cell (i := 3) rfl
  have c4 := HX0.out.cell (i := 4) rfl
  have c5 := HX0.out.cell (i := 5) rfl
  have c6 := HX0.out.cell (i := 6) rfl
  go_wp2_with fail
  go_loopg [30, 7] n (fun gq iv ov wr => ∃ (k : Nat) (acc : List VioM) (a : Option Addr) (c : Nat), iv = .int .i64 k ∧ k ≤ n ∧ Hid (n ≤ gq + k) ∧ ov = .slice a acc.length c ∧ acc.length ≤ k ∧ Hid (vl = acc ++ vioF 2 tx2 (fun _ x => lateB hm x) (hm.prgs.drop k) k) ∧ Hid (Below w1.heap.size w1 wr) ∧ Hid (OwnWin wr w1.heap.size 90 3 (.slice a acc.length c) acc.length (vvals acc)))
  case atStart => exact ⟨0, [], none, 0, rfl, Nat.zero_le _, Lib.hid (by omega), rfl, Nat.le_refl _, HVL, Lib.hid (Below.refl _ _), Lib.hid (OwnWin.nil _ _ _ _)⟩
  case round =>
    obtain ⟨k, acc, a, c, rfl, hk, HQ, rfl, hac, HV, HB, HO⟩ := hrel
    by_cases hlt : k < n
    · have HLT := Lib.hid hlt
      have q1 : (k : Int) < (n : Int) := by omega
      have q2 : (0 : Int) ≤ (k : Int) := by omega
      have hac2 : acc.length ≤ 1000 := by omega
      obtain ⟨x, hxk⟩ : ∃ x, hm.prgs[k]? = some x := ⟨_, List.getElem?_eq_getElem (by rw [HN.out]; exact hlt)⟩
      have HVD := Lib.hid (vioF_drop (r := 2) (tx := tx2) (bad := fun _ x => lateB hm x) hxk)
      have HXM := Lib.hid (List.mem_of_getElem? hxk)
      have HAx := Lib.hid (HA.out.below (HB0.out.trans (HB.out.mono HB0.out.size)))
      have c0 := (HX0.out.older HB.out).cell (i := 0) rfl
      have c1 := (HX0.out.older HB.out).cell (i := 1) rfl
      have c2 := (HX0.out.older HB.out).cell (i := 2) rfl
      have c3 := (HX0.out.older HB.out).cell (i := 3) rfl
      have c4 := (HX0.out.older HB.out).cell (i := 4) rfl
      have c5 := (HX0.out.older HB.out).cell (i := 5) rfl
      have c6 := (HX0.out.older HB.out).cell (i := 6) rfl
      obtain ⟨bl, ol, e5, _, hbl, hrow⟩ := row_at HAx.out.prgs hxk
      cases e5
      have HGI := Lib.hid (HSM.out.prgs x HXM.out)
      obtain ⟨bd, hbd⟩ : ∃ z, lateB hm x = z := ⟨_, rfl⟩
      have HEQ := Lib.hid (show decide ((if x.stl < 0 then hm.fin else x.stl) > x.ord + hm.bound) = bd from hbd)
      rw [hbd] at HVD
      clear hbd
      obtain ⟨gt, go, gs_⟩ := x
      have d0 := hrow 0 _ rfl
      have d1 := hrow 1 _ rfl
      have d2 := hrow 2 _ rfl
      rw [Nat.add_zero] at d0
      clear hrow
      cases bd with
      | true =>
        have HVT := Lib.hid (show vl = (acc ++ [⟨2, (k : Int), tx2⟩]) ++ vioF 2 tx2 (fun _ x => lateB hm x) (hm.prgs.drop (k + 1)) (k + 1) by rw [HV.out, HVD.out]; simp)
        have HBr := Lib.hid (HB0.out.trans (HB.out.mono HB0.out.size))
        go_upto_region 21 with fail
        refine wp_region_held_drew (S := (fun w' => w'.cell? ⟨b0, 0, none⟩ = some (va) ∧ w'.cell? ⟨b0, 1, none⟩ = some (.slice (some ⟨bl, ol, none⟩) n lc) ∧ w'.cell? ⟨b0, 2, none⟩ = some (vc) ∧ w'.cell? ⟨b0, 3, none⟩ = some (vd) ∧ w'.cell? ⟨b0, 4, none⟩ = some (ve) ∧ w'.cell? ⟨b0, 5, none⟩ = some (.int .i64 hm.bound) ∧ w'.cell? ⟨b0, 6, none⟩ = some (.int .i64 hm.fin) ∧ w'.cell? ⟨bl, ol + k * 3, none⟩ = some (.string ⟨gt.toArray⟩) ∧ w'.cell? ⟨bl, ol + k * 3 + 1, none⟩ = some (.int .i64 go) ∧ w'.cell? ⟨bl, ol + k * 3 + 2, none⟩ = some (.int .i64 gs_))) (by kernel_rfl) (by exact ⟨c0, c1, c2, c3, c4, c5, c6, d0, d1, d2⟩) (fun hHeld => ?_)
        refine Hd.tk 0 ?_
        try simp only [Act.put, List.setIfInBounds_toArray, List.set_cons_zero, List.set_cons_succ]
        refine Hd.tk 1 ?_
        try simp only [Act.put, List.setIfInBounds_toArray, List.set_cons_zero, List.set_cons_succ]
        refine Hd.tk 2 ?_
        try simp only [Act.put, List.setIfInBounds_toArray, List.set_cons_zero, List.set_cons_succ]
        refine Hd.tk 3 ?_
        try simp only [Act.put, List.setIfInBounds_toArray, List.set_cons_zero, List.set_cons_succ]
        refine Hd.tk 4 ?_
        try simp only [Act.put, List.setIfInBounds_toArray, List.set_cons_zero, List.set_cons_succ]
        refine Hd.tk 5 ?_
        try simp only [Act.put, List.setIfInBounds_toArray, List.set_cons_zero, List.set_cons_succ]
        refine wpAnyH_ready (rs := [6]) (by kernel_rfl) (by simp) (AllReadyH.cons (by simp only [List.getElem?_toArray, List.getElem?_cons_succ, List.getElem?_cons_zero]; rfl) (fun K hK => ?_) AllReadyH.nil)
        go_simp
        go_at_call 62
        refine (rlate_any va (.slice (some ⟨bl, ol, none⟩) n lc) vc vd ve hm.bound hm.fin gt go gs_ _ HSM.out.bound HSM.out.fin HGI.out.1 HGI.out.2).mono ?_
        rintro e wq1 ⟨rfl, hq1⟩
        have hqw1 : Below wr.heap.size wr wq1 := ((Below.refl _ _).drew).trans hq1
        rw [HEQ.out]
        go_wp2_with fail
        refine hK.out _ _ (by exact ⟨keepH hqw1 c0, keepH hqw1 c1, keepH hqw1 c2, keepH hqw1 c3, keepH hqw1 c4, keepH hqw1 c5, keepH hqw1 c6, keepH hqw1 d0, keepH hqw1 d1, keepH hqw1 d2⟩) (fun hHe1 => ?_)
        clear hK K
        try simp only [Act.put, List.setIfInBounds_toArray, List.set_cons_zero, List.set_cons_succ]
        refine Hd.tk 7 ?_
        try simp only [Act.put, List.setIfInBounds_toArray, List.set_cons_zero, List.set_cons_succ]
        refine wpAnyH_done (by kernel_rfl) ?_ _
        have HB3 := Lib.hid (HB.out.trans (hqw1.mono HB.out.size))
        have HO3 := Lib.hid (HO.out.older hqw1)
        clear hqw1
        clear c0 c1 c2 c3 c4 c5 c6 d0 d1 d2
        go_upto_region 28 with (first | (go_at_call 66; refine (texts_any 2 tx2 _ (by simp)).mono ?_; rintro e w4 ⟨rfl, hb4⟩; have HB4 := Lib.hid (HB3.out.trans (hb4.mono HB3.out.size)); have HO4 := Lib.hid (HO3.out.older hb4); clear hb4) | (at_builtin; have HO5 := Lib.hid (HO4.out.older ((Below.refl _ _).alloc (Nat.le_refl _) (.cells #[.int .i64 2, .int .i64 (k : Int), .string ⟨tx2.toArray⟩] 90))); have HB5 := Lib.hid (HB4.out.alloc HB4.out.size (.cells #[.int .i64 2, .int .i64 (k : Int), .string ⟨tx2.toArray⟩] 90)); refine wpList_appw tyVio (by rfl) _ _ (by rfl) w1.heap.size (.slice a acc.length c) acc.length _ (by rfl) HO5.out HB5.out.size (.slice (some ⟨w4.heap.size, 0, none⟩) 1 1) 1 [.int .i64 2, .int .i64 (k : Int), .string ⟨tx2.toArray⟩] (by rfl) (src_cells (heap_alloc_new w4 _)) (by rfl) (by simp [Value.oneCell']) (by omega) ?_; intro v6 w6 ho hg hl; have HO6 := Lib.hid ho; have HB6 := Lib.hid (HB5.out.grown hg HB5.out.size (fun q hq => (HO5.out.lt q hq).1)); obtain ⟨u6, t6, rfl, _⟩ := ho.form; clear ho hg hl))
        go_wp2_with fail
        go_roundg (gk - 1)
        case rel => exact ⟨k + 1, acc ++ [⟨2, (k : Int), tx2⟩], u6, t6, by go_num, by have := HLT.out; omega, Lib.hid (by have := HQ.out; omega), by simp, by simp; omega, HVT, HB6, Lib.hid (by have := HO6.out; rw [List.length_append, vvals_append, vvals_one]; exact this)⟩
        case measure => have := HQ.out; have := HLT.out; omega
      | false =>
        have HVT := Lib.hid (show vl = acc ++ vioF 2 tx2 (fun _ x => lateB hm x) (hm.prgs.drop (k + 1)) (k + 1) by rw [HV.out, HVD.out]; simp)
        have HBr := Lib.hid (HB0.out.trans (HB.out.mono HB0.out.size))
        go_upto_region 21 with fail
        refine wp_region_held_drew (S := (fun w' => w'.cell? ⟨b0, 0, none⟩ = some (va) ∧ w'.cell? ⟨b0, 1, none⟩ = some (.slice (some ⟨bl, ol, none⟩) n lc) ∧ w'.cell? ⟨b0, 2, none⟩ = some (vc) ∧ w'.cell? ⟨b0, 3, none⟩ = some (vd) ∧ w'.cell? ⟨b0, 4, none⟩ = some (ve) ∧ w'.cell? ⟨b0, 5, none⟩ = some (.int .i64 hm.bound) ∧ w'.cell? ⟨b0, 6, none⟩ = some (.int .i64 hm.fin) ∧ w'.cell? ⟨bl, ol + k * 3, none⟩ = some (.string ⟨gt.toArray⟩) ∧ w'.cell? ⟨bl, ol + k * 3 + 1, none⟩ = some (.int .i64 go) ∧ w'.cell? ⟨bl, ol + k * 3 + 2, none⟩ = some (.int .i64 gs_))) (by kernel_rfl) (by exact ⟨c0, c1, c2, c3, c4, c5, c6, d0, d1, d2⟩) (fun hHeld => ?_)
        refine Hd.tk 0 ?_
        try simp only [Act.put, List.setIfInBounds_toArray, List.set_cons_zero, List.set_cons_succ]
        refine Hd.tk 1 ?_
        try simp only [Act.put, List.setIfInBounds_toArray, List.set_cons_zero, List.set_cons_succ]
        refine Hd.tk 2 ?_
        try simp only [Act.put, List.setIfInBounds_toArray, List.set_cons_zero, List.set_cons_succ]
        refine Hd.tk 3 ?_
        try simp only [Act.put, List.setIfInBounds_toArray, List.set_cons_zero, List.set_cons_succ]
        refine Hd.tk 4 ?_
        try simp only [Act.put, List.setIfInBounds_toArray, List.set_cons_zero, List.set_cons_succ]
        refine Hd.tk 5 ?_
        try simp only [Act.put, List.setIfInBounds_toArray, List.set_cons_zero, List.set_cons_succ]
        refine wpAnyH_ready (rs := [6]) (by kernel_rfl) (by simp) (AllReadyH.cons (by simp only [List.getElem?_toArray, List.getElem?_cons_succ, List.getElem?_cons_zero]; rfl) (fun K hK => ?_) AllReadyH.nil)
        go_simp
        go_at_call 62
        refine (rlate_any va (.slice (some ⟨bl, ol, none⟩) n lc) vc vd ve hm.bound hm.fin gt go gs_ _ HSM.out.bound HSM.out.fin HGI.out.1 HGI.out.2).mono ?_
        rintro e wq1 ⟨rfl, hq1⟩
        have hqw1 : Below wr.heap.size wr wq1 := ((Below.refl _ _).drew).trans hq1
        rw [HEQ.out]
        go_wp2_with fail
        refine hK.out _ _ (by exact ⟨keepH hqw1 c0, keepH hqw1 c1, keepH hqw1 c2, keepH hqw1 c3, keepH hqw1 c4, keepH hqw1 c5, keepH hqw1 c6, keepH hqw1 d0, keepH hqw1 d1, keepH hqw1 d2⟩) (fun hHe1 => ?_)
        clear hK K
        try simp only [Act.put, List.setIfInBounds_toArray, List.set_cons_zero, List.set_cons_succ]
        refine Hd.tk 7 ?_
        try simp only [Act.put, List.setIfInBounds_toArray, List.set_cons_zero, List.set_cons_succ]
        refine wpAnyH_done (by kernel_rfl) ?_ _
        have HB3 := Lib.hid (HB.out.trans (hqw1.mono HB.out.size))
        have HO3 := Lib.hid (HO.out.older hqw1)
        clear hqw1
        clear c0 c1 c2 c3 c4 c5 c6 d0 d1 d2
        go_wp2_with fail
        go_roundg (gk - 1)
        case rel => exact ⟨k + 1, acc, a, c, by go_num, by have := HLT.out; omega, Lib.hid (by have := HQ.out; omega), rfl, by omega, HVT, HB3, HO3⟩
        case measure => have := HQ.out; have := HLT.out; omega
    · have HE := Lib.hid (show vl = acc by rw [HV.out, vioF_end (by rw [HN.out]; omega)]; simp)
      obtain rfl : n = k := by omega
      go_wp2_with fail
      go_ret
      exact ⟨_, rfl, by rw [HE.out]; exact HO.out.mono (fun q hq => Nat.le_trans HB0.out.size (HO.out.lt q hq).1), HB0.out.trans (HB.out.mono HB0.out.size)⟩
theorem rrule3_any (hm : HisM) (va vb vc vd ve lv : Value) (B : Nat) (w : World) (hr : Ready w) (ha : HisAt w B va vb vc vd ve hm) (hsm : hm.Small) (hB : B ≤ 134217728) (hlv : RowsV psdR 4 w lv (hm.prgs.map psdM)) :
    Calls Tryz.prog 32 #[.agg #[va, vb, vc, vd, ve, .int .i64 hm.bound, .int .i64 hm.fin], lv, .int .i64 3] w fun e w' => ∃ v, e = .returned v ∧ OwnWin w' w.heap.size 90 3 v (vio3 hm).length (vvals (vio3 hm)) ∧ Below w.heap.size w w' := by
  obtain ⟨la, lc, rfl, hlc⟩ := ha.srvs.form
  have HA := Lib.hid ha
  have HSM := Lib.hid hsm
  have HBB := Lib.hid hB
  have HRY := Lib.hid hr
  have HLV := Lib.hid hlv
  obtain ⟨n, hn⟩ : ∃ z, hm.srvs.length = z := ⟨_, rfl⟩
  have HN := Lib.hid hn
  rw [hn] at HA hlc ⊢
  have hn1 : n ≤ 1000 := by rw [← hn]; exact hsm.nsrv
  clear ha hsm hB hr hlv hn
  obtain ⟨vl, hvl⟩ : ∃ z, vio3 hm = z := ⟨_, rfl⟩
  have HVL := Lib.hid (show vl = vioF 3 tx3 (fun _ x => oldB hm x) (hm.srvs.drop 0) 0 from hvl.symm)
  rw [hvl]
  clear hvl
  go_enter Tryz.func32, Tryz.ntmps32
  go_upto_region 1 with fail
  have HX0 := Lib.hid (Bx.new w 69 #[va, vb, .slice la n lc, vd, ve, .int .i64 hm.bound, .int .i64 hm.fin])
  have HB0 := Lib.hid ((Below.refl w.heap.size w).alloc (Nat.le_refl _) (.cells #[va, vb, .slice la n lc, vd, ve, .int .i64 hm.bound, .int .i64 hm.fin] 69))
  obtain ⟨w1, hw1⟩ : ∃ z, w.alloc (.cells #[va, vb, .slice la n lc, vd, ve, .int .i64 hm.bound, .int .i64 hm.fin] 69) = z := ⟨_, rfl⟩
  obtain ⟨b0, hb0⟩ : ∃ z, w.heap.size = z := ⟨_, rfl⟩
  have HW0 := Lib.hid (show b0 = w.heap.size from hb0.symm)
  rw [hw1] at HX0 HB0 ⊢
  rw [hb0] at HX0 ⊢
  clear hw1 hb0
  have c0 := HX0.out.cell (i := 0) rfl
  have c1 := HX0.out.cell (i := 1) rfl
  have c2 := HX0.out.cell (i := 2) rfl
  have c3 := HX0.out.cell (i := 3) rfl
  have c4 := HX0.out.cell (i := 4) rfl
  have c5 := HX0.out.cell (i := 5) rfl
  have c6 := HX0.out.cell (i := 6) rfl
  go_wp2_with fail
  go_loopg [30, 7] n (fun gq iv ov wr => ∃ (k : Nat) (acc : List VioM) (a : Option Addr) (c : Nat), iv = .int .i64 k ∧ k ≤ n ∧ Hid (n ≤ gq + k) ∧ ov = .slice a acc.length c ∧ acc.length ≤ k ∧ Hid (vl = acc ++ vioF 3 tx3 (fun _ x => oldB hm x) (hm.srvs.drop k) k) ∧ Hid (Below w1.heap.size w1 wr) ∧ Hid (OwnWin wr w1.heap.size 90 3 (.slice a acc.length c) acc.length (vvals acc)))
  case atStart => exact ⟨0, [], none, 0, rfl, Nat.zero_le _, Lib.hid (by omega), rfl, Nat.le_refl _, HVL, Lib.hid (Below.refl _ _), Lib.hid (OwnWin.nil _ _ _ _)⟩
  case round =>
    obtain ⟨k, acc, a, c, rfl, hk, HQ, rfl, hac, HV, HB, HO⟩ := hrel
    by_cases hlt : k < n
    · have HLT := Lib.hid hlt
      have q1 : (k : Int) < (n : Int) := by omega
      have q2 : (0 : Int) ≤ (k : Int) := by omega
      have hac2 : acc.length ≤ 1000 := by omega
      obtain ⟨x, hxk⟩ : ∃ x, hm.srvs[k]? = some x := ⟨_, List.getElem?_eq_getElem (by rw [HN.out]; exact hlt)⟩
      have HVD := Lib.hid (vioF_drop (r := 3) (tx := tx3) (bad := fun _ x => oldB hm x) hxk)
      have HXM := Lib.hid (List.mem_of_getElem? hxk)
      have HAx := Lib.hid (HA.out.below (HB0.out.trans (HB.out.mono HB0.out.size)))
      have c0 := (HX0.out.older HB.out).cell (i := 0) rfl
      have c1 := (HX0.out.older HB.out).cell (i := 1) rfl
      have c2 := (HX0.out.older HB.out).cell (i := 2) rfl
      have c3 := (HX0.out.older HB.out).cell (i := 3) rfl
      have c4 := (HX0.out.older HB.out).cell (i := 4) rfl
      have c5 := (HX0.out.older HB.out).cell (i := 5) rfl
      have c6 := (HX0.out.older HB.out).cell (i := 6) rfl
      obtain ⟨bl, ol, e5, _, hbl, hrow⟩ := row_at HAx.out.srvs hxk
      cases e5
      have hsv := HAx.out.srv x HXM.out
      have HSI := Lib.hid (HSM.out.srvs x HXM.out)
      obtain ⟨fv, hfv⟩ : ∃ z, (!(knownB hm.pubs x.addr x.tag) || anyF (fun j p => isV p x.addr x.tag && (decide (p.at_ ≤ min x.at_ (endN hm.pubs j - 1)) && decide (x.ask - min x.at_ (endN hm.pubs j - 1) ≤ p.lim))) hm.pubs 0) = z := ⟨_, rfl⟩
      have HEQ := Lib.hid hfv
      have hbd : oldB hm x = !fv := by rw [← fresh_eq (s := x) HSM.out HSI.out.1, hfv]
      rw [hbd] at HVD
      clear hfv hbd
      obtain ⟨edge, sadr, stag, ten, ask, at_, frm, til, tv, tags, pv, parts, ended⟩ := x
      obtain ⟨_, hsa, _, htg, htl, _, hq, hql, hpt⟩ := hsv
      simp only at hsa htl hql
      obtain ⟨ta, tn, tc, htv⟩ : ∃ (a : Option Addr) (m c : Nat), tv = .slice a m c := by
        rcases htg with ⟨_, h9 | ⟨_, _, h9⟩⟩ | ⟨_, _, _, h9, _⟩ <;> exact ⟨_, _, _, h9⟩
      obtain ⟨qa, qc, hqv, _⟩ := hq.form
      simp only at htv hqv
      subst htv hqv
      have HTG := Lib.hid htg
      have HQ0 := Lib.hid hq
      have HPT := Lib.hid hpt
      obtain ⟨qn, hqn⟩ : ∃ z, parts.length = z := ⟨_, rfl⟩
      have HQN := Lib.hid hqn
      have d0 := hrow 0 _ rfl
      have d1 := hrow 1 _ rfl
      have d2 := hrow 2 _ rfl
      have d3 := hrow 3 _ rfl
      have d4 := hrow 4 _ rfl
      have d5 := hrow 5 _ rfl
      have d6 := hrow 6 _ rfl
      have d7 := hrow 7 _ rfl
      have d8 := hrow 8 _ rfl
      have d9 := hrow 9 _ rfl
      have d10 := hrow 10 _ rfl
      rw [Nat.add_zero] at d0
      rw [hqn] at d9 hql
      try simp only [hqn] at HEQ
      simp only [hqn] at HQ0
      clear htg hq hpt hqn hrow
      cases fv with
      | false =>
        have HVT := Lib.hid (show vl = (acc ++ [⟨3, (k : Int), tx3⟩]) ++ vioF 3 tx3 (fun _ x => oldB hm x) (hm.srvs.drop (k + 1)) (k + 1) by rw [HV.out, HVD.out]; simp)
        have HBr := Lib.hid (HB0.out.trans (HB.out.mono HB0.out.size))
        go_upto_region 23 with fail
        refine wp_region_held_drew (S := (fun w' => w'.cell? ⟨b0, 0, none⟩ = some (va) ∧ w'.cell? ⟨b0, 1, none⟩ = some (vb) ∧ w'.cell? ⟨b0, 2, none⟩ = some (.slice (some ⟨bl, ol, none⟩) n lc) ∧ w'.cell? ⟨b0, 3, none⟩ = some (vd) ∧ w'.cell? ⟨b0, 4, none⟩ = some (ve) ∧ w'.cell? ⟨b0, 5, none⟩ = some (.int .i64 hm.bound) ∧ w'.cell? ⟨b0, 6, none⟩ = some (.int .i64 hm.fin) ∧ w'.cell? ⟨bl, ol + k * 11, none⟩ = some (.string ⟨edge.toArray⟩) ∧ w'.cell? ⟨bl, ol + k * 11 + 1, none⟩ = some (.string ⟨sadr.toArray⟩) ∧ w'.cell? ⟨bl, ol + k * 11 + 2, none⟩ = some (.string ⟨stag.toArray⟩) ∧ w'.cell? ⟨bl, ol + k * 11 + 3, none⟩ = some (.int .i64 ten) ∧ w'.cell? ⟨bl, ol + k * 11 + 4, none⟩ = some (.int .i64 ask) ∧ w'.cell? ⟨bl, ol + k * 11 + 5, none⟩ = some (.int .i64 at_) ∧ w'.cell? ⟨bl, ol + k * 11 + 6, none⟩ = some (.int .i64 frm) ∧ w'.cell? ⟨bl, ol + k * 11 + 7, none⟩ = some (.int .i64 til) ∧ w'.cell? ⟨bl, ol + k * 11 + 8, none⟩ = some (.slice ta tn tc) ∧ w'.cell? ⟨bl, ol + k * 11 + 9, none⟩ = some (.slice qa qn qc) ∧ w'.cell? ⟨bl, ol + k * 11 + 10, none⟩ = some (.bool ended))) (by kernel_rfl) (by exact ⟨c0, c1, c2, c3, c4, c5, c6, d0, d1, d2, d3, d4, d5, d6, d7, d8, d9, d10⟩) (fun hHeld => ?_)
        refine Hd.tk 0 ?_
        try simp only [Act.put, List.setIfInBounds_toArray, List.set_cons_zero, List.set_cons_succ]
        refine Hd.tk 1 ?_
        try simp only [Act.put, List.setIfInBounds_toArray, List.set_cons_zero, List.set_cons_succ]
        refine Hd.tk 2 ?_
        try simp only [Act.put, List.setIfInBounds_toArray, List.set_cons_zero, List.set_cons_succ]
        refine Hd.tk 3 ?_
        try simp only [Act.put, List.setIfInBounds_toArray, List.set_cons_zero, List.set_cons_succ]
        refine Hd.tk 4 ?_
        try simp only [Act.put, List.setIfInBounds_toArray, List.set_cons_zero, List.set_cons_succ]
        refine Hd.tk 5 ?_
        try simp only [Act.put, List.setIfInBounds_toArray, List.set_cons_zero, List.set_cons_succ]
        refine wpAnyH_ready (rs := [6]) (by kernel_rfl) (by simp) (AllReadyH.cons (by simp only [List.getElem?_toArray, List.getElem?_cons_succ, List.getElem?_cons_zero]; rfl) (fun K hK => ?_) AllReadyH.nil)
        go_simp
        go_at_call 63
        refine (rfresh_any hm.pubs va vb (.slice (some ⟨bl, ol, none⟩) n lc) vd ve hm.bound hm.fin B edge sadr stag ten ask at_ frm til ta tn tc qa qn qc ended _ (HA.out.below (HBr.out.drew)).pubs HSM.out.npub (HA.out.below (HBr.out.drew)).pub (fun p hp => (HSM.out.pubs p hp).1) (fun p hp => (HSM.out.pubs p hp).2) HSI.out.1 HSI.out.2.1).mono ?_
        rintro e wq1 ⟨rfl, hq1⟩
        have hqw1 : Below wr.heap.size wr wq1 := ((Below.refl _ _).drew).trans hq1
        rw [HEQ.out]
        go_wp2_with fail
        refine hK.out _ _ (by exact ⟨keepH hqw1 c0, keepH hqw1 c1, keepH hqw1 c2, keepH hqw1 c3, keepH hqw1 c4, keepH hqw1 c5, keepH hqw1 c6, keepH hqw1 d0, keepH hqw1 d1, keepH hqw1 d2, keepH hqw1 d3, keepH hqw1 d4, keepH hqw1 d5, keepH hqw1 d6, keepH hqw1 d7, keepH hqw1 d8, keepH hqw1 d9, keepH hqw1 d10⟩) (fun hHe1 => ?_)
        clear hK K
        try simp only [Act.put, List.setIfInBounds_toArray, List.set_cons_zero, List.set_cons_succ]
        refine Hd.tk 7 ?_
        try simp only [Act.put, List.setIfInBounds_toArray, List.set_cons_zero, List.set_cons_succ]
        refine Hd.tk 8 ?_
        try simp only [Act.put, List.setIfInBounds_toArray, List.set_cons_zero, List.set_cons_succ]
        refine wpAnyH_done (by kernel_rfl) ?_ _
        have HB3 := Lib.hid (HB.out.trans (hqw1.mono HB.out.size))
        have HO3 := Lib.hid (HO.out.older hqw1)
        clear hqw1
        clear c0 c1 c2 c3 c4 c5 c6 d0 d1 d2 d3 d4 d5 d6 d7 d8 d9 d10
        go_upto_region 28 with (first | (go_at_call 66; refine (texts_any 3 tx3 _ (by simp)).mono ?_; rintro e w4 ⟨rfl, hb4⟩; have HB4 := Lib.hid (HB3.out.trans (hb4.mono HB3.out.size)); have HO4 := Lib.hid (HO3.out.older hb4); clear hb4) | (at_builtin; have HO5 := Lib.hid (HO4.out.older ((Below.refl _ _).alloc (Nat.le_refl _) (.cells #[.int .i64 3, .int .i64 (k : Int), .string ⟨tx3.toArray⟩] 90))); have HB5 := Lib.hid (HB4.out.alloc HB4.out.size (.cells #[.int .i64 3, .int .i64 (k : Int), .string ⟨tx3.toArray⟩] 90)); refine wpList_appw tyVio (by rfl) _ _ (by rfl) w1.heap.size (.slice a acc.length c) acc.length _ (by rfl) HO5.out HB5.out.size (.slice (some ⟨w4.heap.size, 0, none⟩) 1 1) 1 [.int .i64 3, .int .i64 (k : Int), .string ⟨tx3.toArray⟩] (by rfl) (src_cells (heap_alloc_new w4 _)) (by rfl) (by simp [Value.oneCell']) (by omega) ?_; intro v6 w6 ho hg hl; have HO6 := Lib.hid ho; have HB6 := Lib.hid (HB5.out.grown hg HB5.out.size (fun q hq => (HO5.out.lt q hq).1)); obtain ⟨u6, t6, rfl, _⟩ := ho.form; clear ho hg hl))
        go_wp2_with fail
        go_roundg (gk - 1)
        case rel => exact ⟨k + 1, acc ++ [⟨3, (k : Int), tx3⟩], u6, t6, by go_num, by have := HLT.out; omega, Lib.hid (by have := HQ.out; omega), by simp, by simp; omega, HVT, HB6, Lib.hid (by have := HO6.out; rw [List.length_append, vvals_append, vvals_one]; exact this)⟩
        case measure => have := HQ.out; have := HLT.out; omega
      | true =>
        have HVT := Lib.hid (show vl = acc ++ vioF 3 tx3 (fun _ x => oldB hm x) (hm.srvs.drop (k + 1)) (k + 1) by rw [HV.out, HVD.out]; simp)
        have HBr := Lib.hid (HB0.out.trans (HB.out.mono HB0.out.size))
        go_upto_region 23 with fail
        refine wp_region_held_drew (S := (fun w' => w'.cell? ⟨b0, 0, none⟩ = some (va) ∧ w'.cell? ⟨b0, 1, none⟩ = some (vb) ∧ w'.cell? ⟨b0, 2, none⟩ = some (.slice (some ⟨bl, ol, none⟩) n lc) ∧ w'.cell? ⟨b0, 3, none⟩ = some (vd) ∧ w'.cell? ⟨b0, 4, none⟩ = some (ve) ∧ w'.cell? ⟨b0, 5, none⟩ = some (.int .i64 hm.bound) ∧ w'.cell? ⟨b0, 6, none⟩ = some (.int .i64 hm.fin) ∧ w'.cell? ⟨bl, ol + k * 11, none⟩ = some (.string ⟨edge.toArray⟩) ∧ w'.cell? ⟨bl, ol + k * 11 + 1, none⟩ = some (.string ⟨sadr.toArray⟩) ∧ w'.cell? ⟨bl, ol + k * 11 + 2, none⟩ = some (.string ⟨stag.toArray⟩) ∧ w'.cell? ⟨bl, ol + k * 11 + 3, none⟩ = some (.int .i64 ten) ∧ w'.cell? ⟨bl, ol + k * 11 + 4, none⟩ = some (.int .i64 ask) ∧ w'.cell? ⟨bl, ol + k * 11 + 5, none⟩ = some (.int .i64 at_) ∧ w'.cell? ⟨bl, ol + k * 11 + 6, none⟩ = some (.int .i64 frm) ∧ w'.cell? ⟨bl, ol + k * 11 + 7, none⟩ = some (.int .i64 til) ∧ w'.cell? ⟨bl, ol + k * 11 + 8, none⟩ = some (.slice ta tn tc) ∧ w'.cell? ⟨bl, ol + k * 11 + 9, none⟩ = some (.slice qa qn qc) ∧ w'.cell? ⟨bl, ol + k * 11 + 10, none⟩ = some (.bool ended))) (by kernel_rfl) (by exact ⟨c0, c1, c2, c3, c4, c5, c6, d0, d1, d2, d3, d4, d5, d6, d7, d8, d9, d10⟩) (fun hHeld => ?_)
        refine Hd.tk 0 ?_
        try simp only [Act.put, List.setIfInBounds_toArray, List.set_cons_zero, List.set_cons_succ]
        refine Hd.tk 1 ?_
        try simp only [Act.put, List.setIfInBounds_toArray, List.set_cons_zero, List.set_cons_succ]
        refine Hd.tk 2 ?_
        try simp only [Act.put, List.setIfInBounds_toArray, List.set_cons_zero, List.set_cons_succ]
        refine Hd.tk 3 ?_
        try simp only [Act.put, List.setIfInBounds_toArray, List.set_cons_zero, List.set_cons_succ]
        refine Hd.tk 4 ?_
        try simp only [Act.put, List.setIfInBounds_toArray, List.set_cons_zero, List.set_cons_succ]
        refine Hd.tk 5 ?_
        try simp only [Act.put, List.setIfInBounds_toArray, List.set_cons_zero, List.set_cons_succ]
        refine wpAnyH_ready (rs := [6]) (by kernel_rfl) (by simp) (AllReadyH.cons (by simp only [List.getElem?_toArray, List.getElem?_cons_succ, List.getElem?_cons_zero]; rfl) (fun K hK => ?_) AllReadyH.nil)
        go_simp
        go_at_call 63
        refine (rfresh_any hm.pubs va vb (.slice (some ⟨bl, ol, none⟩) n lc) vd ve hm.bound hm.fin B edge sadr stag ten ask at_ frm til ta tn tc qa qn qc ended _ (HA.out.below (HBr.out.drew)).pubs HSM.out.npub (HA.out.below (HBr.out.drew)).pub (fun p hp => (HSM.out.pubs p hp).1) (fun p hp => (HSM.out.pubs p hp).2) HSI.out.1 HSI.out.2.1).mono ?_
        rintro e wq1 ⟨rfl, hq1⟩
        have hqw1 : Below wr.heap.size wr wq1 := ((Below.refl _ _).drew).trans hq1
        rw [HEQ.out]
        go_wp2_with fail
        refine hK.out _ _ (by exact ⟨keepH hqw1 c0, keepH hqw1 c1, keepH hqw1 c2, keepH hqw1 c3, keepH hqw1 c4, keepH hqw1 c5, keepH hqw1 c6, keepH hqw1 d0, keepH hqw1 d1, keepH hqw1 d2, keepH hqw1 d3, keepH hqw1 d4, keepH hqw1 d5, keepH hqw1 d6, keepH hqw1 d7, keepH hqw1 d8, keepH hqw1 d9, keepH hqw1 d10⟩) (fun hHe1 => ?_)
        clear hK K
        try simp only [Act.put, List.setIfInBounds_toArray, List.set_cons_zero, List.set_cons_succ]
        refine Hd.tk 7 ?_
        try simp only [Act.put, List.setIfInBounds_toArray, List.set_cons_zero, List.set_cons_succ]
        refine Hd.tk 8 ?_
        try simp only [Act.put, List.setIfInBounds_toArray, List.set_cons_zero, List.set_cons_succ]
        refine wpAnyH_done (by kernel_rfl) ?_ _
        have HB3 := Lib.hid (HB.out.trans (hqw1.mono HB.out.size))
        have HO3 := Lib.hid (HO.out.older hqw1)
        clear hqw1
        clear c0 c1 c2 c3 c4 c5 c6 d0 d1 d2 d3 d4 d5 d6 d7 d8 d9 d10
        go_wp2_with fail
        go_roundg (gk - 1)
        case rel => exact ⟨k + 1, acc, a, c, by go_num, by have := HLT.out; omega, Lib.hid (by have := HQ.out; omega), rfl, by omega, HVT, HB3, HO3⟩
        case measure => have := HQ.out; have := HLT.out; omega
    · have HE := Lib.hid (show vl = acc by rw [HV.out, vioF_end (by rw [HN.out]; omega)]; simp)
      obtain rfl : n = k := by omega
      go_wp2_with fail
      go_ret
      exact ⟨_, rfl, by rw [HE.out]; exact HO.out.mono (fun q hq => Nat.le_trans HB0.out.size (HO.out.lt q hq).1), HB0.out.trans (HB.out.mono HB0.out.size)⟩
theorem rrule4_any (hm : HisM) (va vb vc vd ve lv : Value) (B : Nat) (w : World) (hr : Ready w) (ha : HisAt w B va vb vc vd ve hm) (hsm : hm.Small) (hB : B ≤ 134217728) (hlv : RowsV psdR 4 w lv (hm.prgs.map psdM)) :
    Calls Tryz.prog 32 #[.agg #[va, vb, vc, vd, ve, .int .i64 hm.bound, .int .i64 hm.fin], lv, .int .i64 4] w fun e w' => ∃ v, e = .returned v ∧ OwnWin w' w.heap.size 90 3 v (vio4 hm).length (vvals (vio4 hm)) ∧ Below w.heap.size w w' := by
  obtain ⟨la, lc, rfl, hlc⟩ := ha.srvs.form
  have HA := Lib.hid ha
  have HSM := Lib.hid hsm
  have HBB := Lib.hid hB
  have HRY := Lib.hid hr
  have HLV := Lib.hid hlv
  obtain ⟨n, hn⟩ : ∃ z, hm.srvs.length = z := ⟨_, rfl⟩
  have HN := Lib.hid hn
  rw [hn] at HA hlc ⊢
  have hn1 : n ≤ 1000 := by rw [← hn]; exact hsm.nsrv
  clear ha hsm hB hr hlv hn
  obtain ⟨vl, hvl⟩ : ∃ z, vio4 hm = z := ⟨_, rfl⟩
  have HVL := Lib.hid (show vl = vioF 4 tx4 (fun _ x => mixedB hm x) (hm.srvs.drop 0) 0 from hvl.symm)
  rw [hvl]
  clear hvl
  go_enter Tryz.func32, Tryz.ntmps32
  go_upto_region 1 with fail
  have HX0 := Lib.hid (Bx.new w 69 #[va, vb, .slice la n lc, vd, ve, .int .i64 hm.bound, .int .i64 hm.fin])
  have HB0 := Lib.hid ((Below.refl w.heap.size w).alloc (Nat.le_refl _) (.cells #[va, vb, .slice la n lc, vd, ve, .int .i64 hm.bound, .int .i64 hm.fin] 69))
  obtain ⟨w1, hw1⟩ : ∃ z, w.alloc (.cells #[va, vb, .slice la n lc, vd, ve, .int .i64 hm.bound, .int .i64 hm.fin] 69) = z := ⟨_, rfl⟩
  obtain ⟨b0, hb0⟩ : ∃ z, w.heap.size = z := ⟨_, rfl⟩
  have HW0 := Lib.hid (show b0 = w.heap.size from hb0.symm)
  rw [hw1] at HX0 HB0 ⊢
  rw [hb0] at HX0 ⊢
  clear hw1 hb0
  have c0 := HX0.out.cell (i := 0) rfl
  have c1 := HX0.out.cell (i := 1) rfl
  have c2 := HX0.out.cell (i := 2) rfl
  have c3 := HX0.out.cell (i := 3) rfl
  have c4 := HX0.out.cell (i := 4) rfl
  have c5 := HX0.out.cell (i := 5) rfl
  have c6 := HX0.out.cell (i := 6) rfl
  go_wp2_with fail
  go_loopg [30, 7] n (fun gq iv ov wr => ∃ (k : Nat) (acc : List VioM) (a : Option Addr) (c : Nat), iv = .int .i64 k ∧ k ≤ n ∧ Hid (n ≤ gq + k) ∧ ov = .slice a acc.length c ∧ acc.length ≤ k ∧ Hid (vl = acc ++ vioF 4 tx4 (fun _ x => mixedB hm x) (hm.srvs.drop k) k) ∧ Hid (Below w1.heap.size w1 wr) ∧ Hid (OwnWin wr w1.heap.size 90 3 (.slice a acc.length c) acc.length (vvals acc)))
  case atStart => exact ⟨0, [], none, 0, rfl, Nat.zero_le _, Lib.hid (by omega), rfl, Nat.le_refl _, HVL, Lib.hid (Below.refl _ _), Lib.hid (OwnWin.nil _ _ _ _)⟩
  case round =>
    obtain ⟨k, acc, a, c, rfl, hk, HQ, rfl, hac, HV, HB, HO⟩ := hrel
    by_cases hlt : k < n
    · have HLT := Lib.hid hlt
      have q1 : (k : Int) < (n : Int) := by omega
      have q2 : (0 : Int) ≤ (k : Int) := by omega
      have hac2 : acc.length ≤ 1000 := by omega
      obtain ⟨x, hxk⟩ : ∃ x, hm.srvs[k]? = some x := ⟨_, List.getElem?_eq_getElem (by rw [HN.out]; exact hlt)⟩
      have HVD := Lib.hid (vioF_drop (r := 4) (tx := tx4) (bad := fun _ x => mixedB hm x) hxk)
      have HXM := Lib.hid (List.mem_of_getElem? hxk)
      have HAx := Lib.hid (HA.out.below (HB0.out.trans (HB.out.mono HB0.out.size)))
      have c0 := (HX0.out.older HB.out).cell (i := 0) rfl
      have c1 := (HX0.out.older HB.out).cell (i := 1) rfl
      have c2 := (HX0.out.older HB.out).cell (i := 2) rfl
      have c3 := (HX0.out.older HB.out).cell (i := 3) rfl
      have c4 := (HX0.out.older HB.out).cell (i := 4) rfl
      have c5 := (HX0.out.older HB.out).cell (i := 5) rfl
      have c6 := (HX0.out.older HB.out).cell (i := 6) rfl
      obtain ⟨bl, ol, e5, _, hbl, hrow⟩ := row_at HAx.out.srvs hxk
      cases e5
      have hsv := HAx.out.srv x HXM.out
      have HSI := Lib.hid (HSM.out.srvs x HXM.out)
      obtain ⟨fv, hfv⟩ : ∃ z, anyF (fun _ p => isV p x.addr x.tag && fitsB p.body x) hm.pubs 0 = z := ⟨_, rfl⟩
      have HEQ := Lib.hid hfv
      have hbd : mixedB hm x = !fv := by rw [← whole_eq (s := x), hfv]
      rw [hbd] at HVD
      clear hfv hbd
      obtain ⟨edge, sadr, stag, ten, ask, at_, frm, til, tv, tags, pv, parts, ended⟩ := x
      obtain ⟨_, hsa, _, htg, htl, _, hq, hql, hpt⟩ := hsv
      simp only at hsa htl hql
      obtain ⟨ta, tn, tc, htv⟩ : ∃ (a : Option Addr) (m c : Nat), tv = .slice a m c := by
        rcases htg with ⟨_, h9 | ⟨_, _, h9⟩⟩ | ⟨_, _, _, h9, _⟩ <;> exact ⟨_, _, _, h9⟩
      obtain ⟨qa, qc, hqv, _⟩ := hq.form
      simp only at htv hqv
      subst htv hqv
      have HTG := Lib.hid htg
      have HQ0 := Lib.hid hq
      have HPT := Lib.hid hpt
      obtain ⟨qn, hqn⟩ : ∃ z, parts.length = z := ⟨_, rfl⟩
      have HQN := Lib.hid hqn
      have d0 := hrow 0 _ rfl
      have d1 := hrow 1 _ rfl
      have d2 := hrow 2 _ rfl
      have d3 := hrow 3 _ rfl
      have d4 := hrow 4 _ rfl
      have d5 := hrow 5 _ rfl
      have d6 := hrow 6 _ rfl
      have d7 := hrow 7 _ rfl
      have d8 := hrow 8 _ rfl
      have d9 := hrow 9 _ rfl
      have d10 := hrow 10 _ rfl
      rw [Nat.add_zero] at d0
      rw [hqn] at d9 hql
      try simp only [hqn] at HEQ
      simp only [hqn] at HQ0
      clear htg hq hpt hqn hrow
      cases fv with
      | false =>
        have HVT := Lib.hid (show vl = (acc ++ [⟨4, (k : Int), tx4⟩]) ++ vioF 4 tx4 (fun _ x => mixedB hm x) (hm.srvs.drop (k + 1)) (k + 1) by rw [HV.out, HVD.out]; simp)
        have HBr := Lib.hid (HB0.out.trans (HB.out.mono HB0.out.size))
        go_upto_region 25 with fail
        refine wp_region_held_drew (S := (fun w' => w'.cell? ⟨b0, 0, none⟩ = some (va) ∧ w'.cell? ⟨b0, 1, none⟩ = some (vb) ∧ w'.cell? ⟨b0, 2, none⟩ = some (.slice (some ⟨bl, ol, none⟩) n lc) ∧ w'.cell? ⟨b0, 3, none⟩ = some (vd) ∧ w'.cell? ⟨b0, 4, none⟩ = some (ve) ∧ w'.cell? ⟨b0, 5, none⟩ = some (.int .i64 hm.bound) ∧ w'.cell? ⟨b0, 6, none⟩ = some (.int .i64 hm.fin) ∧ w'.cell? ⟨bl, ol + k * 11, none⟩ = some (.string ⟨edge.toArray⟩) ∧ w'.cell? ⟨bl, ol + k * 11 + 1, none⟩ = some (.string ⟨sadr.toArray⟩) ∧ w'.cell? ⟨bl, ol + k * 11 + 2, none⟩ = some (.string ⟨stag.toArray⟩) ∧ w'.cell? ⟨bl, ol + k * 11 + 3, none⟩ = some (.int .i64 ten) ∧ w'.cell? ⟨bl, ol + k * 11 + 4, none⟩ = some (.int .i64 ask) ∧ w'.cell? ⟨bl, ol + k * 11 + 5, none⟩ = some (.int .i64 at_) ∧ w'.cell? ⟨bl, ol + k * 11 + 6, none⟩ = some (.int .i64 frm) ∧ w'.cell? ⟨bl, ol + k * 11 + 7, none⟩ = some (.int .i64 til) ∧ w'.cell? ⟨bl, ol + k * 11 + 8, none⟩ = some (.slice ta tn tc) ∧ w'.cell? ⟨bl, ol + k * 11 + 9, none⟩ = some (.slice qa qn qc) ∧ w'.cell? ⟨bl, ol + k * 11 + 10, none⟩ = some (.bool ended))) (by kernel_rfl) (by exact ⟨c0, c1, c2, c3, c4, c5, c6, d0, d1, d2, d3, d4, d5, d6, d7, d8, d9, d10⟩) (fun hHeld => ?_)
        refine Hd.tk 0 ?_
        try simp only [Act.put, List.setIfInBounds_toArray, List.set_cons_zero, List.set_cons_succ]
        refine Hd.tk 1 ?_
        try simp only [Act.put, List.setIfInBounds_toArray, List.set_cons_zero, List.set_cons_succ]
        refine Hd.tk 2 ?_
        try simp only [Act.put, List.setIfInBounds_toArray, List.set_cons_zero, List.set_cons_succ]
        refine Hd.tk 3 ?_
        try simp only [Act.put, List.setIfInBounds_toArray, List.set_cons_zero, List.set_cons_succ]
        refine Hd.tk 4 ?_
        try simp only [Act.put, List.setIfInBounds_toArray, List.set_cons_zero, List.set_cons_succ]
        refine Hd.tk 5 ?_
        try simp only [Act.put, List.setIfInBounds_toArray, List.set_cons_zero, List.set_cons_succ]
        refine wpAnyH_ready (rs := [6]) (by kernel_rfl) (by simp) (AllReadyH.cons (by simp only [List.getElem?_toArray, List.getElem?_cons_succ, List.getElem?_cons_zero]; rfl) (fun K hK => ?_) AllReadyH.nil)
        go_simp
        go_at_call 64
        refine (rwhole_any hm.pubs va vb (.slice (some ⟨bl, ol, none⟩) n lc) vd ve hm.bound hm.fin B edge sadr stag ten ask at_ frm til ta tn tc qa qn qc ended tags parts _ (HA.out.below (HBr.out.drew)).pubs HSM.out.npub (HA.out.below (HBr.out.drew)).pub (fun p hp => (HSM.out.pubs p hp).1) HBB.out (HQ0.out.below (Below.refl _ _).drew) (by rw [HQN.out]; have := HBB.out; omega) (fun x hx => ⟨(HPT.out x hx).1.older (Below.refl _ _).drew, by have := (HPT.out x hx).2; have := HBB.out; omega⟩)).mono ?_
        rintro e wq1 ⟨rfl, hq1⟩
        have hqw1 : Below wr.heap.size wr wq1 := ((Below.refl _ _).drew).trans hq1
        rw [HEQ.out]
        go_wp2_with fail
        refine hK.out _ _ (by exact ⟨keepH hqw1 c0, keepH hqw1 c1, keepH hqw1 c2, keepH hqw1 c3, keepH hqw1 c4, keepH hqw1 c5, keepH hqw1 c6, keepH hqw1 d0, keepH hqw1 d1, keepH hqw1 d2, keepH hqw1 d3, keepH hqw1 d4, keepH hqw1 d5, keepH hqw1 d6, keepH hqw1 d7, keepH hqw1 d8, keepH hqw1 d9, keepH hqw1 d10⟩) (fun hHe1 => ?_)
        clear hK K
        try simp only [Act.put, List.setIfInBounds_toArray, List.set_cons_zero, List.set_cons_succ]
        refine Hd.tk 7 ?_
        try simp only [Act.put, List.setIfInBounds_toArray, List.set_cons_zero, List.set_cons_succ]
        refine Hd.tk 8 ?_
        try simp only [Act.put, List.setIfInBounds_toArray, List.set_cons_zero, List.set_cons_succ]
        refine wpAnyH_done (by kernel_rfl) ?_ _
        have HB3 := Lib.hid (HB.out.trans (hqw1.mono HB.out.size))
        have HO3 := Lib.hid (HO.out.older hqw1)
        clear hqw1
        clear c0 c1 c2 c3 c4 c5 c6 d0 d1 d2 d3 d4 d5 d6 d7 d8 d9 d10
        go_upto_region 28 with (first | (go_at_call 66; refine (texts_any 4 tx4 _ (by simp)).mono ?_; rintro e w4 ⟨rfl, hb4⟩; have HB4 := Lib.hid (HB3.out.trans (hb4.mono HB3.out.size)); have HO4 := Lib.hid (HO3.out.older hb4); clear hb4) | (at_builtin; have HO5 := Lib.hid (HO4.out.older ((Below.refl _ _).alloc (Nat.le_refl _) (.cells #[.int .i64 4, .int .i64 (k : Int), .string ⟨tx4.toArray⟩] 90))); have HB5 := Lib.hid (HB4.out.alloc HB4.out.size (.cells #[.int .i64 4, .int .i64 (k : Int), .string ⟨tx4.toArray⟩] 90)); refine wpList_appw tyVio (by rfl) _ _ (by rfl) w1.heap.size (.slice a acc.length c) acc.length _ (by rfl) HO5.out HB5.out.size (.slice (some ⟨w4.heap.size, 0, none⟩) 1 1) 1 [.int .i64 4, .int .i64 (k : Int), .string ⟨tx4.toArray⟩] (by rfl) (src_cells (heap_alloc_new w4 _)) (by rfl) (by simp [Value.oneCell']) (by omega) ?_; intro v6 w6 ho hg hl; have HO6 := Lib.hid ho; have HB6 := Lib.hid (HB5.out.grown hg HB5.out.size (fun q hq => (HO5.out.lt q hq).1)); obtain ⟨u6, t6, rfl, _⟩ := ho.form; clear ho hg hl))
        go_wp2_with fail
        go_roundg (gk - 1)
        case rel => exact ⟨k + 1, acc ++ [⟨4, (k : Int), tx4⟩], u6, t6, by go_num, by have := HLT.out; omega, Lib.hid (by have := HQ.out; omega), by simp, by simp; omega, HVT, HB6, Lib.hid (by have := HO6.out; rw [List.length_append, vvals_append, vvals_one]; exact this)⟩
        case measure => have := HQ.out; have := HLT.out; omega
      | true =>
        have HVT := Lib.hid (show vl = acc ++ vioF 4 tx4 (fun _ x => mixedB hm x) (hm.srvs.drop (k + 1)) (k + 1) by rw [HV.out, HVD.out]; simp)
        have HBr := Lib.hid (HB0.out.trans (HB.out.mono HB0.out.size))
        go_upto_region 25 with fail
        refine wp_region_held_drew (S := (fun w' => w'.cell? ⟨b0, 0, none⟩ = some (va) ∧ w'.cell? ⟨b0, 1, none⟩ = some (vb) ∧ w'.cell? ⟨b0, 2, none⟩ = some (.slice (some ⟨bl, ol, none⟩) n lc) ∧ w'.cell? ⟨b0, 3, none⟩ = some (vd) ∧ w'.cell? ⟨b0, 4, none⟩ = some (ve) ∧ w'.cell? ⟨b0, 5, none⟩ = some (.int .i64 hm.bound) ∧ w'.cell? ⟨b0, 6, none⟩ = some (.int .i64 hm.fin) ∧ w'.cell? ⟨bl, ol + k * 11, none⟩ = some (.string ⟨edge.toArray⟩) ∧ w'.cell? ⟨bl, ol + k * 11 + 1, none⟩ = some (.string ⟨sadr.toArray⟩) ∧ w'.cell? ⟨bl, ol + k * 11 + 2, none⟩ = some (.string ⟨stag.toArray⟩) ∧ w'.cell? ⟨bl, ol + k * 11 + 3, none⟩ = some (.int .i64 ten) ∧ w'.cell? ⟨bl, ol + k * 11 + 4, none⟩ = some (.int .i64 ask) ∧ w'.cell? ⟨bl, ol + k * 11 + 5, none⟩ = some (.int .i64 at_) ∧ w'.cell? ⟨bl, ol + k * 11 + 6, none⟩ = some (.int .i64 frm) ∧ w'.cell? ⟨bl, ol + k * 11 + 7, none⟩ = some (.int .i64 til) ∧ w'.cell? ⟨bl, ol + k * 11 + 8, none⟩ = some (.slice ta tn tc) ∧ w'.cell? ⟨bl, ol + k * 11 + 9, none⟩ = some (.slice qa qn qc) ∧ w'.cell? ⟨bl, ol + k * 11 + 10, none⟩ = some (.bool ended))) (by kernel_rfl) (by exact ⟨c0, c1, c2, c3, c4, c5, c6, d0, d1, d2, d3, d4, d5, d6, d7, d8, d9, d10⟩) (fun hHeld => ?_)
        refine Hd.tk 0 ?_
        try simp only [Act.put, List.setIfInBounds_toArray, List.set_cons_zero, List.set_cons_succ]
        refine Hd.tk 1 ?_
        try simp only [Act.put, List.setIfInBounds_toArray, List.set_cons_zero, List.set_cons_succ]
        refine Hd.tk 2 ?_
        try simp only [Act.put, List.setIfInBounds_toArray, List.set_cons_zero, List.set_cons_succ]
        refine Hd.tk 3 ?_
        try simp only [Act.put, List.setIfInBounds_toArray, List.set_cons_zero, List.set_cons_succ]
        refine Hd.tk 4 ?_
        try simp only [Act.put, List.setIfInBounds_toArray, List.set_cons_zero, List.set_cons_succ]
        refine Hd.tk 5 ?_
        try simp only [Act.put, List.setIfInBounds_toArray, List.set_cons_zero, List.set_cons_succ]
        refine wpAnyH_ready (rs := [6]) (by kernel_rfl) (by simp) (AllReadyH.cons (by simp only [List.getElem?_toArray, List.getElem?_cons_succ, List.getElem?_cons_zero]; rfl) (fun K hK => ?_) AllReadyH.nil)
        go_simp
        go_at_call 64
        refine (rwhole_any hm.pubs va vb (.slice (some ⟨bl, ol, none⟩) n lc) vd ve hm.bound hm.fin B edge sadr stag ten ask at_ frm til ta tn tc qa qn qc ended tags parts _ (HA.out.below (HBr.out.drew)).pubs HSM.out.npub (HA.out.below (HBr.out.drew)).pub (fun p hp => (HSM.out.pubs p hp).1) HBB.out (HQ0.out.below (Below.refl _ _).drew) (by rw [HQN.out]; have := HBB.out; omega) (fun x hx => ⟨(HPT.out x hx).1.older (Below.refl _ _).drew, by have := (HPT.out x hx).2; have := HBB.out; omega⟩)).mono ?_
        rintro e wq1 ⟨rfl, hq1⟩
        have hqw1 : Below wr.heap.size wr wq1 := ((Below.refl _ _).drew).trans hq1
        rw [HEQ.out]
        go_wp2_with fail
        refine hK.out _ _ (by exact ⟨keepH hqw1 c0, keepH hqw1 c1, keepH hqw1 c2, keepH hqw1 c3, keepH hqw1 c4, keepH hqw1 c5, keepH hqw1 c6, keepH hqw1 d0, keepH hqw1 d1, keepH hqw1 d2, keepH hqw1 d3, keepH hqw1 d4, keepH hqw1 d5, keepH hqw1 d6, keepH hqw1 d7, keepH hqw1 d8, keepH hqw1 d9, keepH hqw1 d10⟩) (fun hHe1 => ?_)
        clear hK K
        try simp only [Act.put, List.setIfInBounds_toArray, List.set_cons_zero, List.set_cons_succ]
        refine Hd.tk 7 ?_
        try simp only [Act.put, List.setIfInBounds_toArray, List.set_cons_zero, List.set_cons_succ]
        refine Hd.tk 8 ?_
        try simp only [Act.put, List.setIfInBounds_toArray, List.set_cons_zero, List.set_cons_succ]
        refine wpAnyH_done (by kernel_rfl) ?_ _
        have HB3 := Lib.hid (HB.out.trans (hqw1.mono HB.out.size))
        have HO3 := Lib.hid (HO.out.older hqw1)
        clear hqw1
        clear c0 c1 c2 c3 c4 c5 c6 d0 d1 d2 d3 d4 d5 d6 d7 d8 d9 d10
        go_wp2_with fail
        go_roundg (gk - 1)
        case rel => exact ⟨k + 1, acc, a, c, by go_num, by have := HLT.out; omega, Lib.hid (by have := HQ.out; omega), rfl, by omega, HVT, HB3, HO3⟩
        case measure => have := HQ.out; have := HLT.out; omega
    · have HE := Lib.hid (show vl = acc by rw [HV.out, vioF_end (by rw [HN.out]; omega)]; simp)
      obtain rfl : n = k := by omega
      go_wp2_with fail
      go_ret
      exact ⟨_, rfl, by rw [HE.out]; exact HO.out.mono (fun q hq => Nat.le_trans HB0.out.size (HO.out.lt q hq).1), HB0.out.trans (HB.out.mono HB0.out.size)⟩
theorem rrule5_any (hm : HisM) (va vb vc vd ve lv : Value) (B : Nat) (w : World) (hr : Ready w) (ha : HisAt w B va vb vc vd ve hm) (hsm : hm.Small) (hB : B ≤ 134217728) (hlv : RowsV psdR 4 w lv (hm.prgs.map psdM)) :
    Calls Tryz.prog 32 #[.agg #[va, vb, vc, vd, ve, .int .i64 hm.bound, .int .i64 hm.fin], lv, .int .i64 5] w fun e w' => ∃ v, e = .returned v ∧ OwnWin w' w.heap.size 90 3 v (vio5 hm).length (vvals (vio5 hm)) ∧ Below w.heap.size w w' := by
  obtain ⟨la, lc, rfl, hlc⟩ := ha.fets.form
  have HA := Lib.hid ha
  have HSM := Lib.hid hsm
  have HBB := Lib.hid hB
  have HRY := Lib.hid hr
  have HLV := Lib.hid hlv
  obtain ⟨n, hn⟩ : ∃ z, hm.fets.length = z := ⟨_, rfl⟩
  have HN := Lib.hid hn
  rw [hn] at HA hlc ⊢
  have hn1 : n ≤ 1000 := by rw [← hn]; exact hsm.nfet
  clear ha hsm hB hr hlv hn
  obtain ⟨vl, hvl⟩ : ∃ z, vio5 hm = z := ⟨_, rfl⟩
  have HVL := Lib.hid (show vl = vioF 5 tx5 (fun i _ => againB hm i) (hm.fets.drop 0) 0 from hvl.symm)
  rw [hvl]
  clear hvl
  go_enter Tryz.func32, Tryz.ntmps32
  go_upto_region 1 with fail
  have HX0 := Lib.hid (Bx.new w 69 #[va, vb, vc, .slice la n lc, ve, .int .i64 hm.bound, .int .i64 hm.fin])
  have HB0 := Lib.hid ((Below.refl w.heap.size w).alloc (Nat.le_refl _) (.cells #[va, vb, vc, .slice la n lc, ve, .int .i64 hm.bound, .int .i64 hm.fin] 69))
  obtain ⟨w1, hw1⟩ : ∃ z, w.alloc (.cells #[va, vb, vc, .slice la n lc, ve, .int .i64 hm.bound, .int .i64 hm.fin] 69) = z := ⟨_, rfl⟩
  obtain ⟨b0, hb0⟩ : ∃ z, w.heap.size = z := ⟨_, rfl⟩
  have HW0 := Lib.hid (show b0 = w.heap.size from hb0.symm)
  rw [hw1] at HX0 HB0 ⊢
  rw [hb0] at HX0 ⊢
  clear hw1 hb0
  have c0 := HX0.out.cell (i := 0) rfl
  have c1 := HX0.out.cell (i := 1) rfl
  have c2 := HX0.out.cell (i := 2) rfl
  have c3 := HX0.out.cell (i := 3) rfl
  have c4 := HX0.out.cell (i := 4) rfl
  have c5 := HX0.out.cell (i := 5) rfl
  have c6 := HX0.out.cell (i := 6) rfl
  go_wp2_with fail
  go_loopg [30, 7] n (fun gq iv ov wr => ∃ (k : Nat) (acc : List VioM) (a : Option Addr) (c : Nat), iv = .int .i64 k ∧ k ≤ n ∧ Hid (n ≤ gq + k) ∧ ov = .slice a acc.length c ∧ acc.length ≤ k ∧ Hid (vl = acc ++ vioF 5 tx5 (fun i _ => againB hm i) (hm.fets.drop k) k) ∧ Hid (Below w1.heap.size w1 wr) ∧ Hid (OwnWin wr w1.heap.size 90 3 (.slice a acc.length c) acc.length (vvals acc)))
  case atStart => exact ⟨0, [], none, 0, rfl, Nat.zero_le _, Lib.hid (by omega), rfl, Nat.le_refl _, HVL, Lib.hid (Below.refl _ _), Lib.hid (OwnWin.nil _ _ _ _)⟩
  case round =>
    obtain ⟨k, acc, a, c, rfl, hk, HQ, rfl, hac, HV, HB, HO⟩ := hrel
    by_cases hlt : k < n
    · have HLT := Lib.hid hlt
      have q1 : (k : Int) < (n : Int) := by omega
      have q2 : (0 : Int) ≤ (k : Int) := by omega
      have hac2 : acc.length ≤ 1000 := by omega
      obtain ⟨x, hxk⟩ : ∃ x, hm.fets[k]? = some x := ⟨_, List.getElem?_eq_getElem (by rw [HN.out]; exact hlt)⟩
      have HVD := Lib.hid (vioF_drop (r := 5) (tx := tx5) (bad := fun i _ => againB hm i) hxk)
      have HXM := Lib.hid (List.mem_of_getElem? hxk)
      have HAx := Lib.hid (HA.out.below (HB0.out.trans (HB.out.mono HB0.out.size)))
      have c0 := (HX0.out.older HB.out).cell (i := 0) rfl
      have c1 := (HX0.out.older HB.out).cell (i := 1) rfl
      have c2 := (HX0.out.older HB.out).cell (i := 2) rfl
      have c3 := (HX0.out.older HB.out).cell (i := 3) rfl
      have c4 := (HX0.out.older HB.out).cell (i := 4) rfl
      have c5 := (HX0.out.older HB.out).cell (i := 5) rfl
      have c6 := (HX0.out.older HB.out).cell (i := 6) rfl
      obtain ⟨bd, hbd⟩ : ∃ z, againB hm k = z := ⟨_, rfl⟩
      have HEQ := Lib.hid hbd
      rw [hbd] at HVD
      clear hbd
      cases bd with
      | true =>
        have HVT := Lib.hid (show vl = (acc ++ [⟨5, (k : Int), tx5⟩]) ++ vioF 5 tx5 (fun i _ => againB hm i) (hm.fets.drop (k + 1)) (k + 1) by rw [HV.out, HVD.out]; simp)
        go_upto_region 26 with (go_at_call 65; refine (ragain_any hm.pubs hm.prgs hm.srvs hm.fets hm.dros va vb vc (.slice la n lc) ve hm.bound hm.fin k _ (HA.out.below (HB0.out.trans (HB.out.mono HB0.out.size))).fets (HA.out.below (HB0.out.trans (HB.out.mono HB0.out.size))).dros (by have := HSM.out.nfet; omega) (by have := HSM.out.ndro; omega) (by rw [HN.out]; exact HLT.out)).mono ?_; rintro e w3 ⟨rfl, hb3⟩; rw [show againB ⟨hm.pubs, hm.prgs, hm.srvs, hm.fets, hm.dros, hm.bound, hm.fin⟩ k = _ from HEQ.out]; have HB3 := Lib.hid (HB.out.trans (hb3.mono HB.out.size)); have HO3 := Lib.hid (HO.out.older hb3); clear hb3)
        clear c0 c1 c2 c3 c4 c5 c6
        go_upto_region 28 with (first | (go_at_call 66; refine (texts_any 5 tx5 _ (by simp)).mono ?_; rintro e w4 ⟨rfl, hb4⟩; have HB4 := Lib.hid (HB3.out.trans (hb4.mono HB3.out.size)); have HO4 := Lib.hid (HO3.out.older hb4); clear hb4) | (at_builtin; have HO5 := Lib.hid (HO4.out.older ((Below.refl _ _).alloc (Nat.le_refl _) (.cells #[.int .i64 5, .int .i64 (k : Int), .string ⟨tx5.toArray⟩] 90))); have HB5 := Lib.hid (HB4.out.alloc HB4.out.size (.cells #[.int .i64 5, .int .i64 (k : Int), .string ⟨tx5.toArray⟩] 90)); refine wpList_appw tyVio (by rfl) _ _ (by rfl) w1.heap.size (.slice a acc.length c) acc.length _ (by rfl) HO5.out HB5.out.size (.slice (some ⟨w4.heap.size, 0, none⟩) 1 1) 1 [.int .i64 5, .int .i64 (k : Int), .string ⟨tx5.toArray⟩] (by rfl) (src_cells (heap_alloc_new w4 _)) (by rfl) (by simp [Value.oneCell']) (by omega) ?_; intro v6 w6 ho hg hl; have HO6 := Lib.hid ho; have HB6 := Lib.hid (HB5.out.grown hg HB5.out.size (fun q hq => (HO5.out.lt q hq).1)); obtain ⟨u6, t6, rfl, _⟩ := ho.form; clear ho hg hl))
        go_wp2_with fail
        go_roundg (gk - 1)
        case rel => exact ⟨k + 1, acc ++ [⟨5, (k : Int), tx5⟩], u6, t6, by go_num, by have := HLT.out; omega, Lib.hid (by have := HQ.out; omega), by simp, by simp; omega, HVT, HB6, Lib.hid (by have := HO6.out; rw [List.length_append, vvals_append, vvals_one]; exact this)⟩
        case measure => have := HQ.out; have := HLT.out; omega
      | false =>
        have HVT := Lib.hid (show vl = acc ++ vioF 5 tx5 (fun i _ => againB hm i) (hm.fets.drop (k + 1)) (k + 1) by rw [HV.out, HVD.out]; simp)
        go_upto_region 26 with (go_at_call 65; refine (ragain_any hm.pubs hm.prgs hm.srvs hm.fets hm.dros va vb vc (.slice la n lc) ve hm.bound hm.fin k _ (HA.out.below (HB0.out.trans (HB.out.mono HB0.out.size))).fets (HA.out.below (HB0.out.trans (HB.out.mono HB0.out.size))).dros (by have := HSM.out.nfet; omega) (by have := HSM.out.ndro; omega) (by rw [HN.out]; exact HLT.out)).mono ?_; rintro e w3 ⟨rfl, hb3⟩; rw [show againB ⟨hm.pubs, hm.prgs, hm.srvs, hm.fets, hm.dros, hm.bound, hm.fin⟩ k = _ from HEQ.out]; have HB3 := Lib.hid (HB.out.trans (hb3.mono HB.out.size)); have HO3 := Lib.hid (HO.out.older hb3); clear hb3)
        clear c0 c1 c2 c3 c4 c5 c6
        go_wp2_with fail
        go_roundg (gk - 1)
        case rel => exact ⟨k + 1, acc, a, c, by go_num, by have := HLT.out; omega, Lib.hid (by have := HQ.out; omega), rfl, by omega, HVT, HB3, HO3⟩
        case measure => have := HQ.out; have := HLT.out; omega
    · have HE := Lib.hid (show vl = acc by rw [HV.out, vioF_end (by rw [HN.out]; omega)]; simp)
      obtain rfl : n = k := by omega
      go_wp2_with fail
      go_ret
      exact ⟨_, rfl, by rw [HE.out]; exact HO.out.mono (fun q hq => Nat.le_trans HB0.out.size (HO.out.lt q hq).1), HB0.out.trans (HB.out.mono HB0.out.size)⟩
end Hy
end Go.Proofs.YtjijijjkkhpjnaaGreatDoor
end

