/- Contracts and plain facts that the statement's proof leans on (texts joined). No condition beyond those that each names. -/
import Derived.Test.YtjijijjkkhpjnaaGreatDoorQgH
import Derived.Test.YtjijijjkkhpjnaaGreatDoorQgK
import Derived.Test.YtjijijjkkhpjnaaGreatDoorQgN
import Derived.Test.YtjijijjkkhpjnaaGreatDoorQgO
section
namespace Go.Proofs.YtjijijjkkhpjnaaGreatDoor
open Go.RowKit Pl Ad
attribute [local go_sem] ba_get ba_append ba_extract conv_one
set_option maxRecDepth 100000
set_option maxHeartbeats 4000000
set_option linter.unusedVariables false
set_option linter.unusedSimpArgs false
namespace Hy
open A1 Kr
def psdM (g : PrgM) : Pg × Bool := match parseO g.text with
  | some p => (p, true)
  | none => (⟨0, 0, []⟩, false)
def psdR (x : Pg × Bool) : List Value := [.int .i64 x.1.kind, .int .i64 x.1.tenant, .string ⟨x.1.value.toArray⟩, .bool x.2]
theorem psdR_len (x : Pg × Bool) : (psdR x).length = 4 := rfl
theorem psd_yes {g : PrgM} {p : Pg} (h : parseO g.text = some p) : psdM g = (p, true) := by unfold psdM; rw [h]
theorem psd_no {g : PrgM} (h : parseO g.text = none) : psdM g = (⟨0, 0, []⟩, false) := by unfold psdM; rw [h]
theorem tyPsd : WideTy Tryz.prog 75 137 4 40 :=
  ⟨Tryz.underlying75, by
    obtain ⟨i, h1, h2, h3, h4⟩ := info_parts (show (Tryz.prog.info? 137).map (fun i => (i.zero, i.size, i.bytes)) = some (some (.agg #[.int .i64 0, .int .i64 0, .string ⟨#[]⟩, .bool false]), 4, 40) by kernel_rfl)
    exact ⟨i, _, h1, h2, h3, h4, rfl⟩, by decide, by decide⟩
theorem psd_take {gs : List PrgM} {k : Nat} {g : PrgM} (h : gs[k]? = some g) : ((gs.take (k + 1)).map psdM).flatMap psdR = ((gs.take k).map psdM).flatMap psdR ++ psdR (psdM g) := by
  rw [List.take_add_one, h, List.map_append, List.flatMap_append]
  simp
theorem parsed_any (gs : List PrgM) (va vb vc vd ve : Value) (bound fin : Int) (w : World) (hr : Ready w) (hpw : ParseAt w) (hgs : RowsV prgR 3 w vb gs) (hgn : gs.length ≤ 1000) (hga : ∀ g ∈ gs, g.text.length ≤ 134217728) :
    Calls Tryz.prog 33 #[.agg #[va, vb, vc, vd, ve, .int .i64 bound, .int .i64 fin]] w fun e w' => ∃ a c, e = .returned (.slice a gs.length c) ∧ OwnWin w' w.heap.size 137 4 (.slice a gs.length c) gs.length ((gs.map psdM).flatMap psdR) ∧ Below w.heap.size w w' := by
  obtain ⟨ga, gc, rfl, hgc⟩ := hgs.form
  have HG := Lib.hid hgs
  have HGA := Lib.hid hga
  have HRY := Lib.hid hr
  have HPW := Lib.hid hpw
  obtain ⟨n, hn⟩ : ∃ z, gs.length = z := ⟨_, rfl⟩
  have HN := Lib.hid hn
  rw [hn] at HG hgc hgn ⊢
  clear hgs hga hr hpw hn
  go_enter Tryz.func33, Tryz.ntmps33
  go_upto_region 1 with fail
  have HX0 := Lib.hid (Bx.new w 69 #[va, .slice ga n gc, vc, vd, ve, .int .i64 bound, .int .i64 fin])
  have HB0 := Lib.hid ((Below.refl w.heap.size w).alloc (Nat.le_refl _) (.cells #[va, .slice ga n gc, vc, vd, ve, .int .i64 bound, .int .i64 fin] 69))
  obtain ⟨w1, hw1⟩ : ∃ z, w.alloc (.cells #[va, .slice ga n gc, vc, vd, ve, .int .i64 bound, .int .i64 fin] 69) = z := ⟨_, rfl⟩
  obtain ⟨b0, hb0⟩ : ∃ z, w.heap.size = z := ⟨_, rfl⟩
  have HW0 := Lib.hid (show w.heap.size = b0 from hb0)
  rw [hw1] at HX0 HB0 ⊢
  rw [hb0] at HX0 ⊢
  clear hw1 hb0
  have c1 := HX0.out.cell (i := 1) rfl
  go_wp2_with fail
  go_loopg [11, 3] n (fun gq iv ov wr => ∃ (k : Nat) (a : Option Addr) (c : Nat), iv = .int .i64 k ∧ k ≤ n ∧ Hid (n ≤ gq + k) ∧ ov = .slice a k c ∧ Hid (OwnWin wr w1.heap.size 137 4 (.slice a k c) k (((gs.take k).map psdM).flatMap psdR)) ∧ Hid (Below w1.heap.size w1 wr))
  case atStart => exact ⟨0, none, 0, rfl, Nat.zero_le _, Lib.hid (by omega), rfl, Lib.hid (OwnWin.nil _ _ _ _), Lib.hid (Below.refl _ _)⟩
  case round =>
    obtain ⟨k, a, c, rfl, hk, HQ, rfl, HO, HB⟩ := hrel
    by_cases hlt : k < n
    · have HLT := Lib.hid hlt
      have q1 : (k : Int) < (n : Int) := by omega
      obtain ⟨g, hgk⟩ : ∃ g, gs[k]? = some g := ⟨_, List.getElem?_eq_getElem (by rw [HN.out]; exact hlt)⟩
      have HGK := Lib.hid hgk
      have HTK := Lib.hid (psd_take hgk)
      have HGL := Lib.hid (HGA.out g (List.mem_of_getElem? hgk))
      have HBr := Lib.hid (HB0.out.trans (HB.out.mono HB0.out.size))
      obtain ⟨b5, o5, e5, _, hz5, row⟩ := row_at (HG.out.below HBr.out) hgk
      cases e5
      obtain ⟨gt, go, gs_⟩ := g
      have d0 := row 0 _ rfl
      have d1 := row 1 _ rfl
      have d2 := row 2 _ rfl
      rw [Nat.add_zero] at d0
      clear row hgk
      go_upto_region 5 with fail
      have HXg := Lib.hid (Bx.new wr 97 #[.string ⟨gt.toArray⟩, .int .i64 go, .int .i64 gs_])
      have HB2 := Lib.hid (HB.out.alloc HB.out.size (.cells #[.string ⟨gt.toArray⟩, .int .i64 go, .int .i64 gs_] 97))
      have HO2 := Lib.hid (HO.out.older ((Below.refl _ _).alloc (Nat.le_refl _) (.cells #[.string ⟨gt.toArray⟩, .int .i64 go, .int .i64 gs_] 97)))
      obtain ⟨w2, hw2⟩ : ∃ z, wr.alloc (.cells #[.string ⟨gt.toArray⟩, .int .i64 go, .int .i64 gs_] 97) = z := ⟨_, rfl⟩
      obtain ⟨bg, hbg⟩ : ∃ z, wr.heap.size = z := ⟨_, rfl⟩
      rw [hw2] at HXg HB2 HO2 ⊢
      rw [hbg] at HXg ⊢
      clear hw2 hbg d0 d1 d2 HO
      have g0 := HXg.out.cell (i := 0) rfl
      have HB2r := Lib.hid (HB0.out.trans (HB2.out.mono HB0.out.size))
      cases hpar : parseO gt with
      | none =>
        have HPV := Lib.hid (fun w hr hp => pparse_any gt w hr hp HGL.out)
        rw [hpar] at HPV
        have HM := Lib.hid (show psdM ⟨gt, go, gs_⟩ = (⟨0, 0, []⟩, false) from psd_no hpar)
        clear hpar
        go_upto_region 6 with (go_at_call 26; refine (HPV.out _ (HRY.out.below HB2r.out) (HPW.out.below HB2r.out)).mono ?_; rintro e w3 ⟨rfl, hb3⟩; unfold parV; have HB3 := Lib.hid (HB2.out.trans (hb3.mono HB2.out.size)); have HO3 := Lib.hid (HO2.out.older hb3); clear hb3)
        have HXp := Lib.hid (Bx.new w3 40 #[.int .i64 0, .int .i64 0, .string ⟨#[]⟩])
        have HB4 := Lib.hid (HB3.out.alloc HB3.out.size (.cells #[.int .i64 0, .int .i64 0, .string ⟨#[]⟩] 40))
        have HO4 := Lib.hid (HO3.out.older ((Below.refl _ _).alloc (Nat.le_refl _) (.cells #[.int .i64 0, .int .i64 0, .string ⟨#[]⟩] 40)))
        obtain ⟨w4, hw4⟩ : ∃ z, w3.alloc (.cells #[.int .i64 0, .int .i64 0, .string ⟨#[]⟩] 40) = z := ⟨_, rfl⟩
        obtain ⟨bu, hbu⟩ : ∃ z, w3.heap.size = z := ⟨_, rfl⟩
        rw [hw4] at HXp HB4 HO4 ⊢
        rw [hbu] at HXp ⊢
        clear hw4 hbu g0
        have x0 := HXp.out.cell (i := 0) rfl
        have x1 := HXp.out.cell (i := 1) rfl
        have x2 := HXp.out.cell (i := 2) rfl
        have HXd := Lib.hid (HXp.out.older (Below.refl _ _).drew)
        have HOd := Lib.hid (HO4.out.older (Below.refl _ _).drew)
        have HBd := Lib.hid HB4.out.drew
        refine wp_region_held_drew (S := (fun w' => w'.cell? ⟨bu, 0, none⟩ = some (.int .i64 0) ∧ w'.cell? ⟨bu, 1, none⟩ = some (.int .i64 0) ∧ w'.cell? ⟨bu, 2, none⟩ = some (.string ⟨#[]⟩))) (by kernel_rfl) (by exact ⟨x0, x1, x2⟩) (fun hHeld => ?_)
        obtain ⟨wd, hwd⟩ : ∃ z, w4.drew = z := ⟨_, rfl⟩
        rw [hwd] at HXd HOd HBd hHeld ⊢
        clear hwd x0 x1 x2
        refine Hd.tk 0 ?_
        try simp only [Act.put, List.setIfInBounds_toArray, List.set_cons_zero, List.set_cons_succ]
        refine Hd.tk 1 ?_
        try simp only [Act.put, List.setIfInBounds_toArray, List.set_cons_zero, List.set_cons_succ]
        refine Hd.tk 2 ?_
        try simp only [Act.put, List.setIfInBounds_toArray, List.set_cons_zero, List.set_cons_succ]
        refine Hd.tk 3 ?_
        try simp only [Act.put, List.setIfInBounds_toArray, List.set_cons_zero, List.set_cons_succ]
        refine Hd.tk 4 ?_
        try simp only [Act.put, List.setIfInBounds_toArray, List.set_cons_zero, List.set_cons_succ]
        refine wpAnyH_ready (rs := [5]) (by kernel_rfl) (by simp) (AllReadyH.cons (by simp only [List.getElem?_toArray, List.getElem?_cons_succ, List.getElem?_cons_zero]; rfl) (fun K hK => ?_) AllReadyH.nil)
        go_simp
        have HB5 := Lib.hid ((Below.refl wd.heap.size wd).alloc (Nat.le_refl _) (.cells #[.int .i64 0, .int .i64 0, .string ⟨#[]⟩, .bool false] 137))
        have HP5 := Lib.hid (Bx.new wd 137 #[.int .i64 0, .int .i64 0, .string ⟨#[]⟩, .bool false])
        have HX5 := Lib.hid (HXd.out.older HB5.out)
        have HO5 := Lib.hid (HOd.out.older HB5.out)
        obtain ⟨w5, hw5⟩ : ∃ z, wd.alloc (.cells #[.int .i64 0, .int .i64 0, .string ⟨#[]⟩, .bool false] 137) = z := ⟨_, rfl⟩
        obtain ⟨b9, hb9⟩ : ∃ z, wd.heap.size = z := ⟨_, rfl⟩
        have HBk := Lib.hid (HBd.out.alloc HBd.out.size (.cells #[.int .i64 0, .int .i64 0, .string ⟨#[]⟩, .bool false] 137))
        rw [hw5] at HP5 HX5 HO5 HBk ⊢
        rw [hb9] at HP5 ⊢
        clear hw5 hb9 HB5
        refine hK.out _ _ (by exact ⟨HX5.out.cell (i := 0) rfl, HX5.out.cell (i := 1) rfl, HX5.out.cell (i := 2) rfl⟩) (fun hHe0 => ?_)
        clear hK K
        try simp only [Act.put, List.setIfInBounds_toArray, List.set_cons_zero, List.set_cons_succ]
        refine wpAnyH_ready (rs := [6]) (by kernel_rfl) (by simp) (AllReadyH.cons (by simp only [List.getElem?_toArray, List.getElem?_cons_succ, List.getElem?_cons_zero]; rfl) (fun K hK => ?_) AllReadyH.nil)
        refine step_appB tyPsd (by rfl) _ _ (by rfl) w1.heap.size (.slice a k c) k _ (by rfl) HO5.out HBk.out.size (.slice (some ⟨b9, 0, none⟩) 1 1) 1 [.int .i64 0, .int .i64 0, .string ⟨#[]⟩, .bool false] (by rfl) (src_cells HP5.out) (by rfl) (by simp [Value.oneCell']) (by omega) ?_
        intro v6 w6 ho hg hl
        have HO6 := Lib.hid ho
        have HB6 := Lib.hid (HBk.out.grown hg HBk.out.size (fun q hq => (HO5.out.lt q hq).1))
        have hX6 := HX5.out.touch (Touch.of_grown (S := fun q => (Value.slice a k c).ownBlock = some q) hg (fun k hk => hk)) (fun hq => HX5.out.neOwn HO5.out (by decide) _ hq rfl)
        obtain ⟨u6, t6, rfl, _⟩ := ho.form
        clear ho hg hl
        refine hK.out _ _ (by exact ⟨hX6.cell (i := 0) rfl, hX6.cell (i := 1) rfl, hX6.cell (i := 2) rfl⟩) (fun hHe1 => ?_)
        clear hK K
        try simp only [Act.put, List.setIfInBounds_toArray, List.set_cons_zero, List.set_cons_succ]
        refine Hd.tk 7 ?_
        try simp only [Act.put, List.setIfInBounds_toArray, List.set_cons_zero, List.set_cons_succ]
        refine wpAnyH_done (by kernel_rfl) ?_ _
        go_wp2_with fail
        go_roundg (gk - 1)
        case rel => exact ⟨k + 1, _, _, by go_num, by have := HLT.out; omega, Lib.hid (by have := HQ.out; omega), rfl, Lib.hid (by rw [HTK.out, HM.out]; exact HO6.out), HB6⟩
        case measure => have := HQ.out; have := HLT.out; omega
      | some p =>
        obtain ⟨pk, pt, pv⟩ := p
        have HPV := Lib.hid (fun w hr hp => pparse_any gt w hr hp HGL.out)
        rw [hpar] at HPV
        have HM := Lib.hid (show psdM ⟨gt, go, gs_⟩ = (⟨pk, pt, pv⟩, true) from psd_yes hpar)
        clear hpar
        go_upto_region 6 with (go_at_call 26; refine (HPV.out _ (HRY.out.below HB2r.out) (HPW.out.below HB2r.out)).mono ?_; rintro e w3 ⟨rfl, hb3⟩; unfold parV; have HB3 := Lib.hid (HB2.out.trans (hb3.mono HB2.out.size)); have HO3 := Lib.hid (HO2.out.older hb3); clear hb3)
        have HXp := Lib.hid (Bx.new w3 40 #[.int .i64 pk, .int .i64 pt, .string ⟨pv.toArray⟩])
        have HB4 := Lib.hid (HB3.out.alloc HB3.out.size (.cells #[.int .i64 pk, .int .i64 pt, .string ⟨pv.toArray⟩] 40))
        have HO4 := Lib.hid (HO3.out.older ((Below.refl _ _).alloc (Nat.le_refl _) (.cells #[.int .i64 pk, .int .i64 pt, .string ⟨pv.toArray⟩] 40)))
        obtain ⟨w4, hw4⟩ : ∃ z, w3.alloc (.cells #[.int .i64 pk, .int .i64 pt, .string ⟨pv.toArray⟩] 40) = z := ⟨_, rfl⟩
        obtain ⟨bu, hbu⟩ : ∃ z, w3.heap.size = z := ⟨_, rfl⟩
        rw [hw4] at HXp HB4 HO4 ⊢
        rw [hbu] at HXp ⊢
        clear hw4 hbu g0
        have x0 := HXp.out.cell (i := 0) rfl
        have x1 := HXp.out.cell (i := 1) rfl
        have x2 := HXp.out.cell (i := 2) rfl
        have HXd := Lib.hid (HXp.out.older (Below.refl _ _).drew)
        have HOd := Lib.hid (HO4.out.older (Below.refl _ _).drew)
        have HBd := Lib.hid HB4.out.drew
        refine wp_region_held_drew (S := (fun w' => w'.cell? ⟨bu, 0, none⟩ = some (.int .i64 pk) ∧ w'.cell? ⟨bu, 1, none⟩ = some (.int .i64 pt) ∧ w'.cell? ⟨bu, 2, none⟩ = some (.string ⟨pv.toArray⟩))) (by kernel_rfl) (by exact ⟨x0, x1, x2⟩) (fun hHeld => ?_)
        obtain ⟨wd, hwd⟩ : ∃ z, w4.drew = z := ⟨_, rfl⟩
        rw [hwd] at HXd HOd HBd hHeld ⊢
        clear hwd x0 x1 x2
        refine Hd.tk 0 ?_
        try simp only [Act.put, List.setIfInBounds_toArray, List.set_cons_zero, List.set_cons_succ]
        refine Hd.tk 1 ?_
        try simp only [Act.put, List.setIfInBounds_toArray, List.set_cons_zero, List.set_cons_succ]
        refine Hd.tk 2 ?_
        try simp only [Act.put, List.setIfInBounds_toArray, List.set_cons_zero, List.set_cons_succ]
        refine Hd.tk 3 ?_
        try simp only [Act.put, List.setIfInBounds_toArray, List.set_cons_zero, List.set_cons_succ]
        refine Hd.tk 4 ?_
        try simp only [Act.put, List.setIfInBounds_toArray, List.set_cons_zero, List.set_cons_succ]
        refine wpAnyH_ready (rs := [5]) (by kernel_rfl) (by simp) (AllReadyH.cons (by simp only [List.getElem?_toArray, List.getElem?_cons_succ, List.getElem?_cons_zero]; rfl) (fun K hK => ?_) AllReadyH.nil)
        go_simp
        have HB5 := Lib.hid ((Below.refl wd.heap.size wd).alloc (Nat.le_refl _) (.cells #[.int .i64 pk, .int .i64 pt, .string ⟨pv.toArray⟩, .bool true] 137))
        have HP5 := Lib.hid (Bx.new wd 137 #[.int .i64 pk, .int .i64 pt, .string ⟨pv.toArray⟩, .bool true])
        have HX5 := Lib.hid (HXd.out.older HB5.out)
        have HO5 := Lib.hid (HOd.out.older HB5.out)
        obtain ⟨w5, hw5⟩ : ∃ z, wd.alloc (.cells #[.int .i64 pk, .int .i64 pt, .string ⟨pv.toArray⟩, .bool true] 137) = z := ⟨_, rfl⟩
        obtain ⟨b9, hb9⟩ : ∃ z, wd.heap.size = z := ⟨_, rfl⟩
        have HBk := Lib.hid (HBd.out.alloc HBd.out.size (.cells #[.int .i64 pk, .int .i64 pt, .string ⟨pv.toArray⟩, .bool true] 137))
        rw [hw5] at HP5 HX5 HO5 HBk ⊢
        rw [hb9] at HP5 ⊢
        clear hw5 hb9 HB5
        refine hK.out _ _ (by exact ⟨HX5.out.cell (i := 0) rfl, HX5.out.cell (i := 1) rfl, HX5.out.cell (i := 2) rfl⟩) (fun hHe0 => ?_)
        clear hK K
        try simp only [Act.put, List.setIfInBounds_toArray, List.set_cons_zero, List.set_cons_succ]
        refine wpAnyH_ready (rs := [6]) (by kernel_rfl) (by simp) (AllReadyH.cons (by simp only [List.getElem?_toArray, List.getElem?_cons_succ, List.getElem?_cons_zero]; rfl) (fun K hK => ?_) AllReadyH.nil)
        refine step_appB tyPsd (by rfl) _ _ (by rfl) w1.heap.size (.slice a k c) k _ (by rfl) HO5.out HBk.out.size (.slice (some ⟨b9, 0, none⟩) 1 1) 1 [.int .i64 pk, .int .i64 pt, .string ⟨pv.toArray⟩, .bool true] (by rfl) (src_cells HP5.out) (by rfl) (by simp [Value.oneCell']) (by omega) ?_
        intro v6 w6 ho hg hl
        have HO6 := Lib.hid ho
        have HB6 := Lib.hid (HBk.out.grown hg HBk.out.size (fun q hq => (HO5.out.lt q hq).1))
        have hX6 := HX5.out.touch (Touch.of_grown (S := fun q => (Value.slice a k c).ownBlock = some q) hg (fun k hk => hk)) (fun hq => HX5.out.neOwn HO5.out (by decide) _ hq rfl)
        obtain ⟨u6, t6, rfl, _⟩ := ho.form
        clear ho hg hl
        refine hK.out _ _ (by exact ⟨hX6.cell (i := 0) rfl, hX6.cell (i := 1) rfl, hX6.cell (i := 2) rfl⟩) (fun hHe1 => ?_)
        clear hK K
        try simp only [Act.put, List.setIfInBounds_toArray, List.set_cons_zero, List.set_cons_succ]
        refine Hd.tk 7 ?_
        try simp only [Act.put, List.setIfInBounds_toArray, List.set_cons_zero, List.set_cons_succ]
        refine wpAnyH_done (by kernel_rfl) ?_ _
        go_wp2_with fail
        go_roundg (gk - 1)
        case rel => exact ⟨k + 1, _, _, by go_num, by have := HLT.out; omega, Lib.hid (by have := HQ.out; omega), rfl, Lib.hid (by rw [HTK.out, HM.out]; exact HO6.out), HB6⟩
        case measure => have := HQ.out; have := HLT.out; omega
    · obtain rfl : n = k := by omega
      have HF := Lib.hid (show (gs.take n).map psdM = gs.map psdM by rw [List.take_of_length_le (by rw [HN.out]; exact Nat.le_refl _)])
      go_wp2_with fail
      go_ret
      exact ⟨_, _, rfl, by rw [← HF.out]; exact HO.out.mono (fun q hq => Nat.le_trans HB0.out.size (HO.out.lt q hq).1), HB0.out.trans (HB.out.mono HB0.out.size)⟩
end Hy
end Go.Proofs.YtjijijjkkhpjnaaGreatDoor
end

section
namespace Go.Proofs.YtjijijjkkhpjnaaGreatDoor
open Go.RowKit Pl Ad
attribute [local go_sem] ba_get ba_append ba_extract conv_one
set_option maxRecDepth 100000
set_option maxHeartbeats 4000000
set_option linter.unusedVariables false
set_option linter.unusedSimpArgs false
namespace Hy
open A1 Kr
/-- Does a purge violate the first rule for a response? -/
def cutB (ps : List PubM) (s : SrvM) (g : PrgM) : Bool := decide (0 ≤ g.stl) && (hitB g s && anyF (fun _ x => decide (g.stl < x.at_) && !(sinceB ps s.addr s.tag g.ord)) s.parts 0)
theorem cut_neg {ps : List PubM} {s : SrvM} {g : PrgM} (h : g.stl < 0) : cutB ps s g = false := by unfold cutB; rw [decide_eq_false (by omega)]; rfl
theorem cut_none {ps : List PubM} {s : SrvM} {g : PrgM} (h : parseO g.text = none) : cutB ps s g = false := by unfold cutB hitB; rw [h]; simp
theorem cut_miss {ps : List PubM} {s : SrvM} {g : PrgM} {p : Pg} (h : parseO g.text = some p) (hm : matchB p ⟨s.ten, s.addr, s.tags⟩ = false) : cutB ps s g = false := by unfold cutB hitB; rw [h]; simp [hm]
theorem cut_hit {ps : List PubM} {s : SrvM} {g : PrgM} {p : Pg} (h0 : 0 ≤ g.stl) (h : parseO g.text = some p) (hm : matchB p ⟨s.ten, s.addr, s.tags⟩ = true) : cutB ps s g = anyF (fun _ x => decide (g.stl < x.at_) && !(sinceB ps s.addr s.tag g.ord)) s.parts 0 := by unfold cutB hitB; rw [h, decide_eq_true h0]; simp [hm]
theorem rtaken_any (ps : List PubM) (va vb vc vd ve : Value) (bound fin : Int) (B : Nat) (gs : List PrgM) (edge sadr stag : Bs) (ten ask at_ frm til : Int) (ta : Option Addr) (tn tc : Nat) (qa : Option Addr) (qn qc : Nat) (ended : Bool) (tags : List Bs) (parts : List PartM) (lv : Value) (w : World) (hr : Ready w) (hp : RowsV pubR 5 w va ps) (hn : ps.length ≤ 1000) (hpa : ∀ p ∈ ps, PubAt w B p) (hin : ∀ p ∈ ps, inB p.at_) (hgs : RowsV prgR 3 w vb gs) (hgn : gs.length ≤ 1000) (hga : ∀ g ∈ gs, g.text.length ≤ 134217728 ∧ inB g.ord ∧ inB g.stl) (hlv : RowsV psdR 4 w lv (gs.map psdM)) (htg : StrsV w (.slice ta tn tc) tags) (htl : tags.length ≤ 134217728) (hsa : sadr.length ≤ 134217728) (hq : RowsV partR 3 w (.slice qa qn qc) parts) (hql : parts.length ≤ 1000000000) (hqa : ∀ x ∈ parts, SrcAt w x.dV x.data.length (bvals x.data)) :
    Calls Tryz.prog 61 #[.agg #[va, vb, vc, vd, ve, .int .i64 bound, .int .i64 fin], lv, .agg #[.string ⟨edge.toArray⟩, .string ⟨sadr.toArray⟩, .string ⟨stag.toArray⟩, .int .i64 ten, .int .i64 ask, .int .i64 at_, .int .i64 frm, .int .i64 til, .slice ta tn tc, .slice qa qn qc, .bool ended]] w fun e w' => e = .returned (.bool (knownB ps sadr stag && anyF (fun _ g => cutB ps ⟨edge, sadr, stag, ten, ask, at_, frm, til, .slice ta tn tc, tags, .slice qa qn qc, parts, ended⟩ g) gs 0)) ∧ Below w.heap.size w w' := by
  obtain ⟨pa, pc, rfl, hpc⟩ := hp.form
  obtain ⟨n, hnn⟩ : ∃ z, ps.length = z := ⟨_, rfl⟩
  have HN := Lib.hid hnn
  have HP := Lib.hid hp
  have HPA := Lib.hid hpa
  have HIN := Lib.hid hin
  rw [hnn] at HP hn hpc ⊢
  obtain ⟨gsa, gsc, rfl, _⟩ := hgs.form
  obtain ⟨lva, lvc, rfl, _⟩ := hlv.form
  rw [List.length_map] at hlv ⊢
  obtain ⟨m, hm⟩ : ∃ z, gs.length = z := ⟨_, rfl⟩
  have HM := Lib.hid hm
  obtain ⟨qa', qc', hqv, _⟩ := hq.form
  obtain ⟨rfl, rfl, rfl⟩ : qa = qa' ∧ qn = parts.length ∧ qc = qc' := by have := Value.slice.inj hqv; exact ⟨this.1, this.2.1, this.2.2⟩
  clear hqv
  obtain ⟨qm, hqm⟩ : ∃ z, parts.length = z := ⟨_, rfl⟩
  have HQM := Lib.hid hqm
  have HG := Lib.hid hgs
  have HGA := Lib.hid hga
  have HLV := Lib.hid hlv
  have HTG := Lib.hid htg
  have HQ0 := Lib.hid hq
  have HQA := Lib.hid hqa
  have HRY := Lib.hid hr
  have htl' : tags.length ≤ 9223372036854775807 := by omega
  obtain ⟨kb, hkb⟩ : ∃ z, anyF (fun _ g => cutB ps ⟨edge, sadr, stag, ten, ask, at_, frm, til, .slice ta tn tc, tags, .slice qa parts.length qc, parts, ended⟩ g) gs 0 = z := ⟨_, rfl⟩
  have HK0 := Lib.hid (show kb = anyF (fun _ g => cutB ps ⟨edge, sadr, stag, ten, ask, at_, frm, til, .slice ta tn tc, tags, .slice qa parts.length qc, parts, ended⟩ g) (gs.drop 0) 0 from hkb.symm)
  rw [hkb]
  clear hkb
  rw [hm] at HG HLV hgn ⊢
  rw [hqm] at HQ0 HK0 hql ⊢
  clear hp hpa hin hnn hgs hga hlv htg hq hqa hr hm hqm
  obtain ⟨sv, hsv⟩ : ∃ s : SrvM, (⟨edge, sadr, stag, ten, ask, at_, frm, til, .slice ta tn tc, tags, .slice qa qm qc, parts, ended⟩ : SrvM) = s := ⟨_, rfl⟩
  have HSV := Lib.hid hsv
  rw [hsv] at HK0
  clear hsv
  obtain ⟨kn, hkn⟩ : ∃ z, knownB ps sadr stag = z := ⟨_, rfl⟩
  have HKN := Lib.hid (show anyF (fun _ p => isV p sadr stag) ps 0 = kn from hkn)
  rw [hkn]
  clear hkn
  go_enter Tryz.func61, Tryz.ntmps61
  go_upto_region 1 with fail
  have HX0 := Lib.hid (bx_allocH (Bx.new w 69 #[.slice pa n pc, .slice gsa m gsc, vc, vd, ve, .int .i64 bound, .int .i64 fin]) (.cells #[.string ⟨edge.toArray⟩, .string ⟨sadr.toArray⟩, .string ⟨stag.toArray⟩, .int .i64 ten, .int .i64 ask, .int .i64 at_, .int .i64 frm, .int .i64 til, .slice ta tn tc, .slice qa qm qc, .bool ended] 82))
  have HS0 := Lib.hid (bx_newH (w := w.alloc (.cells #[.slice pa n pc, .slice gsa m gsc, vc, vd, ve, .int .i64 bound, .int .i64 fin] 69)) (n := w.heap.size + 1) (T := 82) (cs := #[.string ⟨edge.toArray⟩, .string ⟨sadr.toArray⟩, .string ⟨stag.toArray⟩, .int .i64 ten, .int .i64 ask, .int .i64 at_, .int .i64 frm, .int .i64 til, .slice ta tn tc, .slice qa qm qc, .bool ended]) (by simp))
  have HB0 := Lib.hid (((Below.refl w.heap.size w).alloc (Nat.le_refl _) (.cells #[.slice pa n pc, .slice gsa m gsc, vc, vd, ve, .int .i64 bound, .int .i64 fin] 69)).alloc (by simp) (.cells #[.string ⟨edge.toArray⟩, .string ⟨sadr.toArray⟩, .string ⟨stag.toArray⟩, .int .i64 ten, .int .i64 ask, .int .i64 at_, .int .i64 frm, .int .i64 til, .slice ta tn tc, .slice qa qm qc, .bool ended] 82))
  obtain ⟨w1, hw1⟩ : ∃ z, (w.alloc (.cells #[.slice pa n pc, .slice gsa m gsc, vc, vd, ve, .int .i64 bound, .int .i64 fin] 69)).alloc (.cells #[.string ⟨edge.toArray⟩, .string ⟨sadr.toArray⟩, .string ⟨stag.toArray⟩, .int .i64 ten, .int .i64 ask, .int .i64 at_, .int .i64 frm, .int .i64 til, .slice ta tn tc, .slice qa qm qc, .bool ended] 82) = z := ⟨_, rfl⟩
  obtain ⟨b0, hb0⟩ : ∃ z, w.heap.size = z := ⟨_, rfl⟩
  rw [hw1] at HX0 HS0 HB0 ⊢
  rw [hb0] at HX0 HS0 ⊢
  clear hw1 hb0
  have c0 := HX0.out.cell (i := 0) rfl
  have c1 := HX0.out.cell (i := 1) rfl
  have c2 := HX0.out.cell (i := 2) rfl
  have c3 := HX0.out.cell (i := 3) rfl
  have c4 := HX0.out.cell (i := 4) rfl
  have c5 := HX0.out.cell (i := 5) rfl
  have c6 := HX0.out.cell (i := 6) rfl
  have s0 := HS0.out.cell (i := 0) rfl
  have s1 := HS0.out.cell (i := 1) rfl
  have s2 := HS0.out.cell (i := 2) rfl
  have s3 := HS0.out.cell (i := 3) rfl
  have s4 := HS0.out.cell (i := 4) rfl
  have s5 := HS0.out.cell (i := 5) rfl
  have s6 := HS0.out.cell (i := 6) rfl
  have s7 := HS0.out.cell (i := 7) rfl
  have s8 := HS0.out.cell (i := 8) rfl
  have s9 := HS0.out.cell (i := 9) rfl
  have s10 := HS0.out.cell (i := 10) rfl
  go_wp2_with fail
  refine (rknown_any ps (.slice pa n pc) (.slice gsa m gsc) vc vd ve bound fin B edge sadr stag ten ask at_ frm til ta tn tc qa qm qc ended _ (HP.out.below HB0.out) (by rw [HN.out]; exact hn) (fun p hp => (HPA.out p hp).below HB0.out) HIN.out).mono ?_
  rintro e w2 ⟨rfl, hb2⟩
  have HB2 := Lib.hid (HB0.out.trans (hb2.mono HB0.out.size))
  have HX2 := Lib.hid (HX0.out.older hb2)
  have HS2 := Lib.hid (HS0.out.older hb2)
  rw [HKN.out]
  clear hb2 c0 c1 c2 c3 c4 c5 c6 s0 s1 s2 s3 s4 s5 s6 s7 s8 s9 s10 HX0 HS0 HKN
  cases kn with
  | false =>
    go_wp2_with fail
    go_ret
    exact ⟨rfl, HB2.out⟩
  | true =>
    have c1 := HX2.out.cell (i := 1) rfl
    go_wp2_with fail
    go_loopg [18, 10] m (fun gq iv xv wr => ∃ k : Nat, iv = .int .i64 k ∧ k ≤ m ∧ Hid (m ≤ gq + k) ∧ Hid (kb = anyF (fun _ g => cutB ps sv g) (gs.drop k) k) ∧ Hid (Below w2.heap.size w2 wr))
    case atStart => exact ⟨0, rfl, Nat.zero_le _, Lib.hid (by omega), HK0, Lib.hid (Below.refl _ _)⟩
    case round =>
      obtain ⟨k, rfl, hk, HQ, HE, HB⟩ := hrel
      by_cases hlt : k < m
      · have HLT := Lib.hid hlt
        have q1 : (k : Int) < (m : Int) := by omega
        have q2 : (0 : Int) ≤ (k : Int) := by omega
        obtain ⟨g, hgk⟩ : ∃ g, gs[k]? = some g := ⟨_, List.getElem?_eq_getElem (by rw [HM.out]; exact hlt)⟩
        have HDR := Lib.hid (anyF_drop (c := fun _ g => cutB ps sv g) hgk)
        have HGG := Lib.hid (HGA.out g (List.mem_of_getElem? hgk))
        have HBr := Lib.hid (HB2.out.trans (HB.out.mono HB2.out.size))
        have hlk : (gs.map psdM)[k]? = some (psdM g) := by rw [List.getElem?_map, hgk]; rfl
        obtain ⟨bh, oh, e5, _, hbl, hrow⟩ := row_at (HG.out.below HBr.out) hgk
        cases e5
        obtain ⟨bl, ol, e6, _, hbl2, hrowl⟩ := row_at (HLV.out.below HBr.out) hlk
        cases e6
        obtain ⟨gt, go, gs_⟩ := g
        have d0 := hrow 0 _ rfl
        have d1 := hrow 1 _ rfl
        have d2 := hrow 2 _ rfl
        have l0 := hrowl 0 _ rfl
        have l1 := hrowl 1 _ rfl
        have l2 := hrowl 2 _ rfl
        have l3 := hrowl 3 _ rfl
        rw [Nat.add_zero] at d0 l0
        have HL0 := Lib.hid l0
        have HL1 := Lib.hid l1
        have HL2 := Lib.hid l2
        have HL3 := Lib.hid l3
        clear hrow hrowl hgk hlk l0 l1 l2 l3
        go_upto_region 6 with fail
        have HXg := Lib.hid (Bx.new wr 97 #[.string ⟨gt.toArray⟩, .int .i64 go, .int .i64 gs_])
        have HBb := Lib.hid (HB.out.alloc HB.out.size (.cells #[.string ⟨gt.toArray⟩, .int .i64 go, .int .i64 gs_] 97))
        have hbq := (Below.refl wr.heap.size wr).alloc (Nat.le_refl _) (.cells #[.string ⟨gt.toArray⟩, .int .i64 go, .int .i64 gs_] 97)
        have HM0 := Lib.hid (keepH hbq HL0.out)
        have HM1 := Lib.hid (keepH hbq HL1.out)
        have HM2 := Lib.hid (keepH hbq HL2.out)
        have HM3 := Lib.hid (keepH hbq HL3.out)
        obtain ⟨wb, hwb⟩ : ∃ z, wr.alloc (.cells #[.string ⟨gt.toArray⟩, .int .i64 go, .int .i64 gs_] 97) = z := ⟨_, rfl⟩
        obtain ⟨bg, hbg⟩ : ∃ z, wr.heap.size = z := ⟨_, rfl⟩
        rw [hwb] at HXg HBb HM0 HM1 HM2 HM3 ⊢
        rw [hbg] at HXg ⊢
        clear hwb hbg hbq d0 d1 d2 HL0 HL1 HL2 HL3
        have y2 := HXg.out.cell (i := 2) rfl
        have HBbr := Lib.hid (HB2.out.trans (HBb.out.mono HB2.out.size))
        have s1 := (HS2.out.older HBb.out).cell (i := 1) rfl
        have s3 := (HS2.out.older HBb.out).cell (i := 3) rfl
        have s8 := (HS2.out.older HBb.out).cell (i := 8) rfl
        by_cases hs : gs_ < 0
        · have e1 : decide (gs_ < 0) = true := decide_eq_true hs
          have hcn := cut_neg (ps := ps) (s := sv) (g := ⟨gt, go, gs_⟩) hs
          have HCN := Lib.hid hcn
          clear hcn
          refine wp_region_held_drew (S := (fun w' => w'.cell? ⟨bg, 2, none⟩ = some (.int .i64 gs_))) (by kernel_rfl) (by exact y2) (fun hHeld => ?_)
          refine Hd.tk 0 ?_
          try simp only [Act.put, List.setIfInBounds_toArray, List.set_cons_zero, List.set_cons_succ]
          refine Hd.tk 1 ?_
          try simp only [Act.put, List.setIfInBounds_toArray, List.set_cons_zero, List.set_cons_succ]
          refine Hd.tk 2 ?_
          try simp only [Act.put, List.setIfInBounds_toArray, List.set_cons_zero, List.set_cons_succ]
          refine Hd.tk 3 ?_
          try simp only [Act.put, List.setIfInBounds_toArray, List.set_cons_zero, List.set_cons_succ]
          refine Hd.sk 4 ?_
          try simp only [Act.put, List.setIfInBounds_toArray, List.set_cons_zero, List.set_cons_succ]
          refine Hd.sk 5 ?_
          try simp only [Act.put, List.setIfInBounds_toArray, List.set_cons_zero, List.set_cons_succ]
          refine Hd.sk 6 ?_
          try simp only [Act.put, List.setIfInBounds_toArray, List.set_cons_zero, List.set_cons_succ]
          refine Hd.sk 7 ?_
          try simp only [Act.put, List.setIfInBounds_toArray, List.set_cons_zero, List.set_cons_succ]
          refine Hd.sk 8 ?_
          try simp only [Act.put, List.setIfInBounds_toArray, List.set_cons_zero, List.set_cons_succ]
          refine Hd.sk 9 ?_
          try simp only [Act.put, List.setIfInBounds_toArray, List.set_cons_zero, List.set_cons_succ]
          refine Hd.tk 10 ?_
          try simp only [Act.put, List.setIfInBounds_toArray, List.set_cons_zero, List.set_cons_succ]
          refine Hd.tk 11 ?_
          try simp only [Act.put, List.setIfInBounds_toArray, List.set_cons_zero, List.set_cons_succ]
          refine Hd.sk 12 ?_
          try simp only [Act.put, List.setIfInBounds_toArray, List.set_cons_zero, List.set_cons_succ]
          refine Hd.sk 13 ?_
          try simp only [Act.put, List.setIfInBounds_toArray, List.set_cons_zero, List.set_cons_succ]
          refine Hd.sk 14 ?_
          try simp only [Act.put, List.setIfInBounds_toArray, List.set_cons_zero, List.set_cons_succ]
          refine Hd.sk 15 ?_
          try simp only [Act.put, List.setIfInBounds_toArray, List.set_cons_zero, List.set_cons_succ]
          refine Hd.sk 16 ?_
          try simp only [Act.put, List.setIfInBounds_toArray, List.set_cons_zero, List.set_cons_succ]
          refine Hd.sk 17 ?_
          try simp only [Act.put, List.setIfInBounds_toArray, List.set_cons_zero, List.set_cons_succ]
          refine Hd.sk 18 ?_
          try simp only [Act.put, List.setIfInBounds_toArray, List.set_cons_zero, List.set_cons_succ]
          refine Hd.sk 19 ?_
          try simp only [Act.put, List.setIfInBounds_toArray, List.set_cons_zero, List.set_cons_succ]
          refine Hd.sk 20 ?_
          try simp only [Act.put, List.setIfInBounds_toArray, List.set_cons_zero, List.set_cons_succ]
          refine Hd.sk 21 ?_
          try simp only [Act.put, List.setIfInBounds_toArray, List.set_cons_zero, List.set_cons_succ]
          refine Hd.sk 22 ?_
          try simp only [Act.put, List.setIfInBounds_toArray, List.set_cons_zero, List.set_cons_succ]
          refine Hd.sk 23 ?_
          try simp only [Act.put, List.setIfInBounds_toArray, List.set_cons_zero, List.set_cons_succ]
          refine Hd.sk 24 ?_
          try simp only [Act.put, List.setIfInBounds_toArray, List.set_cons_zero, List.set_cons_succ]
          refine Hd.sk 25 ?_
          try simp only [Act.put, List.setIfInBounds_toArray, List.set_cons_zero, List.set_cons_succ]
          refine Hd.tk 26 ?_
          try simp only [Act.put, List.setIfInBounds_toArray, List.set_cons_zero, List.set_cons_succ]
          refine wpAnyH_done (by kernel_rfl) ?_ _
          have HF := Lib.hid (show kb = anyF (fun _ g => cutB ps sv g) (gs.drop (k + 1)) (k + 1) by rw [HE.out, HDR.out]; simp only [HCN.out, Bool.false_or])
          go_wp2_with fail
          go_roundg (gk - 1)
          case rel => exact ⟨k + 1, by go_num, by have := HLT.out; omega, Lib.hid (by have := HQ.out; omega), HF, Lib.hid HBb.out.drew⟩
          case measure => have := HQ.out; have := HLT.out; omega
        · have e1 : decide (gs_ < 0) = false := decide_eq_false hs
          cases hpar : parseO gt with
          | none =>
            have HCN := Lib.hid (cut_none (ps := ps) (s := sv) (g := ⟨gt, go, gs_⟩) hpar)
            have hps := psd_no (g := ⟨gt, go, gs_⟩) hpar
            rw [hps] at HM3
            have l3 := HM3.out
            clear hps hpar
            refine wp_region_held_drew (S := (fun w' => w'.cell? ⟨bg, 2, none⟩ = some (.int .i64 gs_) ∧ w'.cell? ⟨bl, ol + k * 4 + 3, none⟩ = some (.bool false))) (by kernel_rfl) (by exact ⟨y2, l3⟩) (fun hHeld => ?_)
            refine Hd.tk 0 ?_
            try simp only [Act.put, List.setIfInBounds_toArray, List.set_cons_zero, List.set_cons_succ]
            refine Hd.tk 1 ?_
            try simp only [Act.put, List.setIfInBounds_toArray, List.set_cons_zero, List.set_cons_succ]
            refine Hd.tk 2 ?_
            try simp only [Act.put, List.setIfInBounds_toArray, List.set_cons_zero, List.set_cons_succ]
            refine Hd.tk 3 ?_
            try simp only [Act.put, List.setIfInBounds_toArray, List.set_cons_zero, List.set_cons_succ]
            refine Hd.tk 4 ?_
            try simp only [Act.put, List.setIfInBounds_toArray, List.set_cons_zero, List.set_cons_succ]
            refine Hd.tk 5 ?_
            try simp only [Act.put, List.setIfInBounds_toArray, List.set_cons_zero, List.set_cons_succ]
            refine Hd.tk 6 ?_
            try simp only [Act.put, List.setIfInBounds_toArray, List.set_cons_zero, List.set_cons_succ]
            refine Hd.tk 7 ?_
            try simp only [Act.put, List.setIfInBounds_toArray, List.set_cons_zero, List.set_cons_succ]
            refine Hd.tk 8 ?_
            try simp only [Act.put, List.setIfInBounds_toArray, List.set_cons_zero, List.set_cons_succ]
            refine Hd.tk 9 ?_
            try simp only [Act.put, List.setIfInBounds_toArray, List.set_cons_zero, List.set_cons_succ]
            refine Hd.tk 10 ?_
            try simp only [Act.put, List.setIfInBounds_toArray, List.set_cons_zero, List.set_cons_succ]
            refine Hd.tk 11 ?_
            try simp only [Act.put, List.setIfInBounds_toArray, List.set_cons_zero, List.set_cons_succ]
            refine Hd.sk 12 ?_
            try simp only [Act.put, List.setIfInBounds_toArray, List.set_cons_zero, List.set_cons_succ]
            refine Hd.sk 13 ?_
            try simp only [Act.put, List.setIfInBounds_toArray, List.set_cons_zero, List.set_cons_succ]
            refine Hd.sk 14 ?_
            try simp only [Act.put, List.setIfInBounds_toArray, List.set_cons_zero, List.set_cons_succ]
            refine Hd.sk 15 ?_
            try simp only [Act.put, List.setIfInBounds_toArray, List.set_cons_zero, List.set_cons_succ]
            refine Hd.sk 16 ?_
            try simp only [Act.put, List.setIfInBounds_toArray, List.set_cons_zero, List.set_cons_succ]
            refine Hd.sk 17 ?_
            try simp only [Act.put, List.setIfInBounds_toArray, List.set_cons_zero, List.set_cons_succ]
            refine Hd.sk 18 ?_
            try simp only [Act.put, List.setIfInBounds_toArray, List.set_cons_zero, List.set_cons_succ]
            refine Hd.sk 19 ?_
            try simp only [Act.put, List.setIfInBounds_toArray, List.set_cons_zero, List.set_cons_succ]
            refine Hd.sk 20 ?_
            try simp only [Act.put, List.setIfInBounds_toArray, List.set_cons_zero, List.set_cons_succ]
            refine Hd.sk 21 ?_
            try simp only [Act.put, List.setIfInBounds_toArray, List.set_cons_zero, List.set_cons_succ]
            refine Hd.sk 22 ?_
            try simp only [Act.put, List.setIfInBounds_toArray, List.set_cons_zero, List.set_cons_succ]
            refine Hd.sk 23 ?_
            try simp only [Act.put, List.setIfInBounds_toArray, List.set_cons_zero, List.set_cons_succ]
            refine Hd.sk 24 ?_
            try simp only [Act.put, List.setIfInBounds_toArray, List.set_cons_zero, List.set_cons_succ]
            refine Hd.sk 25 ?_
            try simp only [Act.put, List.setIfInBounds_toArray, List.set_cons_zero, List.set_cons_succ]
            refine Hd.tk 26 ?_
            try simp only [Act.put, List.setIfInBounds_toArray, List.set_cons_zero, List.set_cons_succ]
            refine wpAnyH_done (by kernel_rfl) ?_ _
            have HF := Lib.hid (show kb = anyF (fun _ g => cutB ps sv g) (gs.drop (k + 1)) (k + 1) by rw [HE.out, HDR.out]; simp only [HCN.out, Bool.false_or])
            go_wp2_with fail
            go_roundg (gk - 1)
            case rel => exact ⟨k + 1, by go_num, by have := HLT.out; omega, Lib.hid (by have := HQ.out; omega), HF, Lib.hid HBb.out.drew⟩
            case measure => have := HQ.out; have := HLT.out; omega
          | some p =>
            have hpl9 : p.value.length ≤ 134217728 := Nat.le_trans (parseO_len hpar) HGG.out.1
            have hps := psd_yes (g := ⟨gt, go, gs_⟩) hpar
            obtain ⟨mb, hmb⟩ : ∃ z, matchB p ⟨ten, sadr, tags⟩ = z := ⟨_, rfl⟩
            have HMB := Lib.hid hmb
            have hmb2 : matchB p ⟨sv.ten, sv.addr, sv.tags⟩ = mb := by rw [← HSV.out]; exact hmb
            have HMS := Lib.hid (fun (e : mb = false) => cut_miss (ps := ps) (s := sv) (g := ⟨gt, go, gs_⟩) hpar (by rw [hmb2]; exact e))
            have HHT := Lib.hid (fun (e : mb = true) => cut_hit (ps := ps) (s := sv) (g := ⟨gt, go, gs_⟩) (show 0 ≤ gs_ by omega) hpar (by rw [hmb2]; exact e))
            rw [hps] at HM0 HM1 HM2 HM3
            obtain ⟨pk, pt, pv⟩ := p
            have HPL := Lib.hid hpl9
            have l0 := HM0.out
            have l1 := HM1.out
            have l2 := HM2.out
            have l3 := HM3.out
            clear hps hpar hmb hmb2 hpl9
            cases mb with
            | false =>
              have HCN := Lib.hid (HMS.out (by first | exact rfl | trivial))
              refine wp_region_held_drew (S := (fun w' => w'.cell? ⟨bg, 2, none⟩ = some (.int .i64 gs_) ∧ w'.cell? ⟨bl, ol + k * 4, none⟩ = some (.int .i64 pk) ∧ w'.cell? ⟨bl, ol + k * 4 + 1, none⟩ = some (.int .i64 pt) ∧ w'.cell? ⟨bl, ol + k * 4 + 2, none⟩ = some (.string ⟨pv.toArray⟩) ∧ w'.cell? ⟨bl, ol + k * 4 + 3, none⟩ = some (.bool true) ∧ w'.cell? ⟨b0 + 1, 1, none⟩ = some (.string ⟨sadr.toArray⟩) ∧ w'.cell? ⟨b0 + 1, 3, none⟩ = some (.int .i64 ten) ∧ w'.cell? ⟨b0 + 1, 8, none⟩ = some (.slice ta tn tc))) (by kernel_rfl) (by exact ⟨y2, l0, l1, l2, l3, s1, s3, s8⟩) (fun hHeld => ?_)
              refine Hd.tk 0 ?_
              try simp only [Act.put, List.setIfInBounds_toArray, List.set_cons_zero, List.set_cons_succ]
              refine Hd.tk 1 ?_
              try simp only [Act.put, List.setIfInBounds_toArray, List.set_cons_zero, List.set_cons_succ]
              refine Hd.tk 2 ?_
              try simp only [Act.put, List.setIfInBounds_toArray, List.set_cons_zero, List.set_cons_succ]
              refine Hd.tk 3 ?_
              try simp only [Act.put, List.setIfInBounds_toArray, List.set_cons_zero, List.set_cons_succ]
              refine Hd.tk 4 ?_
              try simp only [Act.put, List.setIfInBounds_toArray, List.set_cons_zero, List.set_cons_succ]
              refine Hd.tk 5 ?_
              try simp only [Act.put, List.setIfInBounds_toArray, List.set_cons_zero, List.set_cons_succ]
              refine Hd.tk 6 ?_
              try simp only [Act.put, List.setIfInBounds_toArray, List.set_cons_zero, List.set_cons_succ]
              refine Hd.tk 7 ?_
              try simp only [Act.put, List.setIfInBounds_toArray, List.set_cons_zero, List.set_cons_succ]
              refine Hd.tk 8 ?_
              try simp only [Act.put, List.setIfInBounds_toArray, List.set_cons_zero, List.set_cons_succ]
              refine Hd.tk 9 ?_
              try simp only [Act.put, List.setIfInBounds_toArray, List.set_cons_zero, List.set_cons_succ]
              refine Hd.tk 10 ?_
              try simp only [Act.put, List.setIfInBounds_toArray, List.set_cons_zero, List.set_cons_succ]
              refine Hd.tk 11 ?_
              try simp only [Act.put, List.setIfInBounds_toArray, List.set_cons_zero, List.set_cons_succ]
              refine Hd.tk 12 ?_
              try simp only [Act.put, List.setIfInBounds_toArray, List.set_cons_zero, List.set_cons_succ]
              refine Hd.tk 13 ?_
              try simp only [Act.put, List.setIfInBounds_toArray, List.set_cons_zero, List.set_cons_succ]
              refine Hd.tk 14 ?_
              try simp only [Act.put, List.setIfInBounds_toArray, List.set_cons_zero, List.set_cons_succ]
              refine Hd.tk 15 ?_
              try simp only [Act.put, List.setIfInBounds_toArray, List.set_cons_zero, List.set_cons_succ]
              refine Hd.tk 16 ?_
              try simp only [Act.put, List.setIfInBounds_toArray, List.set_cons_zero, List.set_cons_succ]
              refine Hd.tk 17 ?_
              try simp only [Act.put, List.setIfInBounds_toArray, List.set_cons_zero, List.set_cons_succ]
              refine Hd.tk 18 ?_
              try simp only [Act.put, List.setIfInBounds_toArray, List.set_cons_zero, List.set_cons_succ]
              refine Hd.tk 19 ?_
              try simp only [Act.put, List.setIfInBounds_toArray, List.set_cons_zero, List.set_cons_succ]
              refine Hd.tk 20 ?_
              try simp only [Act.put, List.setIfInBounds_toArray, List.set_cons_zero, List.set_cons_succ]
              refine Hd.tk 21 ?_
              try simp only [Act.put, List.setIfInBounds_toArray, List.set_cons_zero, List.set_cons_succ]
              refine Hd.tk 22 ?_
              try simp only [Act.put, List.setIfInBounds_toArray, List.set_cons_zero, List.set_cons_succ]
              refine Hd.tk 23 ?_
              try simp only [Act.put, List.setIfInBounds_toArray, List.set_cons_zero, List.set_cons_succ]
              refine wpAnyH_ready (rs := [24]) (by kernel_rfl) (by simp) (AllReadyH.cons (by simp only [List.getElem?_toArray, List.getElem?_cons_succ, List.getElem?_cons_zero]; rfl) (fun K hK => ?_) AllReadyH.nil)
              go_simp
              go_at_call 48
              refine (match_any ⟨pk, pt, pv⟩ ⟨ten, sadr, tags⟩ (.slice ta tn tc) _ (HRY.out.below HBbr.out.drew) HPL.out hsa (HTG.out.below HBbr.out.drew) htl').mono ?_
              rintro e wq1 ⟨rfl, hq1⟩
              have hqw1 : Below wb.heap.size wb wq1 := ((Below.refl _ _).drew).trans hq1
              rw [HMB.out]
              go_wp2_with fail
              refine hK.out _ _ (by exact ⟨keepH hqw1 y2, keepH hqw1 l0, keepH hqw1 l1, keepH hqw1 l2, keepH hqw1 l3, keepH hqw1 s1, keepH hqw1 s3, keepH hqw1 s8⟩) (fun hHe1 => ?_)
              clear hK K
              try simp only [Act.put, List.setIfInBounds_toArray, List.set_cons_zero, List.set_cons_succ]
              refine Hd.tk 25 ?_
              try simp only [Act.put, List.setIfInBounds_toArray, List.set_cons_zero, List.set_cons_succ]
              refine Hd.tk 26 ?_
              try simp only [Act.put, List.setIfInBounds_toArray, List.set_cons_zero, List.set_cons_succ]
              refine wpAnyH_done (by kernel_rfl) ?_ _
              have HB6 := Lib.hid (HBb.out.trans (hqw1.mono HBb.out.size))
              have HF := Lib.hid (show kb = anyF (fun _ g => cutB ps sv g) (gs.drop (k + 1)) (k + 1) by rw [HE.out, HDR.out]; simp only [HCN.out, Bool.false_or])
              go_wp2_with fail
              go_roundg (gk - 1)
              case rel => exact ⟨k + 1, by go_num, by have := HLT.out; omega, Lib.hid (by have := HQ.out; omega), HF, HB6⟩
              case measure => have := HQ.out; have := HLT.out; omega
            | true =>
              refine wp_region_held_drew (S := (fun w' => w'.cell? ⟨bg, 2, none⟩ = some (.int .i64 gs_) ∧ w'.cell? ⟨bl, ol + k * 4, none⟩ = some (.int .i64 pk) ∧ w'.cell? ⟨bl, ol + k * 4 + 1, none⟩ = some (.int .i64 pt) ∧ w'.cell? ⟨bl, ol + k * 4 + 2, none⟩ = some (.string ⟨pv.toArray⟩) ∧ w'.cell? ⟨bl, ol + k * 4 + 3, none⟩ = some (.bool true) ∧ w'.cell? ⟨b0 + 1, 1, none⟩ = some (.string ⟨sadr.toArray⟩) ∧ w'.cell? ⟨b0 + 1, 3, none⟩ = some (.int .i64 ten) ∧ w'.cell? ⟨b0 + 1, 8, none⟩ = some (.slice ta tn tc))) (by kernel_rfl) (by exact ⟨y2, l0, l1, l2, l3, s1, s3, s8⟩) (fun hHeld => ?_)
              refine Hd.tk 0 ?_
              try simp only [Act.put, List.setIfInBounds_toArray, List.set_cons_zero, List.set_cons_succ]
              refine Hd.tk 1 ?_
              try simp only [Act.put, List.setIfInBounds_toArray, List.set_cons_zero, List.set_cons_succ]
              refine Hd.tk 2 ?_
              try simp only [Act.put, List.setIfInBounds_toArray, List.set_cons_zero, List.set_cons_succ]
              refine Hd.tk 3 ?_
              try simp only [Act.put, List.setIfInBounds_toArray, List.set_cons_zero, List.set_cons_succ]
              refine Hd.tk 4 ?_
              try simp only [Act.put, List.setIfInBounds_toArray, List.set_cons_zero, List.set_cons_succ]
              refine Hd.tk 5 ?_
              try simp only [Act.put, List.setIfInBounds_toArray, List.set_cons_zero, List.set_cons_succ]
              refine Hd.tk 6 ?_
              try simp only [Act.put, List.setIfInBounds_toArray, List.set_cons_zero, List.set_cons_succ]
              refine Hd.tk 7 ?_
              try simp only [Act.put, List.setIfInBounds_toArray, List.set_cons_zero, List.set_cons_succ]
              refine Hd.tk 8 ?_
              try simp only [Act.put, List.setIfInBounds_toArray, List.set_cons_zero, List.set_cons_succ]
              refine Hd.tk 9 ?_
              try simp only [Act.put, List.setIfInBounds_toArray, List.set_cons_zero, List.set_cons_succ]
              refine Hd.tk 10 ?_
              try simp only [Act.put, List.setIfInBounds_toArray, List.set_cons_zero, List.set_cons_succ]
              refine Hd.tk 11 ?_
              try simp only [Act.put, List.setIfInBounds_toArray, List.set_cons_zero, List.set_cons_succ]
              refine Hd.tk 12 ?_
              try simp only [Act.put, List.setIfInBounds_toArray, List.set_cons_zero, List.set_cons_succ]
              refine Hd.tk 13 ?_
              try simp only [Act.put, List.setIfInBounds_toArray, List.set_cons_zero, List.set_cons_succ]
              refine Hd.tk 14 ?_
              try simp only [Act.put, List.setIfInBounds_toArray, List.set_cons_zero, List.set_cons_succ]
              refine Hd.tk 15 ?_
              try simp only [Act.put, List.setIfInBounds_toArray, List.set_cons_zero, List.set_cons_succ]
              refine Hd.tk 16 ?_
              try simp only [Act.put, List.setIfInBounds_toArray, List.set_cons_zero, List.set_cons_succ]
              refine Hd.tk 17 ?_
              try simp only [Act.put, List.setIfInBounds_toArray, List.set_cons_zero, List.set_cons_succ]
              refine Hd.tk 18 ?_
              try simp only [Act.put, List.setIfInBounds_toArray, List.set_cons_zero, List.set_cons_succ]
              refine Hd.tk 19 ?_
              try simp only [Act.put, List.setIfInBounds_toArray, List.set_cons_zero, List.set_cons_succ]
              refine Hd.tk 20 ?_
              try simp only [Act.put, List.setIfInBounds_toArray, List.set_cons_zero, List.set_cons_succ]
              refine Hd.tk 21 ?_
              try simp only [Act.put, List.setIfInBounds_toArray, List.set_cons_zero, List.set_cons_succ]
              refine Hd.tk 22 ?_
              try simp only [Act.put, List.setIfInBounds_toArray, List.set_cons_zero, List.set_cons_succ]
              refine Hd.tk 23 ?_
              try simp only [Act.put, List.setIfInBounds_toArray, List.set_cons_zero, List.set_cons_succ]
              refine wpAnyH_ready (rs := [24]) (by kernel_rfl) (by simp) (AllReadyH.cons (by simp only [List.getElem?_toArray, List.getElem?_cons_succ, List.getElem?_cons_zero]; rfl) (fun K hK => ?_) AllReadyH.nil)
              go_simp
              go_at_call 48
              refine (match_any ⟨pk, pt, pv⟩ ⟨ten, sadr, tags⟩ (.slice ta tn tc) _ (HRY.out.below HBbr.out.drew) HPL.out hsa (HTG.out.below HBbr.out.drew) htl').mono ?_
              rintro e wq1 ⟨rfl, hq1⟩
              have hqw1 : Below wb.heap.size wb wq1 := ((Below.refl _ _).drew).trans hq1
              rw [HMB.out]
              go_wp2_with fail
              refine hK.out _ _ (by exact ⟨keepH hqw1 y2, keepH hqw1 l0, keepH hqw1 l1, keepH hqw1 l2, keepH hqw1 l3, keepH hqw1 s1, keepH hqw1 s3, keepH hqw1 s8⟩) (fun hHe1 => ?_)
              clear hK K
              try simp only [Act.put, List.setIfInBounds_toArray, List.set_cons_zero, List.set_cons_succ]
              refine Hd.tk 25 ?_
              try simp only [Act.put, List.setIfInBounds_toArray, List.set_cons_zero, List.set_cons_succ]
              refine Hd.tk 26 ?_
              try simp only [Act.put, List.setIfInBounds_toArray, List.set_cons_zero, List.set_cons_succ]
              refine wpAnyH_done (by kernel_rfl) ?_ _
              have HB6 := Lib.hid (HBb.out.trans (hqw1.mono HBb.out.size))
              have HX6 := Lib.hid (HXg.out.older hqw1)
              clear hqw1 y2 s1 s3 s8 l0 l1 l2 l3
              obtain ⟨ib, hib⟩ : ∃ z, anyF (fun _ x => decide (gs_ < x.at_) && !(sinceB ps sadr stag go)) parts 0 = z := ⟨_, rfl⟩
              have HCI := Lib.hid (show cutB ps sv ⟨gt, go, gs_⟩ = ib by rw [HHT.out (by first | exact rfl | trivial), ← HSV.out]; exact hib)
              obtain ⟨sn, hsn⟩ : ∃ z, sinceB ps sadr stag go = z := ⟨_, rfl⟩
              have HSN := Lib.hid (show anyF (fun j p => isV p sadr stag && decide (max p.at_ go < endN ps j)) ps 0 = sn from hsn)
              rw [hsn] at hib
              have HI0 := Lib.hid (show ib = anyF (fun _ x => decide (gs_ < x.at_) && !sn) (parts.drop 0) 0 from hib.symm)
              clear hib hsn
              have HB6r := Lib.hid (HB2.out.trans (HB6.out.mono HB2.out.size))
              have s9 := (HS2.out.older HB6.out).cell (i := 9) rfl
              go_wp2_with fail
              obtain ⟨gA, hgA⟩ : ∃ g, g = gk := ⟨_, rfl⟩
              have HGK := Lib.hid hgA
              clear hgA
              go_loopg [53] qm (fun gi jv wi => ∃ j : Nat, jv = .int .i64 j ∧ j ≤ qm ∧ Hid (qm ≤ gi + j) ∧ Hid (ib = anyF (fun _ x => decide (gs_ < x.at_) && !sn) (parts.drop j) j) ∧ Hid (Below wq1.heap.size wq1 wi))
              case atStart => exact ⟨0, rfl, Nat.zero_le _, Lib.hid (by omega), HI0, Lib.hid (Below.refl _ _)⟩
              case round =>
                obtain ⟨j, rfl, hj, HQJ, HEJ, HBJ⟩ := hrel
                have HB7 := Lib.hid (HB6.out.trans (HBJ.out.mono HB6.out.size))
                have HB7r := Lib.hid (HB2.out.trans (HB7.out.mono HB2.out.size))
                by_cases hjt : j < qm
                · have HJT := Lib.hid hjt
                  have q3 : (j : Int) < (qm : Int) := by omega
                  have q4 : (0 : Int) ≤ (j : Int) := by omega
                  obtain ⟨x, hxk⟩ : ∃ x, parts[j]? = some x := ⟨_, List.getElem?_eq_getElem (by rw [HQM.out]; exact hjt)⟩
                  have HDJ := Lib.hid (anyF_drop (c := fun _ x => decide (gs_ < x.at_) && !sn) hxk)
                  have hsrc := HQA.out x (List.mem_of_getElem? hxk)
                  obtain ⟨bx, ox, e7, _, hbl3, hrowx⟩ := row_at (HQ0.out.below HB7r.out) hxk
                  cases e7
                  obtain ⟨xat, xoff, xdv, xd⟩ := x
                  obtain ⟨da, dc, hdv⟩ := Sg.src_form hsrc
                  simp only at hdv
                  subst hdv
                  have d0 := hrowx 0 _ rfl
                  have d1 := hrowx 1 _ rfl
                  have d2 := hrowx 2 _ rfl
                  rw [Nat.add_zero] at d0
                  clear hrowx hxk hsrc
                  go_upto_region 10 with fail
                  have HXx := Lib.hid (Bx.new wr 88 #[.int .i64 xat, .int .i64 xoff, .slice da xd.length dc])
                  have HB8 := Lib.hid (HB7.out.alloc HB7.out.size (.cells #[.int .i64 xat, .int .i64 xoff, .slice da xd.length dc] 88))
                  have HBJ8 := Lib.hid (HBJ.out.alloc HBJ.out.size (.cells #[.int .i64 xat, .int .i64 xoff, .slice da xd.length dc] 88))
                  obtain ⟨w8, hw8⟩ : ∃ z, wr.alloc (.cells #[.int .i64 xat, .int .i64 xoff, .slice da xd.length dc] 88) = z := ⟨_, rfl⟩
                  obtain ⟨by8, hby8⟩ : ∃ z, wr.heap.size = z := ⟨_, rfl⟩
                  rw [hw8] at HXx HB8 HBJ8 ⊢
                  rw [hby8] at HXx ⊢
                  clear hw8 hby8 d0 d1 d2
                  have HB8r := Lib.hid (HB2.out.trans (HB8.out.mono HB2.out.size))
                  have x0 := HXx.out.cell (i := 0) rfl
                  have y1 := (HX6.out.older HBJ8.out).cell (i := 1) rfl
                  have y2 := (HX6.out.older HBJ8.out).cell (i := 2) rfl
                  have c0 := (HX2.out.older HB8.out).cell (i := 0) rfl
                  have c1 := (HX2.out.older HB8.out).cell (i := 1) rfl
                  have c2 := (HX2.out.older HB8.out).cell (i := 2) rfl
                  have c3 := (HX2.out.older HB8.out).cell (i := 3) rfl
                  have c4 := (HX2.out.older HB8.out).cell (i := 4) rfl
                  have c5 := (HX2.out.older HB8.out).cell (i := 5) rfl
                  have c6 := (HX2.out.older HB8.out).cell (i := 6) rfl
                  have s0 := (HS2.out.older HB8.out).cell (i := 0) rfl
                  have s1 := (HS2.out.older HB8.out).cell (i := 1) rfl
                  have s2 := (HS2.out.older HB8.out).cell (i := 2) rfl
                  have s3 := (HS2.out.older HB8.out).cell (i := 3) rfl
                  have s4 := (HS2.out.older HB8.out).cell (i := 4) rfl
                  have s5 := (HS2.out.older HB8.out).cell (i := 5) rfl
                  have s6 := (HS2.out.older HB8.out).cell (i := 6) rfl
                  have s7 := (HS2.out.older HB8.out).cell (i := 7) rfl
                  have s8 := (HS2.out.older HB8.out).cell (i := 8) rfl
                  have s9 := (HS2.out.older HB8.out).cell (i := 9) rfl
                  have s10 := (HS2.out.older HB8.out).cell (i := 10) rfl
                  by_cases hg : gs_ < xat
                  · have e2 : decide (gs_ < xat) = true := decide_eq_true hg
                    cases sn with
                    | true =>
                      have HFJ := Lib.hid (show ib = anyF (fun _ x => decide (gs_ < x.at_) && !true) (parts.drop (j + 1)) (j + 1) by rw [HEJ.out, HDJ.out]; simp [e2])
                      go_wp2_with (go_at_call 83; refine (rsince_any ps (.slice pa n pc) (.slice (some ⟨bh, oh, none⟩) m gsc) vc vd ve bound fin B edge sadr stag ten ask at_ frm til ta tn tc (some ⟨bx, ox, none⟩) qm qc ended go HGG.out.2.1 _ (HP.out.below HB8r.out) (by rw [HN.out]; exact hn) (fun p hp => (HPA.out p hp).below HB8r.out) HIN.out).mono ?_; rintro e w9 ⟨rfl, hb9⟩; rw [HSN.out]; have HBJ9 := Lib.hid (HBJ8.out.trans (hb9.mono HBJ8.out.size)); have HB9r := Lib.hid (HB8r.out.trans (hb9.mono HB8r.out.size)); clear hb9)
                      go_roundg (gk - 1)
                      case rel => exact ⟨j + 1, by go_num, by have := HJT.out; omega, Lib.hid (by have := HQJ.out; omega), HFJ, HBJ9⟩
                      case measure => have := HQJ.out; have := HJT.out; omega
                    | false =>
                      have HT9 := Lib.hid (show kb = true by rw [HE.out, HDR.out]; simp only [HCI.out, HEJ.out, HDJ.out]; simp [e2])
                      go_wp2_with (go_at_call 83; refine (rsince_any ps (.slice pa n pc) (.slice (some ⟨bh, oh, none⟩) m gsc) vc vd ve bound fin B edge sadr stag ten ask at_ frm til ta tn tc (some ⟨bx, ox, none⟩) qm qc ended go HGG.out.2.1 _ (HP.out.below HB8r.out) (by rw [HN.out]; exact hn) (fun p hp => (HPA.out p hp).below HB8r.out) HIN.out).mono ?_; rintro e w9 ⟨rfl, hb9⟩; rw [HSN.out]; have HBJ9 := Lib.hid (HBJ8.out.trans (hb9.mono HBJ8.out.size)); have HB9r := Lib.hid (HB8r.out.trans (hb9.mono HB8r.out.size)); clear hb9)
                      go_ret
                      exact ⟨by rw [HT9.out]; rfl, HB9r.out⟩
                  · have e2 : decide (gs_ < xat) = false := decide_eq_false hg
                    have HFJ := Lib.hid (show ib = anyF (fun _ x => decide (gs_ < x.at_) && !sn) (parts.drop (j + 1)) (j + 1) by rw [HEJ.out, HDJ.out]; simp [e2])
                    go_wp2_with fail
                    go_roundg (gk - 1)
                    case rel => exact ⟨j + 1, by go_num, by have := HJT.out; omega, Lib.hid (by have := HQJ.out; omega), HFJ, HBJ8⟩
                    case measure => have := HQJ.out; have := HJT.out; omega
                · obtain rfl : qm = j := by omega
                  have HIF := Lib.hid (show cutB ps sv ⟨gt, go, gs_⟩ = false by rw [HCI.out, HEJ.out, anyF_end (by rw [HQM.out]; omega)])
                  have HF := Lib.hid (show kb = anyF (fun _ g => cutB ps sv g) (gs.drop (k + 1)) (k + 1) by rw [HE.out, HDR.out]; simp only [HIF.out, Bool.false_or])
                  go_wp2_with fail
                  go_roundg (gA - 1)
                  case rel => exact ⟨k + 1, by go_num, by have := HLT.out; omega, Lib.hid (by have := HQ.out; have := HGK.out; omega), HF, HB7⟩
                  case measure => have := HQ.out; have := HGK.out; have := HLT.out; omega
      · have HF := Lib.hid (show kb = false by rw [HE.out, anyF_end (by rw [HM.out]; omega)])
        obtain rfl : m = k := by omega
        go_wp2_with fail
        go_ret
        exact ⟨by rw [HF.out]; rfl, HB2.out.trans (HB.out.mono HB2.out.size)⟩
end Hy
end Go.Proofs.YtjijijjkkhpjnaaGreatDoor
end

