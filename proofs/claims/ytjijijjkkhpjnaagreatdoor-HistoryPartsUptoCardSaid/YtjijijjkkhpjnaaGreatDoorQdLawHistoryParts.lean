/- PROVED: HistoryParts returns true for every history of the statement's size and every change, and leaves its arguments as they were. No condition beyond the statement's own (the listed variables read as the program's text lays them, which the card ties). -/
import Derived.Deep.DeepCutAuto
import Derived.Test.YtjijijjkkhpjnaaGreatDoorQdA
import Derived.Test.YtjijijjkkhpjnaaGreatDoorQdG
import Derived.Test.YtjijijjkkhpjnaaGreatDoorQdM
import Derived.Test.YtjijijjkkhpjnaaGreatDoorQdN
import Derived.Test.YtjijijjkkhpjnaaGreatDoorQdO
namespace Go.Proofs.YtjijijjkkhpjnaaGreatDoor.lawHistoryParts
open Go.ChangeShapes Go.WideShapes Go.ChangeAt Go.RowKit Pl Ad A1 Hy Kr
open Go.ChangeMaps (open_string shut_string)
attribute [local go_sem] ba_get conv_one conv_one_drewN ba_append ba_extract
set_option maxRecDepth 100000
set_option maxHeartbeats 4000000
set_option linter.unusedVariables false
set_option linter.unusedSimpArgs false

/-- What stands behind a change of one of the history's lists. -/
theorem parts_store {w wd w5 : World} {b0 T k n j : Nat} {C : Array Value} {v5 : Value} {xs : List Value} (hb : Below w.heap.size w wd) (hx : Bx wd b0 69 C) (h0 : w.heap.size ≤ b0) (hb5 : Below wd.heap.size wd w5) (ho : OwnWin w5 wd.heap.size T k v5 n xs) :
    Below w.heap.size w (w5.setCell ⟨b0, j, none⟩ v5) ∧ Bx (w5.setCell ⟨b0, j, none⟩ v5) b0 69 (C.setIfInBounds j v5) ∧ OwnWin (w5.setCell ⟨b0, j, none⟩ v5) wd.heap.size T k v5 n xs := by
  have hs := touch_set1 w5 b0 j v5
  have h5 : Below w.heap.size w w5 := hb.trans (hb5.mono hb.size)
  exact ⟨h5.trans (hs.below h5.size (fun i hi => by rw [hi]; exact h0)), (hx.older hb5).set j v5, ho.touch hs (fun q hq e => by have := (ho.lt q hq).1; have := hx.lt; omega)⟩
theorem own_setH {w : World} {B e size n g o c : Nat} {xs : List Value} (h : OwnWin w B e size (.slice (some ⟨g, o, none⟩) n c) n xs) {i : Nat} (hi : i < xs.length) (u : Value) : OwnWin (w.setCell ⟨g, o + i, none⟩ u) B e size (.slice (some ⟨g, o, none⟩) n c) n (xs.set i u) := by
  obtain ⟨hl, h⟩ := h
  refine ⟨by rw [List.length_set]; exact hl, .inr ?_⟩
  rcases h with ⟨h0, _⟩ | ⟨g', o', cap, cur, h0, h1, h2, h3, h4, h5, h6⟩
  · cases h0
  · cases h0
    refine ⟨g, o, c, cur.setIfInBounds (o + i) u, rfl, h1, Bx.set (cs := cur) h2 (o + i) u, h3, h4, by simpa using h5, ?_⟩
    rw [Array.toList_setIfInBounds, List.drop_set, if_neg (by omega), Nat.add_sub_cancel_left, List.take_set, h6]
theorem own_frzH {w : World} {B e size n g o c : Nat} {xs : List Value} (h : OwnWin w B e size (.slice (some ⟨g, o, none⟩) n c) n xs) (i : Nat) : w.frozen? ⟨g, i, none⟩ = false := by
  rcases h.2 with ⟨h0, _⟩ | ⟨g', o', cap, cur, h0, h1, h2, _⟩
  · cases h0
  · cases h0; exact Bx.frz h2 _
theorem own_some {w : World} {B e size n : Nat} {v : Value} {xs : List Value} (h : OwnWin w B e size v n xs) (hn : 0 < n) : ∃ g o c : Nat, v = .slice (some ⟨g, o, none⟩) n c ∧ B ≤ g := by
  rcases h.2 with ⟨_, h9⟩ | ⟨g, o, c, _, h9, h8, _⟩
  · omega
  · exact ⟨g, o, c, h9, h8⟩
theorem flat_set {α : Type} {F : α → List Value} {k j : Nat} (hF : ∀ x, (F x).length = k) (hj : j < k) {u : Value} {y : α} : ∀ {xs : List α} {i : Nat} {x : α}, xs[i]? = some x → F y = (F x).set j u → (xs.flatMap F).set (i * k + j) u = (xs.set i y).flatMap F
  | [], i, x, h, _ => by simp at h
  | a :: r, 0, x, h, e => by
    simp at h; subst h
    rw [List.flatMap_cons, List.set_cons_zero, List.flatMap_cons, e, Nat.zero_mul, Nat.zero_add, List.set_append_left _ _ (by rw [hF]; exact hj)]
  | a :: r, i + 1, x, h, e => by
    have h' : r[i]? = some x := by simpa using h
    rw [List.flatMap_cons, List.set_cons_succ, List.flatMap_cons, List.set_append_right _ _ (by rw [hF, Nat.add_mul]; omega), ← flat_set hF hj h' e, hF]
    congr 2
    rw [Nat.add_mul]; omega
theorem u8_mod {k m : Nat} (hk : k < 256) (hm : 0 < m) : Int.tmod (k : Int) (m : Int) = ((k % m : Nat) : Int) ∧ (k : Int) % (m : Int) = ((k % m : Nat) : Int) ∧ IntKind.u8.wrap ((k % m : Nat) : Int) = ((k % m : Nat) : Int) := by
  have h1 : k % m ≤ k := Nat.mod_le _ _
  refine ⟨?_, rfl, ?_⟩
  · rw [Int.tmod_eq_emod_of_nonneg (by omega)]; rfl
  · rw [IntKind.wrap_u8]; omega
theorem walk (va vb vc vd ve : Value) (hm : HisM) (wh i nn : Nat) (w : World) (hr : Ready w) (hp : A1.ParseAt w) (ha : HisAt w 1048576 va vb vc vd ve hm) (mw : wh < 256) (mi : i < 256) (mn : nn < 256) :
    Calls Tryz.prog 6 #[.agg #[va, vb, vc, vd, ve, .int .i64 hm.bound, .int .i64 hm.fin], .int .u8 wh, .int .u8 i, .int .u8 nn] w fun e w' => e = .returned (.bool true) ∧ Below w.heap.size w w' := by
  have HA := Lib.hid ha
  have HRY := Lib.hid hr
  have HPW := Lib.hid hp
  clear ha hr hp
  go_enter Tryz.func6, Tryz.ntmps6
  go_upto_region 1 with fail
  have HX := Lib.hid (Bx.new w 69 #[va, vb, vc, vd, ve, .int .i64 hm.bound, .int .i64 hm.fin])
  have HB := Lib.hid ((Below.refl w.heap.size w).alloc (Nat.le_refl _) (.cells #[va, vb, vc, vd, ve, .int .i64 hm.bound, .int .i64 hm.fin] 69))
  obtain ⟨w0, hw0⟩ : ∃ z, w.alloc (.cells #[va, vb, vc, vd, ve, .int .i64 hm.bound, .int .i64 hm.fin] 69) = z := ⟨_, rfl⟩
  obtain ⟨b0, hb0⟩ : ∃ z, w.heap.size = z := ⟨_, rfl⟩
  have HB00 : Hid (w.heap.size ≤ b0) := Lib.hid (by omega)
  rw [hw0] at HB HX ⊢
  rw [hb0] at HX ⊢
  clear hw0 hb0
  have x0 := HX.out.cell (i := 0) rfl
  have x1 := HX.out.cell (i := 1) rfl
  have x2 := HX.out.cell (i := 2) rfl
  have x3 := HX.out.cell (i := 3) rfl
  have x4 := HX.out.cell (i := 4) rfl
  have x5 := HX.out.cell (i := 5) rfl
  have x6 := HX.out.cell (i := 6) rfl
  go_wp2_with fail
  refine (large_any hm va vb vc vd ve 1048576 _ (HA.out.below HB.out) (by decide)).mono ?_
  rintro e w1 ⟨b, rfl, hsm, hb1⟩
  have HB1 := Lib.hid (HB.out.trans (hb1.mono HB.out.size))
  have HX1 := Lib.hid (HX.out.older hb1)
  clear hb1 x0 x1 x2 x3 x4 x5 x6
  cases b with
  | true =>
    clear hsm
    go_wp2_with fail
    refine (awake58_any _ (HRY.out.below HB1.out) (HPW.out.below HB1.out)).mono ?_
    rintro e w2 ⟨rfl, hb2⟩
    have HB2 := Lib.hid (HB1.out.trans (hb2.mono HB1.out.size))
    clear hb2
    go_wp2_with fail
    go_ret
    exact ⟨rfl, HB2.out⟩
  | false =>
    have HSM := Lib.hid (hsm rfl)
    clear hsm
    go_wp2_with fail
    refine (awake58_any _ (HRY.out.below HB1.out) (HPW.out.below HB1.out)).mono ?_
    rintro e w2 ⟨rfl, hb2⟩
    have HB2 := Lib.hid (HB1.out.trans (hb2.mono HB1.out.size))
    have HX2 := Lib.hid (HX1.out.older hb2)
    clear hb2
    have x0 := HX2.out.cell (i := 0) rfl
    have x1 := HX2.out.cell (i := 1) rfl
    have x2 := HX2.out.cell (i := 2) rfl
    have x3 := HX2.out.cell (i := 3) rfl
    have x4 := HX2.out.cell (i := 4) rfl
    have x5 := HX2.out.cell (i := 5) rfl
    have x6 := HX2.out.cell (i := 6) rfl
    go_wp2_with fail
    refine (Hy.check_any hm va vb vc vd ve 1048576 _ (HRY.out.below HB2.out) (HPW.out.below HB2.out) (HA.out.below HB2.out) HSM.out (by decide)).mono ?_
    rintro e w3 ⟨v3, rfl, ho3, hb3⟩
    have HB3 := Lib.hid (HB2.out.trans (hb3.mono HB2.out.size))
    have HX3 := Lib.hid (HX2.out.older hb3)
    have HI3 := Lib.hid (HA.out.below HB3.out)
    obtain ⟨a3, c3, rfl, _⟩ := ho3.form
    clear hb3 ho3 x0 x1 x2 x3 x4 x5 x6
    obtain ⟨nc, hnc⟩ : ∃ z, (checkL hm).length = z := ⟨_, rfl⟩
    rw [hnc]
    by_cases hn0 : nc = 0
    · have HC0 : Hid (checkL hm = []) := Lib.hid (List.eq_nil_of_length_eq_zero (hnc.trans hn0))
      subst hn0
      clear hnc
      obtain ⟨q, hq⟩ : ∃ z, wh % 4 = z := ⟨_, rfl⟩
      have hq4 : q < 4 := by omega
      obtain ⟨m1, m2, m3⟩ := u8_mod (k := wh) (m := 4) mw (by decide)
      rw [hq] at m1 m2 m3
      have m4 : IntKind.i64.wrap (i : Int) = (i : Int) := IntWalk.i64_in _ (by omega)
      clear hq
      obtain rfl | rfl | rfl | rfl : q = 0 ∨ q = 1 ∨ q = 2 ∨ q = 3 := by omega
      · by_cases hil : i < hm.srvs.length
        · have HIL := Lib.hid hil
          obtain ⟨bs, os, cs, hv, hcs, _, _⟩ : ∃ (b o c : Nat), vc = .slice (some ⟨b, o, none⟩) hm.srvs.length c ∧ hm.srvs.length ≤ c ∧ True ∧ True := by
            rcases HI3.out.srvs with ⟨h1, _⟩ | ⟨b, o, c, h1, h2, _⟩
            · rw [h1] at hil; simp at hil
            · exact ⟨b, o, c, h1, h2, trivial, trivial⟩
          subst hv
          obtain ⟨nl, hnl⟩ : ∃ z, hm.srvs.length = z := ⟨_, rfl⟩
          have HNL := Lib.hid hnl
          rw [hnl] at HX3 HI3 hil hcs ⊢
          have hnm : nl ≤ 1000 := by rw [← hnl]; exact HSM.out.nsrv
          clear hnl
          have i1 : (i : Int) < (nl : Int) := by omega
          have i1d : decide ((i : Int) < (nl : Int)) = true := decide_eq_true i1
          have c0 := HX3.out.cell (i := 2) rfl
          go_upto_region 13 with fail
          have HXd := Lib.hid (HX3.out.older (Below.refl _ _).drew)
          have HBd := Lib.hid HB3.out.drew
          have HId := Lib.hid (HI3.out.below (Below.refl _ _).drew)
          have k1 : IntKind.i64.wrap ((i : Int) + 1) = (i : Int) + 1 := IntWalk.i64_in _ (by omega)
          have i2 : (i : Int) ≤ (cs : Int) := by omega
          have i3 : (i : Int) + 1 ≤ (nl : Int) := by omega
          have i4 : (i : Int) + 1 ≤ (cs : Int) := by omega
          have i5 : (0 : Int) ≤ (i : Int) + 1 := by omega
          have i6 : (nl : Int) ≤ (cs : Int) := by omega
          have i7 : (0 : Int) ≤ (i : Int) := by omega
          have i8 : (i : Int).toNat = i := by omega
          have i9 : ((i : Int) + 1).toNat = i + 1 := by omega
          refine wp_region_held_drew (S := (fun _ => True)) (by kernel_rfl) (by trivial) (fun hHeld => ?_)
          obtain ⟨wd, hwd⟩ : ∃ z, w3.drew = z := ⟨_, rfl⟩
          rw [hwd] at HXd HBd HId ⊢
          clear hwd
          have HBz := Lib.hid (Below.refl wd.heap.size wd)
          have c2 := HXd.out.cell (i := 2) rfl
          refine Hd.tk 1 ?_
          try simp only [Act.put, List.setIfInBounds_toArray, List.set_cons_zero, List.set_cons_succ]
          refine Hd.tk 3 ?_
          try simp only [Act.put, List.setIfInBounds_toArray, List.set_cons_zero, List.set_cons_succ]
          refine Hd.tk 6 ?_
          try simp only [Act.put, List.setIfInBounds_toArray, List.set_cons_zero, List.set_cons_succ]
          refine Hd.tk 8 ?_
          try simp only [Act.put, List.setIfInBounds_toArray, List.set_cons_zero, List.set_cons_succ]
          refine Hd.tk 9 ?_
          try simp only [Act.put, List.setIfInBounds_toArray, List.set_cons_zero, List.set_cons_succ]
          refine wpAnyH_ready (rs := [0, 2, 7]) (by kernel_rfl) (by simp) (AllReadyH.cons (by simp only [List.getElem?_toArray, List.getElem?_cons_succ, List.getElem?_cons_zero]; rfl) (fun K hK => ?_) (AllReadyH.cons (by simp only [List.getElem?_toArray, List.getElem?_cons_succ, List.getElem?_cons_zero]; rfl) (fun K hK => ?_) (AllReadyH.cons (by simp only [List.getElem?_toArray, List.getElem?_cons_succ, List.getElem?_cons_zero]; rfl) (fun K hK => ?_) AllReadyH.nil)))
          · go_simp
            have HO0 := Lib.hid (show OwnWin (wd.alloc (.cells #[] 82)) wd.heap.size 82 11 (.slice (some ⟨wd.heap.size, 0, none⟩) 0 0) 0 [] from ownK_empty (heap_alloc_new wd _) (Nat.le_refl _))
            have HBa := Lib.hid ((Below.refl wd.heap.size wd).alloc (Nat.le_refl _) (.cells #[] 82))
            obtain ⟨wa, hwa⟩ : ∃ z, wd.alloc (.cells #[] 82) = z := ⟨_, rfl⟩
            rw [hwa] at HO0 HBa ⊢
            clear hwa c2
            have ca := (HXd.out.older HBa.out).cell (i := 2) rfl
            refine hK.out _ _ (by trivial) (fun hHe0 => ?_)
            clear hK K
            try simp only [Act.put, List.setIfInBounds_toArray, List.set_cons_zero, List.set_cons_succ]
            refine wpAnyH_ready (rs := [2, 7]) (by kernel_rfl) (by simp) (AllReadyH.cons (by simp only [List.getElem?_toArray, List.getElem?_cons_succ, List.getElem?_cons_zero]; rfl) (fun K hK => ?_) (AllReadyH.cons (by simp only [List.getElem?_toArray, List.getElem?_cons_succ, List.getElem?_cons_zero]; rfl) (fun K hK => ?_) AllReadyH.nil))
            · go_simp
              refine hK.out _ _ (by trivial) (fun hHe1 => ?_)
              clear hK K
              try simp only [Act.put, List.setIfInBounds_toArray, List.set_cons_zero, List.set_cons_succ]
              refine Hd.tk 4 ?_
              try simp only [Act.put, List.setIfInBounds_toArray, List.set_cons_zero, List.set_cons_succ]
              refine wpAnyH_ready (rs := [5, 7]) (by kernel_rfl) (by simp) (AllReadyH.cons (by simp only [List.getElem?_toArray, List.getElem?_cons_succ, List.getElem?_cons_zero]; rfl) (fun K hK => ?_) (AllReadyH.cons (by simp only [List.getElem?_toArray, List.getElem?_cons_succ, List.getElem?_cons_zero]; rfl) (fun K hK => ?_) AllReadyH.nil))
              · refine step_appB tySrv (by rfl) _ _ (by rfl) wd.heap.size (.slice (some ⟨wd.heap.size, 0, none⟩) 0 0) 0 [] (by rfl) HO0.out HBa.out.size (.slice (some ⟨bs, os, none⟩) i cs) i ((hm.srvs.take i).flatMap srvR) (by rfl) (rows_pre (HId.out.below HBa.out).srvs srvR_len (by decide) (by have := HNL.out; omega)) (by rw [flat_len srvR_len, List.length_take, HNL.out, Nat.min_eq_left (by omega)]) (one_srv (fun s hs => HI3.out.srv s (List.mem_of_mem_take hs))) (by omega) ?_
                intro v4 w4 ho4 hg4 hl4
                rw [Nat.zero_add, List.nil_append] at ho4
                have HO1 := Lib.hid ho4
                have HBb := Lib.hid (HBa.out.grown hg4 HBa.out.size (fun q hq => (HO0.out.lt q hq).1))
                obtain ⟨u4, t4, rfl, _⟩ := ho4.form
                clear ho4 hg4 hl4 HO0 ca
                have cb4 := (HXd.out.older HBb.out).cell (i := 2) rfl
                refine hK.out _ _ (by trivial) (fun hHe2 => ?_)
                clear hK K
                try simp only [Act.put, List.setIfInBounds_toArray, List.set_cons_zero, List.set_cons_succ]
                refine wpAnyH_ready (rs := [7]) (by kernel_rfl) (by simp) (AllReadyH.cons (by simp only [List.getElem?_toArray, List.getElem?_cons_succ, List.getElem?_cons_zero]; rfl) (fun K hK => ?_) AllReadyH.nil)
                go_simp
                refine hK.out _ _ (by trivial) (fun hHe3 => ?_)
                clear hK K
                try simp only [Act.put, List.setIfInBounds_toArray, List.set_cons_zero, List.set_cons_succ]
                refine Hd.tk 10 ?_
                try simp only [Act.put, List.setIfInBounds_toArray, List.set_cons_zero, List.set_cons_succ]
                refine wpAnyH_ready (rs := [11]) (by kernel_rfl) (by simp) (AllReadyH.cons (by simp only [List.getElem?_toArray, List.getElem?_cons_succ, List.getElem?_cons_zero]; rfl) (fun K hK => ?_) AllReadyH.nil)
                refine step_appB tySrv (by rfl) _ _ (by rfl) wd.heap.size (.slice u4 i t4) i _ (by rfl) HO1.out HBb.out.size (.slice (if cs = i + 1 then some ⟨bs, os, none⟩ else some ⟨bs, os + (i + 1) * 11, none⟩) (nl - (i + 1)) (cs - (i + 1))) (nl - (i + 1)) ((hm.srvs.drop (i + 1)).flatMap srvR) (by rfl) (rows_sufI (HId.out.below HBb.out).srvs srvR_len (by decide) HNL.out.symm (by have := HNL.out; omega) hcs rfl) (by rw [flat_len srvR_len, List.length_drop, HNL.out]) (one_srv (fun s hs => HI3.out.srv s (List.mem_of_mem_drop hs))) (by omega) ?_
                intro v5 w5 ho5 hg5 hl5
                have HO2 := Lib.hid ho5
                have HBc := Lib.hid (HBb.out.grown hg5 HBb.out.size (fun q hq => (HO1.out.lt q hq).1))
                obtain ⟨u5, t5, rfl, _⟩ := ho5.form
                clear ho5 hg5 hl5 HO1 cb4
                have hz5 := (HXd.out.older HBc.out).lt
                have f5 := (HXd.out.older HBc.out).frz 2
                have c5 := (HXd.out.older HBc.out).cell (i := 2) rfl
                refine hK.out _ _ (by trivial) (fun hHe4 => ?_)
                clear hK K
                try simp only [Act.put, List.setIfInBounds_toArray, List.set_cons_zero, List.set_cons_succ]
                refine Hd.tk 12 ?_
                try simp only [Act.put, List.setIfInBounds_toArray, List.set_cons_zero, List.set_cons_succ]
                refine wpAnyH_ready (rs := [13]) (by kernel_rfl) (by simp) (AllReadyH.cons (by simp only [List.getElem?_toArray, List.getElem?_cons_succ, List.getElem?_cons_zero]; rfl) (fun K hK => ?_) AllReadyH.nil)
                go_simp
                refine hK.out _ _ (by trivial) (fun hHe5 => ?_)
                clear hK K
                try simp only [Act.put, List.setIfInBounds_toArray, List.set_cons_zero, List.set_cons_succ]
                refine wpAnyH_done (by kernel_rfl) ?_ _
                obtain ⟨av, hav⟩ : ∃ z, (if cs = i + 1 then some (⟨bs, os, none⟩ : Addr) else some ⟨bs, os + (i + 1) * 11, none⟩) = z := ⟨_, rfl⟩
                rw [hav]
                clear hav
                obtain ⟨hbf, hxf, hof⟩ := parts_store (j := 2) HBd.out HXd.out HB00.out HBc.out HO2.out
                have HBF := Lib.hid hbf
                have HXF := Lib.hid hxf
                have hlw : (without hm.srvs i).length = i + (nl - (i + 1)) := by rw [without_len (by rw [HNL.out]; exact hil), HNL.out]
                have hrows : RowsV srvR 11 (w5.setCell ⟨b0, 2, none⟩ (.slice u5 (i + (nl - (i + 1))) t5)) (.slice u5 (i + (nl - (i + 1))) t5) (without hm.srvs i) := rows_ownF (B := wd.heap.size) (e := 82) (by rw [hlw, ← flat_without]; exact hof) srvR_len
                have HIF := Lib.hid (HisAt.srvsTo (HA.out.below HBF.out) hrows (by omega) (fun x hx => (HA.out.below HBF.out).srv x (without_sub hx)))
                have HSF : Hid (({ hm with srvs := without hm.srvs i } : HisM).Small) := Lib.hid (Small.srvs HSM.out (by omega) (fun x hx => HSM.out.srvs x (without_sub hx)))
                have HNF := Lib.hid (parts_srv HC0.out i)
                obtain ⟨wf, hwf⟩ : ∃ z, (w5.setCell ⟨b0, 2, none⟩ (.slice u5 (i + (nl - (i + 1))) t5)) = z := ⟨_, rfl⟩
                rw [hwf] at HBF HXF HIF ⊢
                clear hwf hbf hxf hof hrows hlw c5 f5 hz5 i1 i1d i2 i3 i4 i5 i6 i7 i8 i9
                have x0 := HXF.out.cell (i := 0) rfl
                have x1 := HXF.out.cell (i := 1) rfl
                have x2 := HXF.out.cell (i := 2) rfl
                have x3 := HXF.out.cell (i := 3) rfl
                have x4 := HXF.out.cell (i := 4) rfl
                have x5 := HXF.out.cell (i := 5) rfl
                have x6 := HXF.out.cell (i := 6) rfl
                go_wp2_with fail
                refine (Hy.check_any ({ hm with srvs := without hm.srvs i } : HisM) va vb (.slice u5 (i + (nl - (i + 1))) t5) vd ve 1048576 _ (HRY.out.below HBF.out) (HPW.out.below HBF.out) HIF.out HSF.out (by decide)).mono ?_
                rintro e w9 ⟨v9, rfl, ho9, hb9⟩
                rw [HNF.out] at ho9
                obtain ⟨a9, c9, rfl, _⟩ := ho9.form
                have HB9 := Lib.hid (HBF.out.trans (hb9.mono HBF.out.size))
                clear ho9 hb9 x0 x1 x2 x3 x4 x5 x6
                go_wp2_with fail
                go_ret
                exact ⟨rfl, HB9.out⟩
              · go_simp
                refine hK.out _ _ (by trivial) (fun hHe2 => ?_)
                clear hK K
                try simp only [Act.put, List.setIfInBounds_toArray, List.set_cons_zero, List.set_cons_succ]
                refine Hd.tk 10 ?_
                try simp only [Act.put, List.setIfInBounds_toArray, List.set_cons_zero, List.set_cons_succ]
                refine wpAnyH_ready (rs := [5]) (by kernel_rfl) (by simp) (AllReadyH.cons (by simp only [List.getElem?_toArray, List.getElem?_cons_succ, List.getElem?_cons_zero]; rfl) (fun K hK => ?_) AllReadyH.nil)
                refine step_appB tySrv (by rfl) _ _ (by rfl) wd.heap.size (.slice (some ⟨wd.heap.size, 0, none⟩) 0 0) 0 [] (by rfl) HO0.out HBa.out.size (.slice (some ⟨bs, os, none⟩) i cs) i ((hm.srvs.take i).flatMap srvR) (by rfl) (rows_pre (HId.out.below HBa.out).srvs srvR_len (by decide) (by have := HNL.out; omega)) (by rw [flat_len srvR_len, List.length_take, HNL.out, Nat.min_eq_left (by omega)]) (one_srv (fun s hs => HI3.out.srv s (List.mem_of_mem_take hs))) (by omega) ?_
                intro v4 w4 ho4 hg4 hl4
                rw [Nat.zero_add, List.nil_append] at ho4
                have HO1 := Lib.hid ho4
                have HBb := Lib.hid (HBa.out.grown hg4 HBa.out.size (fun q hq => (HO0.out.lt q hq).1))
                obtain ⟨u4, t4, rfl, _⟩ := ho4.form
                clear ho4 hg4 hl4 HO0 ca
                have cb4 := (HXd.out.older HBb.out).cell (i := 2) rfl
                refine hK.out _ _ (by trivial) (fun hHe3 => ?_)
                clear hK K
                try simp only [Act.put, List.setIfInBounds_toArray, List.set_cons_zero, List.set_cons_succ]
                refine wpAnyH_ready (rs := [11]) (by kernel_rfl) (by simp) (AllReadyH.cons (by simp only [List.getElem?_toArray, List.getElem?_cons_succ, List.getElem?_cons_zero]; rfl) (fun K hK => ?_) AllReadyH.nil)
                refine step_appB tySrv (by rfl) _ _ (by rfl) wd.heap.size (.slice u4 i t4) i _ (by rfl) HO1.out HBb.out.size (.slice (if cs = i + 1 then some ⟨bs, os, none⟩ else some ⟨bs, os + (i + 1) * 11, none⟩) (nl - (i + 1)) (cs - (i + 1))) (nl - (i + 1)) ((hm.srvs.drop (i + 1)).flatMap srvR) (by rfl) (rows_sufI (HId.out.below HBb.out).srvs srvR_len (by decide) HNL.out.symm (by have := HNL.out; omega) hcs rfl) (by rw [flat_len srvR_len, List.length_drop, HNL.out]) (one_srv (fun s hs => HI3.out.srv s (List.mem_of_mem_drop hs))) (by omega) ?_
                intro v5 w5 ho5 hg5 hl5
                have HO2 := Lib.hid ho5
                have HBc := Lib.hid (HBb.out.grown hg5 HBb.out.size (fun q hq => (HO1.out.lt q hq).1))
                obtain ⟨u5, t5, rfl, _⟩ := ho5.form
                clear ho5 hg5 hl5 HO1 cb4
                have hz5 := (HXd.out.older HBc.out).lt
                have f5 := (HXd.out.older HBc.out).frz 2
                have c5 := (HXd.out.older HBc.out).cell (i := 2) rfl
                refine hK.out _ _ (by trivial) (fun hHe4 => ?_)
                clear hK K
                try simp only [Act.put, List.setIfInBounds_toArray, List.set_cons_zero, List.set_cons_succ]
                refine Hd.tk 12 ?_
                try simp only [Act.put, List.setIfInBounds_toArray, List.set_cons_zero, List.set_cons_succ]
                refine wpAnyH_ready (rs := [13]) (by kernel_rfl) (by simp) (AllReadyH.cons (by simp only [List.getElem?_toArray, List.getElem?_cons_succ, List.getElem?_cons_zero]; rfl) (fun K hK => ?_) AllReadyH.nil)
                go_simp
                refine hK.out _ _ (by trivial) (fun hHe5 => ?_)
                clear hK K
                try simp only [Act.put, List.setIfInBounds_toArray, List.set_cons_zero, List.set_cons_succ]
                refine wpAnyH_done (by kernel_rfl) ?_ _
                obtain ⟨av, hav⟩ : ∃ z, (if cs = i + 1 then some (⟨bs, os, none⟩ : Addr) else some ⟨bs, os + (i + 1) * 11, none⟩) = z := ⟨_, rfl⟩
                rw [hav]
                clear hav
                obtain ⟨hbf, hxf, hof⟩ := parts_store (j := 2) HBd.out HXd.out HB00.out HBc.out HO2.out
                have HBF := Lib.hid hbf
                have HXF := Lib.hid hxf
                have hlw : (without hm.srvs i).length = i + (nl - (i + 1)) := by rw [without_len (by rw [HNL.out]; exact hil), HNL.out]
                have hrows : RowsV srvR 11 (w5.setCell ⟨b0, 2, none⟩ (.slice u5 (i + (nl - (i + 1))) t5)) (.slice u5 (i + (nl - (i + 1))) t5) (without hm.srvs i) := rows_ownF (B := wd.heap.size) (e := 82) (by rw [hlw, ← flat_without]; exact hof) srvR_len
                have HIF := Lib.hid (HisAt.srvsTo (HA.out.below HBF.out) hrows (by omega) (fun x hx => (HA.out.below HBF.out).srv x (without_sub hx)))
                have HSF : Hid (({ hm with srvs := without hm.srvs i } : HisM).Small) := Lib.hid (Small.srvs HSM.out (by omega) (fun x hx => HSM.out.srvs x (without_sub hx)))
                have HNF := Lib.hid (parts_srv HC0.out i)
                obtain ⟨wf, hwf⟩ : ∃ z, (w5.setCell ⟨b0, 2, none⟩ (.slice u5 (i + (nl - (i + 1))) t5)) = z := ⟨_, rfl⟩
                rw [hwf] at HBF HXF HIF ⊢
                clear hwf hbf hxf hof hrows hlw c5 f5 hz5 i1 i1d i2 i3 i4 i5 i6 i7 i8 i9
                have x0 := HXF.out.cell (i := 0) rfl
                have x1 := HXF.out.cell (i := 1) rfl
                have x2 := HXF.out.cell (i := 2) rfl
                have x3 := HXF.out.cell (i := 3) rfl
                have x4 := HXF.out.cell (i := 4) rfl
                have x5 := HXF.out.cell (i := 5) rfl
                have x6 := HXF.out.cell (i := 6) rfl
                go_wp2_with fail
                refine (Hy.check_any ({ hm with srvs := without hm.srvs i } : HisM) va vb (.slice u5 (i + (nl - (i + 1))) t5) vd ve 1048576 _ (HRY.out.below HBF.out) (HPW.out.below HBF.out) HIF.out HSF.out (by decide)).mono ?_
                rintro e w9 ⟨v9, rfl, ho9, hb9⟩
                rw [HNF.out] at ho9
                obtain ⟨a9, c9, rfl, _⟩ := ho9.form
                have HB9 := Lib.hid (HBF.out.trans (hb9.mono HBF.out.size))
                clear ho9 hb9 x0 x1 x2 x3 x4 x5 x6
                go_wp2_with fail
                go_ret
                exact ⟨rfl, HB9.out⟩
            · go_simp
              refine hK.out _ _ (by trivial) (fun hHe1 => ?_)
              clear hK K
              try simp only [Act.put, List.setIfInBounds_toArray, List.set_cons_zero, List.set_cons_succ]
              refine Hd.tk 10 ?_
              try simp only [Act.put, List.setIfInBounds_toArray, List.set_cons_zero, List.set_cons_succ]
              refine wpAnyH_ready (rs := [2]) (by kernel_rfl) (by simp) (AllReadyH.cons (by simp only [List.getElem?_toArray, List.getElem?_cons_succ, List.getElem?_cons_zero]; rfl) (fun K hK => ?_) AllReadyH.nil)
              go_simp
              refine hK.out _ _ (by trivial) (fun hHe2 => ?_)
              clear hK K
              try simp only [Act.put, List.setIfInBounds_toArray, List.set_cons_zero, List.set_cons_succ]
              refine Hd.tk 4 ?_
              try simp only [Act.put, List.setIfInBounds_toArray, List.set_cons_zero, List.set_cons_succ]
              refine wpAnyH_ready (rs := [5]) (by kernel_rfl) (by simp) (AllReadyH.cons (by simp only [List.getElem?_toArray, List.getElem?_cons_succ, List.getElem?_cons_zero]; rfl) (fun K hK => ?_) AllReadyH.nil)
              refine step_appB tySrv (by rfl) _ _ (by rfl) wd.heap.size (.slice (some ⟨wd.heap.size, 0, none⟩) 0 0) 0 [] (by rfl) HO0.out HBa.out.size (.slice (some ⟨bs, os, none⟩) i cs) i ((hm.srvs.take i).flatMap srvR) (by rfl) (rows_pre (HId.out.below HBa.out).srvs srvR_len (by decide) (by have := HNL.out; omega)) (by rw [flat_len srvR_len, List.length_take, HNL.out, Nat.min_eq_left (by omega)]) (one_srv (fun s hs => HI3.out.srv s (List.mem_of_mem_take hs))) (by omega) ?_
              intro v4 w4 ho4 hg4 hl4
              rw [Nat.zero_add, List.nil_append] at ho4
              have HO1 := Lib.hid ho4
              have HBb := Lib.hid (HBa.out.grown hg4 HBa.out.size (fun q hq => (HO0.out.lt q hq).1))
              obtain ⟨u4, t4, rfl, _⟩ := ho4.form
              clear ho4 hg4 hl4 HO0 ca
              have cb4 := (HXd.out.older HBb.out).cell (i := 2) rfl
              refine hK.out _ _ (by trivial) (fun hHe3 => ?_)
              clear hK K
              try simp only [Act.put, List.setIfInBounds_toArray, List.set_cons_zero, List.set_cons_succ]
              refine wpAnyH_ready (rs := [11]) (by kernel_rfl) (by simp) (AllReadyH.cons (by simp only [List.getElem?_toArray, List.getElem?_cons_succ, List.getElem?_cons_zero]; rfl) (fun K hK => ?_) AllReadyH.nil)
              refine step_appB tySrv (by rfl) _ _ (by rfl) wd.heap.size (.slice u4 i t4) i _ (by rfl) HO1.out HBb.out.size (.slice (if cs = i + 1 then some ⟨bs, os, none⟩ else some ⟨bs, os + (i + 1) * 11, none⟩) (nl - (i + 1)) (cs - (i + 1))) (nl - (i + 1)) ((hm.srvs.drop (i + 1)).flatMap srvR) (by rfl) (rows_sufI (HId.out.below HBb.out).srvs srvR_len (by decide) HNL.out.symm (by have := HNL.out; omega) hcs rfl) (by rw [flat_len srvR_len, List.length_drop, HNL.out]) (one_srv (fun s hs => HI3.out.srv s (List.mem_of_mem_drop hs))) (by omega) ?_
              intro v5 w5 ho5 hg5 hl5
              have HO2 := Lib.hid ho5
              have HBc := Lib.hid (HBb.out.grown hg5 HBb.out.size (fun q hq => (HO1.out.lt q hq).1))
              obtain ⟨u5, t5, rfl, _⟩ := ho5.form
              clear ho5 hg5 hl5 HO1 cb4
              have hz5 := (HXd.out.older HBc.out).lt
              have f5 := (HXd.out.older HBc.out).frz 2
              have c5 := (HXd.out.older HBc.out).cell (i := 2) rfl
              refine hK.out _ _ (by trivial) (fun hHe4 => ?_)
              clear hK K
              try simp only [Act.put, List.setIfInBounds_toArray, List.set_cons_zero, List.set_cons_succ]
              refine Hd.tk 12 ?_
              try simp only [Act.put, List.setIfInBounds_toArray, List.set_cons_zero, List.set_cons_succ]
              refine wpAnyH_ready (rs := [13]) (by kernel_rfl) (by simp) (AllReadyH.cons (by simp only [List.getElem?_toArray, List.getElem?_cons_succ, List.getElem?_cons_zero]; rfl) (fun K hK => ?_) AllReadyH.nil)
              go_simp
              refine hK.out _ _ (by trivial) (fun hHe5 => ?_)
              clear hK K
              try simp only [Act.put, List.setIfInBounds_toArray, List.set_cons_zero, List.set_cons_succ]
              refine wpAnyH_done (by kernel_rfl) ?_ _
              obtain ⟨av, hav⟩ : ∃ z, (if cs = i + 1 then some (⟨bs, os, none⟩ : Addr) else some ⟨bs, os + (i + 1) * 11, none⟩) = z := ⟨_, rfl⟩
              rw [hav]
              clear hav
              obtain ⟨hbf, hxf, hof⟩ := parts_store (j := 2) HBd.out HXd.out HB00.out HBc.out HO2.out
              have HBF := Lib.hid hbf
              have HXF := Lib.hid hxf
              have hlw : (without hm.srvs i).length = i + (nl - (i + 1)) := by rw [without_len (by rw [HNL.out]; exact hil), HNL.out]
              have hrows : RowsV srvR 11 (w5.setCell ⟨b0, 2, none⟩ (.slice u5 (i + (nl - (i + 1))) t5)) (.slice u5 (i + (nl - (i + 1))) t5) (without hm.srvs i) := rows_ownF (B := wd.heap.size) (e := 82) (by rw [hlw, ← flat_without]; exact hof) srvR_len
              have HIF := Lib.hid (HisAt.srvsTo (HA.out.below HBF.out) hrows (by omega) (fun x hx => (HA.out.below HBF.out).srv x (without_sub hx)))
              have HSF : Hid (({ hm with srvs := without hm.srvs i } : HisM).Small) := Lib.hid (Small.srvs HSM.out (by omega) (fun x hx => HSM.out.srvs x (without_sub hx)))
              have HNF := Lib.hid (parts_srv HC0.out i)
              obtain ⟨wf, hwf⟩ : ∃ z, (w5.setCell ⟨b0, 2, none⟩ (.slice u5 (i + (nl - (i + 1))) t5)) = z := ⟨_, rfl⟩
              rw [hwf] at HBF HXF HIF ⊢
              clear hwf hbf hxf hof hrows hlw c5 f5 hz5 i1 i1d i2 i3 i4 i5 i6 i7 i8 i9
              have x0 := HXF.out.cell (i := 0) rfl
              have x1 := HXF.out.cell (i := 1) rfl
              have x2 := HXF.out.cell (i := 2) rfl
              have x3 := HXF.out.cell (i := 3) rfl
              have x4 := HXF.out.cell (i := 4) rfl
              have x5 := HXF.out.cell (i := 5) rfl
              have x6 := HXF.out.cell (i := 6) rfl
              go_wp2_with fail
              refine (Hy.check_any ({ hm with srvs := without hm.srvs i } : HisM) va vb (.slice u5 (i + (nl - (i + 1))) t5) vd ve 1048576 _ (HRY.out.below HBF.out) (HPW.out.below HBF.out) HIF.out HSF.out (by decide)).mono ?_
              rintro e w9 ⟨v9, rfl, ho9, hb9⟩
              rw [HNF.out] at ho9
              obtain ⟨a9, c9, rfl, _⟩ := ho9.form
              have HB9 := Lib.hid (HBF.out.trans (hb9.mono HBF.out.size))
              clear ho9 hb9 x0 x1 x2 x3 x4 x5 x6
              go_wp2_with fail
              go_ret
              exact ⟨rfl, HB9.out⟩
          · go_simp
            refine hK.out _ _ (by trivial) (fun hHe0 => ?_)
            clear hK K
            try simp only [Act.put, List.setIfInBounds_toArray, List.set_cons_zero, List.set_cons_succ]
            refine Hd.tk 4 ?_
            try simp only [Act.put, List.setIfInBounds_toArray, List.set_cons_zero, List.set_cons_succ]
            refine wpAnyH_ready (rs := [0, 7]) (by kernel_rfl) (by simp) (AllReadyH.cons (by simp only [List.getElem?_toArray, List.getElem?_cons_succ, List.getElem?_cons_zero]; rfl) (fun K hK => ?_) (AllReadyH.cons (by simp only [List.getElem?_toArray, List.getElem?_cons_succ, List.getElem?_cons_zero]; rfl) (fun K hK => ?_) AllReadyH.nil))
            · go_simp
              have HO0 := Lib.hid (show OwnWin (wd.alloc (.cells #[] 82)) wd.heap.size 82 11 (.slice (some ⟨wd.heap.size, 0, none⟩) 0 0) 0 [] from ownK_empty (heap_alloc_new wd _) (Nat.le_refl _))
              have HBa := Lib.hid ((Below.refl wd.heap.size wd).alloc (Nat.le_refl _) (.cells #[] 82))
              obtain ⟨wa, hwa⟩ : ∃ z, wd.alloc (.cells #[] 82) = z := ⟨_, rfl⟩
              rw [hwa] at HO0 HBa ⊢
              clear hwa c2
              have ca := (HXd.out.older HBa.out).cell (i := 2) rfl
              refine hK.out _ _ (by trivial) (fun hHe1 => ?_)
              clear hK K
              try simp only [Act.put, List.setIfInBounds_toArray, List.set_cons_zero, List.set_cons_succ]
              refine wpAnyH_ready (rs := [5, 7]) (by kernel_rfl) (by simp) (AllReadyH.cons (by simp only [List.getElem?_toArray, List.getElem?_cons_succ, List.getElem?_cons_zero]; rfl) (fun K hK => ?_) (AllReadyH.cons (by simp only [List.getElem?_toArray, List.getElem?_cons_succ, List.getElem?_cons_zero]; rfl) (fun K hK => ?_) AllReadyH.nil))
              · refine step_appB tySrv (by rfl) _ _ (by rfl) wd.heap.size (.slice (some ⟨wd.heap.size, 0, none⟩) 0 0) 0 [] (by rfl) HO0.out HBa.out.size (.slice (some ⟨bs, os, none⟩) i cs) i ((hm.srvs.take i).flatMap srvR) (by rfl) (rows_pre (HId.out.below HBa.out).srvs srvR_len (by decide) (by have := HNL.out; omega)) (by rw [flat_len srvR_len, List.length_take, HNL.out, Nat.min_eq_left (by omega)]) (one_srv (fun s hs => HI3.out.srv s (List.mem_of_mem_take hs))) (by omega) ?_
                intro v4 w4 ho4 hg4 hl4
                rw [Nat.zero_add, List.nil_append] at ho4
                have HO1 := Lib.hid ho4
                have HBb := Lib.hid (HBa.out.grown hg4 HBa.out.size (fun q hq => (HO0.out.lt q hq).1))
                obtain ⟨u4, t4, rfl, _⟩ := ho4.form
                clear ho4 hg4 hl4 HO0 ca
                have cb4 := (HXd.out.older HBb.out).cell (i := 2) rfl
                refine hK.out _ _ (by trivial) (fun hHe2 => ?_)
                clear hK K
                try simp only [Act.put, List.setIfInBounds_toArray, List.set_cons_zero, List.set_cons_succ]
                refine wpAnyH_ready (rs := [7]) (by kernel_rfl) (by simp) (AllReadyH.cons (by simp only [List.getElem?_toArray, List.getElem?_cons_succ, List.getElem?_cons_zero]; rfl) (fun K hK => ?_) AllReadyH.nil)
                go_simp
                refine hK.out _ _ (by trivial) (fun hHe3 => ?_)
                clear hK K
                try simp only [Act.put, List.setIfInBounds_toArray, List.set_cons_zero, List.set_cons_succ]
                refine Hd.tk 10 ?_
                try simp only [Act.put, List.setIfInBounds_toArray, List.set_cons_zero, List.set_cons_succ]
                refine wpAnyH_ready (rs := [11]) (by kernel_rfl) (by simp) (AllReadyH.cons (by simp only [List.getElem?_toArray, List.getElem?_cons_succ, List.getElem?_cons_zero]; rfl) (fun K hK => ?_) AllReadyH.nil)
                refine step_appB tySrv (by rfl) _ _ (by rfl) wd.heap.size (.slice u4 i t4) i _ (by rfl) HO1.out HBb.out.size (.slice (if cs = i + 1 then some ⟨bs, os, none⟩ else some ⟨bs, os + (i + 1) * 11, none⟩) (nl - (i + 1)) (cs - (i + 1))) (nl - (i + 1)) ((hm.srvs.drop (i + 1)).flatMap srvR) (by rfl) (rows_sufI (HId.out.below HBb.out).srvs srvR_len (by decide) HNL.out.symm (by have := HNL.out; omega) hcs rfl) (by rw [flat_len srvR_len, List.length_drop, HNL.out]) (one_srv (fun s hs => HI3.out.srv s (List.mem_of_mem_drop hs))) (by omega) ?_
                intro v5 w5 ho5 hg5 hl5
                have HO2 := Lib.hid ho5
                have HBc := Lib.hid (HBb.out.grown hg5 HBb.out.size (fun q hq => (HO1.out.lt q hq).1))
                obtain ⟨u5, t5, rfl, _⟩ := ho5.form
                clear ho5 hg5 hl5 HO1 cb4
                have hz5 := (HXd.out.older HBc.out).lt
                have f5 := (HXd.out.older HBc.out).frz 2
                have c5 := (HXd.out.older HBc.out).cell (i := 2) rfl
                refine hK.out _ _ (by trivial) (fun hHe4 => ?_)
                clear hK K
                try simp only [Act.put, List.setIfInBounds_toArray, List.set_cons_zero, List.set_cons_succ]
                refine Hd.tk 12 ?_
                try simp only [Act.put, List.setIfInBounds_toArray, List.set_cons_zero, List.set_cons_succ]
                refine wpAnyH_ready (rs := [13]) (by kernel_rfl) (by simp) (AllReadyH.cons (by simp only [List.getElem?_toArray, List.getElem?_cons_succ, List.getElem?_cons_zero]; rfl) (fun K hK => ?_) AllReadyH.nil)
                go_simp
                refine hK.out _ _ (by trivial) (fun hHe5 => ?_)
                clear hK K
                try simp only [Act.put, List.setIfInBounds_toArray, List.set_cons_zero, List.set_cons_succ]
                refine wpAnyH_done (by kernel_rfl) ?_ _
                obtain ⟨av, hav⟩ : ∃ z, (if cs = i + 1 then some (⟨bs, os, none⟩ : Addr) else some ⟨bs, os + (i + 1) * 11, none⟩) = z := ⟨_, rfl⟩
                rw [hav]
                clear hav
                obtain ⟨hbf, hxf, hof⟩ := parts_store (j := 2) HBd.out HXd.out HB00.out HBc.out HO2.out
                have HBF := Lib.hid hbf
                have HXF := Lib.hid hxf
                have hlw : (without hm.srvs i).length = i + (nl - (i + 1)) := by rw [without_len (by rw [HNL.out]; exact hil), HNL.out]
                have hrows : RowsV srvR 11 (w5.setCell ⟨b0, 2, none⟩ (.slice u5 (i + (nl - (i + 1))) t5)) (.slice u5 (i + (nl - (i + 1))) t5) (without hm.srvs i) := rows_ownF (B := wd.heap.size) (e := 82) (by rw [hlw, ← flat_without]; exact hof) srvR_len
                have HIF := Lib.hid (HisAt.srvsTo (HA.out.below HBF.out) hrows (by omega) (fun x hx => (HA.out.below HBF.out).srv x (without_sub hx)))
                have HSF : Hid (({ hm with srvs := without hm.srvs i } : HisM).Small) := Lib.hid (Small.srvs HSM.out (by omega) (fun x hx => HSM.out.srvs x (without_sub hx)))
                have HNF := Lib.hid (parts_srv HC0.out i)
                obtain ⟨wf, hwf⟩ : ∃ z, (w5.setCell ⟨b0, 2, none⟩ (.slice u5 (i + (nl - (i + 1))) t5)) = z := ⟨_, rfl⟩
                rw [hwf] at HBF HXF HIF ⊢
                clear hwf hbf hxf hof hrows hlw c5 f5 hz5 i1 i1d i2 i3 i4 i5 i6 i7 i8 i9
                have x0 := HXF.out.cell (i := 0) rfl
                have x1 := HXF.out.cell (i := 1) rfl
                have x2 := HXF.out.cell (i := 2) rfl
                have x3 := HXF.out.cell (i := 3) rfl
                have x4 := HXF.out.cell (i := 4) rfl
                have x5 := HXF.out.cell (i := 5) rfl
                have x6 := HXF.out.cell (i := 6) rfl
                go_wp2_with fail
                refine (Hy.check_any ({ hm with srvs := without hm.srvs i } : HisM) va vb (.slice u5 (i + (nl - (i + 1))) t5) vd ve 1048576 _ (HRY.out.below HBF.out) (HPW.out.below HBF.out) HIF.out HSF.out (by decide)).mono ?_
                rintro e w9 ⟨v9, rfl, ho9, hb9⟩
                rw [HNF.out] at ho9
                obtain ⟨a9, c9, rfl, _⟩ := ho9.form
                have HB9 := Lib.hid (HBF.out.trans (hb9.mono HBF.out.size))
                clear ho9 hb9 x0 x1 x2 x3 x4 x5 x6
                go_wp2_with fail
                go_ret
                exact ⟨rfl, HB9.out⟩
              · go_simp
                refine hK.out _ _ (by trivial) (fun hHe2 => ?_)
                clear hK K
                try simp only [Act.put, List.setIfInBounds_toArray, List.set_cons_zero, List.set_cons_succ]
                refine Hd.tk 10 ?_
                try simp only [Act.put, List.setIfInBounds_toArray, List.set_cons_zero, List.set_cons_succ]
                refine wpAnyH_ready (rs := [5]) (by kernel_rfl) (by simp) (AllReadyH.cons (by simp only [List.getElem?_toArray, List.getElem?_cons_succ, List.getElem?_cons_zero]; rfl) (fun K hK => ?_) AllReadyH.nil)
                refine step_appB tySrv (by rfl) _ _ (by rfl) wd.heap.size (.slice (some ⟨wd.heap.size, 0, none⟩) 0 0) 0 [] (by rfl) HO0.out HBa.out.size (.slice (some ⟨bs, os, none⟩) i cs) i ((hm.srvs.take i).flatMap srvR) (by rfl) (rows_pre (HId.out.below HBa.out).srvs srvR_len (by decide) (by have := HNL.out; omega)) (by rw [flat_len srvR_len, List.length_take, HNL.out, Nat.min_eq_left (by omega)]) (one_srv (fun s hs => HI3.out.srv s (List.mem_of_mem_take hs))) (by omega) ?_
                intro v4 w4 ho4 hg4 hl4
                rw [Nat.zero_add, List.nil_append] at ho4
                have HO1 := Lib.hid ho4
                have HBb := Lib.hid (HBa.out.grown hg4 HBa.out.size (fun q hq => (HO0.out.lt q hq).1))
                obtain ⟨u4, t4, rfl, _⟩ := ho4.form
                clear ho4 hg4 hl4 HO0 ca
                have cb4 := (HXd.out.older HBb.out).cell (i := 2) rfl
                refine hK.out _ _ (by trivial) (fun hHe3 => ?_)
                clear hK K
                try simp only [Act.put, List.setIfInBounds_toArray, List.set_cons_zero, List.set_cons_succ]
                refine wpAnyH_ready (rs := [11]) (by kernel_rfl) (by simp) (AllReadyH.cons (by simp only [List.getElem?_toArray, List.getElem?_cons_succ, List.getElem?_cons_zero]; rfl) (fun K hK => ?_) AllReadyH.nil)
                refine step_appB tySrv (by rfl) _ _ (by rfl) wd.heap.size (.slice u4 i t4) i _ (by rfl) HO1.out HBb.out.size (.slice (if cs = i + 1 then some ⟨bs, os, none⟩ else some ⟨bs, os + (i + 1) * 11, none⟩) (nl - (i + 1)) (cs - (i + 1))) (nl - (i + 1)) ((hm.srvs.drop (i + 1)).flatMap srvR) (by rfl) (rows_sufI (HId.out.below HBb.out).srvs srvR_len (by decide) HNL.out.symm (by have := HNL.out; omega) hcs rfl) (by rw [flat_len srvR_len, List.length_drop, HNL.out]) (one_srv (fun s hs => HI3.out.srv s (List.mem_of_mem_drop hs))) (by omega) ?_
                intro v5 w5 ho5 hg5 hl5
                have HO2 := Lib.hid ho5
                have HBc := Lib.hid (HBb.out.grown hg5 HBb.out.size (fun q hq => (HO1.out.lt q hq).1))
                obtain ⟨u5, t5, rfl, _⟩ := ho5.form
                clear ho5 hg5 hl5 HO1 cb4
                have hz5 := (HXd.out.older HBc.out).lt
                have f5 := (HXd.out.older HBc.out).frz 2
                have c5 := (HXd.out.older HBc.out).cell (i := 2) rfl
                refine hK.out _ _ (by trivial) (fun hHe4 => ?_)
                clear hK K
                try simp only [Act.put, List.setIfInBounds_toArray, List.set_cons_zero, List.set_cons_succ]
                refine Hd.tk 12 ?_
                try simp only [Act.put, List.setIfInBounds_toArray, List.set_cons_zero, List.set_cons_succ]
                refine wpAnyH_ready (rs := [13]) (by kernel_rfl) (by simp) (AllReadyH.cons (by simp only [List.getElem?_toArray, List.getElem?_cons_succ, List.getElem?_cons_zero]; rfl) (fun K hK => ?_) AllReadyH.nil)
                go_simp
                refine hK.out _ _ (by trivial) (fun hHe5 => ?_)
                clear hK K
                try simp only [Act.put, List.setIfInBounds_toArray, List.set_cons_zero, List.set_cons_succ]
                refine wpAnyH_done (by kernel_rfl) ?_ _
                obtain ⟨av, hav⟩ : ∃ z, (if cs = i + 1 then some (⟨bs, os, none⟩ : Addr) else some ⟨bs, os + (i + 1) * 11, none⟩) = z := ⟨_, rfl⟩
                rw [hav]
                clear hav
                obtain ⟨hbf, hxf, hof⟩ := parts_store (j := 2) HBd.out HXd.out HB00.out HBc.out HO2.out
                have HBF := Lib.hid hbf
                have HXF := Lib.hid hxf
                have hlw : (without hm.srvs i).length = i + (nl - (i + 1)) := by rw [without_len (by rw [HNL.out]; exact hil), HNL.out]
                have hrows : RowsV srvR 11 (w5.setCell ⟨b0, 2, none⟩ (.slice u5 (i + (nl - (i + 1))) t5)) (.slice u5 (i + (nl - (i + 1))) t5) (without hm.srvs i) := rows_ownF (B := wd.heap.size) (e := 82) (by rw [hlw, ← flat_without]; exact hof) srvR_len
                have HIF := Lib.hid (HisAt.srvsTo (HA.out.below HBF.out) hrows (by omega) (fun x hx => (HA.out.below HBF.out).srv x (without_sub hx)))
                have HSF : Hid (({ hm with srvs := without hm.srvs i } : HisM).Small) := Lib.hid (Small.srvs HSM.out (by omega) (fun x hx => HSM.out.srvs x (without_sub hx)))
                have HNF := Lib.hid (parts_srv HC0.out i)
                obtain ⟨wf, hwf⟩ : ∃ z, (w5.setCell ⟨b0, 2, none⟩ (.slice u5 (i + (nl - (i + 1))) t5)) = z := ⟨_, rfl⟩
                rw [hwf] at HBF HXF HIF ⊢
                clear hwf hbf hxf hof hrows hlw c5 f5 hz5 i1 i1d i2 i3 i4 i5 i6 i7 i8 i9
                have x0 := HXF.out.cell (i := 0) rfl
                have x1 := HXF.out.cell (i := 1) rfl
                have x2 := HXF.out.cell (i := 2) rfl
                have x3 := HXF.out.cell (i := 3) rfl
                have x4 := HXF.out.cell (i := 4) rfl
                have x5 := HXF.out.cell (i := 5) rfl
                have x6 := HXF.out.cell (i := 6) rfl
                go_wp2_with fail
                refine (Hy.check_any ({ hm with srvs := without hm.srvs i } : HisM) va vb (.slice u5 (i + (nl - (i + 1))) t5) vd ve 1048576 _ (HRY.out.below HBF.out) (HPW.out.below HBF.out) HIF.out HSF.out (by decide)).mono ?_
                rintro e w9 ⟨v9, rfl, ho9, hb9⟩
                rw [HNF.out] at ho9
                obtain ⟨a9, c9, rfl, _⟩ := ho9.form
                have HB9 := Lib.hid (HBF.out.trans (hb9.mono HBF.out.size))
                clear ho9 hb9 x0 x1 x2 x3 x4 x5 x6
                go_wp2_with fail
                go_ret
                exact ⟨rfl, HB9.out⟩
            · go_simp
              refine hK.out _ _ (by trivial) (fun hHe1 => ?_)
              clear hK K
              try simp only [Act.put, List.setIfInBounds_toArray, List.set_cons_zero, List.set_cons_succ]
              refine Hd.tk 10 ?_
              try simp only [Act.put, List.setIfInBounds_toArray, List.set_cons_zero, List.set_cons_succ]
              refine wpAnyH_ready (rs := [0]) (by kernel_rfl) (by simp) (AllReadyH.cons (by simp only [List.getElem?_toArray, List.getElem?_cons_succ, List.getElem?_cons_zero]; rfl) (fun K hK => ?_) AllReadyH.nil)
              go_simp
              have HO0 := Lib.hid (show OwnWin (wd.alloc (.cells #[] 82)) wd.heap.size 82 11 (.slice (some ⟨wd.heap.size, 0, none⟩) 0 0) 0 [] from ownK_empty (heap_alloc_new wd _) (Nat.le_refl _))
              have HBa := Lib.hid ((Below.refl wd.heap.size wd).alloc (Nat.le_refl _) (.cells #[] 82))
              obtain ⟨wa, hwa⟩ : ∃ z, wd.alloc (.cells #[] 82) = z := ⟨_, rfl⟩
              rw [hwa] at HO0 HBa ⊢
              clear hwa c2
              have ca := (HXd.out.older HBa.out).cell (i := 2) rfl
              refine hK.out _ _ (by trivial) (fun hHe2 => ?_)
              clear hK K
              try simp only [Act.put, List.setIfInBounds_toArray, List.set_cons_zero, List.set_cons_succ]
              refine wpAnyH_ready (rs := [5]) (by kernel_rfl) (by simp) (AllReadyH.cons (by simp only [List.getElem?_toArray, List.getElem?_cons_succ, List.getElem?_cons_zero]; rfl) (fun K hK => ?_) AllReadyH.nil)
              refine step_appB tySrv (by rfl) _ _ (by rfl) wd.heap.size (.slice (some ⟨wd.heap.size, 0, none⟩) 0 0) 0 [] (by rfl) HO0.out HBa.out.size (.slice (some ⟨bs, os, none⟩) i cs) i ((hm.srvs.take i).flatMap srvR) (by rfl) (rows_pre (HId.out.below HBa.out).srvs srvR_len (by decide) (by have := HNL.out; omega)) (by rw [flat_len srvR_len, List.length_take, HNL.out, Nat.min_eq_left (by omega)]) (one_srv (fun s hs => HI3.out.srv s (List.mem_of_mem_take hs))) (by omega) ?_
              intro v4 w4 ho4 hg4 hl4
              rw [Nat.zero_add, List.nil_append] at ho4
              have HO1 := Lib.hid ho4
              have HBb := Lib.hid (HBa.out.grown hg4 HBa.out.size (fun q hq => (HO0.out.lt q hq).1))
              obtain ⟨u4, t4, rfl, _⟩ := ho4.form
              clear ho4 hg4 hl4 HO0 ca
              have cb4 := (HXd.out.older HBb.out).cell (i := 2) rfl
              refine hK.out _ _ (by trivial) (fun hHe3 => ?_)
              clear hK K
              try simp only [Act.put, List.setIfInBounds_toArray, List.set_cons_zero, List.set_cons_succ]
              refine wpAnyH_ready (rs := [11]) (by kernel_rfl) (by simp) (AllReadyH.cons (by simp only [List.getElem?_toArray, List.getElem?_cons_succ, List.getElem?_cons_zero]; rfl) (fun K hK => ?_) AllReadyH.nil)
              refine step_appB tySrv (by rfl) _ _ (by rfl) wd.heap.size (.slice u4 i t4) i _ (by rfl) HO1.out HBb.out.size (.slice (if cs = i + 1 then some ⟨bs, os, none⟩ else some ⟨bs, os + (i + 1) * 11, none⟩) (nl - (i + 1)) (cs - (i + 1))) (nl - (i + 1)) ((hm.srvs.drop (i + 1)).flatMap srvR) (by rfl) (rows_sufI (HId.out.below HBb.out).srvs srvR_len (by decide) HNL.out.symm (by have := HNL.out; omega) hcs rfl) (by rw [flat_len srvR_len, List.length_drop, HNL.out]) (one_srv (fun s hs => HI3.out.srv s (List.mem_of_mem_drop hs))) (by omega) ?_
              intro v5 w5 ho5 hg5 hl5
              have HO2 := Lib.hid ho5
              have HBc := Lib.hid (HBb.out.grown hg5 HBb.out.size (fun q hq => (HO1.out.lt q hq).1))
              obtain ⟨u5, t5, rfl, _⟩ := ho5.form
              clear ho5 hg5 hl5 HO1 cb4
              have hz5 := (HXd.out.older HBc.out).lt
              have f5 := (HXd.out.older HBc.out).frz 2
              have c5 := (HXd.out.older HBc.out).cell (i := 2) rfl
              refine hK.out _ _ (by trivial) (fun hHe4 => ?_)
              clear hK K
              try simp only [Act.put, List.setIfInBounds_toArray, List.set_cons_zero, List.set_cons_succ]
              refine Hd.tk 12 ?_
              try simp only [Act.put, List.setIfInBounds_toArray, List.set_cons_zero, List.set_cons_succ]
              refine wpAnyH_ready (rs := [13]) (by kernel_rfl) (by simp) (AllReadyH.cons (by simp only [List.getElem?_toArray, List.getElem?_cons_succ, List.getElem?_cons_zero]; rfl) (fun K hK => ?_) AllReadyH.nil)
              go_simp
              refine hK.out _ _ (by trivial) (fun hHe5 => ?_)
              clear hK K
              try simp only [Act.put, List.setIfInBounds_toArray, List.set_cons_zero, List.set_cons_succ]
              refine wpAnyH_done (by kernel_rfl) ?_ _
              obtain ⟨av, hav⟩ : ∃ z, (if cs = i + 1 then some (⟨bs, os, none⟩ : Addr) else some ⟨bs, os + (i + 1) * 11, none⟩) = z := ⟨_, rfl⟩
              rw [hav]
              clear hav
              obtain ⟨hbf, hxf, hof⟩ := parts_store (j := 2) HBd.out HXd.out HB00.out HBc.out HO2.out
              have HBF := Lib.hid hbf
              have HXF := Lib.hid hxf
              have hlw : (without hm.srvs i).length = i + (nl - (i + 1)) := by rw [without_len (by rw [HNL.out]; exact hil), HNL.out]
              have hrows : RowsV srvR 11 (w5.setCell ⟨b0, 2, none⟩ (.slice u5 (i + (nl - (i + 1))) t5)) (.slice u5 (i + (nl - (i + 1))) t5) (without hm.srvs i) := rows_ownF (B := wd.heap.size) (e := 82) (by rw [hlw, ← flat_without]; exact hof) srvR_len
              have HIF := Lib.hid (HisAt.srvsTo (HA.out.below HBF.out) hrows (by omega) (fun x hx => (HA.out.below HBF.out).srv x (without_sub hx)))
              have HSF : Hid (({ hm with srvs := without hm.srvs i } : HisM).Small) := Lib.hid (Small.srvs HSM.out (by omega) (fun x hx => HSM.out.srvs x (without_sub hx)))
              have HNF := Lib.hid (parts_srv HC0.out i)
              obtain ⟨wf, hwf⟩ : ∃ z, (w5.setCell ⟨b0, 2, none⟩ (.slice u5 (i + (nl - (i + 1))) t5)) = z := ⟨_, rfl⟩
              rw [hwf] at HBF HXF HIF ⊢
              clear hwf hbf hxf hof hrows hlw c5 f5 hz5 i1 i1d i2 i3 i4 i5 i6 i7 i8 i9
              have x0 := HXF.out.cell (i := 0) rfl
              have x1 := HXF.out.cell (i := 1) rfl
              have x2 := HXF.out.cell (i := 2) rfl
              have x3 := HXF.out.cell (i := 3) rfl
              have x4 := HXF.out.cell (i := 4) rfl
              have x5 := HXF.out.cell (i := 5) rfl
              have x6 := HXF.out.cell (i := 6) rfl
              go_wp2_with fail
              refine (Hy.check_any ({ hm with srvs := without hm.srvs i } : HisM) va vb (.slice u5 (i + (nl - (i + 1))) t5) vd ve 1048576 _ (HRY.out.below HBF.out) (HPW.out.below HBF.out) HIF.out HSF.out (by decide)).mono ?_
              rintro e w9 ⟨v9, rfl, ho9, hb9⟩
              rw [HNF.out] at ho9
              obtain ⟨a9, c9, rfl, _⟩ := ho9.form
              have HB9 := Lib.hid (HBF.out.trans (hb9.mono HBF.out.size))
              clear ho9 hb9 x0 x1 x2 x3 x4 x5 x6
              go_wp2_with fail
              go_ret
              exact ⟨rfl, HB9.out⟩
          · go_simp
            refine hK.out _ _ (by trivial) (fun hHe0 => ?_)
            clear hK K
            try simp only [Act.put, List.setIfInBounds_toArray, List.set_cons_zero, List.set_cons_succ]
            refine Hd.tk 10 ?_
            try simp only [Act.put, List.setIfInBounds_toArray, List.set_cons_zero, List.set_cons_succ]
            refine wpAnyH_ready (rs := [0, 2]) (by kernel_rfl) (by simp) (AllReadyH.cons (by simp only [List.getElem?_toArray, List.getElem?_cons_succ, List.getElem?_cons_zero]; rfl) (fun K hK => ?_) (AllReadyH.cons (by simp only [List.getElem?_toArray, List.getElem?_cons_succ, List.getElem?_cons_zero]; rfl) (fun K hK => ?_) AllReadyH.nil))
            · go_simp
              have HO0 := Lib.hid (show OwnWin (wd.alloc (.cells #[] 82)) wd.heap.size 82 11 (.slice (some ⟨wd.heap.size, 0, none⟩) 0 0) 0 [] from ownK_empty (heap_alloc_new wd _) (Nat.le_refl _))
              have HBa := Lib.hid ((Below.refl wd.heap.size wd).alloc (Nat.le_refl _) (.cells #[] 82))
              obtain ⟨wa, hwa⟩ : ∃ z, wd.alloc (.cells #[] 82) = z := ⟨_, rfl⟩
              rw [hwa] at HO0 HBa ⊢
              clear hwa c2
              have ca := (HXd.out.older HBa.out).cell (i := 2) rfl
              refine hK.out _ _ (by trivial) (fun hHe1 => ?_)
              clear hK K
              try simp only [Act.put, List.setIfInBounds_toArray, List.set_cons_zero, List.set_cons_succ]
              refine wpAnyH_ready (rs := [2]) (by kernel_rfl) (by simp) (AllReadyH.cons (by simp only [List.getElem?_toArray, List.getElem?_cons_succ, List.getElem?_cons_zero]; rfl) (fun K hK => ?_) AllReadyH.nil)
              go_simp
              refine hK.out _ _ (by trivial) (fun hHe2 => ?_)
              clear hK K
              try simp only [Act.put, List.setIfInBounds_toArray, List.set_cons_zero, List.set_cons_succ]
              refine Hd.tk 4 ?_
              try simp only [Act.put, List.setIfInBounds_toArray, List.set_cons_zero, List.set_cons_succ]
              refine wpAnyH_ready (rs := [5]) (by kernel_rfl) (by simp) (AllReadyH.cons (by simp only [List.getElem?_toArray, List.getElem?_cons_succ, List.getElem?_cons_zero]; rfl) (fun K hK => ?_) AllReadyH.nil)
              refine step_appB tySrv (by rfl) _ _ (by rfl) wd.heap.size (.slice (some ⟨wd.heap.size, 0, none⟩) 0 0) 0 [] (by rfl) HO0.out HBa.out.size (.slice (some ⟨bs, os, none⟩) i cs) i ((hm.srvs.take i).flatMap srvR) (by rfl) (rows_pre (HId.out.below HBa.out).srvs srvR_len (by decide) (by have := HNL.out; omega)) (by rw [flat_len srvR_len, List.length_take, HNL.out, Nat.min_eq_left (by omega)]) (one_srv (fun s hs => HI3.out.srv s (List.mem_of_mem_take hs))) (by omega) ?_
              intro v4 w4 ho4 hg4 hl4
              rw [Nat.zero_add, List.nil_append] at ho4
              have HO1 := Lib.hid ho4
              have HBb := Lib.hid (HBa.out.grown hg4 HBa.out.size (fun q hq => (HO0.out.lt q hq).1))
              obtain ⟨u4, t4, rfl, _⟩ := ho4.form
              clear ho4 hg4 hl4 HO0 ca
              have cb4 := (HXd.out.older HBb.out).cell (i := 2) rfl
              refine hK.out _ _ (by trivial) (fun hHe3 => ?_)
              clear hK K
              try simp only [Act.put, List.setIfInBounds_toArray, List.set_cons_zero, List.set_cons_succ]
              refine wpAnyH_ready (rs := [11]) (by kernel_rfl) (by simp) (AllReadyH.cons (by simp only [List.getElem?_toArray, List.getElem?_cons_succ, List.getElem?_cons_zero]; rfl) (fun K hK => ?_) AllReadyH.nil)
              refine step_appB tySrv (by rfl) _ _ (by rfl) wd.heap.size (.slice u4 i t4) i _ (by rfl) HO1.out HBb.out.size (.slice (if cs = i + 1 then some ⟨bs, os, none⟩ else some ⟨bs, os + (i + 1) * 11, none⟩) (nl - (i + 1)) (cs - (i + 1))) (nl - (i + 1)) ((hm.srvs.drop (i + 1)).flatMap srvR) (by rfl) (rows_sufI (HId.out.below HBb.out).srvs srvR_len (by decide) HNL.out.symm (by have := HNL.out; omega) hcs rfl) (by rw [flat_len srvR_len, List.length_drop, HNL.out]) (one_srv (fun s hs => HI3.out.srv s (List.mem_of_mem_drop hs))) (by omega) ?_
              intro v5 w5 ho5 hg5 hl5
              have HO2 := Lib.hid ho5
              have HBc := Lib.hid (HBb.out.grown hg5 HBb.out.size (fun q hq => (HO1.out.lt q hq).1))
              obtain ⟨u5, t5, rfl, _⟩ := ho5.form
              clear ho5 hg5 hl5 HO1 cb4
              have hz5 := (HXd.out.older HBc.out).lt
              have f5 := (HXd.out.older HBc.out).frz 2
              have c5 := (HXd.out.older HBc.out).cell (i := 2) rfl
              refine hK.out _ _ (by trivial) (fun hHe4 => ?_)
              clear hK K
              try simp only [Act.put, List.setIfInBounds_toArray, List.set_cons_zero, List.set_cons_succ]
              refine Hd.tk 12 ?_
              try simp only [Act.put, List.setIfInBounds_toArray, List.set_cons_zero, List.set_cons_succ]
              refine wpAnyH_ready (rs := [13]) (by kernel_rfl) (by simp) (AllReadyH.cons (by simp only [List.getElem?_toArray, List.getElem?_cons_succ, List.getElem?_cons_zero]; rfl) (fun K hK => ?_) AllReadyH.nil)
              go_simp
              refine hK.out _ _ (by trivial) (fun hHe5 => ?_)
              clear hK K
              try simp only [Act.put, List.setIfInBounds_toArray, List.set_cons_zero, List.set_cons_succ]
              refine wpAnyH_done (by kernel_rfl) ?_ _
              obtain ⟨av, hav⟩ : ∃ z, (if cs = i + 1 then some (⟨bs, os, none⟩ : Addr) else some ⟨bs, os + (i + 1) * 11, none⟩) = z := ⟨_, rfl⟩
              rw [hav]
              clear hav
              obtain ⟨hbf, hxf, hof⟩ := parts_store (j := 2) HBd.out HXd.out HB00.out HBc.out HO2.out
              have HBF := Lib.hid hbf
              have HXF := Lib.hid hxf
              have hlw : (without hm.srvs i).length = i + (nl - (i + 1)) := by rw [without_len (by rw [HNL.out]; exact hil), HNL.out]
              have hrows : RowsV srvR 11 (w5.setCell ⟨b0, 2, none⟩ (.slice u5 (i + (nl - (i + 1))) t5)) (.slice u5 (i + (nl - (i + 1))) t5) (without hm.srvs i) := rows_ownF (B := wd.heap.size) (e := 82) (by rw [hlw, ← flat_without]; exact hof) srvR_len
              have HIF := Lib.hid (HisAt.srvsTo (HA.out.below HBF.out) hrows (by omega) (fun x hx => (HA.out.below HBF.out).srv x (without_sub hx)))
              have HSF : Hid (({ hm with srvs := without hm.srvs i } : HisM).Small) := Lib.hid (Small.srvs HSM.out (by omega) (fun x hx => HSM.out.srvs x (without_sub hx)))
              have HNF := Lib.hid (parts_srv HC0.out i)
              obtain ⟨wf, hwf⟩ : ∃ z, (w5.setCell ⟨b0, 2, none⟩ (.slice u5 (i + (nl - (i + 1))) t5)) = z := ⟨_, rfl⟩
              rw [hwf] at HBF HXF HIF ⊢
              clear hwf hbf hxf hof hrows hlw c5 f5 hz5 i1 i1d i2 i3 i4 i5 i6 i7 i8 i9
              have x0 := HXF.out.cell (i := 0) rfl
              have x1 := HXF.out.cell (i := 1) rfl
              have x2 := HXF.out.cell (i := 2) rfl
              have x3 := HXF.out.cell (i := 3) rfl
              have x4 := HXF.out.cell (i := 4) rfl
              have x5 := HXF.out.cell (i := 5) rfl
              have x6 := HXF.out.cell (i := 6) rfl
              go_wp2_with fail
              refine (Hy.check_any ({ hm with srvs := without hm.srvs i } : HisM) va vb (.slice u5 (i + (nl - (i + 1))) t5) vd ve 1048576 _ (HRY.out.below HBF.out) (HPW.out.below HBF.out) HIF.out HSF.out (by decide)).mono ?_
              rintro e w9 ⟨v9, rfl, ho9, hb9⟩
              rw [HNF.out] at ho9
              obtain ⟨a9, c9, rfl, _⟩ := ho9.form
              have HB9 := Lib.hid (HBF.out.trans (hb9.mono HBF.out.size))
              clear ho9 hb9 x0 x1 x2 x3 x4 x5 x6
              go_wp2_with fail
              go_ret
              exact ⟨rfl, HB9.out⟩
            · go_simp
              refine hK.out _ _ (by trivial) (fun hHe1 => ?_)
              clear hK K
              try simp only [Act.put, List.setIfInBounds_toArray, List.set_cons_zero, List.set_cons_succ]
              refine Hd.tk 4 ?_
              try simp only [Act.put, List.setIfInBounds_toArray, List.set_cons_zero, List.set_cons_succ]
              refine wpAnyH_ready (rs := [0]) (by kernel_rfl) (by simp) (AllReadyH.cons (by simp only [List.getElem?_toArray, List.getElem?_cons_succ, List.getElem?_cons_zero]; rfl) (fun K hK => ?_) AllReadyH.nil)
              go_simp
              have HO0 := Lib.hid (show OwnWin (wd.alloc (.cells #[] 82)) wd.heap.size 82 11 (.slice (some ⟨wd.heap.size, 0, none⟩) 0 0) 0 [] from ownK_empty (heap_alloc_new wd _) (Nat.le_refl _))
              have HBa := Lib.hid ((Below.refl wd.heap.size wd).alloc (Nat.le_refl _) (.cells #[] 82))
              obtain ⟨wa, hwa⟩ : ∃ z, wd.alloc (.cells #[] 82) = z := ⟨_, rfl⟩
              rw [hwa] at HO0 HBa ⊢
              clear hwa c2
              have ca := (HXd.out.older HBa.out).cell (i := 2) rfl
              refine hK.out _ _ (by trivial) (fun hHe2 => ?_)
              clear hK K
              try simp only [Act.put, List.setIfInBounds_toArray, List.set_cons_zero, List.set_cons_succ]
              refine wpAnyH_ready (rs := [5]) (by kernel_rfl) (by simp) (AllReadyH.cons (by simp only [List.getElem?_toArray, List.getElem?_cons_succ, List.getElem?_cons_zero]; rfl) (fun K hK => ?_) AllReadyH.nil)
              refine step_appB tySrv (by rfl) _ _ (by rfl) wd.heap.size (.slice (some ⟨wd.heap.size, 0, none⟩) 0 0) 0 [] (by rfl) HO0.out HBa.out.size (.slice (some ⟨bs, os, none⟩) i cs) i ((hm.srvs.take i).flatMap srvR) (by rfl) (rows_pre (HId.out.below HBa.out).srvs srvR_len (by decide) (by have := HNL.out; omega)) (by rw [flat_len srvR_len, List.length_take, HNL.out, Nat.min_eq_left (by omega)]) (one_srv (fun s hs => HI3.out.srv s (List.mem_of_mem_take hs))) (by omega) ?_
              intro v4 w4 ho4 hg4 hl4
              rw [Nat.zero_add, List.nil_append] at ho4
              have HO1 := Lib.hid ho4
              have HBb := Lib.hid (HBa.out.grown hg4 HBa.out.size (fun q hq => (HO0.out.lt q hq).1))
              obtain ⟨u4, t4, rfl, _⟩ := ho4.form
              clear ho4 hg4 hl4 HO0 ca
              have cb4 := (HXd.out.older HBb.out).cell (i := 2) rfl
              refine hK.out _ _ (by trivial) (fun hHe3 => ?_)
              clear hK K
              try simp only [Act.put, List.setIfInBounds_toArray, List.set_cons_zero, List.set_cons_succ]
              refine wpAnyH_ready (rs := [11]) (by kernel_rfl) (by simp) (AllReadyH.cons (by simp only [List.getElem?_toArray, List.getElem?_cons_succ, List.getElem?_cons_zero]; rfl) (fun K hK => ?_) AllReadyH.nil)
              refine step_appB tySrv (by rfl) _ _ (by rfl) wd.heap.size (.slice u4 i t4) i _ (by rfl) HO1.out HBb.out.size (.slice (if cs = i + 1 then some ⟨bs, os, none⟩ else some ⟨bs, os + (i + 1) * 11, none⟩) (nl - (i + 1)) (cs - (i + 1))) (nl - (i + 1)) ((hm.srvs.drop (i + 1)).flatMap srvR) (by rfl) (rows_sufI (HId.out.below HBb.out).srvs srvR_len (by decide) HNL.out.symm (by have := HNL.out; omega) hcs rfl) (by rw [flat_len srvR_len, List.length_drop, HNL.out]) (one_srv (fun s hs => HI3.out.srv s (List.mem_of_mem_drop hs))) (by omega) ?_
              intro v5 w5 ho5 hg5 hl5
              have HO2 := Lib.hid ho5
              have HBc := Lib.hid (HBb.out.grown hg5 HBb.out.size (fun q hq => (HO1.out.lt q hq).1))
              obtain ⟨u5, t5, rfl, _⟩ := ho5.form
              clear ho5 hg5 hl5 HO1 cb4
              have hz5 := (HXd.out.older HBc.out).lt
              have f5 := (HXd.out.older HBc.out).frz 2
              have c5 := (HXd.out.older HBc.out).cell (i := 2) rfl
              refine hK.out _ _ (by trivial) (fun hHe4 => ?_)
              clear hK K
              try simp only [Act.put, List.setIfInBounds_toArray, List.set_cons_zero, List.set_cons_succ]
              refine Hd.tk 12 ?_
              try simp only [Act.put, List.setIfInBounds_toArray, List.set_cons_zero, List.set_cons_succ]
              refine wpAnyH_ready (rs := [13]) (by kernel_rfl) (by simp) (AllReadyH.cons (by simp only [List.getElem?_toArray, List.getElem?_cons_succ, List.getElem?_cons_zero]; rfl) (fun K hK => ?_) AllReadyH.nil)
              go_simp
              refine hK.out _ _ (by trivial) (fun hHe5 => ?_)
              clear hK K
              try simp only [Act.put, List.setIfInBounds_toArray, List.set_cons_zero, List.set_cons_succ]
              refine wpAnyH_done (by kernel_rfl) ?_ _
              obtain ⟨av, hav⟩ : ∃ z, (if cs = i + 1 then some (⟨bs, os, none⟩ : Addr) else some ⟨bs, os + (i + 1) * 11, none⟩) = z := ⟨_, rfl⟩
              rw [hav]
              clear hav
              obtain ⟨hbf, hxf, hof⟩ := parts_store (j := 2) HBd.out HXd.out HB00.out HBc.out HO2.out
              have HBF := Lib.hid hbf
              have HXF := Lib.hid hxf
              have hlw : (without hm.srvs i).length = i + (nl - (i + 1)) := by rw [without_len (by rw [HNL.out]; exact hil), HNL.out]
              have hrows : RowsV srvR 11 (w5.setCell ⟨b0, 2, none⟩ (.slice u5 (i + (nl - (i + 1))) t5)) (.slice u5 (i + (nl - (i + 1))) t5) (without hm.srvs i) := rows_ownF (B := wd.heap.size) (e := 82) (by rw [hlw, ← flat_without]; exact hof) srvR_len
              have HIF := Lib.hid (HisAt.srvsTo (HA.out.below HBF.out) hrows (by omega) (fun x hx => (HA.out.below HBF.out).srv x (without_sub hx)))
              have HSF : Hid (({ hm with srvs := without hm.srvs i } : HisM).Small) := Lib.hid (Small.srvs HSM.out (by omega) (fun x hx => HSM.out.srvs x (without_sub hx)))
              have HNF := Lib.hid (parts_srv HC0.out i)
              obtain ⟨wf, hwf⟩ : ∃ z, (w5.setCell ⟨b0, 2, none⟩ (.slice u5 (i + (nl - (i + 1))) t5)) = z := ⟨_, rfl⟩
              rw [hwf] at HBF HXF HIF ⊢
              clear hwf hbf hxf hof hrows hlw c5 f5 hz5 i1 i1d i2 i3 i4 i5 i6 i7 i8 i9
              have x0 := HXF.out.cell (i := 0) rfl
              have x1 := HXF.out.cell (i := 1) rfl
              have x2 := HXF.out.cell (i := 2) rfl
              have x3 := HXF.out.cell (i := 3) rfl
              have x4 := HXF.out.cell (i := 4) rfl
              have x5 := HXF.out.cell (i := 5) rfl
              have x6 := HXF.out.cell (i := 6) rfl
              go_wp2_with fail
              refine (Hy.check_any ({ hm with srvs := without hm.srvs i } : HisM) va vb (.slice u5 (i + (nl - (i + 1))) t5) vd ve 1048576 _ (HRY.out.below HBF.out) (HPW.out.below HBF.out) HIF.out HSF.out (by decide)).mono ?_
              rintro e w9 ⟨v9, rfl, ho9, hb9⟩
              rw [HNF.out] at ho9
              obtain ⟨a9, c9, rfl, _⟩ := ho9.form
              have HB9 := Lib.hid (HBF.out.trans (hb9.mono HBF.out.size))
              clear ho9 hb9 x0 x1 x2 x3 x4 x5 x6
              go_wp2_with fail
              go_ret
              exact ⟨rfl, HB9.out⟩
        · obtain ⟨ua, uc, rfl, _⟩ := HI3.out.srvs.form
          obtain ⟨nl, hnl⟩ : ∃ z, hm.srvs.length = z := ⟨_, rfl⟩
          have i1 : ¬ (i : Int) < (nl : Int) := by omega
          have i1d : decide ((i : Int) < (nl : Int)) = false := decide_eq_false i1
          rw [hnl] at HX3 HI3 ⊢
          have x0 := HX3.out.cell (i := 0) rfl
          have x1 := HX3.out.cell (i := 1) rfl
          have x2 := HX3.out.cell (i := 2) rfl
          have x3 := HX3.out.cell (i := 3) rfl
          have x4 := HX3.out.cell (i := 4) rfl
          have x5 := HX3.out.cell (i := 5) rfl
          have x6 := HX3.out.cell (i := 6) rfl
          go_wp2_with fail
          refine (Hy.check_any (hm) va vb (.slice ua nl uc) vd ve 1048576 _ (HRY.out.below HB3.out) (HPW.out.below HB3.out) HI3.out HSM.out (by decide)).mono ?_
          rintro e w9 ⟨v9, rfl, ho9, hb9⟩
          rw [HC0.out] at ho9
          obtain ⟨a9, c9, rfl, _⟩ := ho9.form
          have HB9 := Lib.hid (HB3.out.trans (hb9.mono HB3.out.size))
          clear ho9 hb9 x0 x1 x2 x3 x4 x5 x6
          go_wp2_with fail
          go_ret
          exact ⟨rfl, HB9.out⟩
      · by_cases hil : i < hm.prgs.length
        · have HIL := Lib.hid hil
          obtain ⟨bs, os, cs, hv, hcs, _, _⟩ : ∃ (b o c : Nat), vb = .slice (some ⟨b, o, none⟩) hm.prgs.length c ∧ hm.prgs.length ≤ c ∧ True ∧ True := by
            rcases HI3.out.prgs with ⟨h1, _⟩ | ⟨b, o, c, h1, h2, _⟩
            · rw [h1] at hil; simp at hil
            · exact ⟨b, o, c, h1, h2, trivial, trivial⟩
          subst hv
          obtain ⟨nl, hnl⟩ : ∃ z, hm.prgs.length = z := ⟨_, rfl⟩
          have HNL := Lib.hid hnl
          rw [hnl] at HX3 HI3 hil hcs ⊢
          have hnm : nl ≤ 1000 := by rw [← hnl]; exact HSM.out.nprg
          clear hnl
          have i1 : (i : Int) < (nl : Int) := by omega
          have i1d : decide ((i : Int) < (nl : Int)) = true := decide_eq_true i1
          have c0 := HX3.out.cell (i := 1) rfl
          go_upto_region 16 with fail
          have HXd := Lib.hid (HX3.out.older (Below.refl _ _).drew)
          have HBd := Lib.hid HB3.out.drew
          have HId := Lib.hid (HI3.out.below (Below.refl _ _).drew)
          have k1 : IntKind.i64.wrap ((i : Int) + 1) = (i : Int) + 1 := IntWalk.i64_in _ (by omega)
          have i2 : (i : Int) ≤ (cs : Int) := by omega
          have i3 : (i : Int) + 1 ≤ (nl : Int) := by omega
          have i4 : (i : Int) + 1 ≤ (cs : Int) := by omega
          have i5 : (0 : Int) ≤ (i : Int) + 1 := by omega
          have i6 : (nl : Int) ≤ (cs : Int) := by omega
          have i7 : (0 : Int) ≤ (i : Int) := by omega
          have i8 : (i : Int).toNat = i := by omega
          have i9 : ((i : Int) + 1).toNat = i + 1 := by omega
          refine wp_region_held_drew (S := (fun _ => True)) (by kernel_rfl) (by trivial) (fun hHeld => ?_)
          obtain ⟨wd, hwd⟩ : ∃ z, w3.drew = z := ⟨_, rfl⟩
          rw [hwd] at HXd HBd HId ⊢
          clear hwd
          have HBz := Lib.hid (Below.refl wd.heap.size wd)
          have c2 := HXd.out.cell (i := 1) rfl
          refine Hd.tk 1 ?_
          try simp only [Act.put, List.setIfInBounds_toArray, List.set_cons_zero, List.set_cons_succ]
          refine Hd.tk 3 ?_
          try simp only [Act.put, List.setIfInBounds_toArray, List.set_cons_zero, List.set_cons_succ]
          refine Hd.tk 6 ?_
          try simp only [Act.put, List.setIfInBounds_toArray, List.set_cons_zero, List.set_cons_succ]
          refine Hd.tk 8 ?_
          try simp only [Act.put, List.setIfInBounds_toArray, List.set_cons_zero, List.set_cons_succ]
          refine Hd.tk 9 ?_
          try simp only [Act.put, List.setIfInBounds_toArray, List.set_cons_zero, List.set_cons_succ]
          refine wpAnyH_ready (rs := [0, 2, 7]) (by kernel_rfl) (by simp) (AllReadyH.cons (by simp only [List.getElem?_toArray, List.getElem?_cons_succ, List.getElem?_cons_zero]; rfl) (fun K hK => ?_) (AllReadyH.cons (by simp only [List.getElem?_toArray, List.getElem?_cons_succ, List.getElem?_cons_zero]; rfl) (fun K hK => ?_) (AllReadyH.cons (by simp only [List.getElem?_toArray, List.getElem?_cons_succ, List.getElem?_cons_zero]; rfl) (fun K hK => ?_) AllReadyH.nil)))
          · go_simp
            have HO0 := Lib.hid (show OwnWin (wd.alloc (.cells #[] 97)) wd.heap.size 97 3 (.slice (some ⟨wd.heap.size, 0, none⟩) 0 0) 0 [] from ownK_empty (heap_alloc_new wd _) (Nat.le_refl _))
            have HBa := Lib.hid ((Below.refl wd.heap.size wd).alloc (Nat.le_refl _) (.cells #[] 97))
            obtain ⟨wa, hwa⟩ : ∃ z, wd.alloc (.cells #[] 97) = z := ⟨_, rfl⟩
            rw [hwa] at HO0 HBa ⊢
            clear hwa c2
            have ca := (HXd.out.older HBa.out).cell (i := 1) rfl
            refine hK.out _ _ (by trivial) (fun hHe0 => ?_)
            clear hK K
            try simp only [Act.put, List.setIfInBounds_toArray, List.set_cons_zero, List.set_cons_succ]
            refine wpAnyH_ready (rs := [2, 7]) (by kernel_rfl) (by simp) (AllReadyH.cons (by simp only [List.getElem?_toArray, List.getElem?_cons_succ, List.getElem?_cons_zero]; rfl) (fun K hK => ?_) (AllReadyH.cons (by simp only [List.getElem?_toArray, List.getElem?_cons_succ, List.getElem?_cons_zero]; rfl) (fun K hK => ?_) AllReadyH.nil))
            · go_simp
              refine hK.out _ _ (by trivial) (fun hHe1 => ?_)
              clear hK K
              try simp only [Act.put, List.setIfInBounds_toArray, List.set_cons_zero, List.set_cons_succ]
              refine Hd.tk 4 ?_
              try simp only [Act.put, List.setIfInBounds_toArray, List.set_cons_zero, List.set_cons_succ]
              refine wpAnyH_ready (rs := [5, 7]) (by kernel_rfl) (by simp) (AllReadyH.cons (by simp only [List.getElem?_toArray, List.getElem?_cons_succ, List.getElem?_cons_zero]; rfl) (fun K hK => ?_) (AllReadyH.cons (by simp only [List.getElem?_toArray, List.getElem?_cons_succ, List.getElem?_cons_zero]; rfl) (fun K hK => ?_) AllReadyH.nil))
              · refine step_appB tyPrg (by rfl) _ _ (by rfl) wd.heap.size (.slice (some ⟨wd.heap.size, 0, none⟩) 0 0) 0 [] (by rfl) HO0.out HBa.out.size (.slice (some ⟨bs, os, none⟩) i cs) i ((hm.prgs.take i).flatMap prgR) (by rfl) (rows_pre (HId.out.below HBa.out).prgs prgR_len (by decide) (by have := HNL.out; omega)) (by rw [flat_len prgR_len, List.length_take, HNL.out, Nat.min_eq_left (by omega)]) one_prg (by omega) ?_
                intro v4 w4 ho4 hg4 hl4
                rw [Nat.zero_add, List.nil_append] at ho4
                have HO1 := Lib.hid ho4
                have HBb := Lib.hid (HBa.out.grown hg4 HBa.out.size (fun q hq => (HO0.out.lt q hq).1))
                obtain ⟨u4, t4, rfl, _⟩ := ho4.form
                clear ho4 hg4 hl4 HO0 ca
                have cb4 := (HXd.out.older HBb.out).cell (i := 1) rfl
                refine hK.out _ _ (by trivial) (fun hHe2 => ?_)
                clear hK K
                try simp only [Act.put, List.setIfInBounds_toArray, List.set_cons_zero, List.set_cons_succ]
                refine wpAnyH_ready (rs := [7]) (by kernel_rfl) (by simp) (AllReadyH.cons (by simp only [List.getElem?_toArray, List.getElem?_cons_succ, List.getElem?_cons_zero]; rfl) (fun K hK => ?_) AllReadyH.nil)
                go_simp
                refine hK.out _ _ (by trivial) (fun hHe3 => ?_)
                clear hK K
                try simp only [Act.put, List.setIfInBounds_toArray, List.set_cons_zero, List.set_cons_succ]
                refine Hd.tk 10 ?_
                try simp only [Act.put, List.setIfInBounds_toArray, List.set_cons_zero, List.set_cons_succ]
                refine wpAnyH_ready (rs := [11]) (by kernel_rfl) (by simp) (AllReadyH.cons (by simp only [List.getElem?_toArray, List.getElem?_cons_succ, List.getElem?_cons_zero]; rfl) (fun K hK => ?_) AllReadyH.nil)
                refine step_appB tyPrg (by rfl) _ _ (by rfl) wd.heap.size (.slice u4 i t4) i _ (by rfl) HO1.out HBb.out.size (.slice (if cs = i + 1 then some ⟨bs, os, none⟩ else some ⟨bs, os + (i + 1) * 3, none⟩) (nl - (i + 1)) (cs - (i + 1))) (nl - (i + 1)) ((hm.prgs.drop (i + 1)).flatMap prgR) (by rfl) (rows_sufI (HId.out.below HBb.out).prgs prgR_len (by decide) HNL.out.symm (by have := HNL.out; omega) hcs rfl) (by rw [flat_len prgR_len, List.length_drop, HNL.out]) one_prg (by omega) ?_
                intro v5 w5 ho5 hg5 hl5
                have HO2 := Lib.hid ho5
                have HBc := Lib.hid (HBb.out.grown hg5 HBb.out.size (fun q hq => (HO1.out.lt q hq).1))
                obtain ⟨u5, t5, rfl, _⟩ := ho5.form
                clear ho5 hg5 hl5 HO1 cb4
                have hz5 := (HXd.out.older HBc.out).lt
                have f5 := (HXd.out.older HBc.out).frz 1
                have c5 := (HXd.out.older HBc.out).cell (i := 1) rfl
                refine hK.out _ _ (by trivial) (fun hHe4 => ?_)
                clear hK K
                try simp only [Act.put, List.setIfInBounds_toArray, List.set_cons_zero, List.set_cons_succ]
                refine Hd.tk 12 ?_
                try simp only [Act.put, List.setIfInBounds_toArray, List.set_cons_zero, List.set_cons_succ]
                refine wpAnyH_ready (rs := [13]) (by kernel_rfl) (by simp) (AllReadyH.cons (by simp only [List.getElem?_toArray, List.getElem?_cons_succ, List.getElem?_cons_zero]; rfl) (fun K hK => ?_) AllReadyH.nil)
                go_simp
                refine hK.out _ _ (by trivial) (fun hHe5 => ?_)
                clear hK K
                try simp only [Act.put, List.setIfInBounds_toArray, List.set_cons_zero, List.set_cons_succ]
                refine wpAnyH_done (by kernel_rfl) ?_ _
                obtain ⟨av, hav⟩ : ∃ z, (if cs = i + 1 then some (⟨bs, os, none⟩ : Addr) else some ⟨bs, os + (i + 1) * 3, none⟩) = z := ⟨_, rfl⟩
                rw [hav]
                clear hav
                obtain ⟨hbf, hxf, hof⟩ := parts_store (j := 1) HBd.out HXd.out HB00.out HBc.out HO2.out
                have HBF := Lib.hid hbf
                have HXF := Lib.hid hxf
                have hlw : (without hm.prgs i).length = i + (nl - (i + 1)) := by rw [without_len (by rw [HNL.out]; exact hil), HNL.out]
                have hrows : RowsV prgR 3 (w5.setCell ⟨b0, 1, none⟩ (.slice u5 (i + (nl - (i + 1))) t5)) (.slice u5 (i + (nl - (i + 1))) t5) (without hm.prgs i) := rows_ownF (B := wd.heap.size) (e := 97) (by rw [hlw, ← flat_without]; exact hof) prgR_len
                have HIF := Lib.hid (HisAt.prgsTo (HA.out.below HBF.out) hrows (by omega) (fun x hx => (HA.out.below HBF.out).prg x (without_sub hx)))
                have HSF : Hid (({ hm with prgs := without hm.prgs i } : HisM).Small) := Lib.hid (Small.prgs HSM.out (by omega) (fun x hx => HSM.out.prgs x (without_sub hx)))
                have HNF := Lib.hid (parts_prg HC0.out i)
                obtain ⟨wf, hwf⟩ : ∃ z, (w5.setCell ⟨b0, 1, none⟩ (.slice u5 (i + (nl - (i + 1))) t5)) = z := ⟨_, rfl⟩
                rw [hwf] at HBF HXF HIF ⊢
                clear hwf hbf hxf hof hrows hlw c5 f5 hz5 i1 i1d i2 i3 i4 i5 i6 i7 i8 i9
                have x0 := HXF.out.cell (i := 0) rfl
                have x1 := HXF.out.cell (i := 1) rfl
                have x2 := HXF.out.cell (i := 2) rfl
                have x3 := HXF.out.cell (i := 3) rfl
                have x4 := HXF.out.cell (i := 4) rfl
                have x5 := HXF.out.cell (i := 5) rfl
                have x6 := HXF.out.cell (i := 6) rfl
                go_wp2_with fail
                refine (Hy.check_any ({ hm with prgs := without hm.prgs i } : HisM) va (.slice u5 (i + (nl - (i + 1))) t5) vc vd ve 1048576 _ (HRY.out.below HBF.out) (HPW.out.below HBF.out) HIF.out HSF.out (by decide)).mono ?_
                rintro e w9 ⟨v9, rfl, ho9, hb9⟩
                rw [HNF.out] at ho9
                obtain ⟨a9, c9, rfl, _⟩ := ho9.form
                have HB9 := Lib.hid (HBF.out.trans (hb9.mono HBF.out.size))
                clear ho9 hb9 x0 x1 x2 x3 x4 x5 x6
                go_wp2_with fail
                go_ret
                exact ⟨rfl, HB9.out⟩
              · go_simp
                refine hK.out _ _ (by trivial) (fun hHe2 => ?_)
                clear hK K
                try simp only [Act.put, List.setIfInBounds_toArray, List.set_cons_zero, List.set_cons_succ]
                refine Hd.tk 10 ?_
                try simp only [Act.put, List.setIfInBounds_toArray, List.set_cons_zero, List.set_cons_succ]
                refine wpAnyH_ready (rs := [5]) (by kernel_rfl) (by simp) (AllReadyH.cons (by simp only [List.getElem?_toArray, List.getElem?_cons_succ, List.getElem?_cons_zero]; rfl) (fun K hK => ?_) AllReadyH.nil)
                refine step_appB tyPrg (by rfl) _ _ (by rfl) wd.heap.size (.slice (some ⟨wd.heap.size, 0, none⟩) 0 0) 0 [] (by rfl) HO0.out HBa.out.size (.slice (some ⟨bs, os, none⟩) i cs) i ((hm.prgs.take i).flatMap prgR) (by rfl) (rows_pre (HId.out.below HBa.out).prgs prgR_len (by decide) (by have := HNL.out; omega)) (by rw [flat_len prgR_len, List.length_take, HNL.out, Nat.min_eq_left (by omega)]) one_prg (by omega) ?_
                intro v4 w4 ho4 hg4 hl4
                rw [Nat.zero_add, List.nil_append] at ho4
                have HO1 := Lib.hid ho4
                have HBb := Lib.hid (HBa.out.grown hg4 HBa.out.size (fun q hq => (HO0.out.lt q hq).1))
                obtain ⟨u4, t4, rfl, _⟩ := ho4.form
                clear ho4 hg4 hl4 HO0 ca
                have cb4 := (HXd.out.older HBb.out).cell (i := 1) rfl
                refine hK.out _ _ (by trivial) (fun hHe3 => ?_)
                clear hK K
                try simp only [Act.put, List.setIfInBounds_toArray, List.set_cons_zero, List.set_cons_succ]
                refine wpAnyH_ready (rs := [11]) (by kernel_rfl) (by simp) (AllReadyH.cons (by simp only [List.getElem?_toArray, List.getElem?_cons_succ, List.getElem?_cons_zero]; rfl) (fun K hK => ?_) AllReadyH.nil)
                refine step_appB tyPrg (by rfl) _ _ (by rfl) wd.heap.size (.slice u4 i t4) i _ (by rfl) HO1.out HBb.out.size (.slice (if cs = i + 1 then some ⟨bs, os, none⟩ else some ⟨bs, os + (i + 1) * 3, none⟩) (nl - (i + 1)) (cs - (i + 1))) (nl - (i + 1)) ((hm.prgs.drop (i + 1)).flatMap prgR) (by rfl) (rows_sufI (HId.out.below HBb.out).prgs prgR_len (by decide) HNL.out.symm (by have := HNL.out; omega) hcs rfl) (by rw [flat_len prgR_len, List.length_drop, HNL.out]) one_prg (by omega) ?_
                intro v5 w5 ho5 hg5 hl5
                have HO2 := Lib.hid ho5
                have HBc := Lib.hid (HBb.out.grown hg5 HBb.out.size (fun q hq => (HO1.out.lt q hq).1))
                obtain ⟨u5, t5, rfl, _⟩ := ho5.form
                clear ho5 hg5 hl5 HO1 cb4
                have hz5 := (HXd.out.older HBc.out).lt
                have f5 := (HXd.out.older HBc.out).frz 1
                have c5 := (HXd.out.older HBc.out).cell (i := 1) rfl
                refine hK.out _ _ (by trivial) (fun hHe4 => ?_)
                clear hK K
                try simp only [Act.put, List.setIfInBounds_toArray, List.set_cons_zero, List.set_cons_succ]
                refine Hd.tk 12 ?_
                try simp only [Act.put, List.setIfInBounds_toArray, List.set_cons_zero, List.set_cons_succ]
                refine wpAnyH_ready (rs := [13]) (by kernel_rfl) (by simp) (AllReadyH.cons (by simp only [List.getElem?_toArray, List.getElem?_cons_succ, List.getElem?_cons_zero]; rfl) (fun K hK => ?_) AllReadyH.nil)
                go_simp
                refine hK.out _ _ (by trivial) (fun hHe5 => ?_)
                clear hK K
                try simp only [Act.put, List.setIfInBounds_toArray, List.set_cons_zero, List.set_cons_succ]
                refine wpAnyH_done (by kernel_rfl) ?_ _
                obtain ⟨av, hav⟩ : ∃ z, (if cs = i + 1 then some (⟨bs, os, none⟩ : Addr) else some ⟨bs, os + (i + 1) * 3, none⟩) = z := ⟨_, rfl⟩
                rw [hav]
                clear hav
                obtain ⟨hbf, hxf, hof⟩ := parts_store (j := 1) HBd.out HXd.out HB00.out HBc.out HO2.out
                have HBF := Lib.hid hbf
                have HXF := Lib.hid hxf
                have hlw : (without hm.prgs i).length = i + (nl - (i + 1)) := by rw [without_len (by rw [HNL.out]; exact hil), HNL.out]
                have hrows : RowsV prgR 3 (w5.setCell ⟨b0, 1, none⟩ (.slice u5 (i + (nl - (i + 1))) t5)) (.slice u5 (i + (nl - (i + 1))) t5) (without hm.prgs i) := rows_ownF (B := wd.heap.size) (e := 97) (by rw [hlw, ← flat_without]; exact hof) prgR_len
                have HIF := Lib.hid (HisAt.prgsTo (HA.out.below HBF.out) hrows (by omega) (fun x hx => (HA.out.below HBF.out).prg x (without_sub hx)))
                have HSF : Hid (({ hm with prgs := without hm.prgs i } : HisM).Small) := Lib.hid (Small.prgs HSM.out (by omega) (fun x hx => HSM.out.prgs x (without_sub hx)))
                have HNF := Lib.hid (parts_prg HC0.out i)
                obtain ⟨wf, hwf⟩ : ∃ z, (w5.setCell ⟨b0, 1, none⟩ (.slice u5 (i + (nl - (i + 1))) t5)) = z := ⟨_, rfl⟩
                rw [hwf] at HBF HXF HIF ⊢
                clear hwf hbf hxf hof hrows hlw c5 f5 hz5 i1 i1d i2 i3 i4 i5 i6 i7 i8 i9
                have x0 := HXF.out.cell (i := 0) rfl
                have x1 := HXF.out.cell (i := 1) rfl
                have x2 := HXF.out.cell (i := 2) rfl
                have x3 := HXF.out.cell (i := 3) rfl
                have x4 := HXF.out.cell (i := 4) rfl
                have x5 := HXF.out.cell (i := 5) rfl
                have x6 := HXF.out.cell (i := 6) rfl
                go_wp2_with fail
                refine (Hy.check_any ({ hm with prgs := without hm.prgs i } : HisM) va (.slice u5 (i + (nl - (i + 1))) t5) vc vd ve 1048576 _ (HRY.out.below HBF.out) (HPW.out.below HBF.out) HIF.out HSF.out (by decide)).mono ?_
                rintro e w9 ⟨v9, rfl, ho9, hb9⟩
                rw [HNF.out] at ho9
                obtain ⟨a9, c9, rfl, _⟩ := ho9.form
                have HB9 := Lib.hid (HBF.out.trans (hb9.mono HBF.out.size))
                clear ho9 hb9 x0 x1 x2 x3 x4 x5 x6
                go_wp2_with fail
                go_ret
                exact ⟨rfl, HB9.out⟩
            · go_simp
              refine hK.out _ _ (by trivial) (fun hHe1 => ?_)
              clear hK K
              try simp only [Act.put, List.setIfInBounds_toArray, List.set_cons_zero, List.set_cons_succ]
              refine Hd.tk 10 ?_
              try simp only [Act.put, List.setIfInBounds_toArray, List.set_cons_zero, List.set_cons_succ]
              refine wpAnyH_ready (rs := [2]) (by kernel_rfl) (by simp) (AllReadyH.cons (by simp only [List.getElem?_toArray, List.getElem?_cons_succ, List.getElem?_cons_zero]; rfl) (fun K hK => ?_) AllReadyH.nil)
              go_simp
              refine hK.out _ _ (by trivial) (fun hHe2 => ?_)
              clear hK K
              try simp only [Act.put, List.setIfInBounds_toArray, List.set_cons_zero, List.set_cons_succ]
              refine Hd.tk 4 ?_
              try simp only [Act.put, List.setIfInBounds_toArray, List.set_cons_zero, List.set_cons_succ]
              refine wpAnyH_ready (rs := [5]) (by kernel_rfl) (by simp) (AllReadyH.cons (by simp only [List.getElem?_toArray, List.getElem?_cons_succ, List.getElem?_cons_zero]; rfl) (fun K hK => ?_) AllReadyH.nil)
              refine step_appB tyPrg (by rfl) _ _ (by rfl) wd.heap.size (.slice (some ⟨wd.heap.size, 0, none⟩) 0 0) 0 [] (by rfl) HO0.out HBa.out.size (.slice (some ⟨bs, os, none⟩) i cs) i ((hm.prgs.take i).flatMap prgR) (by rfl) (rows_pre (HId.out.below HBa.out).prgs prgR_len (by decide) (by have := HNL.out; omega)) (by rw [flat_len prgR_len, List.length_take, HNL.out, Nat.min_eq_left (by omega)]) one_prg (by omega) ?_
              intro v4 w4 ho4 hg4 hl4
              rw [Nat.zero_add, List.nil_append] at ho4
              have HO1 := Lib.hid ho4
              have HBb := Lib.hid (HBa.out.grown hg4 HBa.out.size (fun q hq => (HO0.out.lt q hq).1))
              obtain ⟨u4, t4, rfl, _⟩ := ho4.form
              clear ho4 hg4 hl4 HO0 ca
              have cb4 := (HXd.out.older HBb.out).cell (i := 1) rfl
              refine hK.out _ _ (by trivial) (fun hHe3 => ?_)
              clear hK K
              try simp only [Act.put, List.setIfInBounds_toArray, List.set_cons_zero, List.set_cons_succ]
              refine wpAnyH_ready (rs := [11]) (by kernel_rfl) (by simp) (AllReadyH.cons (by simp only [List.getElem?_toArray, List.getElem?_cons_succ, List.getElem?_cons_zero]; rfl) (fun K hK => ?_) AllReadyH.nil)
              refine step_appB tyPrg (by rfl) _ _ (by rfl) wd.heap.size (.slice u4 i t4) i _ (by rfl) HO1.out HBb.out.size (.slice (if cs = i + 1 then some ⟨bs, os, none⟩ else some ⟨bs, os + (i + 1) * 3, none⟩) (nl - (i + 1)) (cs - (i + 1))) (nl - (i + 1)) ((hm.prgs.drop (i + 1)).flatMap prgR) (by rfl) (rows_sufI (HId.out.below HBb.out).prgs prgR_len (by decide) HNL.out.symm (by have := HNL.out; omega) hcs rfl) (by rw [flat_len prgR_len, List.length_drop, HNL.out]) one_prg (by omega) ?_
              intro v5 w5 ho5 hg5 hl5
              have HO2 := Lib.hid ho5
              have HBc := Lib.hid (HBb.out.grown hg5 HBb.out.size (fun q hq => (HO1.out.lt q hq).1))
              obtain ⟨u5, t5, rfl, _⟩ := ho5.form
              clear ho5 hg5 hl5 HO1 cb4
              have hz5 := (HXd.out.older HBc.out).lt
              have f5 := (HXd.out.older HBc.out).frz 1
              have c5 := (HXd.out.older HBc.out).cell (i := 1) rfl
              refine hK.out _ _ (by trivial) (fun hHe4 => ?_)
              clear hK K
              try simp only [Act.put, List.setIfInBounds_toArray, List.set_cons_zero, List.set_cons_succ]
              refine Hd.tk 12 ?_
              try simp only [Act.put, List.setIfInBounds_toArray, List.set_cons_zero, List.set_cons_succ]
              refine wpAnyH_ready (rs := [13]) (by kernel_rfl) (by simp) (AllReadyH.cons (by simp only [List.getElem?_toArray, List.getElem?_cons_succ, List.getElem?_cons_zero]; rfl) (fun K hK => ?_) AllReadyH.nil)
              go_simp
              refine hK.out _ _ (by trivial) (fun hHe5 => ?_)
              clear hK K
              try simp only [Act.put, List.setIfInBounds_toArray, List.set_cons_zero, List.set_cons_succ]
              refine wpAnyH_done (by kernel_rfl) ?_ _
              obtain ⟨av, hav⟩ : ∃ z, (if cs = i + 1 then some (⟨bs, os, none⟩ : Addr) else some ⟨bs, os + (i + 1) * 3, none⟩) = z := ⟨_, rfl⟩
              rw [hav]
              clear hav
              obtain ⟨hbf, hxf, hof⟩ := parts_store (j := 1) HBd.out HXd.out HB00.out HBc.out HO2.out
              have HBF := Lib.hid hbf
              have HXF := Lib.hid hxf
              have hlw : (without hm.prgs i).length = i + (nl - (i + 1)) := by rw [without_len (by rw [HNL.out]; exact hil), HNL.out]
              have hrows : RowsV prgR 3 (w5.setCell ⟨b0, 1, none⟩ (.slice u5 (i + (nl - (i + 1))) t5)) (.slice u5 (i + (nl - (i + 1))) t5) (without hm.prgs i) := rows_ownF (B := wd.heap.size) (e := 97) (by rw [hlw, ← flat_without]; exact hof) prgR_len
              have HIF := Lib.hid (HisAt.prgsTo (HA.out.below HBF.out) hrows (by omega) (fun x hx => (HA.out.below HBF.out).prg x (without_sub hx)))
              have HSF : Hid (({ hm with prgs := without hm.prgs i } : HisM).Small) := Lib.hid (Small.prgs HSM.out (by omega) (fun x hx => HSM.out.prgs x (without_sub hx)))
              have HNF := Lib.hid (parts_prg HC0.out i)
              obtain ⟨wf, hwf⟩ : ∃ z, (w5.setCell ⟨b0, 1, none⟩ (.slice u5 (i + (nl - (i + 1))) t5)) = z := ⟨_, rfl⟩
              rw [hwf] at HBF HXF HIF ⊢
              clear hwf hbf hxf hof hrows hlw c5 f5 hz5 i1 i1d i2 i3 i4 i5 i6 i7 i8 i9
              have x0 := HXF.out.cell (i := 0) rfl
              have x1 := HXF.out.cell (i := 1) rfl
              have x2 := HXF.out.cell (i := 2) rfl
              have x3 := HXF.out.cell (i := 3) rfl
              have x4 := HXF.out.cell (i := 4) rfl
              have x5 := HXF.out.cell (i := 5) rfl
              have x6 := HXF.out.cell (i := 6) rfl
              go_wp2_with fail
              refine (Hy.check_any ({ hm with prgs := without hm.prgs i } : HisM) va (.slice u5 (i + (nl - (i + 1))) t5) vc vd ve 1048576 _ (HRY.out.below HBF.out) (HPW.out.below HBF.out) HIF.out HSF.out (by decide)).mono ?_
              rintro e w9 ⟨v9, rfl, ho9, hb9⟩
              rw [HNF.out] at ho9
              obtain ⟨a9, c9, rfl, _⟩ := ho9.form
              have HB9 := Lib.hid (HBF.out.trans (hb9.mono HBF.out.size))
              clear ho9 hb9 x0 x1 x2 x3 x4 x5 x6
              go_wp2_with fail
              go_ret
              exact ⟨rfl, HB9.out⟩
          · go_simp
            refine hK.out _ _ (by trivial) (fun hHe0 => ?_)
            clear hK K
            try simp only [Act.put, List.setIfInBounds_toArray, List.set_cons_zero, List.set_cons_succ]
            refine Hd.tk 4 ?_
            try simp only [Act.put, List.setIfInBounds_toArray, List.set_cons_zero, List.set_cons_succ]
            refine wpAnyH_ready (rs := [0, 7]) (by kernel_rfl) (by simp) (AllReadyH.cons (by simp only [List.getElem?_toArray, List.getElem?_cons_succ, List.getElem?_cons_zero]; rfl) (fun K hK => ?_) (AllReadyH.cons (by simp only [List.getElem?_toArray, List.getElem?_cons_succ, List.getElem?_cons_zero]; rfl) (fun K hK => ?_) AllReadyH.nil))
            · go_simp
              have HO0 := Lib.hid (show OwnWin (wd.alloc (.cells #[] 97)) wd.heap.size 97 3 (.slice (some ⟨wd.heap.size, 0, none⟩) 0 0) 0 [] from ownK_empty (heap_alloc_new wd _) (Nat.le_refl _))
              have HBa := Lib.hid ((Below.refl wd.heap.size wd).alloc (Nat.le_refl _) (.cells #[] 97))
              obtain ⟨wa, hwa⟩ : ∃ z, wd.alloc (.cells #[] 97) = z := ⟨_, rfl⟩
              rw [hwa] at HO0 HBa ⊢
              clear hwa c2
              have ca := (HXd.out.older HBa.out).cell (i := 1) rfl
              refine hK.out _ _ (by trivial) (fun hHe1 => ?_)
              clear hK K
              try simp only [Act.put, List.setIfInBounds_toArray, List.set_cons_zero, List.set_cons_succ]
              refine wpAnyH_ready (rs := [5, 7]) (by kernel_rfl) (by simp) (AllReadyH.cons (by simp only [List.getElem?_toArray, List.getElem?_cons_succ, List.getElem?_cons_zero]; rfl) (fun K hK => ?_) (AllReadyH.cons (by simp only [List.getElem?_toArray, List.getElem?_cons_succ, List.getElem?_cons_zero]; rfl) (fun K hK => ?_) AllReadyH.nil))
              · refine step_appB tyPrg (by rfl) _ _ (by rfl) wd.heap.size (.slice (some ⟨wd.heap.size, 0, none⟩) 0 0) 0 [] (by rfl) HO0.out HBa.out.size (.slice (some ⟨bs, os, none⟩) i cs) i ((hm.prgs.take i).flatMap prgR) (by rfl) (rows_pre (HId.out.below HBa.out).prgs prgR_len (by decide) (by have := HNL.out; omega)) (by rw [flat_len prgR_len, List.length_take, HNL.out, Nat.min_eq_left (by omega)]) one_prg (by omega) ?_
                intro v4 w4 ho4 hg4 hl4
                rw [Nat.zero_add, List.nil_append] at ho4
                have HO1 := Lib.hid ho4
                have HBb := Lib.hid (HBa.out.grown hg4 HBa.out.size (fun q hq => (HO0.out.lt q hq).1))
                obtain ⟨u4, t4, rfl, _⟩ := ho4.form
                clear ho4 hg4 hl4 HO0 ca
                have cb4 := (HXd.out.older HBb.out).cell (i := 1) rfl
                refine hK.out _ _ (by trivial) (fun hHe2 => ?_)
                clear hK K
                try simp only [Act.put, List.setIfInBounds_toArray, List.set_cons_zero, List.set_cons_succ]
                refine wpAnyH_ready (rs := [7]) (by kernel_rfl) (by simp) (AllReadyH.cons (by simp only [List.getElem?_toArray, List.getElem?_cons_succ, List.getElem?_cons_zero]; rfl) (fun K hK => ?_) AllReadyH.nil)
                go_simp
                refine hK.out _ _ (by trivial) (fun hHe3 => ?_)
                clear hK K
                try simp only [Act.put, List.setIfInBounds_toArray, List.set_cons_zero, List.set_cons_succ]
                refine Hd.tk 10 ?_
                try simp only [Act.put, List.setIfInBounds_toArray, List.set_cons_zero, List.set_cons_succ]
                refine wpAnyH_ready (rs := [11]) (by kernel_rfl) (by simp) (AllReadyH.cons (by simp only [List.getElem?_toArray, List.getElem?_cons_succ, List.getElem?_cons_zero]; rfl) (fun K hK => ?_) AllReadyH.nil)
                refine step_appB tyPrg (by rfl) _ _ (by rfl) wd.heap.size (.slice u4 i t4) i _ (by rfl) HO1.out HBb.out.size (.slice (if cs = i + 1 then some ⟨bs, os, none⟩ else some ⟨bs, os + (i + 1) * 3, none⟩) (nl - (i + 1)) (cs - (i + 1))) (nl - (i + 1)) ((hm.prgs.drop (i + 1)).flatMap prgR) (by rfl) (rows_sufI (HId.out.below HBb.out).prgs prgR_len (by decide) HNL.out.symm (by have := HNL.out; omega) hcs rfl) (by rw [flat_len prgR_len, List.length_drop, HNL.out]) one_prg (by omega) ?_
                intro v5 w5 ho5 hg5 hl5
                have HO2 := Lib.hid ho5
                have HBc := Lib.hid (HBb.out.grown hg5 HBb.out.size (fun q hq => (HO1.out.lt q hq).1))
                obtain ⟨u5, t5, rfl, _⟩ := ho5.form
                clear ho5 hg5 hl5 HO1 cb4
                have hz5 := (HXd.out.older HBc.out).lt
                have f5 := (HXd.out.older HBc.out).frz 1
                have c5 := (HXd.out.older HBc.out).cell (i := 1) rfl
                refine hK.out _ _ (by trivial) (fun hHe4 => ?_)
                clear hK K
                try simp only [Act.put, List.setIfInBounds_toArray, List.set_cons_zero, List.set_cons_succ]
                refine Hd.tk 12 ?_
                try simp only [Act.put, List.setIfInBounds_toArray, List.set_cons_zero, List.set_cons_succ]
                refine wpAnyH_ready (rs := [13]) (by kernel_rfl) (by simp) (AllReadyH.cons (by simp only [List.getElem?_toArray, List.getElem?_cons_succ, List.getElem?_cons_zero]; rfl) (fun K hK => ?_) AllReadyH.nil)
                go_simp
                refine hK.out _ _ (by trivial) (fun hHe5 => ?_)
                clear hK K
                try simp only [Act.put, List.setIfInBounds_toArray, List.set_cons_zero, List.set_cons_succ]
                refine wpAnyH_done (by kernel_rfl) ?_ _
                obtain ⟨av, hav⟩ : ∃ z, (if cs = i + 1 then some (⟨bs, os, none⟩ : Addr) else some ⟨bs, os + (i + 1) * 3, none⟩) = z := ⟨_, rfl⟩
                rw [hav]
                clear hav
                obtain ⟨hbf, hxf, hof⟩ := parts_store (j := 1) HBd.out HXd.out HB00.out HBc.out HO2.out
                have HBF := Lib.hid hbf
                have HXF := Lib.hid hxf
                have hlw : (without hm.prgs i).length = i + (nl - (i + 1)) := by rw [without_len (by rw [HNL.out]; exact hil), HNL.out]
                have hrows : RowsV prgR 3 (w5.setCell ⟨b0, 1, none⟩ (.slice u5 (i + (nl - (i + 1))) t5)) (.slice u5 (i + (nl - (i + 1))) t5) (without hm.prgs i) := rows_ownF (B := wd.heap.size) (e := 97) (by rw [hlw, ← flat_without]; exact hof) prgR_len
                have HIF := Lib.hid (HisAt.prgsTo (HA.out.below HBF.out) hrows (by omega) (fun x hx => (HA.out.below HBF.out).prg x (without_sub hx)))
                have HSF : Hid (({ hm with prgs := without hm.prgs i } : HisM).Small) := Lib.hid (Small.prgs HSM.out (by omega) (fun x hx => HSM.out.prgs x (without_sub hx)))
                have HNF := Lib.hid (parts_prg HC0.out i)
                obtain ⟨wf, hwf⟩ : ∃ z, (w5.setCell ⟨b0, 1, none⟩ (.slice u5 (i + (nl - (i + 1))) t5)) = z := ⟨_, rfl⟩
                rw [hwf] at HBF HXF HIF ⊢
                clear hwf hbf hxf hof hrows hlw c5 f5 hz5 i1 i1d i2 i3 i4 i5 i6 i7 i8 i9
                have x0 := HXF.out.cell (i := 0) rfl
                have x1 := HXF.out.cell (i := 1) rfl
                have x2 := HXF.out.cell (i := 2) rfl
                have x3 := HXF.out.cell (i := 3) rfl
                have x4 := HXF.out.cell (i := 4) rfl
                have x5 := HXF.out.cell (i := 5) rfl
                have x6 := HXF.out.cell (i := 6) rfl
                go_wp2_with fail
                refine (Hy.check_any ({ hm with prgs := without hm.prgs i } : HisM) va (.slice u5 (i + (nl - (i + 1))) t5) vc vd ve 1048576 _ (HRY.out.below HBF.out) (HPW.out.below HBF.out) HIF.out HSF.out (by decide)).mono ?_
                rintro e w9 ⟨v9, rfl, ho9, hb9⟩
                rw [HNF.out] at ho9
                obtain ⟨a9, c9, rfl, _⟩ := ho9.form
                have HB9 := Lib.hid (HBF.out.trans (hb9.mono HBF.out.size))
                clear ho9 hb9 x0 x1 x2 x3 x4 x5 x6
                go_wp2_with fail
                go_ret
                exact ⟨rfl, HB9.out⟩
              · go_simp
                refine hK.out _ _ (by trivial) (fun hHe2 => ?_)
                clear hK K
                try simp only [Act.put, List.setIfInBounds_toArray, List.set_cons_zero, List.set_cons_succ]
                refine Hd.tk 10 ?_
                try simp only [Act.put, List.setIfInBounds_toArray, List.set_cons_zero, List.set_cons_succ]
                refine wpAnyH_ready (rs := [5]) (by kernel_rfl) (by simp) (AllReadyH.cons (by simp only [List.getElem?_toArray, List.getElem?_cons_succ, List.getElem?_cons_zero]; rfl) (fun K hK => ?_) AllReadyH.nil)
                refine step_appB tyPrg (by rfl) _ _ (by rfl) wd.heap.size (.slice (some ⟨wd.heap.size, 0, none⟩) 0 0) 0 [] (by rfl) HO0.out HBa.out.size (.slice (some ⟨bs, os, none⟩) i cs) i ((hm.prgs.take i).flatMap prgR) (by rfl) (rows_pre (HId.out.below HBa.out).prgs prgR_len (by decide) (by have := HNL.out; omega)) (by rw [flat_len prgR_len, List.length_take, HNL.out, Nat.min_eq_left (by omega)]) one_prg (by omega) ?_
                intro v4 w4 ho4 hg4 hl4
                rw [Nat.zero_add, List.nil_append] at ho4
                have HO1 := Lib.hid ho4
                have HBb := Lib.hid (HBa.out.grown hg4 HBa.out.size (fun q hq => (HO0.out.lt q hq).1))
                obtain ⟨u4, t4, rfl, _⟩ := ho4.form
                clear ho4 hg4 hl4 HO0 ca
                have cb4 := (HXd.out.older HBb.out).cell (i := 1) rfl
                refine hK.out _ _ (by trivial) (fun hHe3 => ?_)
                clear hK K
                try simp only [Act.put, List.setIfInBounds_toArray, List.set_cons_zero, List.set_cons_succ]
                refine wpAnyH_ready (rs := [11]) (by kernel_rfl) (by simp) (AllReadyH.cons (by simp only [List.getElem?_toArray, List.getElem?_cons_succ, List.getElem?_cons_zero]; rfl) (fun K hK => ?_) AllReadyH.nil)
                refine step_appB tyPrg (by rfl) _ _ (by rfl) wd.heap.size (.slice u4 i t4) i _ (by rfl) HO1.out HBb.out.size (.slice (if cs = i + 1 then some ⟨bs, os, none⟩ else some ⟨bs, os + (i + 1) * 3, none⟩) (nl - (i + 1)) (cs - (i + 1))) (nl - (i + 1)) ((hm.prgs.drop (i + 1)).flatMap prgR) (by rfl) (rows_sufI (HId.out.below HBb.out).prgs prgR_len (by decide) HNL.out.symm (by have := HNL.out; omega) hcs rfl) (by rw [flat_len prgR_len, List.length_drop, HNL.out]) one_prg (by omega) ?_
                intro v5 w5 ho5 hg5 hl5
                have HO2 := Lib.hid ho5
                have HBc := Lib.hid (HBb.out.grown hg5 HBb.out.size (fun q hq => (HO1.out.lt q hq).1))
                obtain ⟨u5, t5, rfl, _⟩ := ho5.form
                clear ho5 hg5 hl5 HO1 cb4
                have hz5 := (HXd.out.older HBc.out).lt
                have f5 := (HXd.out.older HBc.out).frz 1
                have c5 := (HXd.out.older HBc.out).cell (i := 1) rfl
                refine hK.out _ _ (by trivial) (fun hHe4 => ?_)
                clear hK K
                try simp only [Act.put, List.setIfInBounds_toArray, List.set_cons_zero, List.set_cons_succ]
                refine Hd.tk 12 ?_
                try simp only [Act.put, List.setIfInBounds_toArray, List.set_cons_zero, List.set_cons_succ]
                refine wpAnyH_ready (rs := [13]) (by kernel_rfl) (by simp) (AllReadyH.cons (by simp only [List.getElem?_toArray, List.getElem?_cons_succ, List.getElem?_cons_zero]; rfl) (fun K hK => ?_) AllReadyH.nil)
                go_simp
                refine hK.out _ _ (by trivial) (fun hHe5 => ?_)
                clear hK K
                try simp only [Act.put, List.setIfInBounds_toArray, List.set_cons_zero, List.set_cons_succ]
                refine wpAnyH_done (by kernel_rfl) ?_ _
                obtain ⟨av, hav⟩ : ∃ z, (if cs = i + 1 then some (⟨bs, os, none⟩ : Addr) else some ⟨bs, os + (i + 1) * 3, none⟩) = z := ⟨_, rfl⟩
                rw [hav]
                clear hav
                obtain ⟨hbf, hxf, hof⟩ := parts_store (j := 1) HBd.out HXd.out HB00.out HBc.out HO2.out
                have HBF := Lib.hid hbf
                have HXF := Lib.hid hxf
                have hlw : (without hm.prgs i).length = i + (nl - (i + 1)) := by rw [without_len (by rw [HNL.out]; exact hil), HNL.out]
                have hrows : RowsV prgR 3 (w5.setCell ⟨b0, 1, none⟩ (.slice u5 (i + (nl - (i + 1))) t5)) (.slice u5 (i + (nl - (i + 1))) t5) (without hm.prgs i) := rows_ownF (B := wd.heap.size) (e := 97) (by rw [hlw, ← flat_without]; exact hof) prgR_len
                have HIF := Lib.hid (HisAt.prgsTo (HA.out.below HBF.out) hrows (by omega) (fun x hx => (HA.out.below HBF.out).prg x (without_sub hx)))
                have HSF : Hid (({ hm with prgs := without hm.prgs i } : HisM).Small) := Lib.hid (Small.prgs HSM.out (by omega) (fun x hx => HSM.out.prgs x (without_sub hx)))
                have HNF := Lib.hid (parts_prg HC0.out i)
                obtain ⟨wf, hwf⟩ : ∃ z, (w5.setCell ⟨b0, 1, none⟩ (.slice u5 (i + (nl - (i + 1))) t5)) = z := ⟨_, rfl⟩
                rw [hwf] at HBF HXF HIF ⊢
                clear hwf hbf hxf hof hrows hlw c5 f5 hz5 i1 i1d i2 i3 i4 i5 i6 i7 i8 i9
                have x0 := HXF.out.cell (i := 0) rfl
                have x1 := HXF.out.cell (i := 1) rfl
                have x2 := HXF.out.cell (i := 2) rfl
                have x3 := HXF.out.cell (i := 3) rfl
                have x4 := HXF.out.cell (i := 4) rfl
                have x5 := HXF.out.cell (i := 5) rfl
                have x6 := HXF.out.cell (i := 6) rfl
                go_wp2_with fail
                refine (Hy.check_any ({ hm with prgs := without hm.prgs i } : HisM) va (.slice u5 (i + (nl - (i + 1))) t5) vc vd ve 1048576 _ (HRY.out.below HBF.out) (HPW.out.below HBF.out) HIF.out HSF.out (by decide)).mono ?_
                rintro e w9 ⟨v9, rfl, ho9, hb9⟩
                rw [HNF.out] at ho9
                obtain ⟨a9, c9, rfl, _⟩ := ho9.form
                have HB9 := Lib.hid (HBF.out.trans (hb9.mono HBF.out.size))
                clear ho9 hb9 x0 x1 x2 x3 x4 x5 x6
                go_wp2_with fail
                go_ret
                exact ⟨rfl, HB9.out⟩
            · go_simp
              refine hK.out _ _ (by trivial) (fun hHe1 => ?_)
              clear hK K
              try simp only [Act.put, List.setIfInBounds_toArray, List.set_cons_zero, List.set_cons_succ]
              refine Hd.tk 10 ?_
              try simp only [Act.put, List.setIfInBounds_toArray, List.set_cons_zero, List.set_cons_succ]
              refine wpAnyH_ready (rs := [0]) (by kernel_rfl) (by simp) (AllReadyH.cons (by simp only [List.getElem?_toArray, List.getElem?_cons_succ, List.getElem?_cons_zero]; rfl) (fun K hK => ?_) AllReadyH.nil)
              go_simp
              have HO0 := Lib.hid (show OwnWin (wd.alloc (.cells #[] 97)) wd.heap.size 97 3 (.slice (some ⟨wd.heap.size, 0, none⟩) 0 0) 0 [] from ownK_empty (heap_alloc_new wd _) (Nat.le_refl _))
              have HBa := Lib.hid ((Below.refl wd.heap.size wd).alloc (Nat.le_refl _) (.cells #[] 97))
              obtain ⟨wa, hwa⟩ : ∃ z, wd.alloc (.cells #[] 97) = z := ⟨_, rfl⟩
              rw [hwa] at HO0 HBa ⊢
              clear hwa c2
              have ca := (HXd.out.older HBa.out).cell (i := 1) rfl
              refine hK.out _ _ (by trivial) (fun hHe2 => ?_)
              clear hK K
              try simp only [Act.put, List.setIfInBounds_toArray, List.set_cons_zero, List.set_cons_succ]
              refine wpAnyH_ready (rs := [5]) (by kernel_rfl) (by simp) (AllReadyH.cons (by simp only [List.getElem?_toArray, List.getElem?_cons_succ, List.getElem?_cons_zero]; rfl) (fun K hK => ?_) AllReadyH.nil)
              refine step_appB tyPrg (by rfl) _ _ (by rfl) wd.heap.size (.slice (some ⟨wd.heap.size, 0, none⟩) 0 0) 0 [] (by rfl) HO0.out HBa.out.size (.slice (some ⟨bs, os, none⟩) i cs) i ((hm.prgs.take i).flatMap prgR) (by rfl) (rows_pre (HId.out.below HBa.out).prgs prgR_len (by decide) (by have := HNL.out; omega)) (by rw [flat_len prgR_len, List.length_take, HNL.out, Nat.min_eq_left (by omega)]) one_prg (by omega) ?_
              intro v4 w4 ho4 hg4 hl4
              rw [Nat.zero_add, List.nil_append] at ho4
              have HO1 := Lib.hid ho4
              have HBb := Lib.hid (HBa.out.grown hg4 HBa.out.size (fun q hq => (HO0.out.lt q hq).1))
              obtain ⟨u4, t4, rfl, _⟩ := ho4.form
              clear ho4 hg4 hl4 HO0 ca
              have cb4 := (HXd.out.older HBb.out).cell (i := 1) rfl
              refine hK.out _ _ (by trivial) (fun hHe3 => ?_)
              clear hK K
              try simp only [Act.put, List.setIfInBounds_toArray, List.set_cons_zero, List.set_cons_succ]
              refine wpAnyH_ready (rs := [11]) (by kernel_rfl) (by simp) (AllReadyH.cons (by simp only [List.getElem?_toArray, List.getElem?_cons_succ, List.getElem?_cons_zero]; rfl) (fun K hK => ?_) AllReadyH.nil)
              refine step_appB tyPrg (by rfl) _ _ (by rfl) wd.heap.size (.slice u4 i t4) i _ (by rfl) HO1.out HBb.out.size (.slice (if cs = i + 1 then some ⟨bs, os, none⟩ else some ⟨bs, os + (i + 1) * 3, none⟩) (nl - (i + 1)) (cs - (i + 1))) (nl - (i + 1)) ((hm.prgs.drop (i + 1)).flatMap prgR) (by rfl) (rows_sufI (HId.out.below HBb.out).prgs prgR_len (by decide) HNL.out.symm (by have := HNL.out; omega) hcs rfl) (by rw [flat_len prgR_len, List.length_drop, HNL.out]) one_prg (by omega) ?_
              intro v5 w5 ho5 hg5 hl5
              have HO2 := Lib.hid ho5
              have HBc := Lib.hid (HBb.out.grown hg5 HBb.out.size (fun q hq => (HO1.out.lt q hq).1))
              obtain ⟨u5, t5, rfl, _⟩ := ho5.form
              clear ho5 hg5 hl5 HO1 cb4
              have hz5 := (HXd.out.older HBc.out).lt
              have f5 := (HXd.out.older HBc.out).frz 1
              have c5 := (HXd.out.older HBc.out).cell (i := 1) rfl
              refine hK.out _ _ (by trivial) (fun hHe4 => ?_)
              clear hK K
              try simp only [Act.put, List.setIfInBounds_toArray, List.set_cons_zero, List.set_cons_succ]
              refine Hd.tk 12 ?_
              try simp only [Act.put, List.setIfInBounds_toArray, List.set_cons_zero, List.set_cons_succ]
              refine wpAnyH_ready (rs := [13]) (by kernel_rfl) (by simp) (AllReadyH.cons (by simp only [List.getElem?_toArray, List.getElem?_cons_succ, List.getElem?_cons_zero]; rfl) (fun K hK => ?_) AllReadyH.nil)
              go_simp
              refine hK.out _ _ (by trivial) (fun hHe5 => ?_)
              clear hK K
              try simp only [Act.put, List.setIfInBounds_toArray, List.set_cons_zero, List.set_cons_succ]
              refine wpAnyH_done (by kernel_rfl) ?_ _
              obtain ⟨av, hav⟩ : ∃ z, (if cs = i + 1 then some (⟨bs, os, none⟩ : Addr) else some ⟨bs, os + (i + 1) * 3, none⟩) = z := ⟨_, rfl⟩
              rw [hav]
              clear hav
              obtain ⟨hbf, hxf, hof⟩ := parts_store (j := 1) HBd.out HXd.out HB00.out HBc.out HO2.out
              have HBF := Lib.hid hbf
              have HXF := Lib.hid hxf
              have hlw : (without hm.prgs i).length = i + (nl - (i + 1)) := by rw [without_len (by rw [HNL.out]; exact hil), HNL.out]
              have hrows : RowsV prgR 3 (w5.setCell ⟨b0, 1, none⟩ (.slice u5 (i + (nl - (i + 1))) t5)) (.slice u5 (i + (nl - (i + 1))) t5) (without hm.prgs i) := rows_ownF (B := wd.heap.size) (e := 97) (by rw [hlw, ← flat_without]; exact hof) prgR_len
              have HIF := Lib.hid (HisAt.prgsTo (HA.out.below HBF.out) hrows (by omega) (fun x hx => (HA.out.below HBF.out).prg x (without_sub hx)))
              have HSF : Hid (({ hm with prgs := without hm.prgs i } : HisM).Small) := Lib.hid (Small.prgs HSM.out (by omega) (fun x hx => HSM.out.prgs x (without_sub hx)))
              have HNF := Lib.hid (parts_prg HC0.out i)
              obtain ⟨wf, hwf⟩ : ∃ z, (w5.setCell ⟨b0, 1, none⟩ (.slice u5 (i + (nl - (i + 1))) t5)) = z := ⟨_, rfl⟩
              rw [hwf] at HBF HXF HIF ⊢
              clear hwf hbf hxf hof hrows hlw c5 f5 hz5 i1 i1d i2 i3 i4 i5 i6 i7 i8 i9
              have x0 := HXF.out.cell (i := 0) rfl
              have x1 := HXF.out.cell (i := 1) rfl
              have x2 := HXF.out.cell (i := 2) rfl
              have x3 := HXF.out.cell (i := 3) rfl
              have x4 := HXF.out.cell (i := 4) rfl
              have x5 := HXF.out.cell (i := 5) rfl
              have x6 := HXF.out.cell (i := 6) rfl
              go_wp2_with fail
              refine (Hy.check_any ({ hm with prgs := without hm.prgs i } : HisM) va (.slice u5 (i + (nl - (i + 1))) t5) vc vd ve 1048576 _ (HRY.out.below HBF.out) (HPW.out.below HBF.out) HIF.out HSF.out (by decide)).mono ?_
              rintro e w9 ⟨v9, rfl, ho9, hb9⟩
              rw [HNF.out] at ho9
              obtain ⟨a9, c9, rfl, _⟩ := ho9.form
              have HB9 := Lib.hid (HBF.out.trans (hb9.mono HBF.out.size))
              clear ho9 hb9 x0 x1 x2 x3 x4 x5 x6
              go_wp2_with fail
              go_ret
              exact ⟨rfl, HB9.out⟩
          · go_simp
            refine hK.out _ _ (by trivial) (fun hHe0 => ?_)
            clear hK K
            try simp only [Act.put, List.setIfInBounds_toArray, List.set_cons_zero, List.set_cons_succ]
            refine Hd.tk 10 ?_
            try simp only [Act.put, List.setIfInBounds_toArray, List.set_cons_zero, List.set_cons_succ]
            refine wpAnyH_ready (rs := [0, 2]) (by kernel_rfl) (by simp) (AllReadyH.cons (by simp only [List.getElem?_toArray, List.getElem?_cons_succ, List.getElem?_cons_zero]; rfl) (fun K hK => ?_) (AllReadyH.cons (by simp only [List.getElem?_toArray, List.getElem?_cons_succ, List.getElem?_cons_zero]; rfl) (fun K hK => ?_) AllReadyH.nil))
            · go_simp
              have HO0 := Lib.hid (show OwnWin (wd.alloc (.cells #[] 97)) wd.heap.size 97 3 (.slice (some ⟨wd.heap.size, 0, none⟩) 0 0) 0 [] from ownK_empty (heap_alloc_new wd _) (Nat.le_refl _))
              have HBa := Lib.hid ((Below.refl wd.heap.size wd).alloc (Nat.le_refl _) (.cells #[] 97))
              obtain ⟨wa, hwa⟩ : ∃ z, wd.alloc (.cells #[] 97) = z := ⟨_, rfl⟩
              rw [hwa] at HO0 HBa ⊢
              clear hwa c2
              have ca := (HXd.out.older HBa.out).cell (i := 1) rfl
              refine hK.out _ _ (by trivial) (fun hHe1 => ?_)
              clear hK K
              try simp only [Act.put, List.setIfInBounds_toArray, List.set_cons_zero, List.set_cons_succ]
              refine wpAnyH_ready (rs := [2]) (by kernel_rfl) (by simp) (AllReadyH.cons (by simp only [List.getElem?_toArray, List.getElem?_cons_succ, List.getElem?_cons_zero]; rfl) (fun K hK => ?_) AllReadyH.nil)
              go_simp
              refine hK.out _ _ (by trivial) (fun hHe2 => ?_)
              clear hK K
              try simp only [Act.put, List.setIfInBounds_toArray, List.set_cons_zero, List.set_cons_succ]
              refine Hd.tk 4 ?_
              try simp only [Act.put, List.setIfInBounds_toArray, List.set_cons_zero, List.set_cons_succ]
              refine wpAnyH_ready (rs := [5]) (by kernel_rfl) (by simp) (AllReadyH.cons (by simp only [List.getElem?_toArray, List.getElem?_cons_succ, List.getElem?_cons_zero]; rfl) (fun K hK => ?_) AllReadyH.nil)
              refine step_appB tyPrg (by rfl) _ _ (by rfl) wd.heap.size (.slice (some ⟨wd.heap.size, 0, none⟩) 0 0) 0 [] (by rfl) HO0.out HBa.out.size (.slice (some ⟨bs, os, none⟩) i cs) i ((hm.prgs.take i).flatMap prgR) (by rfl) (rows_pre (HId.out.below HBa.out).prgs prgR_len (by decide) (by have := HNL.out; omega)) (by rw [flat_len prgR_len, List.length_take, HNL.out, Nat.min_eq_left (by omega)]) one_prg (by omega) ?_
              intro v4 w4 ho4 hg4 hl4
              rw [Nat.zero_add, List.nil_append] at ho4
              have HO1 := Lib.hid ho4
              have HBb := Lib.hid (HBa.out.grown hg4 HBa.out.size (fun q hq => (HO0.out.lt q hq).1))
              obtain ⟨u4, t4, rfl, _⟩ := ho4.form
              clear ho4 hg4 hl4 HO0 ca
              have cb4 := (HXd.out.older HBb.out).cell (i := 1) rfl
              refine hK.out _ _ (by trivial) (fun hHe3 => ?_)
              clear hK K
              try simp only [Act.put, List.setIfInBounds_toArray, List.set_cons_zero, List.set_cons_succ]
              refine wpAnyH_ready (rs := [11]) (by kernel_rfl) (by simp) (AllReadyH.cons (by simp only [List.getElem?_toArray, List.getElem?_cons_succ, List.getElem?_cons_zero]; rfl) (fun K hK => ?_) AllReadyH.nil)
              refine step_appB tyPrg (by rfl) _ _ (by rfl) wd.heap.size (.slice u4 i t4) i _ (by rfl) HO1.out HBb.out.size (.slice (if cs = i + 1 then some ⟨bs, os, none⟩ else some ⟨bs, os + (i + 1) * 3, none⟩) (nl - (i + 1)) (cs - (i + 1))) (nl - (i + 1)) ((hm.prgs.drop (i + 1)).flatMap prgR) (by rfl) (rows_sufI (HId.out.below HBb.out).prgs prgR_len (by decide) HNL.out.symm (by have := HNL.out; omega) hcs rfl) (by rw [flat_len prgR_len, List.length_drop, HNL.out]) one_prg (by omega) ?_
              intro v5 w5 ho5 hg5 hl5
              have HO2 := Lib.hid ho5
              have HBc := Lib.hid (HBb.out.grown hg5 HBb.out.size (fun q hq => (HO1.out.lt q hq).1))
              obtain ⟨u5, t5, rfl, _⟩ := ho5.form
              clear ho5 hg5 hl5 HO1 cb4
              have hz5 := (HXd.out.older HBc.out).lt
              have f5 := (HXd.out.older HBc.out).frz 1
              have c5 := (HXd.out.older HBc.out).cell (i := 1) rfl
              refine hK.out _ _ (by trivial) (fun hHe4 => ?_)
              clear hK K
              try simp only [Act.put, List.setIfInBounds_toArray, List.set_cons_zero, List.set_cons_succ]
              refine Hd.tk 12 ?_
              try simp only [Act.put, List.setIfInBounds_toArray, List.set_cons_zero, List.set_cons_succ]
              refine wpAnyH_ready (rs := [13]) (by kernel_rfl) (by simp) (AllReadyH.cons (by simp only [List.getElem?_toArray, List.getElem?_cons_succ, List.getElem?_cons_zero]; rfl) (fun K hK => ?_) AllReadyH.nil)
              go_simp
              refine hK.out _ _ (by trivial) (fun hHe5 => ?_)
              clear hK K
              try simp only [Act.put, List.setIfInBounds_toArray, List.set_cons_zero, List.set_cons_succ]
              refine wpAnyH_done (by kernel_rfl) ?_ _
              obtain ⟨av, hav⟩ : ∃ z, (if cs = i + 1 then some (⟨bs, os, none⟩ : Addr) else some ⟨bs, os + (i + 1) * 3, none⟩) = z := ⟨_, rfl⟩
              rw [hav]
              clear hav
              obtain ⟨hbf, hxf, hof⟩ := parts_store (j := 1) HBd.out HXd.out HB00.out HBc.out HO2.out
              have HBF := Lib.hid hbf
              have HXF := Lib.hid hxf
              have hlw : (without hm.prgs i).length = i + (nl - (i + 1)) := by rw [without_len (by rw [HNL.out]; exact hil), HNL.out]
              have hrows : RowsV prgR 3 (w5.setCell ⟨b0, 1, none⟩ (.slice u5 (i + (nl - (i + 1))) t5)) (.slice u5 (i + (nl - (i + 1))) t5) (without hm.prgs i) := rows_ownF (B := wd.heap.size) (e := 97) (by rw [hlw, ← flat_without]; exact hof) prgR_len
              have HIF := Lib.hid (HisAt.prgsTo (HA.out.below HBF.out) hrows (by omega) (fun x hx => (HA.out.below HBF.out).prg x (without_sub hx)))
              have HSF : Hid (({ hm with prgs := without hm.prgs i } : HisM).Small) := Lib.hid (Small.prgs HSM.out (by omega) (fun x hx => HSM.out.prgs x (without_sub hx)))
              have HNF := Lib.hid (parts_prg HC0.out i)
              obtain ⟨wf, hwf⟩ : ∃ z, (w5.setCell ⟨b0, 1, none⟩ (.slice u5 (i + (nl - (i + 1))) t5)) = z := ⟨_, rfl⟩
              rw [hwf] at HBF HXF HIF ⊢
              clear hwf hbf hxf hof hrows hlw c5 f5 hz5 i1 i1d i2 i3 i4 i5 i6 i7 i8 i9
              have x0 := HXF.out.cell (i := 0) rfl
              have x1 := HXF.out.cell (i := 1) rfl
              have x2 := HXF.out.cell (i := 2) rfl
              have x3 := HXF.out.cell (i := 3) rfl
              have x4 := HXF.out.cell (i := 4) rfl
              have x5 := HXF.out.cell (i := 5) rfl
              have x6 := HXF.out.cell (i := 6) rfl
              go_wp2_with fail
              refine (Hy.check_any ({ hm with prgs := without hm.prgs i } : HisM) va (.slice u5 (i + (nl - (i + 1))) t5) vc vd ve 1048576 _ (HRY.out.below HBF.out) (HPW.out.below HBF.out) HIF.out HSF.out (by decide)).mono ?_
              rintro e w9 ⟨v9, rfl, ho9, hb9⟩
              rw [HNF.out] at ho9
              obtain ⟨a9, c9, rfl, _⟩ := ho9.form
              have HB9 := Lib.hid (HBF.out.trans (hb9.mono HBF.out.size))
              clear ho9 hb9 x0 x1 x2 x3 x4 x5 x6
              go_wp2_with fail
              go_ret
              exact ⟨rfl, HB9.out⟩
            · go_simp
              refine hK.out _ _ (by trivial) (fun hHe1 => ?_)
              clear hK K
              try simp only [Act.put, List.setIfInBounds_toArray, List.set_cons_zero, List.set_cons_succ]
              refine Hd.tk 4 ?_
              try simp only [Act.put, List.setIfInBounds_toArray, List.set_cons_zero, List.set_cons_succ]
              refine wpAnyH_ready (rs := [0]) (by kernel_rfl) (by simp) (AllReadyH.cons (by simp only [List.getElem?_toArray, List.getElem?_cons_succ, List.getElem?_cons_zero]; rfl) (fun K hK => ?_) AllReadyH.nil)
              go_simp
              have HO0 := Lib.hid (show OwnWin (wd.alloc (.cells #[] 97)) wd.heap.size 97 3 (.slice (some ⟨wd.heap.size, 0, none⟩) 0 0) 0 [] from ownK_empty (heap_alloc_new wd _) (Nat.le_refl _))
              have HBa := Lib.hid ((Below.refl wd.heap.size wd).alloc (Nat.le_refl _) (.cells #[] 97))
              obtain ⟨wa, hwa⟩ : ∃ z, wd.alloc (.cells #[] 97) = z := ⟨_, rfl⟩
              rw [hwa] at HO0 HBa ⊢
              clear hwa c2
              have ca := (HXd.out.older HBa.out).cell (i := 1) rfl
              refine hK.out _ _ (by trivial) (fun hHe2 => ?_)
              clear hK K
              try simp only [Act.put, List.setIfInBounds_toArray, List.set_cons_zero, List.set_cons_succ]
              refine wpAnyH_ready (rs := [5]) (by kernel_rfl) (by simp) (AllReadyH.cons (by simp only [List.getElem?_toArray, List.getElem?_cons_succ, List.getElem?_cons_zero]; rfl) (fun K hK => ?_) AllReadyH.nil)
              refine step_appB tyPrg (by rfl) _ _ (by rfl) wd.heap.size (.slice (some ⟨wd.heap.size, 0, none⟩) 0 0) 0 [] (by rfl) HO0.out HBa.out.size (.slice (some ⟨bs, os, none⟩) i cs) i ((hm.prgs.take i).flatMap prgR) (by rfl) (rows_pre (HId.out.below HBa.out).prgs prgR_len (by decide) (by have := HNL.out; omega)) (by rw [flat_len prgR_len, List.length_take, HNL.out, Nat.min_eq_left (by omega)]) one_prg (by omega) ?_
              intro v4 w4 ho4 hg4 hl4
              rw [Nat.zero_add, List.nil_append] at ho4
              have HO1 := Lib.hid ho4
              have HBb := Lib.hid (HBa.out.grown hg4 HBa.out.size (fun q hq => (HO0.out.lt q hq).1))
              obtain ⟨u4, t4, rfl, _⟩ := ho4.form
              clear ho4 hg4 hl4 HO0 ca
              have cb4 := (HXd.out.older HBb.out).cell (i := 1) rfl
              refine hK.out _ _ (by trivial) (fun hHe3 => ?_)
              clear hK K
              try simp only [Act.put, List.setIfInBounds_toArray, List.set_cons_zero, List.set_cons_succ]
              refine wpAnyH_ready (rs := [11]) (by kernel_rfl) (by simp) (AllReadyH.cons (by simp only [List.getElem?_toArray, List.getElem?_cons_succ, List.getElem?_cons_zero]; rfl) (fun K hK => ?_) AllReadyH.nil)
              refine step_appB tyPrg (by rfl) _ _ (by rfl) wd.heap.size (.slice u4 i t4) i _ (by rfl) HO1.out HBb.out.size (.slice (if cs = i + 1 then some ⟨bs, os, none⟩ else some ⟨bs, os + (i + 1) * 3, none⟩) (nl - (i + 1)) (cs - (i + 1))) (nl - (i + 1)) ((hm.prgs.drop (i + 1)).flatMap prgR) (by rfl) (rows_sufI (HId.out.below HBb.out).prgs prgR_len (by decide) HNL.out.symm (by have := HNL.out; omega) hcs rfl) (by rw [flat_len prgR_len, List.length_drop, HNL.out]) one_prg (by omega) ?_
              intro v5 w5 ho5 hg5 hl5
              have HO2 := Lib.hid ho5
              have HBc := Lib.hid (HBb.out.grown hg5 HBb.out.size (fun q hq => (HO1.out.lt q hq).1))
              obtain ⟨u5, t5, rfl, _⟩ := ho5.form
              clear ho5 hg5 hl5 HO1 cb4
              have hz5 := (HXd.out.older HBc.out).lt
              have f5 := (HXd.out.older HBc.out).frz 1
              have c5 := (HXd.out.older HBc.out).cell (i := 1) rfl
              refine hK.out _ _ (by trivial) (fun hHe4 => ?_)
              clear hK K
              try simp only [Act.put, List.setIfInBounds_toArray, List.set_cons_zero, List.set_cons_succ]
              refine Hd.tk 12 ?_
              try simp only [Act.put, List.setIfInBounds_toArray, List.set_cons_zero, List.set_cons_succ]
              refine wpAnyH_ready (rs := [13]) (by kernel_rfl) (by simp) (AllReadyH.cons (by simp only [List.getElem?_toArray, List.getElem?_cons_succ, List.getElem?_cons_zero]; rfl) (fun K hK => ?_) AllReadyH.nil)
              go_simp
              refine hK.out _ _ (by trivial) (fun hHe5 => ?_)
              clear hK K
              try simp only [Act.put, List.setIfInBounds_toArray, List.set_cons_zero, List.set_cons_succ]
              refine wpAnyH_done (by kernel_rfl) ?_ _
              obtain ⟨av, hav⟩ : ∃ z, (if cs = i + 1 then some (⟨bs, os, none⟩ : Addr) else some ⟨bs, os + (i + 1) * 3, none⟩) = z := ⟨_, rfl⟩
              rw [hav]
              clear hav
              obtain ⟨hbf, hxf, hof⟩ := parts_store (j := 1) HBd.out HXd.out HB00.out HBc.out HO2.out
              have HBF := Lib.hid hbf
              have HXF := Lib.hid hxf
              have hlw : (without hm.prgs i).length = i + (nl - (i + 1)) := by rw [without_len (by rw [HNL.out]; exact hil), HNL.out]
              have hrows : RowsV prgR 3 (w5.setCell ⟨b0, 1, none⟩ (.slice u5 (i + (nl - (i + 1))) t5)) (.slice u5 (i + (nl - (i + 1))) t5) (without hm.prgs i) := rows_ownF (B := wd.heap.size) (e := 97) (by rw [hlw, ← flat_without]; exact hof) prgR_len
              have HIF := Lib.hid (HisAt.prgsTo (HA.out.below HBF.out) hrows (by omega) (fun x hx => (HA.out.below HBF.out).prg x (without_sub hx)))
              have HSF : Hid (({ hm with prgs := without hm.prgs i } : HisM).Small) := Lib.hid (Small.prgs HSM.out (by omega) (fun x hx => HSM.out.prgs x (without_sub hx)))
              have HNF := Lib.hid (parts_prg HC0.out i)
              obtain ⟨wf, hwf⟩ : ∃ z, (w5.setCell ⟨b0, 1, none⟩ (.slice u5 (i + (nl - (i + 1))) t5)) = z := ⟨_, rfl⟩
              rw [hwf] at HBF HXF HIF ⊢
              clear hwf hbf hxf hof hrows hlw c5 f5 hz5 i1 i1d i2 i3 i4 i5 i6 i7 i8 i9
              have x0 := HXF.out.cell (i := 0) rfl
              have x1 := HXF.out.cell (i := 1) rfl
              have x2 := HXF.out.cell (i := 2) rfl
              have x3 := HXF.out.cell (i := 3) rfl
              have x4 := HXF.out.cell (i := 4) rfl
              have x5 := HXF.out.cell (i := 5) rfl
              have x6 := HXF.out.cell (i := 6) rfl
              go_wp2_with fail
              refine (Hy.check_any ({ hm with prgs := without hm.prgs i } : HisM) va (.slice u5 (i + (nl - (i + 1))) t5) vc vd ve 1048576 _ (HRY.out.below HBF.out) (HPW.out.below HBF.out) HIF.out HSF.out (by decide)).mono ?_
              rintro e w9 ⟨v9, rfl, ho9, hb9⟩
              rw [HNF.out] at ho9
              obtain ⟨a9, c9, rfl, _⟩ := ho9.form
              have HB9 := Lib.hid (HBF.out.trans (hb9.mono HBF.out.size))
              clear ho9 hb9 x0 x1 x2 x3 x4 x5 x6
              go_wp2_with fail
              go_ret
              exact ⟨rfl, HB9.out⟩
        · obtain ⟨ua, uc, rfl, _⟩ := HI3.out.prgs.form
          obtain ⟨nl, hnl⟩ : ∃ z, hm.prgs.length = z := ⟨_, rfl⟩
          have i1 : ¬ (i : Int) < (nl : Int) := by omega
          have i1d : decide ((i : Int) < (nl : Int)) = false := decide_eq_false i1
          rw [hnl] at HX3 HI3 ⊢
          have x0 := HX3.out.cell (i := 0) rfl
          have x1 := HX3.out.cell (i := 1) rfl
          have x2 := HX3.out.cell (i := 2) rfl
          have x3 := HX3.out.cell (i := 3) rfl
          have x4 := HX3.out.cell (i := 4) rfl
          have x5 := HX3.out.cell (i := 5) rfl
          have x6 := HX3.out.cell (i := 6) rfl
          go_wp2_with fail
          refine (Hy.check_any (hm) va (.slice ua nl uc) vc vd ve 1048576 _ (HRY.out.below HB3.out) (HPW.out.below HB3.out) HI3.out HSM.out (by decide)).mono ?_
          rintro e w9 ⟨v9, rfl, ho9, hb9⟩
          rw [HC0.out] at ho9
          obtain ⟨a9, c9, rfl, _⟩ := ho9.form
          have HB9 := Lib.hid (HB3.out.trans (hb9.mono HB3.out.size))
          clear ho9 hb9 x0 x1 x2 x3 x4 x5 x6
          go_wp2_with fail
          go_ret
          exact ⟨rfl, HB9.out⟩
      · by_cases hil : i < hm.fets.length
        · have HIL := Lib.hid hil
          obtain ⟨bs, os, cs, hv, hcs, _, _⟩ : ∃ (b o c : Nat), vd = .slice (some ⟨b, o, none⟩) hm.fets.length c ∧ hm.fets.length ≤ c ∧ True ∧ True := by
            rcases HI3.out.fets with ⟨h1, _⟩ | ⟨b, o, c, h1, h2, _⟩
            · rw [h1] at hil; simp at hil
            · exact ⟨b, o, c, h1, h2, trivial, trivial⟩
          subst hv
          obtain ⟨nl, hnl⟩ : ∃ z, hm.fets.length = z := ⟨_, rfl⟩
          have HNL := Lib.hid hnl
          rw [hnl] at HX3 HI3 hil hcs ⊢
          have hnm : nl ≤ 1000 := by rw [← hnl]; exact HSM.out.nfet
          clear hnl
          have i1 : (i : Int) < (nl : Int) := by omega
          have i1d : decide ((i : Int) < (nl : Int)) = true := decide_eq_true i1
          have c0 := HX3.out.cell (i := 3) rfl
          go_upto_region 19 with fail
          have HXd := Lib.hid (HX3.out.older (Below.refl _ _).drew)
          have HBd := Lib.hid HB3.out.drew
          have HId := Lib.hid (HI3.out.below (Below.refl _ _).drew)
          have k1 : IntKind.i64.wrap ((i : Int) + 1) = (i : Int) + 1 := IntWalk.i64_in _ (by omega)
          have i2 : (i : Int) ≤ (cs : Int) := by omega
          have i3 : (i : Int) + 1 ≤ (nl : Int) := by omega
          have i4 : (i : Int) + 1 ≤ (cs : Int) := by omega
          have i5 : (0 : Int) ≤ (i : Int) + 1 := by omega
          have i6 : (nl : Int) ≤ (cs : Int) := by omega
          have i7 : (0 : Int) ≤ (i : Int) := by omega
          have i8 : (i : Int).toNat = i := by omega
          have i9 : ((i : Int) + 1).toNat = i + 1 := by omega
          refine wp_region_held_drew (S := (fun _ => True)) (by kernel_rfl) (by trivial) (fun hHeld => ?_)
          obtain ⟨wd, hwd⟩ : ∃ z, w3.drew = z := ⟨_, rfl⟩
          rw [hwd] at HXd HBd HId ⊢
          clear hwd
          have HBz := Lib.hid (Below.refl wd.heap.size wd)
          have c2 := HXd.out.cell (i := 3) rfl
          refine Hd.tk 1 ?_
          try simp only [Act.put, List.setIfInBounds_toArray, List.set_cons_zero, List.set_cons_succ]
          refine Hd.tk 3 ?_
          try simp only [Act.put, List.setIfInBounds_toArray, List.set_cons_zero, List.set_cons_succ]
          refine Hd.tk 6 ?_
          try simp only [Act.put, List.setIfInBounds_toArray, List.set_cons_zero, List.set_cons_succ]
          refine Hd.tk 8 ?_
          try simp only [Act.put, List.setIfInBounds_toArray, List.set_cons_zero, List.set_cons_succ]
          refine Hd.tk 9 ?_
          try simp only [Act.put, List.setIfInBounds_toArray, List.set_cons_zero, List.set_cons_succ]
          refine wpAnyH_ready (rs := [0, 2, 7]) (by kernel_rfl) (by simp) (AllReadyH.cons (by simp only [List.getElem?_toArray, List.getElem?_cons_succ, List.getElem?_cons_zero]; rfl) (fun K hK => ?_) (AllReadyH.cons (by simp only [List.getElem?_toArray, List.getElem?_cons_succ, List.getElem?_cons_zero]; rfl) (fun K hK => ?_) (AllReadyH.cons (by simp only [List.getElem?_toArray, List.getElem?_cons_succ, List.getElem?_cons_zero]; rfl) (fun K hK => ?_) AllReadyH.nil)))
          · go_simp
            have HO0 := Lib.hid (show OwnWin (wd.alloc (.cells #[] 102)) wd.heap.size 102 6 (.slice (some ⟨wd.heap.size, 0, none⟩) 0 0) 0 [] from ownK_empty (heap_alloc_new wd _) (Nat.le_refl _))
            have HBa := Lib.hid ((Below.refl wd.heap.size wd).alloc (Nat.le_refl _) (.cells #[] 102))
            obtain ⟨wa, hwa⟩ : ∃ z, wd.alloc (.cells #[] 102) = z := ⟨_, rfl⟩
            rw [hwa] at HO0 HBa ⊢
            clear hwa c2
            have ca := (HXd.out.older HBa.out).cell (i := 3) rfl
            refine hK.out _ _ (by trivial) (fun hHe0 => ?_)
            clear hK K
            try simp only [Act.put, List.setIfInBounds_toArray, List.set_cons_zero, List.set_cons_succ]
            refine wpAnyH_ready (rs := [2, 7]) (by kernel_rfl) (by simp) (AllReadyH.cons (by simp only [List.getElem?_toArray, List.getElem?_cons_succ, List.getElem?_cons_zero]; rfl) (fun K hK => ?_) (AllReadyH.cons (by simp only [List.getElem?_toArray, List.getElem?_cons_succ, List.getElem?_cons_zero]; rfl) (fun K hK => ?_) AllReadyH.nil))
            · go_simp
              refine hK.out _ _ (by trivial) (fun hHe1 => ?_)
              clear hK K
              try simp only [Act.put, List.setIfInBounds_toArray, List.set_cons_zero, List.set_cons_succ]
              refine Hd.tk 4 ?_
              try simp only [Act.put, List.setIfInBounds_toArray, List.set_cons_zero, List.set_cons_succ]
              refine wpAnyH_ready (rs := [5, 7]) (by kernel_rfl) (by simp) (AllReadyH.cons (by simp only [List.getElem?_toArray, List.getElem?_cons_succ, List.getElem?_cons_zero]; rfl) (fun K hK => ?_) (AllReadyH.cons (by simp only [List.getElem?_toArray, List.getElem?_cons_succ, List.getElem?_cons_zero]; rfl) (fun K hK => ?_) AllReadyH.nil))
              · refine step_appB tyFet (by rfl) _ _ (by rfl) wd.heap.size (.slice (some ⟨wd.heap.size, 0, none⟩) 0 0) 0 [] (by rfl) HO0.out HBa.out.size (.slice (some ⟨bs, os, none⟩) i cs) i ((hm.fets.take i).flatMap fetR) (by rfl) (rows_pre (HId.out.below HBa.out).fets fetR_len (by decide) (by have := HNL.out; omega)) (by rw [flat_len fetR_len, List.length_take, HNL.out, Nat.min_eq_left (by omega)]) one_fet (by omega) ?_
                intro v4 w4 ho4 hg4 hl4
                rw [Nat.zero_add, List.nil_append] at ho4
                have HO1 := Lib.hid ho4
                have HBb := Lib.hid (HBa.out.grown hg4 HBa.out.size (fun q hq => (HO0.out.lt q hq).1))
                obtain ⟨u4, t4, rfl, _⟩ := ho4.form
                clear ho4 hg4 hl4 HO0 ca
                have cb4 := (HXd.out.older HBb.out).cell (i := 3) rfl
                refine hK.out _ _ (by trivial) (fun hHe2 => ?_)
                clear hK K
                try simp only [Act.put, List.setIfInBounds_toArray, List.set_cons_zero, List.set_cons_succ]
                refine wpAnyH_ready (rs := [7]) (by kernel_rfl) (by simp) (AllReadyH.cons (by simp only [List.getElem?_toArray, List.getElem?_cons_succ, List.getElem?_cons_zero]; rfl) (fun K hK => ?_) AllReadyH.nil)
                go_simp
                refine hK.out _ _ (by trivial) (fun hHe3 => ?_)
                clear hK K
                try simp only [Act.put, List.setIfInBounds_toArray, List.set_cons_zero, List.set_cons_succ]
                refine Hd.tk 10 ?_
                try simp only [Act.put, List.setIfInBounds_toArray, List.set_cons_zero, List.set_cons_succ]
                refine wpAnyH_ready (rs := [11]) (by kernel_rfl) (by simp) (AllReadyH.cons (by simp only [List.getElem?_toArray, List.getElem?_cons_succ, List.getElem?_cons_zero]; rfl) (fun K hK => ?_) AllReadyH.nil)
                refine step_appB tyFet (by rfl) _ _ (by rfl) wd.heap.size (.slice u4 i t4) i _ (by rfl) HO1.out HBb.out.size (.slice (if cs = i + 1 then some ⟨bs, os, none⟩ else some ⟨bs, os + (i + 1) * 6, none⟩) (nl - (i + 1)) (cs - (i + 1))) (nl - (i + 1)) ((hm.fets.drop (i + 1)).flatMap fetR) (by rfl) (rows_sufI (HId.out.below HBb.out).fets fetR_len (by decide) HNL.out.symm (by have := HNL.out; omega) hcs rfl) (by rw [flat_len fetR_len, List.length_drop, HNL.out]) one_fet (by omega) ?_
                intro v5 w5 ho5 hg5 hl5
                have HO2 := Lib.hid ho5
                have HBc := Lib.hid (HBb.out.grown hg5 HBb.out.size (fun q hq => (HO1.out.lt q hq).1))
                obtain ⟨u5, t5, rfl, _⟩ := ho5.form
                clear ho5 hg5 hl5 HO1 cb4
                have hz5 := (HXd.out.older HBc.out).lt
                have f5 := (HXd.out.older HBc.out).frz 3
                have c5 := (HXd.out.older HBc.out).cell (i := 3) rfl
                refine hK.out _ _ (by trivial) (fun hHe4 => ?_)
                clear hK K
                try simp only [Act.put, List.setIfInBounds_toArray, List.set_cons_zero, List.set_cons_succ]
                refine Hd.tk 12 ?_
                try simp only [Act.put, List.setIfInBounds_toArray, List.set_cons_zero, List.set_cons_succ]
                refine wpAnyH_ready (rs := [13]) (by kernel_rfl) (by simp) (AllReadyH.cons (by simp only [List.getElem?_toArray, List.getElem?_cons_succ, List.getElem?_cons_zero]; rfl) (fun K hK => ?_) AllReadyH.nil)
                go_simp
                refine hK.out _ _ (by trivial) (fun hHe5 => ?_)
                clear hK K
                try simp only [Act.put, List.setIfInBounds_toArray, List.set_cons_zero, List.set_cons_succ]
                refine wpAnyH_done (by kernel_rfl) ?_ _
                obtain ⟨av, hav⟩ : ∃ z, (if cs = i + 1 then some (⟨bs, os, none⟩ : Addr) else some ⟨bs, os + (i + 1) * 6, none⟩) = z := ⟨_, rfl⟩
                rw [hav]
                clear hav
                obtain ⟨hbf, hxf, hof⟩ := parts_store (j := 3) HBd.out HXd.out HB00.out HBc.out HO2.out
                have HBF := Lib.hid hbf
                have HXF := Lib.hid hxf
                have hlw : (without hm.fets i).length = i + (nl - (i + 1)) := by rw [without_len (by rw [HNL.out]; exact hil), HNL.out]
                have hrows : RowsV fetR 6 (w5.setCell ⟨b0, 3, none⟩ (.slice u5 (i + (nl - (i + 1))) t5)) (.slice u5 (i + (nl - (i + 1))) t5) (without hm.fets i) := rows_ownF (B := wd.heap.size) (e := 102) (by rw [hlw, ← flat_without]; exact hof) fetR_len
                have HIF := Lib.hid (HisAt.fetsTo (HA.out.below HBF.out) hrows (by omega) (fun x hx => (HA.out.below HBF.out).fet x (without_sub hx)))
                have HSF : Hid (({ hm with fets := without hm.fets i } : HisM).Small) := Lib.hid (Small.fets HSM.out (by omega) (fun x hx => HSM.out.fets x (without_sub hx)))
                have HNF := Lib.hid (parts_fet HC0.out i)
                obtain ⟨wf, hwf⟩ : ∃ z, (w5.setCell ⟨b0, 3, none⟩ (.slice u5 (i + (nl - (i + 1))) t5)) = z := ⟨_, rfl⟩
                rw [hwf] at HBF HXF HIF ⊢
                clear hwf hbf hxf hof hrows hlw c5 f5 hz5 i1 i1d i2 i3 i4 i5 i6 i7 i8 i9
                have x0 := HXF.out.cell (i := 0) rfl
                have x1 := HXF.out.cell (i := 1) rfl
                have x2 := HXF.out.cell (i := 2) rfl
                have x3 := HXF.out.cell (i := 3) rfl
                have x4 := HXF.out.cell (i := 4) rfl
                have x5 := HXF.out.cell (i := 5) rfl
                have x6 := HXF.out.cell (i := 6) rfl
                go_wp2_with fail
                refine (Hy.check_any ({ hm with fets := without hm.fets i } : HisM) va vb vc (.slice u5 (i + (nl - (i + 1))) t5) ve 1048576 _ (HRY.out.below HBF.out) (HPW.out.below HBF.out) HIF.out HSF.out (by decide)).mono ?_
                rintro e w9 ⟨v9, rfl, ho9, hb9⟩
                rw [HNF.out] at ho9
                obtain ⟨a9, c9, rfl, _⟩ := ho9.form
                have HB9 := Lib.hid (HBF.out.trans (hb9.mono HBF.out.size))
                clear ho9 hb9 x0 x1 x2 x3 x4 x5 x6
                go_wp2_with fail
                go_ret
                exact ⟨rfl, HB9.out⟩
              · go_simp
                refine hK.out _ _ (by trivial) (fun hHe2 => ?_)
                clear hK K
                try simp only [Act.put, List.setIfInBounds_toArray, List.set_cons_zero, List.set_cons_succ]
                refine Hd.tk 10 ?_
                try simp only [Act.put, List.setIfInBounds_toArray, List.set_cons_zero, List.set_cons_succ]
                refine wpAnyH_ready (rs := [5]) (by kernel_rfl) (by simp) (AllReadyH.cons (by simp only [List.getElem?_toArray, List.getElem?_cons_succ, List.getElem?_cons_zero]; rfl) (fun K hK => ?_) AllReadyH.nil)
                refine step_appB tyFet (by rfl) _ _ (by rfl) wd.heap.size (.slice (some ⟨wd.heap.size, 0, none⟩) 0 0) 0 [] (by rfl) HO0.out HBa.out.size (.slice (some ⟨bs, os, none⟩) i cs) i ((hm.fets.take i).flatMap fetR) (by rfl) (rows_pre (HId.out.below HBa.out).fets fetR_len (by decide) (by have := HNL.out; omega)) (by rw [flat_len fetR_len, List.length_take, HNL.out, Nat.min_eq_left (by omega)]) one_fet (by omega) ?_
                intro v4 w4 ho4 hg4 hl4
                rw [Nat.zero_add, List.nil_append] at ho4
                have HO1 := Lib.hid ho4
                have HBb := Lib.hid (HBa.out.grown hg4 HBa.out.size (fun q hq => (HO0.out.lt q hq).1))
                obtain ⟨u4, t4, rfl, _⟩ := ho4.form
                clear ho4 hg4 hl4 HO0 ca
                have cb4 := (HXd.out.older HBb.out).cell (i := 3) rfl
                refine hK.out _ _ (by trivial) (fun hHe3 => ?_)
                clear hK K
                try simp only [Act.put, List.setIfInBounds_toArray, List.set_cons_zero, List.set_cons_succ]
                refine wpAnyH_ready (rs := [11]) (by kernel_rfl) (by simp) (AllReadyH.cons (by simp only [List.getElem?_toArray, List.getElem?_cons_succ, List.getElem?_cons_zero]; rfl) (fun K hK => ?_) AllReadyH.nil)
                refine step_appB tyFet (by rfl) _ _ (by rfl) wd.heap.size (.slice u4 i t4) i _ (by rfl) HO1.out HBb.out.size (.slice (if cs = i + 1 then some ⟨bs, os, none⟩ else some ⟨bs, os + (i + 1) * 6, none⟩) (nl - (i + 1)) (cs - (i + 1))) (nl - (i + 1)) ((hm.fets.drop (i + 1)).flatMap fetR) (by rfl) (rows_sufI (HId.out.below HBb.out).fets fetR_len (by decide) HNL.out.symm (by have := HNL.out; omega) hcs rfl) (by rw [flat_len fetR_len, List.length_drop, HNL.out]) one_fet (by omega) ?_
                intro v5 w5 ho5 hg5 hl5
                have HO2 := Lib.hid ho5
                have HBc := Lib.hid (HBb.out.grown hg5 HBb.out.size (fun q hq => (HO1.out.lt q hq).1))
                obtain ⟨u5, t5, rfl, _⟩ := ho5.form
                clear ho5 hg5 hl5 HO1 cb4
                have hz5 := (HXd.out.older HBc.out).lt
                have f5 := (HXd.out.older HBc.out).frz 3
                have c5 := (HXd.out.older HBc.out).cell (i := 3) rfl
                refine hK.out _ _ (by trivial) (fun hHe4 => ?_)
                clear hK K
                try simp only [Act.put, List.setIfInBounds_toArray, List.set_cons_zero, List.set_cons_succ]
                refine Hd.tk 12 ?_
                try simp only [Act.put, List.setIfInBounds_toArray, List.set_cons_zero, List.set_cons_succ]
                refine wpAnyH_ready (rs := [13]) (by kernel_rfl) (by simp) (AllReadyH.cons (by simp only [List.getElem?_toArray, List.getElem?_cons_succ, List.getElem?_cons_zero]; rfl) (fun K hK => ?_) AllReadyH.nil)
                go_simp
                refine hK.out _ _ (by trivial) (fun hHe5 => ?_)
                clear hK K
                try simp only [Act.put, List.setIfInBounds_toArray, List.set_cons_zero, List.set_cons_succ]
                refine wpAnyH_done (by kernel_rfl) ?_ _
                obtain ⟨av, hav⟩ : ∃ z, (if cs = i + 1 then some (⟨bs, os, none⟩ : Addr) else some ⟨bs, os + (i + 1) * 6, none⟩) = z := ⟨_, rfl⟩
                rw [hav]
                clear hav
                obtain ⟨hbf, hxf, hof⟩ := parts_store (j := 3) HBd.out HXd.out HB00.out HBc.out HO2.out
                have HBF := Lib.hid hbf
                have HXF := Lib.hid hxf
                have hlw : (without hm.fets i).length = i + (nl - (i + 1)) := by rw [without_len (by rw [HNL.out]; exact hil), HNL.out]
                have hrows : RowsV fetR 6 (w5.setCell ⟨b0, 3, none⟩ (.slice u5 (i + (nl - (i + 1))) t5)) (.slice u5 (i + (nl - (i + 1))) t5) (without hm.fets i) := rows_ownF (B := wd.heap.size) (e := 102) (by rw [hlw, ← flat_without]; exact hof) fetR_len
                have HIF := Lib.hid (HisAt.fetsTo (HA.out.below HBF.out) hrows (by omega) (fun x hx => (HA.out.below HBF.out).fet x (without_sub hx)))
                have HSF : Hid (({ hm with fets := without hm.fets i } : HisM).Small) := Lib.hid (Small.fets HSM.out (by omega) (fun x hx => HSM.out.fets x (without_sub hx)))
                have HNF := Lib.hid (parts_fet HC0.out i)
                obtain ⟨wf, hwf⟩ : ∃ z, (w5.setCell ⟨b0, 3, none⟩ (.slice u5 (i + (nl - (i + 1))) t5)) = z := ⟨_, rfl⟩
                rw [hwf] at HBF HXF HIF ⊢
                clear hwf hbf hxf hof hrows hlw c5 f5 hz5 i1 i1d i2 i3 i4 i5 i6 i7 i8 i9
                have x0 := HXF.out.cell (i := 0) rfl
                have x1 := HXF.out.cell (i := 1) rfl
                have x2 := HXF.out.cell (i := 2) rfl
                have x3 := HXF.out.cell (i := 3) rfl
                have x4 := HXF.out.cell (i := 4) rfl
                have x5 := HXF.out.cell (i := 5) rfl
                have x6 := HXF.out.cell (i := 6) rfl
                go_wp2_with fail
                refine (Hy.check_any ({ hm with fets := without hm.fets i } : HisM) va vb vc (.slice u5 (i + (nl - (i + 1))) t5) ve 1048576 _ (HRY.out.below HBF.out) (HPW.out.below HBF.out) HIF.out HSF.out (by decide)).mono ?_
                rintro e w9 ⟨v9, rfl, ho9, hb9⟩
                rw [HNF.out] at ho9
                obtain ⟨a9, c9, rfl, _⟩ := ho9.form
                have HB9 := Lib.hid (HBF.out.trans (hb9.mono HBF.out.size))
                clear ho9 hb9 x0 x1 x2 x3 x4 x5 x6
                go_wp2_with fail
                go_ret
                exact ⟨rfl, HB9.out⟩
            · go_simp
              refine hK.out _ _ (by trivial) (fun hHe1 => ?_)
              clear hK K
              try simp only [Act.put, List.setIfInBounds_toArray, List.set_cons_zero, List.set_cons_succ]
              refine Hd.tk 10 ?_
              try simp only [Act.put, List.setIfInBounds_toArray, List.set_cons_zero, List.set_cons_succ]
              refine wpAnyH_ready (rs := [2]) (by kernel_rfl) (by simp) (AllReadyH.cons (by simp only [List.getElem?_toArray, List.getElem?_cons_succ, List.getElem?_cons_zero]; rfl) (fun K hK => ?_) AllReadyH.nil)
              go_simp
              refine hK.out _ _ (by trivial) (fun hHe2 => ?_)
              clear hK K
              try simp only [Act.put, List.setIfInBounds_toArray, List.set_cons_zero, List.set_cons_succ]
              refine Hd.tk 4 ?_
              try simp only [Act.put, List.setIfInBounds_toArray, List.set_cons_zero, List.set_cons_succ]
              refine wpAnyH_ready (rs := [5]) (by kernel_rfl) (by simp) (AllReadyH.cons (by simp only [List.getElem?_toArray, List.getElem?_cons_succ, List.getElem?_cons_zero]; rfl) (fun K hK => ?_) AllReadyH.nil)
              refine step_appB tyFet (by rfl) _ _ (by rfl) wd.heap.size (.slice (some ⟨wd.heap.size, 0, none⟩) 0 0) 0 [] (by rfl) HO0.out HBa.out.size (.slice (some ⟨bs, os, none⟩) i cs) i ((hm.fets.take i).flatMap fetR) (by rfl) (rows_pre (HId.out.below HBa.out).fets fetR_len (by decide) (by have := HNL.out; omega)) (by rw [flat_len fetR_len, List.length_take, HNL.out, Nat.min_eq_left (by omega)]) one_fet (by omega) ?_
              intro v4 w4 ho4 hg4 hl4
              rw [Nat.zero_add, List.nil_append] at ho4
              have HO1 := Lib.hid ho4
              have HBb := Lib.hid (HBa.out.grown hg4 HBa.out.size (fun q hq => (HO0.out.lt q hq).1))
              obtain ⟨u4, t4, rfl, _⟩ := ho4.form
              clear ho4 hg4 hl4 HO0 ca
              have cb4 := (HXd.out.older HBb.out).cell (i := 3) rfl
              refine hK.out _ _ (by trivial) (fun hHe3 => ?_)
              clear hK K
              try simp only [Act.put, List.setIfInBounds_toArray, List.set_cons_zero, List.set_cons_succ]
              refine wpAnyH_ready (rs := [11]) (by kernel_rfl) (by simp) (AllReadyH.cons (by simp only [List.getElem?_toArray, List.getElem?_cons_succ, List.getElem?_cons_zero]; rfl) (fun K hK => ?_) AllReadyH.nil)
              refine step_appB tyFet (by rfl) _ _ (by rfl) wd.heap.size (.slice u4 i t4) i _ (by rfl) HO1.out HBb.out.size (.slice (if cs = i + 1 then some ⟨bs, os, none⟩ else some ⟨bs, os + (i + 1) * 6, none⟩) (nl - (i + 1)) (cs - (i + 1))) (nl - (i + 1)) ((hm.fets.drop (i + 1)).flatMap fetR) (by rfl) (rows_sufI (HId.out.below HBb.out).fets fetR_len (by decide) HNL.out.symm (by have := HNL.out; omega) hcs rfl) (by rw [flat_len fetR_len, List.length_drop, HNL.out]) one_fet (by omega) ?_
              intro v5 w5 ho5 hg5 hl5
              have HO2 := Lib.hid ho5
              have HBc := Lib.hid (HBb.out.grown hg5 HBb.out.size (fun q hq => (HO1.out.lt q hq).1))
              obtain ⟨u5, t5, rfl, _⟩ := ho5.form
              clear ho5 hg5 hl5 HO1 cb4
              have hz5 := (HXd.out.older HBc.out).lt
              have f5 := (HXd.out.older HBc.out).frz 3
              have c5 := (HXd.out.older HBc.out).cell (i := 3) rfl
              refine hK.out _ _ (by trivial) (fun hHe4 => ?_)
              clear hK K
              try simp only [Act.put, List.setIfInBounds_toArray, List.set_cons_zero, List.set_cons_succ]
              refine Hd.tk 12 ?_
              try simp only [Act.put, List.setIfInBounds_toArray, List.set_cons_zero, List.set_cons_succ]
              refine wpAnyH_ready (rs := [13]) (by kernel_rfl) (by simp) (AllReadyH.cons (by simp only [List.getElem?_toArray, List.getElem?_cons_succ, List.getElem?_cons_zero]; rfl) (fun K hK => ?_) AllReadyH.nil)
              go_simp
              refine hK.out _ _ (by trivial) (fun hHe5 => ?_)
              clear hK K
              try simp only [Act.put, List.setIfInBounds_toArray, List.set_cons_zero, List.set_cons_succ]
              refine wpAnyH_done (by kernel_rfl) ?_ _
              obtain ⟨av, hav⟩ : ∃ z, (if cs = i + 1 then some (⟨bs, os, none⟩ : Addr) else some ⟨bs, os + (i + 1) * 6, none⟩) = z := ⟨_, rfl⟩
              rw [hav]
              clear hav
              obtain ⟨hbf, hxf, hof⟩ := parts_store (j := 3) HBd.out HXd.out HB00.out HBc.out HO2.out
              have HBF := Lib.hid hbf
              have HXF := Lib.hid hxf
              have hlw : (without hm.fets i).length = i + (nl - (i + 1)) := by rw [without_len (by rw [HNL.out]; exact hil), HNL.out]
              have hrows : RowsV fetR 6 (w5.setCell ⟨b0, 3, none⟩ (.slice u5 (i + (nl - (i + 1))) t5)) (.slice u5 (i + (nl - (i + 1))) t5) (without hm.fets i) := rows_ownF (B := wd.heap.size) (e := 102) (by rw [hlw, ← flat_without]; exact hof) fetR_len
              have HIF := Lib.hid (HisAt.fetsTo (HA.out.below HBF.out) hrows (by omega) (fun x hx => (HA.out.below HBF.out).fet x (without_sub hx)))
              have HSF : Hid (({ hm with fets := without hm.fets i } : HisM).Small) := Lib.hid (Small.fets HSM.out (by omega) (fun x hx => HSM.out.fets x (without_sub hx)))
              have HNF := Lib.hid (parts_fet HC0.out i)
              obtain ⟨wf, hwf⟩ : ∃ z, (w5.setCell ⟨b0, 3, none⟩ (.slice u5 (i + (nl - (i + 1))) t5)) = z := ⟨_, rfl⟩
              rw [hwf] at HBF HXF HIF ⊢
              clear hwf hbf hxf hof hrows hlw c5 f5 hz5 i1 i1d i2 i3 i4 i5 i6 i7 i8 i9
              have x0 := HXF.out.cell (i := 0) rfl
              have x1 := HXF.out.cell (i := 1) rfl
              have x2 := HXF.out.cell (i := 2) rfl
              have x3 := HXF.out.cell (i := 3) rfl
              have x4 := HXF.out.cell (i := 4) rfl
              have x5 := HXF.out.cell (i := 5) rfl
              have x6 := HXF.out.cell (i := 6) rfl
              go_wp2_with fail
              refine (Hy.check_any ({ hm with fets := without hm.fets i } : HisM) va vb vc (.slice u5 (i + (nl - (i + 1))) t5) ve 1048576 _ (HRY.out.below HBF.out) (HPW.out.below HBF.out) HIF.out HSF.out (by decide)).mono ?_
              rintro e w9 ⟨v9, rfl, ho9, hb9⟩
              rw [HNF.out] at ho9
              obtain ⟨a9, c9, rfl, _⟩ := ho9.form
              have HB9 := Lib.hid (HBF.out.trans (hb9.mono HBF.out.size))
              clear ho9 hb9 x0 x1 x2 x3 x4 x5 x6
              go_wp2_with fail
              go_ret
              exact ⟨rfl, HB9.out⟩
          · go_simp
            refine hK.out _ _ (by trivial) (fun hHe0 => ?_)
            clear hK K
            try simp only [Act.put, List.setIfInBounds_toArray, List.set_cons_zero, List.set_cons_succ]
            refine Hd.tk 4 ?_
            try simp only [Act.put, List.setIfInBounds_toArray, List.set_cons_zero, List.set_cons_succ]
            refine wpAnyH_ready (rs := [0, 7]) (by kernel_rfl) (by simp) (AllReadyH.cons (by simp only [List.getElem?_toArray, List.getElem?_cons_succ, List.getElem?_cons_zero]; rfl) (fun K hK => ?_) (AllReadyH.cons (by simp only [List.getElem?_toArray, List.getElem?_cons_succ, List.getElem?_cons_zero]; rfl) (fun K hK => ?_) AllReadyH.nil))
            · go_simp
              have HO0 := Lib.hid (show OwnWin (wd.alloc (.cells #[] 102)) wd.heap.size 102 6 (.slice (some ⟨wd.heap.size, 0, none⟩) 0 0) 0 [] from ownK_empty (heap_alloc_new wd _) (Nat.le_refl _))
              have HBa := Lib.hid ((Below.refl wd.heap.size wd).alloc (Nat.le_refl _) (.cells #[] 102))
              obtain ⟨wa, hwa⟩ : ∃ z, wd.alloc (.cells #[] 102) = z := ⟨_, rfl⟩
              rw [hwa] at HO0 HBa ⊢
              clear hwa c2
              have ca := (HXd.out.older HBa.out).cell (i := 3) rfl
              refine hK.out _ _ (by trivial) (fun hHe1 => ?_)
              clear hK K
              try simp only [Act.put, List.setIfInBounds_toArray, List.set_cons_zero, List.set_cons_succ]
              refine wpAnyH_ready (rs := [5, 7]) (by kernel_rfl) (by simp) (AllReadyH.cons (by simp only [List.getElem?_toArray, List.getElem?_cons_succ, List.getElem?_cons_zero]; rfl) (fun K hK => ?_) (AllReadyH.cons (by simp only [List.getElem?_toArray, List.getElem?_cons_succ, List.getElem?_cons_zero]; rfl) (fun K hK => ?_) AllReadyH.nil))
              · refine step_appB tyFet (by rfl) _ _ (by rfl) wd.heap.size (.slice (some ⟨wd.heap.size, 0, none⟩) 0 0) 0 [] (by rfl) HO0.out HBa.out.size (.slice (some ⟨bs, os, none⟩) i cs) i ((hm.fets.take i).flatMap fetR) (by rfl) (rows_pre (HId.out.below HBa.out).fets fetR_len (by decide) (by have := HNL.out; omega)) (by rw [flat_len fetR_len, List.length_take, HNL.out, Nat.min_eq_left (by omega)]) one_fet (by omega) ?_
                intro v4 w4 ho4 hg4 hl4
                rw [Nat.zero_add, List.nil_append] at ho4
                have HO1 := Lib.hid ho4
                have HBb := Lib.hid (HBa.out.grown hg4 HBa.out.size (fun q hq => (HO0.out.lt q hq).1))
                obtain ⟨u4, t4, rfl, _⟩ := ho4.form
                clear ho4 hg4 hl4 HO0 ca
                have cb4 := (HXd.out.older HBb.out).cell (i := 3) rfl
                refine hK.out _ _ (by trivial) (fun hHe2 => ?_)
                clear hK K
                try simp only [Act.put, List.setIfInBounds_toArray, List.set_cons_zero, List.set_cons_succ]
                refine wpAnyH_ready (rs := [7]) (by kernel_rfl) (by simp) (AllReadyH.cons (by simp only [List.getElem?_toArray, List.getElem?_cons_succ, List.getElem?_cons_zero]; rfl) (fun K hK => ?_) AllReadyH.nil)
                go_simp
                refine hK.out _ _ (by trivial) (fun hHe3 => ?_)
                clear hK K
                try simp only [Act.put, List.setIfInBounds_toArray, List.set_cons_zero, List.set_cons_succ]
                refine Hd.tk 10 ?_
                try simp only [Act.put, List.setIfInBounds_toArray, List.set_cons_zero, List.set_cons_succ]
                refine wpAnyH_ready (rs := [11]) (by kernel_rfl) (by simp) (AllReadyH.cons (by simp only [List.getElem?_toArray, List.getElem?_cons_succ, List.getElem?_cons_zero]; rfl) (fun K hK => ?_) AllReadyH.nil)
                refine step_appB tyFet (by rfl) _ _ (by rfl) wd.heap.size (.slice u4 i t4) i _ (by rfl) HO1.out HBb.out.size (.slice (if cs = i + 1 then some ⟨bs, os, none⟩ else some ⟨bs, os + (i + 1) * 6, none⟩) (nl - (i + 1)) (cs - (i + 1))) (nl - (i + 1)) ((hm.fets.drop (i + 1)).flatMap fetR) (by rfl) (rows_sufI (HId.out.below HBb.out).fets fetR_len (by decide) HNL.out.symm (by have := HNL.out; omega) hcs rfl) (by rw [flat_len fetR_len, List.length_drop, HNL.out]) one_fet (by omega) ?_
                intro v5 w5 ho5 hg5 hl5
                have HO2 := Lib.hid ho5
                have HBc := Lib.hid (HBb.out.grown hg5 HBb.out.size (fun q hq => (HO1.out.lt q hq).1))
                obtain ⟨u5, t5, rfl, _⟩ := ho5.form
                clear ho5 hg5 hl5 HO1 cb4
                have hz5 := (HXd.out.older HBc.out).lt
                have f5 := (HXd.out.older HBc.out).frz 3
                have c5 := (HXd.out.older HBc.out).cell (i := 3) rfl
                refine hK.out _ _ (by trivial) (fun hHe4 => ?_)
                clear hK K
                try simp only [Act.put, List.setIfInBounds_toArray, List.set_cons_zero, List.set_cons_succ]
                refine Hd.tk 12 ?_
                try simp only [Act.put, List.setIfInBounds_toArray, List.set_cons_zero, List.set_cons_succ]
                refine wpAnyH_ready (rs := [13]) (by kernel_rfl) (by simp) (AllReadyH.cons (by simp only [List.getElem?_toArray, List.getElem?_cons_succ, List.getElem?_cons_zero]; rfl) (fun K hK => ?_) AllReadyH.nil)
                go_simp
                refine hK.out _ _ (by trivial) (fun hHe5 => ?_)
                clear hK K
                try simp only [Act.put, List.setIfInBounds_toArray, List.set_cons_zero, List.set_cons_succ]
                refine wpAnyH_done (by kernel_rfl) ?_ _
                obtain ⟨av, hav⟩ : ∃ z, (if cs = i + 1 then some (⟨bs, os, none⟩ : Addr) else some ⟨bs, os + (i + 1) * 6, none⟩) = z := ⟨_, rfl⟩
                rw [hav]
                clear hav
                obtain ⟨hbf, hxf, hof⟩ := parts_store (j := 3) HBd.out HXd.out HB00.out HBc.out HO2.out
                have HBF := Lib.hid hbf
                have HXF := Lib.hid hxf
                have hlw : (without hm.fets i).length = i + (nl - (i + 1)) := by rw [without_len (by rw [HNL.out]; exact hil), HNL.out]
                have hrows : RowsV fetR 6 (w5.setCell ⟨b0, 3, none⟩ (.slice u5 (i + (nl - (i + 1))) t5)) (.slice u5 (i + (nl - (i + 1))) t5) (without hm.fets i) := rows_ownF (B := wd.heap.size) (e := 102) (by rw [hlw, ← flat_without]; exact hof) fetR_len
                have HIF := Lib.hid (HisAt.fetsTo (HA.out.below HBF.out) hrows (by omega) (fun x hx => (HA.out.below HBF.out).fet x (without_sub hx)))
                have HSF : Hid (({ hm with fets := without hm.fets i } : HisM).Small) := Lib.hid (Small.fets HSM.out (by omega) (fun x hx => HSM.out.fets x (without_sub hx)))
                have HNF := Lib.hid (parts_fet HC0.out i)
                obtain ⟨wf, hwf⟩ : ∃ z, (w5.setCell ⟨b0, 3, none⟩ (.slice u5 (i + (nl - (i + 1))) t5)) = z := ⟨_, rfl⟩
                rw [hwf] at HBF HXF HIF ⊢
                clear hwf hbf hxf hof hrows hlw c5 f5 hz5 i1 i1d i2 i3 i4 i5 i6 i7 i8 i9
                have x0 := HXF.out.cell (i := 0) rfl
                have x1 := HXF.out.cell (i := 1) rfl
                have x2 := HXF.out.cell (i := 2) rfl
                have x3 := HXF.out.cell (i := 3) rfl
                have x4 := HXF.out.cell (i := 4) rfl
                have x5 := HXF.out.cell (i := 5) rfl
                have x6 := HXF.out.cell (i := 6) rfl
                go_wp2_with fail
                refine (Hy.check_any ({ hm with fets := without hm.fets i } : HisM) va vb vc (.slice u5 (i + (nl - (i + 1))) t5) ve 1048576 _ (HRY.out.below HBF.out) (HPW.out.below HBF.out) HIF.out HSF.out (by decide)).mono ?_
                rintro e w9 ⟨v9, rfl, ho9, hb9⟩
                rw [HNF.out] at ho9
                obtain ⟨a9, c9, rfl, _⟩ := ho9.form
                have HB9 := Lib.hid (HBF.out.trans (hb9.mono HBF.out.size))
                clear ho9 hb9 x0 x1 x2 x3 x4 x5 x6
                go_wp2_with fail
                go_ret
                exact ⟨rfl, HB9.out⟩
              · go_simp
                refine hK.out _ _ (by trivial) (fun hHe2 => ?_)
                clear hK K
                try simp only [Act.put, List.setIfInBounds_toArray, List.set_cons_zero, List.set_cons_succ]
                refine Hd.tk 10 ?_
                try simp only [Act.put, List.setIfInBounds_toArray, List.set_cons_zero, List.set_cons_succ]
                refine wpAnyH_ready (rs := [5]) (by kernel_rfl) (by simp) (AllReadyH.cons (by simp only [List.getElem?_toArray, List.getElem?_cons_succ, List.getElem?_cons_zero]; rfl) (fun K hK => ?_) AllReadyH.nil)
                refine step_appB tyFet (by rfl) _ _ (by rfl) wd.heap.size (.slice (some ⟨wd.heap.size, 0, none⟩) 0 0) 0 [] (by rfl) HO0.out HBa.out.size (.slice (some ⟨bs, os, none⟩) i cs) i ((hm.fets.take i).flatMap fetR) (by rfl) (rows_pre (HId.out.below HBa.out).fets fetR_len (by decide) (by have := HNL.out; omega)) (by rw [flat_len fetR_len, List.length_take, HNL.out, Nat.min_eq_left (by omega)]) one_fet (by omega) ?_
                intro v4 w4 ho4 hg4 hl4
                rw [Nat.zero_add, List.nil_append] at ho4
                have HO1 := Lib.hid ho4
                have HBb := Lib.hid (HBa.out.grown hg4 HBa.out.size (fun q hq => (HO0.out.lt q hq).1))
                obtain ⟨u4, t4, rfl, _⟩ := ho4.form
                clear ho4 hg4 hl4 HO0 ca
                have cb4 := (HXd.out.older HBb.out).cell (i := 3) rfl
                refine hK.out _ _ (by trivial) (fun hHe3 => ?_)
                clear hK K
                try simp only [Act.put, List.setIfInBounds_toArray, List.set_cons_zero, List.set_cons_succ]
                refine wpAnyH_ready (rs := [11]) (by kernel_rfl) (by simp) (AllReadyH.cons (by simp only [List.getElem?_toArray, List.getElem?_cons_succ, List.getElem?_cons_zero]; rfl) (fun K hK => ?_) AllReadyH.nil)
                refine step_appB tyFet (by rfl) _ _ (by rfl) wd.heap.size (.slice u4 i t4) i _ (by rfl) HO1.out HBb.out.size (.slice (if cs = i + 1 then some ⟨bs, os, none⟩ else some ⟨bs, os + (i + 1) * 6, none⟩) (nl - (i + 1)) (cs - (i + 1))) (nl - (i + 1)) ((hm.fets.drop (i + 1)).flatMap fetR) (by rfl) (rows_sufI (HId.out.below HBb.out).fets fetR_len (by decide) HNL.out.symm (by have := HNL.out; omega) hcs rfl) (by rw [flat_len fetR_len, List.length_drop, HNL.out]) one_fet (by omega) ?_
                intro v5 w5 ho5 hg5 hl5
                have HO2 := Lib.hid ho5
                have HBc := Lib.hid (HBb.out.grown hg5 HBb.out.size (fun q hq => (HO1.out.lt q hq).1))
                obtain ⟨u5, t5, rfl, _⟩ := ho5.form
                clear ho5 hg5 hl5 HO1 cb4
                have hz5 := (HXd.out.older HBc.out).lt
                have f5 := (HXd.out.older HBc.out).frz 3
                have c5 := (HXd.out.older HBc.out).cell (i := 3) rfl
                refine hK.out _ _ (by trivial) (fun hHe4 => ?_)
                clear hK K
                try simp only [Act.put, List.setIfInBounds_toArray, List.set_cons_zero, List.set_cons_succ]
                refine Hd.tk 12 ?_
                try simp only [Act.put, List.setIfInBounds_toArray, List.set_cons_zero, List.set_cons_succ]
                refine wpAnyH_ready (rs := [13]) (by kernel_rfl) (by simp) (AllReadyH.cons (by simp only [List.getElem?_toArray, List.getElem?_cons_succ, List.getElem?_cons_zero]; rfl) (fun K hK => ?_) AllReadyH.nil)
                go_simp
                refine hK.out _ _ (by trivial) (fun hHe5 => ?_)
                clear hK K
                try simp only [Act.put, List.setIfInBounds_toArray, List.set_cons_zero, List.set_cons_succ]
                refine wpAnyH_done (by kernel_rfl) ?_ _
                obtain ⟨av, hav⟩ : ∃ z, (if cs = i + 1 then some (⟨bs, os, none⟩ : Addr) else some ⟨bs, os + (i + 1) * 6, none⟩) = z := ⟨_, rfl⟩
                rw [hav]
                clear hav
                obtain ⟨hbf, hxf, hof⟩ := parts_store (j := 3) HBd.out HXd.out HB00.out HBc.out HO2.out
                have HBF := Lib.hid hbf
                have HXF := Lib.hid hxf
                have hlw : (without hm.fets i).length = i + (nl - (i + 1)) := by rw [without_len (by rw [HNL.out]; exact hil), HNL.out]
                have hrows : RowsV fetR 6 (w5.setCell ⟨b0, 3, none⟩ (.slice u5 (i + (nl - (i + 1))) t5)) (.slice u5 (i + (nl - (i + 1))) t5) (without hm.fets i) := rows_ownF (B := wd.heap.size) (e := 102) (by rw [hlw, ← flat_without]; exact hof) fetR_len
                have HIF := Lib.hid (HisAt.fetsTo (HA.out.below HBF.out) hrows (by omega) (fun x hx => (HA.out.below HBF.out).fet x (without_sub hx)))
                have HSF : Hid (({ hm with fets := without hm.fets i } : HisM).Small) := Lib.hid (Small.fets HSM.out (by omega) (fun x hx => HSM.out.fets x (without_sub hx)))
                have HNF := Lib.hid (parts_fet HC0.out i)
                obtain ⟨wf, hwf⟩ : ∃ z, (w5.setCell ⟨b0, 3, none⟩ (.slice u5 (i + (nl - (i + 1))) t5)) = z := ⟨_, rfl⟩
                rw [hwf] at HBF HXF HIF ⊢
                clear hwf hbf hxf hof hrows hlw c5 f5 hz5 i1 i1d i2 i3 i4 i5 i6 i7 i8 i9
                have x0 := HXF.out.cell (i := 0) rfl
                have x1 := HXF.out.cell (i := 1) rfl
                have x2 := HXF.out.cell (i := 2) rfl
                have x3 := HXF.out.cell (i := 3) rfl
                have x4 := HXF.out.cell (i := 4) rfl
                have x5 := HXF.out.cell (i := 5) rfl
                have x6 := HXF.out.cell (i := 6) rfl
                go_wp2_with fail
                refine (Hy.check_any ({ hm with fets := without hm.fets i } : HisM) va vb vc (.slice u5 (i + (nl - (i + 1))) t5) ve 1048576 _ (HRY.out.below HBF.out) (HPW.out.below HBF.out) HIF.out HSF.out (by decide)).mono ?_
                rintro e w9 ⟨v9, rfl, ho9, hb9⟩
                rw [HNF.out] at ho9
                obtain ⟨a9, c9, rfl, _⟩ := ho9.form
                have HB9 := Lib.hid (HBF.out.trans (hb9.mono HBF.out.size))
                clear ho9 hb9 x0 x1 x2 x3 x4 x5 x6
                go_wp2_with fail
                go_ret
                exact ⟨rfl, HB9.out⟩
            · go_simp
              refine hK.out _ _ (by trivial) (fun hHe1 => ?_)
              clear hK K
              try simp only [Act.put, List.setIfInBounds_toArray, List.set_cons_zero, List.set_cons_succ]
              refine Hd.tk 10 ?_
              try simp only [Act.put, List.setIfInBounds_toArray, List.set_cons_zero, List.set_cons_succ]
              refine wpAnyH_ready (rs := [0]) (by kernel_rfl) (by simp) (AllReadyH.cons (by simp only [List.getElem?_toArray, List.getElem?_cons_succ, List.getElem?_cons_zero]; rfl) (fun K hK => ?_) AllReadyH.nil)
              go_simp
              have HO0 := Lib.hid (show OwnWin (wd.alloc (.cells #[] 102)) wd.heap.size 102 6 (.slice (some ⟨wd.heap.size, 0, none⟩) 0 0) 0 [] from ownK_empty (heap_alloc_new wd _) (Nat.le_refl _))
              have HBa := Lib.hid ((Below.refl wd.heap.size wd).alloc (Nat.le_refl _) (.cells #[] 102))
              obtain ⟨wa, hwa⟩ : ∃ z, wd.alloc (.cells #[] 102) = z := ⟨_, rfl⟩
              rw [hwa] at HO0 HBa ⊢
              clear hwa c2
              have ca := (HXd.out.older HBa.out).cell (i := 3) rfl
              refine hK.out _ _ (by trivial) (fun hHe2 => ?_)
              clear hK K
              try simp only [Act.put, List.setIfInBounds_toArray, List.set_cons_zero, List.set_cons_succ]
              refine wpAnyH_ready (rs := [5]) (by kernel_rfl) (by simp) (AllReadyH.cons (by simp only [List.getElem?_toArray, List.getElem?_cons_succ, List.getElem?_cons_zero]; rfl) (fun K hK => ?_) AllReadyH.nil)
              refine step_appB tyFet (by rfl) _ _ (by rfl) wd.heap.size (.slice (some ⟨wd.heap.size, 0, none⟩) 0 0) 0 [] (by rfl) HO0.out HBa.out.size (.slice (some ⟨bs, os, none⟩) i cs) i ((hm.fets.take i).flatMap fetR) (by rfl) (rows_pre (HId.out.below HBa.out).fets fetR_len (by decide) (by have := HNL.out; omega)) (by rw [flat_len fetR_len, List.length_take, HNL.out, Nat.min_eq_left (by omega)]) one_fet (by omega) ?_
              intro v4 w4 ho4 hg4 hl4
              rw [Nat.zero_add, List.nil_append] at ho4
              have HO1 := Lib.hid ho4
              have HBb := Lib.hid (HBa.out.grown hg4 HBa.out.size (fun q hq => (HO0.out.lt q hq).1))
              obtain ⟨u4, t4, rfl, _⟩ := ho4.form
              clear ho4 hg4 hl4 HO0 ca
              have cb4 := (HXd.out.older HBb.out).cell (i := 3) rfl
              refine hK.out _ _ (by trivial) (fun hHe3 => ?_)
              clear hK K
              try simp only [Act.put, List.setIfInBounds_toArray, List.set_cons_zero, List.set_cons_succ]
              refine wpAnyH_ready (rs := [11]) (by kernel_rfl) (by simp) (AllReadyH.cons (by simp only [List.getElem?_toArray, List.getElem?_cons_succ, List.getElem?_cons_zero]; rfl) (fun K hK => ?_) AllReadyH.nil)
              refine step_appB tyFet (by rfl) _ _ (by rfl) wd.heap.size (.slice u4 i t4) i _ (by rfl) HO1.out HBb.out.size (.slice (if cs = i + 1 then some ⟨bs, os, none⟩ else some ⟨bs, os + (i + 1) * 6, none⟩) (nl - (i + 1)) (cs - (i + 1))) (nl - (i + 1)) ((hm.fets.drop (i + 1)).flatMap fetR) (by rfl) (rows_sufI (HId.out.below HBb.out).fets fetR_len (by decide) HNL.out.symm (by have := HNL.out; omega) hcs rfl) (by rw [flat_len fetR_len, List.length_drop, HNL.out]) one_fet (by omega) ?_
              intro v5 w5 ho5 hg5 hl5
              have HO2 := Lib.hid ho5
              have HBc := Lib.hid (HBb.out.grown hg5 HBb.out.size (fun q hq => (HO1.out.lt q hq).1))
              obtain ⟨u5, t5, rfl, _⟩ := ho5.form
              clear ho5 hg5 hl5 HO1 cb4
              have hz5 := (HXd.out.older HBc.out).lt
              have f5 := (HXd.out.older HBc.out).frz 3
              have c5 := (HXd.out.older HBc.out).cell (i := 3) rfl
              refine hK.out _ _ (by trivial) (fun hHe4 => ?_)
              clear hK K
              try simp only [Act.put, List.setIfInBounds_toArray, List.set_cons_zero, List.set_cons_succ]
              refine Hd.tk 12 ?_
              try simp only [Act.put, List.setIfInBounds_toArray, List.set_cons_zero, List.set_cons_succ]
              refine wpAnyH_ready (rs := [13]) (by kernel_rfl) (by simp) (AllReadyH.cons (by simp only [List.getElem?_toArray, List.getElem?_cons_succ, List.getElem?_cons_zero]; rfl) (fun K hK => ?_) AllReadyH.nil)
              go_simp
              refine hK.out _ _ (by trivial) (fun hHe5 => ?_)
              clear hK K
              try simp only [Act.put, List.setIfInBounds_toArray, List.set_cons_zero, List.set_cons_succ]
              refine wpAnyH_done (by kernel_rfl) ?_ _
              obtain ⟨av, hav⟩ : ∃ z, (if cs = i + 1 then some (⟨bs, os, none⟩ : Addr) else some ⟨bs, os + (i + 1) * 6, none⟩) = z := ⟨_, rfl⟩
              rw [hav]
              clear hav
              obtain ⟨hbf, hxf, hof⟩ := parts_store (j := 3) HBd.out HXd.out HB00.out HBc.out HO2.out
              have HBF := Lib.hid hbf
              have HXF := Lib.hid hxf
              have hlw : (without hm.fets i).length = i + (nl - (i + 1)) := by rw [without_len (by rw [HNL.out]; exact hil), HNL.out]
              have hrows : RowsV fetR 6 (w5.setCell ⟨b0, 3, none⟩ (.slice u5 (i + (nl - (i + 1))) t5)) (.slice u5 (i + (nl - (i + 1))) t5) (without hm.fets i) := rows_ownF (B := wd.heap.size) (e := 102) (by rw [hlw, ← flat_without]; exact hof) fetR_len
              have HIF := Lib.hid (HisAt.fetsTo (HA.out.below HBF.out) hrows (by omega) (fun x hx => (HA.out.below HBF.out).fet x (without_sub hx)))
              have HSF : Hid (({ hm with fets := without hm.fets i } : HisM).Small) := Lib.hid (Small.fets HSM.out (by omega) (fun x hx => HSM.out.fets x (without_sub hx)))
              have HNF := Lib.hid (parts_fet HC0.out i)
              obtain ⟨wf, hwf⟩ : ∃ z, (w5.setCell ⟨b0, 3, none⟩ (.slice u5 (i + (nl - (i + 1))) t5)) = z := ⟨_, rfl⟩
              rw [hwf] at HBF HXF HIF ⊢
              clear hwf hbf hxf hof hrows hlw c5 f5 hz5 i1 i1d i2 i3 i4 i5 i6 i7 i8 i9
              have x0 := HXF.out.cell (i := 0) rfl
              have x1 := HXF.out.cell (i := 1) rfl
              have x2 := HXF.out.cell (i := 2) rfl
              have x3 := HXF.out.cell (i := 3) rfl
              have x4 := HXF.out.cell (i := 4) rfl
              have x5 := HXF.out.cell (i := 5) rfl
              have x6 := HXF.out.cell (i := 6) rfl
              go_wp2_with fail
              refine (Hy.check_any ({ hm with fets := without hm.fets i } : HisM) va vb vc (.slice u5 (i + (nl - (i + 1))) t5) ve 1048576 _ (HRY.out.below HBF.out) (HPW.out.below HBF.out) HIF.out HSF.out (by decide)).mono ?_
              rintro e w9 ⟨v9, rfl, ho9, hb9⟩
              rw [HNF.out] at ho9
              obtain ⟨a9, c9, rfl, _⟩ := ho9.form
              have HB9 := Lib.hid (HBF.out.trans (hb9.mono HBF.out.size))
              clear ho9 hb9 x0 x1 x2 x3 x4 x5 x6
              go_wp2_with fail
              go_ret
              exact ⟨rfl, HB9.out⟩
          · go_simp
            refine hK.out _ _ (by trivial) (fun hHe0 => ?_)
            clear hK K
            try simp only [Act.put, List.setIfInBounds_toArray, List.set_cons_zero, List.set_cons_succ]
            refine Hd.tk 10 ?_
            try simp only [Act.put, List.setIfInBounds_toArray, List.set_cons_zero, List.set_cons_succ]
            refine wpAnyH_ready (rs := [0, 2]) (by kernel_rfl) (by simp) (AllReadyH.cons (by simp only [List.getElem?_toArray, List.getElem?_cons_succ, List.getElem?_cons_zero]; rfl) (fun K hK => ?_) (AllReadyH.cons (by simp only [List.getElem?_toArray, List.getElem?_cons_succ, List.getElem?_cons_zero]; rfl) (fun K hK => ?_) AllReadyH.nil))
            · go_simp
              have HO0 := Lib.hid (show OwnWin (wd.alloc (.cells #[] 102)) wd.heap.size 102 6 (.slice (some ⟨wd.heap.size, 0, none⟩) 0 0) 0 [] from ownK_empty (heap_alloc_new wd _) (Nat.le_refl _))
              have HBa := Lib.hid ((Below.refl wd.heap.size wd).alloc (Nat.le_refl _) (.cells #[] 102))
              obtain ⟨wa, hwa⟩ : ∃ z, wd.alloc (.cells #[] 102) = z := ⟨_, rfl⟩
              rw [hwa] at HO0 HBa ⊢
              clear hwa c2
              have ca := (HXd.out.older HBa.out).cell (i := 3) rfl
              refine hK.out _ _ (by trivial) (fun hHe1 => ?_)
              clear hK K
              try simp only [Act.put, List.setIfInBounds_toArray, List.set_cons_zero, List.set_cons_succ]
              refine wpAnyH_ready (rs := [2]) (by kernel_rfl) (by simp) (AllReadyH.cons (by simp only [List.getElem?_toArray, List.getElem?_cons_succ, List.getElem?_cons_zero]; rfl) (fun K hK => ?_) AllReadyH.nil)
              go_simp
              refine hK.out _ _ (by trivial) (fun hHe2 => ?_)
              clear hK K
              try simp only [Act.put, List.setIfInBounds_toArray, List.set_cons_zero, List.set_cons_succ]
              refine Hd.tk 4 ?_
              try simp only [Act.put, List.setIfInBounds_toArray, List.set_cons_zero, List.set_cons_succ]
              refine wpAnyH_ready (rs := [5]) (by kernel_rfl) (by simp) (AllReadyH.cons (by simp only [List.getElem?_toArray, List.getElem?_cons_succ, List.getElem?_cons_zero]; rfl) (fun K hK => ?_) AllReadyH.nil)
              refine step_appB tyFet (by rfl) _ _ (by rfl) wd.heap.size (.slice (some ⟨wd.heap.size, 0, none⟩) 0 0) 0 [] (by rfl) HO0.out HBa.out.size (.slice (some ⟨bs, os, none⟩) i cs) i ((hm.fets.take i).flatMap fetR) (by rfl) (rows_pre (HId.out.below HBa.out).fets fetR_len (by decide) (by have := HNL.out; omega)) (by rw [flat_len fetR_len, List.length_take, HNL.out, Nat.min_eq_left (by omega)]) one_fet (by omega) ?_
              intro v4 w4 ho4 hg4 hl4
              rw [Nat.zero_add, List.nil_append] at ho4
              have HO1 := Lib.hid ho4
              have HBb := Lib.hid (HBa.out.grown hg4 HBa.out.size (fun q hq => (HO0.out.lt q hq).1))
              obtain ⟨u4, t4, rfl, _⟩ := ho4.form
              clear ho4 hg4 hl4 HO0 ca
              have cb4 := (HXd.out.older HBb.out).cell (i := 3) rfl
              refine hK.out _ _ (by trivial) (fun hHe3 => ?_)
              clear hK K
              try simp only [Act.put, List.setIfInBounds_toArray, List.set_cons_zero, List.set_cons_succ]
              refine wpAnyH_ready (rs := [11]) (by kernel_rfl) (by simp) (AllReadyH.cons (by simp only [List.getElem?_toArray, List.getElem?_cons_succ, List.getElem?_cons_zero]; rfl) (fun K hK => ?_) AllReadyH.nil)
              refine step_appB tyFet (by rfl) _ _ (by rfl) wd.heap.size (.slice u4 i t4) i _ (by rfl) HO1.out HBb.out.size (.slice (if cs = i + 1 then some ⟨bs, os, none⟩ else some ⟨bs, os + (i + 1) * 6, none⟩) (nl - (i + 1)) (cs - (i + 1))) (nl - (i + 1)) ((hm.fets.drop (i + 1)).flatMap fetR) (by rfl) (rows_sufI (HId.out.below HBb.out).fets fetR_len (by decide) HNL.out.symm (by have := HNL.out; omega) hcs rfl) (by rw [flat_len fetR_len, List.length_drop, HNL.out]) one_fet (by omega) ?_
              intro v5 w5 ho5 hg5 hl5
              have HO2 := Lib.hid ho5
              have HBc := Lib.hid (HBb.out.grown hg5 HBb.out.size (fun q hq => (HO1.out.lt q hq).1))
              obtain ⟨u5, t5, rfl, _⟩ := ho5.form
              clear ho5 hg5 hl5 HO1 cb4
              have hz5 := (HXd.out.older HBc.out).lt
              have f5 := (HXd.out.older HBc.out).frz 3
              have c5 := (HXd.out.older HBc.out).cell (i := 3) rfl
              refine hK.out _ _ (by trivial) (fun hHe4 => ?_)
              clear hK K
              try simp only [Act.put, List.setIfInBounds_toArray, List.set_cons_zero, List.set_cons_succ]
              refine Hd.tk 12 ?_
              try simp only [Act.put, List.setIfInBounds_toArray, List.set_cons_zero, List.set_cons_succ]
              refine wpAnyH_ready (rs := [13]) (by kernel_rfl) (by simp) (AllReadyH.cons (by simp only [List.getElem?_toArray, List.getElem?_cons_succ, List.getElem?_cons_zero]; rfl) (fun K hK => ?_) AllReadyH.nil)
              go_simp
              refine hK.out _ _ (by trivial) (fun hHe5 => ?_)
              clear hK K
              try simp only [Act.put, List.setIfInBounds_toArray, List.set_cons_zero, List.set_cons_succ]
              refine wpAnyH_done (by kernel_rfl) ?_ _
              obtain ⟨av, hav⟩ : ∃ z, (if cs = i + 1 then some (⟨bs, os, none⟩ : Addr) else some ⟨bs, os + (i + 1) * 6, none⟩) = z := ⟨_, rfl⟩
              rw [hav]
              clear hav
              obtain ⟨hbf, hxf, hof⟩ := parts_store (j := 3) HBd.out HXd.out HB00.out HBc.out HO2.out
              have HBF := Lib.hid hbf
              have HXF := Lib.hid hxf
              have hlw : (without hm.fets i).length = i + (nl - (i + 1)) := by rw [without_len (by rw [HNL.out]; exact hil), HNL.out]
              have hrows : RowsV fetR 6 (w5.setCell ⟨b0, 3, none⟩ (.slice u5 (i + (nl - (i + 1))) t5)) (.slice u5 (i + (nl - (i + 1))) t5) (without hm.fets i) := rows_ownF (B := wd.heap.size) (e := 102) (by rw [hlw, ← flat_without]; exact hof) fetR_len
              have HIF := Lib.hid (HisAt.fetsTo (HA.out.below HBF.out) hrows (by omega) (fun x hx => (HA.out.below HBF.out).fet x (without_sub hx)))
              have HSF : Hid (({ hm with fets := without hm.fets i } : HisM).Small) := Lib.hid (Small.fets HSM.out (by omega) (fun x hx => HSM.out.fets x (without_sub hx)))
              have HNF := Lib.hid (parts_fet HC0.out i)
              obtain ⟨wf, hwf⟩ : ∃ z, (w5.setCell ⟨b0, 3, none⟩ (.slice u5 (i + (nl - (i + 1))) t5)) = z := ⟨_, rfl⟩
              rw [hwf] at HBF HXF HIF ⊢
              clear hwf hbf hxf hof hrows hlw c5 f5 hz5 i1 i1d i2 i3 i4 i5 i6 i7 i8 i9
              have x0 := HXF.out.cell (i := 0) rfl
              have x1 := HXF.out.cell (i := 1) rfl
              have x2 := HXF.out.cell (i := 2) rfl
              have x3 := HXF.out.cell (i := 3) rfl
              have x4 := HXF.out.cell (i := 4) rfl
              have x5 := HXF.out.cell (i := 5) rfl
              have x6 := HXF.out.cell (i := 6) rfl
              go_wp2_with fail
              refine (Hy.check_any ({ hm with fets := without hm.fets i } : HisM) va vb vc (.slice u5 (i + (nl - (i + 1))) t5) ve 1048576 _ (HRY.out.below HBF.out) (HPW.out.below HBF.out) HIF.out HSF.out (by decide)).mono ?_
              rintro e w9 ⟨v9, rfl, ho9, hb9⟩
              rw [HNF.out] at ho9
              obtain ⟨a9, c9, rfl, _⟩ := ho9.form
              have HB9 := Lib.hid (HBF.out.trans (hb9.mono HBF.out.size))
              clear ho9 hb9 x0 x1 x2 x3 x4 x5 x6
              go_wp2_with fail
              go_ret
              exact ⟨rfl, HB9.out⟩
            · go_simp
              refine hK.out _ _ (by trivial) (fun hHe1 => ?_)
              clear hK K
              try simp only [Act.put, List.setIfInBounds_toArray, List.set_cons_zero, List.set_cons_succ]
              refine Hd.tk 4 ?_
              try simp only [Act.put, List.setIfInBounds_toArray, List.set_cons_zero, List.set_cons_succ]
              refine wpAnyH_ready (rs := [0]) (by kernel_rfl) (by simp) (AllReadyH.cons (by simp only [List.getElem?_toArray, List.getElem?_cons_succ, List.getElem?_cons_zero]; rfl) (fun K hK => ?_) AllReadyH.nil)
              go_simp
              have HO0 := Lib.hid (show OwnWin (wd.alloc (.cells #[] 102)) wd.heap.size 102 6 (.slice (some ⟨wd.heap.size, 0, none⟩) 0 0) 0 [] from ownK_empty (heap_alloc_new wd _) (Nat.le_refl _))
              have HBa := Lib.hid ((Below.refl wd.heap.size wd).alloc (Nat.le_refl _) (.cells #[] 102))
              obtain ⟨wa, hwa⟩ : ∃ z, wd.alloc (.cells #[] 102) = z := ⟨_, rfl⟩
              rw [hwa] at HO0 HBa ⊢
              clear hwa c2
              have ca := (HXd.out.older HBa.out).cell (i := 3) rfl
              refine hK.out _ _ (by trivial) (fun hHe2 => ?_)
              clear hK K
              try simp only [Act.put, List.setIfInBounds_toArray, List.set_cons_zero, List.set_cons_succ]
              refine wpAnyH_ready (rs := [5]) (by kernel_rfl) (by simp) (AllReadyH.cons (by simp only [List.getElem?_toArray, List.getElem?_cons_succ, List.getElem?_cons_zero]; rfl) (fun K hK => ?_) AllReadyH.nil)
              refine step_appB tyFet (by rfl) _ _ (by rfl) wd.heap.size (.slice (some ⟨wd.heap.size, 0, none⟩) 0 0) 0 [] (by rfl) HO0.out HBa.out.size (.slice (some ⟨bs, os, none⟩) i cs) i ((hm.fets.take i).flatMap fetR) (by rfl) (rows_pre (HId.out.below HBa.out).fets fetR_len (by decide) (by have := HNL.out; omega)) (by rw [flat_len fetR_len, List.length_take, HNL.out, Nat.min_eq_left (by omega)]) one_fet (by omega) ?_
              intro v4 w4 ho4 hg4 hl4
              rw [Nat.zero_add, List.nil_append] at ho4
              have HO1 := Lib.hid ho4
              have HBb := Lib.hid (HBa.out.grown hg4 HBa.out.size (fun q hq => (HO0.out.lt q hq).1))
              obtain ⟨u4, t4, rfl, _⟩ := ho4.form
              clear ho4 hg4 hl4 HO0 ca
              have cb4 := (HXd.out.older HBb.out).cell (i := 3) rfl
              refine hK.out _ _ (by trivial) (fun hHe3 => ?_)
              clear hK K
              try simp only [Act.put, List.setIfInBounds_toArray, List.set_cons_zero, List.set_cons_succ]
              refine wpAnyH_ready (rs := [11]) (by kernel_rfl) (by simp) (AllReadyH.cons (by simp only [List.getElem?_toArray, List.getElem?_cons_succ, List.getElem?_cons_zero]; rfl) (fun K hK => ?_) AllReadyH.nil)
              refine step_appB tyFet (by rfl) _ _ (by rfl) wd.heap.size (.slice u4 i t4) i _ (by rfl) HO1.out HBb.out.size (.slice (if cs = i + 1 then some ⟨bs, os, none⟩ else some ⟨bs, os + (i + 1) * 6, none⟩) (nl - (i + 1)) (cs - (i + 1))) (nl - (i + 1)) ((hm.fets.drop (i + 1)).flatMap fetR) (by rfl) (rows_sufI (HId.out.below HBb.out).fets fetR_len (by decide) HNL.out.symm (by have := HNL.out; omega) hcs rfl) (by rw [flat_len fetR_len, List.length_drop, HNL.out]) one_fet (by omega) ?_
              intro v5 w5 ho5 hg5 hl5
              have HO2 := Lib.hid ho5
              have HBc := Lib.hid (HBb.out.grown hg5 HBb.out.size (fun q hq => (HO1.out.lt q hq).1))
              obtain ⟨u5, t5, rfl, _⟩ := ho5.form
              clear ho5 hg5 hl5 HO1 cb4
              have hz5 := (HXd.out.older HBc.out).lt
              have f5 := (HXd.out.older HBc.out).frz 3
              have c5 := (HXd.out.older HBc.out).cell (i := 3) rfl
              refine hK.out _ _ (by trivial) (fun hHe4 => ?_)
              clear hK K
              try simp only [Act.put, List.setIfInBounds_toArray, List.set_cons_zero, List.set_cons_succ]
              refine Hd.tk 12 ?_
              try simp only [Act.put, List.setIfInBounds_toArray, List.set_cons_zero, List.set_cons_succ]
              refine wpAnyH_ready (rs := [13]) (by kernel_rfl) (by simp) (AllReadyH.cons (by simp only [List.getElem?_toArray, List.getElem?_cons_succ, List.getElem?_cons_zero]; rfl) (fun K hK => ?_) AllReadyH.nil)
              go_simp
              refine hK.out _ _ (by trivial) (fun hHe5 => ?_)
              clear hK K
              try simp only [Act.put, List.setIfInBounds_toArray, List.set_cons_zero, List.set_cons_succ]
              refine wpAnyH_done (by kernel_rfl) ?_ _
              obtain ⟨av, hav⟩ : ∃ z, (if cs = i + 1 then some (⟨bs, os, none⟩ : Addr) else some ⟨bs, os + (i + 1) * 6, none⟩) = z := ⟨_, rfl⟩
              rw [hav]
              clear hav
              obtain ⟨hbf, hxf, hof⟩ := parts_store (j := 3) HBd.out HXd.out HB00.out HBc.out HO2.out
              have HBF := Lib.hid hbf
              have HXF := Lib.hid hxf
              have hlw : (without hm.fets i).length = i + (nl - (i + 1)) := by rw [without_len (by rw [HNL.out]; exact hil), HNL.out]
              have hrows : RowsV fetR 6 (w5.setCell ⟨b0, 3, none⟩ (.slice u5 (i + (nl - (i + 1))) t5)) (.slice u5 (i + (nl - (i + 1))) t5) (without hm.fets i) := rows_ownF (B := wd.heap.size) (e := 102) (by rw [hlw, ← flat_without]; exact hof) fetR_len
              have HIF := Lib.hid (HisAt.fetsTo (HA.out.below HBF.out) hrows (by omega) (fun x hx => (HA.out.below HBF.out).fet x (without_sub hx)))
              have HSF : Hid (({ hm with fets := without hm.fets i } : HisM).Small) := Lib.hid (Small.fets HSM.out (by omega) (fun x hx => HSM.out.fets x (without_sub hx)))
              have HNF := Lib.hid (parts_fet HC0.out i)
              obtain ⟨wf, hwf⟩ : ∃ z, (w5.setCell ⟨b0, 3, none⟩ (.slice u5 (i + (nl - (i + 1))) t5)) = z := ⟨_, rfl⟩
              rw [hwf] at HBF HXF HIF ⊢
              clear hwf hbf hxf hof hrows hlw c5 f5 hz5 i1 i1d i2 i3 i4 i5 i6 i7 i8 i9
              have x0 := HXF.out.cell (i := 0) rfl
              have x1 := HXF.out.cell (i := 1) rfl
              have x2 := HXF.out.cell (i := 2) rfl
              have x3 := HXF.out.cell (i := 3) rfl
              have x4 := HXF.out.cell (i := 4) rfl
              have x5 := HXF.out.cell (i := 5) rfl
              have x6 := HXF.out.cell (i := 6) rfl
              go_wp2_with fail
              refine (Hy.check_any ({ hm with fets := without hm.fets i } : HisM) va vb vc (.slice u5 (i + (nl - (i + 1))) t5) ve 1048576 _ (HRY.out.below HBF.out) (HPW.out.below HBF.out) HIF.out HSF.out (by decide)).mono ?_
              rintro e w9 ⟨v9, rfl, ho9, hb9⟩
              rw [HNF.out] at ho9
              obtain ⟨a9, c9, rfl, _⟩ := ho9.form
              have HB9 := Lib.hid (HBF.out.trans (hb9.mono HBF.out.size))
              clear ho9 hb9 x0 x1 x2 x3 x4 x5 x6
              go_wp2_with fail
              go_ret
              exact ⟨rfl, HB9.out⟩
        · obtain ⟨ua, uc, rfl, _⟩ := HI3.out.fets.form
          obtain ⟨nl, hnl⟩ : ∃ z, hm.fets.length = z := ⟨_, rfl⟩
          have i1 : ¬ (i : Int) < (nl : Int) := by omega
          have i1d : decide ((i : Int) < (nl : Int)) = false := decide_eq_false i1
          rw [hnl] at HX3 HI3 ⊢
          have x0 := HX3.out.cell (i := 0) rfl
          have x1 := HX3.out.cell (i := 1) rfl
          have x2 := HX3.out.cell (i := 2) rfl
          have x3 := HX3.out.cell (i := 3) rfl
          have x4 := HX3.out.cell (i := 4) rfl
          have x5 := HX3.out.cell (i := 5) rfl
          have x6 := HX3.out.cell (i := 6) rfl
          go_wp2_with fail
          refine (Hy.check_any (hm) va vb vc (.slice ua nl uc) ve 1048576 _ (HRY.out.below HB3.out) (HPW.out.below HB3.out) HI3.out HSM.out (by decide)).mono ?_
          rintro e w9 ⟨v9, rfl, ho9, hb9⟩
          rw [HC0.out] at ho9
          obtain ⟨a9, c9, rfl, _⟩ := ho9.form
          have HB9 := Lib.hid (HB3.out.trans (hb9.mono HB3.out.size))
          clear ho9 hb9 x0 x1 x2 x3 x4 x5 x6
          go_wp2_with fail
          go_ret
          exact ⟨rfl, HB9.out⟩
      · by_cases hil : i < hm.srvs.length
        · obtain ⟨x, hxk⟩ : ∃ x, hm.srvs[i]? = some x := ⟨_, List.getElem?_eq_getElem hil⟩
          have HXK := Lib.hid hxk
          obtain ⟨sa, cs, hv, hcs⟩ := HI3.out.srvs.form
          subst hv
          obtain ⟨bs, os, e3, _, _, hrow⟩ := row_at HI3.out.srvs hxk
          cases e3
          have r10 := hrow 10 _ rfl
          have HIL := Lib.hid hil
          obtain ⟨nl, hnl⟩ : ∃ z, hm.srvs.length = z := ⟨_, rfl⟩
          have HNL := Lib.hid hnl
          rw [hnl] at HX3 HI3 hil hcs ⊢
          have hnm : nl ≤ 1000 := by rw [← hnl]; exact HSM.out.nsrv
          clear hnl hxk hrow
          have i1 : (i : Int) < (nl : Int) := by omega
          have i1d : decide ((i : Int) < (nl : Int)) = true := decide_eq_true i1
          have c2 := HX3.out.cell (i := 2) rfl
          obtain ⟨en, hen⟩ : ∃ z, x.ended = z := ⟨_, rfl⟩
          rw [hen] at r10
          have HEN := Lib.hid hen
          clear hen
          cases en with
          | true =>
            have x0 := HX3.out.cell (i := 0) rfl
            have x1 := HX3.out.cell (i := 1) rfl
            have x2 := HX3.out.cell (i := 2) rfl
            have x3 := HX3.out.cell (i := 3) rfl
            have x4 := HX3.out.cell (i := 4) rfl
            have x5 := HX3.out.cell (i := 5) rfl
            have x6 := HX3.out.cell (i := 6) rfl
            go_wp2_with fail
            refine (Hy.check_any (hm) va vb (.slice (some ⟨bs, os, none⟩) nl cs) vd ve 1048576 _ (HRY.out.below HB3.out) (HPW.out.below HB3.out) HI3.out HSM.out (by decide)).mono ?_
            rintro e w9 ⟨v9, rfl, ho9, hb9⟩
            rw [HC0.out] at ho9
            obtain ⟨a9, c9, rfl, _⟩ := ho9.form
            have HB9 := Lib.hid (HB3.out.trans (hb9.mono HB3.out.size))
            clear ho9 hb9 x0 x1 x2 x3 x4 x5 x6
            go_wp2_with fail
            go_ret
            exact ⟨rfl, HB9.out⟩
          | false =>
            have f2 := HX3.out.frz 2
            have hz3 := HX3.out.lt
            have HBa := Lib.hid ((Below.refl w3.heap.size w3).alloc (Nat.le_refl _) (.cells #[] 82))
            have HO0 := Lib.hid (show OwnWin (w3.alloc (.cells #[] 82)) w3.heap.size 82 11 (.slice (some ⟨w3.heap.size, 0, none⟩) 0 0) 0 [] from ownK_empty (heap_alloc_new w3 _) (Nat.le_refl _))
            go_upto_region 9 with (at_builtin; refine wpList_appB tySrv (by rfl) _ _ (by rfl) w3.heap.size (.slice (some ⟨w3.heap.size, 0, none⟩) 0 0) 0 [] (by rfl) HO0.out HBa.out.size (.slice (some ⟨bs, os, none⟩) nl cs) nl (hm.srvs.flatMap srvR) (by rfl) (by have := rows_src (HI3.out.below HBa.out).srvs srvR_len (by decide); rw [HNL.out] at this; exact this) (by rw [flat_len srvR_len, HNL.out]) (one_srv HI3.out.srv) (by omega) ?_; intro v4 w4 ho4 hg4 hl4; rw [Nat.zero_add, List.nil_append] at ho4; have HO1 := Lib.hid ho4; have HBb := Lib.hid (HBa.out.grown hg4 HBa.out.size (fun q hq => (HO0.out.lt q hq).1)); obtain ⟨g4, o4, t4, rfl, hgb⟩ := own_some ho4 (by omega); clear ho4 hg4 hl4; have c4 := (HX3.out.older HBb.out).cell (i := 2) rfl; have f4 := (HX3.out.older HBb.out).frz 2; have hz4 := (HX3.out.older HBb.out).lt)
            obtain ⟨hbf, hxf, hof⟩ := parts_store (j := 2) HB3.out HX3.out HB00.out HBb.out HO1.out
            have HB5 := Lib.hid hbf
            have HX5 := Lib.hid hxf
            have HO5 := Lib.hid hof
            obtain ⟨w5, hw5⟩ : ∃ z, w4.setCell ⟨b0, 2, none⟩ (.slice (some ⟨g4, o4, none⟩) nl t4) = z := ⟨_, rfl⟩
            rw [hw5] at HB5 HX5 HO5 ⊢
            clear hw5 hbf hxf hof HO1 HO0 HBa HBb c4 f4 hz4 c2 f2 r10
            have HGB := Lib.hid (show ¬ b0 = g4 by omega)
            obtain ⟨pa, pc, hpv, hpl⟩ := ((HA.out.srv x (List.mem_of_getElem? HXK.out)).2.2.2.2.2.2.1).form
            have HPV := Lib.hid hpv
            have hpb := (HA.out.srv x (List.mem_of_getElem? HXK.out)).2.2.2.2.2.2.2.1
            obtain ⟨pn, hpn⟩ : ∃ z, x.parts.length = z := ⟨_, rfl⟩
            have HPN := Lib.hid hpn
            rw [hpn] at hpl hpb
            obtain ⟨g9, o9, c9, e9, _, _, _, _, hcell⟩ := HO5.out.cells (by omega)
            cases e9
            have k9 := hcell (i * 11 + 9) _ (flat_at srvR_len HXK.out (u := x.partsV) (j := 9) rfl)
            rw [hpv, hpn, ← Nat.add_assoc] at k9
            have k9f := own_frzH HO5.out (o4 + i * 11 + 9)
            clear hpv hpn hcell
            have c5 := HX5.out.cell (i := 2) rfl
            have hg5 : g4 < w5.heap.size := World.block_lt_of_cell? _ _ k9
            obtain ⟨r, hr4⟩ : ∃ z, nn % 4 = z := ⟨_, rfl⟩
            obtain ⟨n1, n2, n3⟩ := u8_mod (k := nn) (m := 4) mn (by decide)
            rw [hr4] at n1 n2 n3
            have n1 : Int.tmod (nn : Int) 4 = (r : Int) := n1
            have n2 : (nn : Int) % 4 = (r : Int) := n2
            have hrl : r < 4 := by omega
            clear hr4
            have n4 : IntKind.i64.wrap (r : Int) = (r : Int) := IntWalk.i64_in _ (by omega)
            have n5 : IntKind.i64.wrap ((pn : Int) - (r : Int)) = (pn : Int) - (r : Int) := IntWalk.i64_in _ (by omega)
            obtain ⟨kk, hkk⟩ : ∃ z, pn - r = z := ⟨_, rfl⟩
            have n6 : max (0 : Int) ((pn : Int) - (r : Int)) = (kk : Int) := by omega
            have n7 : kk ≤ pn := by omega
            have n8 : (kk : Int) ≤ (pc : Int) := by omega
            have n9 : (0 : Int) ≤ (kk : Int) := by omega
            have n10 : (kk : Int).toNat = kk := by omega
            clear hkk
            go_upto_region 10 with fail
            have HX6 := Lib.hid (HX5.out.older (Below.refl _ _).drew)
            have HO6 := Lib.hid (HO5.out.older (Below.refl _ _).drew)
            have HB6 := Lib.hid HB5.out.drew
            have HK9 := Lib.hid k9
            have HF9 := Lib.hid k9f
            refine wp_region_held_drew (S := (fun w' => w'.cell? ⟨b0, 2, none⟩ = some (.slice (some ⟨g4, o4, none⟩) nl t4))) (by kernel_rfl) (by exact c5) (fun hHeld => ?_)
            obtain ⟨w6, hw6⟩ : ∃ z, w5.drew = z := ⟨_, rfl⟩
            have k6 : w6.cell? ⟨g4, o4 + i * 11 + 9, none⟩ = some (.slice pa pn pc) := by rw [← hw6]; exact k9
            have f6 : w6.frozen? ⟨g4, o4 + i * 11 + 9, none⟩ = false := by rw [← hw6]; exact k9f
            have hg6 : g4 < w6.heap.size := World.block_lt_of_cell? _ _ k6
            rw [hw6] at HX6 HO6 HB6 hHeld ⊢
            clear hw6
            refine Hd.tk 0 ?_
            try simp only [Act.put, List.setIfInBounds_toArray, List.set_cons_zero, List.set_cons_succ]
            refine Hd.tk 1 ?_
            try simp only [Act.put, List.setIfInBounds_toArray, List.set_cons_zero, List.set_cons_succ]
            refine Hd.tk 2 ?_
            try simp only [Act.put, List.setIfInBounds_toArray, List.set_cons_zero, List.set_cons_succ]
            refine Hd.tk 3 ?_
            try simp only [Act.put, List.setIfInBounds_toArray, List.set_cons_zero, List.set_cons_succ]
            refine Hd.tk 4 ?_
            try simp only [Act.put, List.setIfInBounds_toArray, List.set_cons_zero, List.set_cons_succ]
            refine Hd.tk 5 ?_
            try simp only [Act.put, List.setIfInBounds_toArray, List.set_cons_zero, List.set_cons_succ]
            refine Hd.tk 6 ?_
            try simp only [Act.put, List.setIfInBounds_toArray, List.set_cons_zero, List.set_cons_succ]
            refine Hd.tk 7 ?_
            try simp only [Act.put, List.setIfInBounds_toArray, List.set_cons_zero, List.set_cons_succ]
            refine Hd.tk 8 ?_
            try simp only [Act.put, List.setIfInBounds_toArray, List.set_cons_zero, List.set_cons_succ]
            refine Hd.tk 9 ?_
            try simp only [Act.put, List.setIfInBounds_toArray, List.set_cons_zero, List.set_cons_succ]
            refine Hd.tk 10 ?_
            try simp only [Act.put, List.setIfInBounds_toArray, List.set_cons_zero, List.set_cons_succ]
            refine Hd.tk 11 ?_
            try simp only [Act.put, List.setIfInBounds_toArray, List.set_cons_zero, List.set_cons_succ]
            refine Hd.tk 12 ?_
            try simp only [Act.put, List.setIfInBounds_toArray, List.set_cons_zero, List.set_cons_succ]
            refine Hd.tk 13 ?_
            try simp only [Act.put, List.setIfInBounds_toArray, List.set_cons_zero, List.set_cons_succ]
            refine wpAnyH_ready (rs := [14]) (by kernel_rfl) (by simp) (AllReadyH.cons (by simp only [List.getElem?_toArray, List.getElem?_cons_succ, List.getElem?_cons_zero]; rfl) (fun K hK => ?_) AllReadyH.nil)
            go_simp
            have HOF := Lib.hid (own_setH HO6.out (i := i * 11 + 9) (by rw [flat_len srvR_len, HNL.out]; omega) (.slice pa kk pc))
            rw [← Nat.add_assoc] at HOF
            have hts := touch_set1 w6 g4 (o4 + i * 11 + 9) (.slice pa kk pc)
            have HXF := Lib.hid (HX6.out.touch hts HGB.out)
            have HBF := Lib.hid (HB6.out.trans (hts.below HB6.out.size (fun j hj => by rw [hj]; have := HB3.out.size; omega)))
            obtain ⟨wf, hwf⟩ : ∃ z, w6.setCell ⟨g4, o4 + i * 11 + 9, none⟩ (.slice pa kk pc) = z := ⟨_, rfl⟩
            rw [hwf] at HOF HXF HBF ⊢
            clear hwf hts
            refine hK.out _ _ (by exact HXF.out.cell (i := 2) rfl) (fun hHe1 => ?_)
            clear hK K
            try simp only [Act.put, List.setIfInBounds_toArray, List.set_cons_zero, List.set_cons_succ]
            refine wpAnyH_done (by kernel_rfl) ?_ _
            have hfs := flat_set srvR_len (j := 9) (by decide) (u := .slice pa kk pc) (y := ({ x with parts := x.parts.take kk, partsV := (.slice pa kk pc) } : SrvM)) HXK.out rfl
            have hrows : RowsV srvR 11 wf (.slice (some ⟨g4, o4, none⟩) nl t4) (hm.srvs.set i { x with parts := x.parts.take kk, partsV := (.slice pa kk pc) }) := rows_ownF (B := w3.heap.size) (e := 82) (by rw [List.length_set, HNL.out, ← hfs]; exact HOF.out) srvR_len
            have hxm := List.mem_of_getElem? HXK.out
            have HIF := Lib.hid (HisAt.srvsTo (HA.out.below HBF.out) hrows (by rw [List.length_set]; exact HA.out.nsrv) (fun y hy => by
              rcases List.mem_or_eq_of_mem_set hy with hy | rfl
              · exact (HA.out.below HBF.out).srv y hy
              · obtain ⟨z1, z2, z3, z4, z5, z6, z7, z8, z9⟩ := (HA.out.below HBF.out).srv x hxm
                exact ⟨z1, z2, z3, z4, z5, z6, by have := rows_take (m := kk) (by rw [HPV.out] at z7; exact z7) (by rw [HPN.out]; exact n7); exact this, by have := List.length_take_le kk x.parts; show (x.parts.take kk).length ≤ _; omega, fun y hy => z9 y (List.mem_of_mem_take hy)⟩))
            have HSF : Hid (({ hm with srvs := hm.srvs.set i { x with parts := x.parts.take kk, partsV := (.slice pa kk pc) } } : HisM).Small) := Lib.hid (Small.srvs HSM.out (by rw [List.length_set]; exact HSM.out.nsrv) (fun y hy => by
              rcases List.mem_or_eq_of_mem_set hy with hy | rfl
              · exact HSM.out.srvs y hy
              · obtain ⟨z1, z2, z3⟩ := HSM.out.srvs x hxm; exact ⟨z1, z2, fun y hy => z3 y (List.mem_of_mem_take hy)⟩))
            have HNF := Lib.hid (parts_end HC0.out HXK.out HEN.out kk (.slice pa kk pc))
            clear hfs hrows hxm k6 f6 hg6 k9 k9f c5 hg5
            have x0 := HXF.out.cell (i := 0) rfl
            have x1 := HXF.out.cell (i := 1) rfl
            have x2 := HXF.out.cell (i := 2) rfl
            have x3 := HXF.out.cell (i := 3) rfl
            have x4 := HXF.out.cell (i := 4) rfl
            have x5 := HXF.out.cell (i := 5) rfl
            have x6 := HXF.out.cell (i := 6) rfl
            go_wp2_with fail
            refine (Hy.check_any ({ hm with srvs := hm.srvs.set i { x with parts := x.parts.take kk, partsV := (.slice pa kk pc) } } : HisM) va vb (.slice (some ⟨g4, o4, none⟩) nl t4) vd ve 1048576 _ (HRY.out.below HBF.out) (HPW.out.below HBF.out) HIF.out HSF.out (by decide)).mono ?_
            rintro e w9 ⟨v9, rfl, ho9, hb9⟩
            rw [HNF.out] at ho9
            obtain ⟨a9, c9, rfl, _⟩ := ho9.form
            have HB9 := Lib.hid (HBF.out.trans (hb9.mono HBF.out.size))
            clear ho9 hb9 x0 x1 x2 x3 x4 x5 x6
            go_wp2_with fail
            go_ret
            exact ⟨rfl, HB9.out⟩
        · obtain ⟨ua, uc, rfl, _⟩ := HI3.out.srvs.form
          obtain ⟨nl, hnl⟩ : ∃ z, hm.srvs.length = z := ⟨_, rfl⟩
          have i1 : ¬ (i : Int) < (nl : Int) := by omega
          have i1d : decide ((i : Int) < (nl : Int)) = false := decide_eq_false i1
          rw [hnl] at HX3 HI3 ⊢
          have x0 := HX3.out.cell (i := 0) rfl
          have x1 := HX3.out.cell (i := 1) rfl
          have x2 := HX3.out.cell (i := 2) rfl
          have x3 := HX3.out.cell (i := 3) rfl
          have x4 := HX3.out.cell (i := 4) rfl
          have x5 := HX3.out.cell (i := 5) rfl
          have x6 := HX3.out.cell (i := 6) rfl
          go_wp2_with fail
          refine (Hy.check_any (hm) va vb (.slice ua nl uc) vd ve 1048576 _ (HRY.out.below HB3.out) (HPW.out.below HB3.out) HI3.out HSM.out (by decide)).mono ?_
          rintro e w9 ⟨v9, rfl, ho9, hb9⟩
          rw [HC0.out] at ho9
          obtain ⟨a9, c9, rfl, _⟩ := ho9.form
          have HB9 := Lib.hid (HB3.out.trans (hb9.mono HB3.out.size))
          clear ho9 hb9 x0 x1 x2 x3 x4 x5 x6
          go_wp2_with fail
          go_ret
          exact ⟨rfl, HB9.out⟩
    · have hn1 : (0 : Int) < (nc : Int) := by omega
      have hn2 : decide ((0 : Int) < (nc : Int)) = true := decide_eq_true hn1
      have hn3 : decide (0 < nc) = true := decide_eq_true (by omega)
      clear hnc
      go_wp2_with fail
      go_ret
      exact ⟨rfl, HB3.out⟩

/-- What the walk gives, for every argument. -/
theorem contract (H : Type) (enc : TypeId × Value → H) (W : World) (base : Nat) (args : Array Value) (ds gs : List (DataW H)) (before : List MemPlace)
    (hval : ∀ (j : Nat) t v, Tryz.f6.params[j]? = some t → args[j]? = some v → Value.okWide Tryz.prog W .any base t v)
    (hW : DataW.Whole enc Tryz.prog Tryz.f6.params.toList Rows.historyPartsSpec.vars false W args.toList ds gs before) (hsz : (DataW.weightsEach Tryz.prog Tryz.f6.params.toList (ds ++ gs)).all (· ≤ reachBytes) = true) (hr : Ready W) (hw : A1.ParseAt W) (hk : Rows.uptoSmall H (ds ++ gs) = true) :
    Calls Tryz.prog 6 args W fun e W' => ∃ v, e = .returned v ∧ Rows.historyPartsSpec.post enc Tryz.prog Tryz.f6 false true false false W args v W' := by
  have hW' := hW
  have hlt := fun p hp => hW.lt p hp
  obtain ⟨p, q, hA0, hV, rfl, hfz, hnd⟩ := hW
  have hA : DataW.TrodAll enc Tryz.prog W 0 (fun _ => true) true Tryz.f6.params.toList args.toList ds p := hA0
  have hA1 := hA
  obtain ⟨rfl, rfl⟩ := trodVars_none hV
  rw [Tryz.params6] at hA hval
  obtain ⟨v0, vs0, d0, ds0, p0, q0, hargs, rfl, rfl, h0, r0⟩ := trodAll_cons hA
  obtain ⟨v1, vs1, d1, ds1, p1, q1, rfl, rfl, rfl, h1, r1⟩ := trodAll_cons r0
  obtain ⟨v2, vs2, d2, ds2, p2, q2, rfl, rfl, rfl, h2, r2⟩ := trodAll_cons r1
  obtain ⟨v3, vs3, d3, ds3, p3, q3, rfl, rfl, rfl, h3, r3⟩ := trodAll_cons r2
  obtain ⟨rfl, rfl, rfl⟩ := trodAll_nil r3
  obtain rfl : args = #[v0, v1, v2, v3] := by cases args; simp_all
  have fin : ∀ W', Below W.heap.size W W' → Rows.historyPartsSpec.post enc Tryz.prog Tryz.f6 false true false false W #[v0, v1, v2, v3] (.bool true) W' := fun W' hb => by
    simp only [List.append_nil] at hA1 hW' hlt
    exact ⟨_, _, _, [], _, [], hW', trodAll_cons_mk (shut_bool Tryz.underlying4 _) trodAll_mk0, Fr.trodAll_below (by kernel_rfl) _ (by kernel_rfl) hA1 hb hlt, rfl, hb.frame _, fun h => by cases h⟩
  clear hW' hA0 hA1 hlt
  rw [Tryz.params6, List.append_nil] at hsz
  have hb0 : Rows.uptoBulk d0 ≤ 1048576 := by
    have hbulk := of_decide_eq_true hk
    simp only [Rows.uptoBulkAll, List.cons_append, List.nil_append] at hbulk
    omega
  obtain ⟨va0, vb0, vc0, vd0, ve0, hm0, rfl, ha0⟩ := open_his (hval 0 69 v0 rfl rfl) h0 hb0
  obtain ⟨n1, rfl, rfl, rfl, wf1⟩ := open_int Tryz.underlying5 (hval 1 5 v1 rfl rfl) h1
  have m1 := Hy.u8_range wf1
  obtain ⟨k1, rfl⟩ : ∃ z : Nat, n1 = (z : Int) := ⟨n1.toNat, by omega⟩
  have q1 : k1 < 256 := by omega
  obtain ⟨n2, rfl, rfl, rfl, wf2⟩ := open_int Tryz.underlying5 (hval 2 5 v2 rfl rfl) h2
  have m2 := Hy.u8_range wf2
  obtain ⟨k2, rfl⟩ : ∃ z : Nat, n2 = (z : Int) := ⟨n2.toNat, by omega⟩
  have q2 : k2 < 256 := by omega
  obtain ⟨n3, rfl, rfl, rfl, wf3⟩ := open_int Tryz.underlying5 (hval 3 5 v3 rfl rfl) h3
  have m3 := Hy.u8_range wf3
  obtain ⟨k3, rfl⟩ : ∃ z : Nat, n3 = (z : Int) := ⟨n3.toNat, by omega⟩
  have q3 : k3 < 256 := by omega
  refine  (walk va0 vb0 vc0 vd0 ve0 hm0 k1 k2 k3 W hr hw ha0 q1 q2 q3).mono fun e W' ⟨he, hb⟩ => ?_
  subst he
  exact ⟨_, rfl, fin W' hb⟩

theorem laid_met (os : Os) : laidMet Tryz.prog Rows.historyPartsUptoRow.laid ((Fr.laidE Rows.historyPartsUptoRow.laid os).forCall (fun _ _ => 0) ⟨#[], #[.agg #[.slice none 0 0, .slice none 0 0, .slice none 0 0, .slice none 0 0, .slice none 0 0, .int .i64 0, .int .i64 0], .int .u8 0, .int .u8 0, .int .u8 0], []⟩).memory :=
  laidMet_of_run' 8 (by kernel_rfl) (by kernel_rfl)
theorem reads (os : Os) {H : Type} (enc : TypeId × Value → H) : ∃ places, DataW.whole enc Tryz.prog ((Fr.laidE Rows.historyPartsUptoRow.laid os).forCall (fun _ _ => 0) ⟨#[], #[.agg #[.slice none 0 0, .slice none 0 0, .slice none 0 0, .slice none 0 0, .slice none 0 0, .int .i64 0, .int .i64 0], .int .u8 0, .int .u8 0, .int .u8 0], []⟩).memory Tryz.f6.params.toList Rows.historyPartsSpec.vars false (#[.agg #[.slice none 0 0, .slice none 0 0, .slice none 0 0, .slice none 0 0, .slice none 0 0, .int .i64 0, .int .i64 0], .int .u8 0, .int .u8 0, .int .u8 0] : Array Value).toList 8 = some ([.agg [.nil, .nil, .nil, .nil, .nil, .lit (.int .i64 0), .lit (.int .i64 0)], .lit (.int .u8 0), .lit (.int .u8 0), .lit (.int .u8 0)], [], places) :=
  ⟨[], by kernel_rfl⟩

theorem lifted (os : Os) (started : os.Started) (H : Type) (enc : TypeId × Value → H) (F : Stop.Interp) :
    ReturnsInHanded {} Tryz.checked os 6 .any ((Rows.OpenSpec.upto Rows.historyPartsSpec).preRow enc Tryz.prog Tryz.f6 Rows.historyPartsUptoRow.domain false Rows.historyPartsUptoRow.laid) (((Rows.OpenSpec.upto Rows.historyPartsSpec).at F).post enc Tryz.prog Tryz.f6 false true false false) := by
  obtain ⟨places, hx⟩ := reads os enc
  refine returnsInHanded_of_row (C := Tryz.checked) (s := Rows.OpenSpec.upto Rows.historyPartsSpec) Fr.own started (by kernel_rfl) Tryz.func6
    (witness_row_at (enc := enc) (C := Tryz.checked) false (Fr.laidE Rows.historyPartsUptoRow.laid os) #[.agg #[.slice none 0 0, .slice none 0 0, .slice none 0 0, .slice none 0 0, .slice none 0 0, .int .i64 0, .int .i64 0], .int .u8 0, .int .u8 0, .int .u8 0] rfl (by kernel_rfl) (by kernel_rfl) (by kernel_rfl)
      (OpenSpec.preRow_of_cond 8 hx (by kernel_rfl) (fun k hk => by cases hk; kernel_rfl) (by kernel_rfl) (laid_met os))) ?_
  intro W base args ds gs before hval hW _ hcond hsz hlaid hsh _
  exact contract H enc W base args ds gs before hval hW (by have h9 : (DataW.weightsEach Tryz.prog (Tryz.f6.params.toList ++ []) (ds ++ gs)).all (· ≤ reachBytes) = true := hsz; rw [List.append_nil] at h9; exact h9) (Fr.ready hsh) (Fr.parse_laid hlaid (by kernel_rfl) (by repeat first | exact List.mem_cons_self .. | apply List.mem_cons_of_mem) (by repeat first | exact List.mem_cons_self .. | apply List.mem_cons_of_mem) (by repeat first | exact List.mem_cons_self .. | apply List.mem_cons_of_mem)) (hcond _ rfl)

theorem k_0 : Rows.historyPartsUptoRow.wf (OpenSpec.ofChange (Rows.OpenSpec.upto Rows.historyPartsSpec).bare) = true := by kernel_rfl
theorem k_1 : laidOutB Tryz.prog = true := Fr.sf_laidOut
theorem k_2 : mapsRowed Tryz.prog = true := Fr.sf_mapsRowed
theorem k_3 : Tryz.f6.params.all (Tryz.prog.readableRec ·) = true := by kernel_rfl
theorem k_4 : namedTie Tryz.prog Rows.historyPartsUptoRow.named (Rows.OpenSpec.upto Rows.historyPartsSpec).bare.vars = true := by kernel_rfl
theorem k_5 : (Rows.historyPartsUptoRow.stops == []) = true := by kernel_rfl
theorem k_6 : (Tryz.prog.stops == []) = true := Fr.sf_stops
theorem k_7 : (Rows.historyPartsUptoRow.knobs == []) = true := by kernel_rfl
theorem k_8 : (Tryz.prog.stopKnobs == []) = true := Fr.sf_stopKnobs
theorem k_9 : (Rows.historyPartsUptoRow.inPlace == Tryz.prog.inPlace 6) = true := by kernel_rfl
theorem k_10 : (Rows.historyPartsUptoRow.unfollowed == Tryz.prog.unfollowed 6) = true := by kernel_rfl
theorem k_11 : (Rows.historyPartsUptoRow.recurses == Tryz.prog.recurses 6) = true := by kernel_rfl
theorem k_12 : (Rows.historyPartsUptoRow.named == Tryz.prog.varsNamed 6) = true := by kernel_rfl
theorem k_13 : (Rows.historyPartsUptoRow.maps == (Tryz.f6.params.toList ++ (Rows.OpenSpec.upto Rows.historyPartsSpec).bare.plain.varTypes Tryz.prog).any (Tryz.prog.mapsRec ·)) = true := by kernel_rfl
theorem k_14 : (Rows.historyPartsUptoRow.ifaces == (Tryz.f6.params.toList ++ (Rows.OpenSpec.upto Rows.historyPartsSpec).bare.plain.varTypes Tryz.prog).any (Tryz.prog.ifacesRec ·)) = true := by kernel_rfl
theorem k_15 : (Rows.historyPartsUptoRow.mapsOut == Tryz.prog.mapsAmong Tryz.f6.resultTypes.toList) = true := by kernel_rfl
theorem k_16 : (Rows.historyPartsUptoRow.loops == (Tryz.f6.params.toList ++ (Rows.OpenSpec.upto Rows.historyPartsSpec).bare.plain.varTypes Tryz.prog).any (Tryz.prog.loopsFrom ·)) = true := by kernel_rfl
theorem k_17 : (Rows.historyPartsUptoRow.wideKeys == (Tryz.f6.params.toList ++ (Rows.OpenSpec.upto Rows.historyPartsSpec).bare.plain.varTypes Tryz.prog ++ Tryz.f6.resultTypes.toList).any (Tryz.prog.wideKeysFrom ·)) = true := by kernel_rfl
theorem k_18 : (Rows.OpenSpec.upto Rows.historyPartsSpec).bare.vars.all (Tryz.prog.varReadable ·) = true := by kernel_rfl
theorem k_19 : Tryz.f6.resultTypes.all (fun t => Tryz.prog.readableRec t && decide (t < Tryz.prog.types.size)) = true := by kernel_rfl
theorem k_20 : (Rows.historyPartsUptoRow.ifacesOut == Tryz.f6.resultTypes.toList.any (Tryz.prog.ifacesRec ·)) = true := by kernel_rfl
theorem k_21 : (Rows.historyPartsUptoRow.loopsOut == Tryz.f6.resultTypes.toList.any (Tryz.prog.loopsFrom ·)) = true := by kernel_rfl
theorem k_22 : (Rows.historyPartsUptoRow.plainKeys == Tryz.prog.plainKeys) = true := Fr.sf_plainKeys
theorem k_23 : Rows.historyPartsUptoRow.shortTexts.isNone = true := by kernel_rfl
theorem k_24 : Tryz.prog.stopsHeard = true := Fr.sf_heard
theorem k_25 : Tryz.prog.mayEnter = true := Fr.sf_mayEnter
theorem k_26 : (Rows.historyPartsUptoRow.lifted == Tryz.prog.liftsFinal) = true := Fr.sf_lifted
theorem k_27 : (Tryz.prog.make == some Rows.historyPartsUptoRow.make) = true := Fr.sf_make
theorem k_28 : (Rows.historyPartsUptoRow.kinds == (if Rows.historyPartsUptoRow.domain.isEmpty then [] else Tryz.f6.params.toList.map fun t => match Tryz.prog.underlying t with | some (.int k) => some k | _ => none)) = true := by kernel_rfl
theorem k_29 : (Rows.historyPartsUptoRow.pinned == Rows.historyPartsUptoRow.pinnedBy) = true := by kernel_rfl
theorem k_30 : (Rows.historyPartsUptoRow.veiled == (Tryz.f6.params.toList ++ (Rows.OpenSpec.upto Rows.historyPartsSpec).bare.plain.varTypes Tryz.prog ++ Tryz.f6.resultTypes.toList).any (Tryz.prog.veiledRec ·)) = true := by kernel_rfl
theorem k_31 : Rows.historyPartsUptoRow.veiledFits Tryz.prog Tryz.f6.params.toList (Tryz.f6.params.toList ++ (Rows.OpenSpec.upto Rows.historyPartsSpec).bare.plain.varTypes Tryz.prog ++ Tryz.f6.resultTypes.toList) = true := by kernel_rfl
theorem closed : joinedFacts Tryz.prog 6 Tryz.f6 (Rows.OpenSpec.upto Rows.historyPartsSpec).bare Rows.historyPartsUptoRow = true := Op.andT (Op.andT (Op.andT (Op.andT (Op.andT (Op.andT (Op.andT (Op.andT (Op.andT (Op.andT (Op.andT (Op.andT (Op.andT (Op.andT (Op.andT (Op.andT (Op.andT (Op.andT (Op.andT (Op.andT (Op.andT (Op.andT (Op.andT (Op.andT (Op.andT (Op.andT (Op.andT (Op.andT (Op.andT (Op.andT (Op.andT (k_0) k_1) k_2) k_3) k_4) k_5) k_6) k_7) k_8) k_9) k_10) k_11) k_12) k_13) k_14) k_15) k_16) k_17) k_18) k_19) k_20) k_21) k_22) k_23) k_24) k_25) k_26) k_27) k_28) k_29) k_30) k_31

theorem said : Rows.HistoryPartsUptoSaid :=
  OpenClaim.holds_of_cond 6 Tryz.f6 rfl rfl rfl rfl rfl rfl rfl ⟨rfl, rfl, rfl, rfl, rfl⟩ rfl rfl rfl rfl rfl (by kernel_rfl) Tryz.func6 closed
    (of_decide_eq_true (by kernel_rfl)) (by unfold Func.isWrapper; first | (rw [if_pos (by decide +kernel)]; kernel_rfl) | (rw [if_neg (by decide +kernel)]; exact ⟨rfl, rfl⟩))
    (fun os started H enc _ F => by rw [OpenClaim.pre_eq_preRow]; exact lifted os started H enc F)

theorem plain (b : Bool) (hb : b = Tryz.pinned.checked.prog.looks []) (f : FuncId) (fn : Func) (hf : Tryz.pinned.checked.prog.funcNamed "quayside/quaysidelaw58.HistoryParts" = some f) (hfn : Tryz.pinned.checked.prog.funcs[f]? = some fn) :
    b = Tryz.pinned.checked.prog.looks [] ∧ ∀ (j : Nat) t, fn.params[j]? = some t → Tryz.pinned.checked.prog.wantsStandIn t = false := by
  obtain rfl : f = 6 := Option.some.inj ((show Tryz.prog.funcNamed "quayside/quaysidelaw58.HistoryParts" = some 6 by kernel_rfl).symm.trans hf) |>.symm
  obtain rfl : fn = Tryz.f6 := (Option.some.inj (Tryz.func6.symm.trans hfn)).symm
  refine ⟨hb, fun j t ht => ?_⟩
  rw [Tryz.params6] at ht
  have hm : t ∈ [69, 5] := by simpa using Array.mem_of_getElem? ht
  have hall : ([69, 5].all fun u => !Tryz.prog.wantsStandIn u) = true := by kernel_rfl
  exact (show Tryz.prog.wantsStandIn t = false by simpa using List.all_eq_true.1 hall t hm)

theorem proved : Rows.HistoryPartsUptoCardSaid :=
  Claim7.holds_tied_plain_at .later [] _ _ _ _ said (fun _ h => by cases h) (by kernel_rfl) (fun _ h => by cases h) historyPartsUpto_row_tie rfl ⟨rfl, rfl⟩ (by kernel_rfl) rfl (plain _ (by kernel_rfl)) (by kernel_rfl)
#print axioms proved
end Go.Proofs.YtjijijjkkhpjnaaGreatDoor.lawHistoryParts
