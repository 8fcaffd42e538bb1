/- PROVED: HistorySpoils returns true for every history of the statement's size and every byte, and leaves its arguments as they were. No condition beyond the statement's own (the listed variables read as the program's text lays them, which the card ties). -/
import Derived.Deep.DeepCutAuto
import Derived.Test.YtjijijjkkhpjnaaGreatDoorQdA
import Derived.Test.YtjijijjkkhpjnaaGreatDoorQdG
import Derived.Test.YtjijijjkkhpjnaaGreatDoorQdM
import Derived.Test.YtjijijjkkhpjnaaGreatDoorQdN
import Derived.Test.YtjijijjkkhpjnaaGreatDoorQdO
namespace Go.Proofs.YtjijijjkkhpjnaaGreatDoor.lawHistorySpoils
open Go.ChangeShapes Go.WideShapes Go.ChangeAt Go.RowKit Pl Ad A1 Hy Kr
open Go.ChangeMaps (open_string shut_string)
attribute [local go_sem] ba_get conv_one conv_one_drewN ba_append ba_extract
set_option maxRecDepth 100000
set_option maxHeartbeats 4000000
set_option linter.unusedVariables false
set_option linter.unusedSimpArgs false

/-- What stands behind a change of one of the history's lists. -/
theorem parts_store {w wd w5 : World} {b0 T k n j : Nat} {C : Array Value} {v5 : Value} {xs : List Value} (hb : Below w.heap.size w wd) (hx : Bx wd b0 69 C) (h0 : w.heap.size ≤ b0) (hb5 : Below wd.heap.size wd w5) (ho : OwnWin w5 wd.heap.size T k v5 n xs) :
    Below w.heap.size w (w5.setCell ⟨b0, j, none⟩ v5) ∧ Bx (w5.setCell ⟨b0, j, none⟩ v5) b0 69 (C.setIfInBounds j v5) ∧ OwnWin (w5.setCell ⟨b0, j, none⟩ v5) wd.heap.size T k v5 n xs := by
  have hs := touch_set1 w5 b0 j v5
  have h5 : Below w.heap.size w w5 := hb.trans (hb5.mono hb.size)
  exact ⟨h5.trans (hs.below h5.size (fun i hi => by rw [hi]; exact h0)), (hx.older hb5).set j v5, ho.touch hs (fun q hq e => by have := (ho.lt q hq).1; have := hx.lt; omega)⟩
theorem own_setH {w : World} {B e size n g o c : Nat} {xs : List Value} (h : OwnWin w B e size (.slice (some ⟨g, o, none⟩) n c) n xs) {i : Nat} (hi : i < xs.length) (u : Value) : OwnWin (w.setCell ⟨g, o + i, none⟩ u) B e size (.slice (some ⟨g, o, none⟩) n c) n (xs.set i u) := by
  obtain ⟨hl, h⟩ := h
  refine ⟨by rw [List.length_set]; exact hl, .inr ?_⟩
  rcases h with ⟨h0, _⟩ | ⟨g', o', cap, cur, h0, h1, h2, h3, h4, h5, h6⟩
  · cases h0
  · cases h0
    refine ⟨g, o, c, cur.setIfInBounds (o + i) u, rfl, h1, Bx.set (cs := cur) h2 (o + i) u, h3, h4, by simpa using h5, ?_⟩
    rw [Array.toList_setIfInBounds, List.drop_set, if_neg (by omega), Nat.add_sub_cancel_left, List.take_set, h6]
theorem own_frzH {w : World} {B e size n g o c : Nat} {xs : List Value} (h : OwnWin w B e size (.slice (some ⟨g, o, none⟩) n c) n xs) (i : Nat) : w.frozen? ⟨g, i, none⟩ = false := by
  rcases h.2 with ⟨h0, _⟩ | ⟨g', o', cap, cur, h0, h1, h2, _⟩
  · cases h0
  · cases h0; exact Bx.frz h2 _
theorem own_some {w : World} {B e size n : Nat} {v : Value} {xs : List Value} (h : OwnWin w B e size v n xs) (hn : 0 < n) : ∃ g o c : Nat, v = .slice (some ⟨g, o, none⟩) n c ∧ B ≤ g := by
  rcases h.2 with ⟨_, h9⟩ | ⟨g, o, c, _, h9, h8, _⟩
  · omega
  · exact ⟨g, o, c, h9, h8⟩
theorem flat_set {α : Type} {F : α → List Value} {k j : Nat} (hF : ∀ x, (F x).length = k) (hj : j < k) {u : Value} {y : α} : ∀ {xs : List α} {i : Nat} {x : α}, xs[i]? = some x → F y = (F x).set j u → (xs.flatMap F).set (i * k + j) u = (xs.set i y).flatMap F
  | [], i, x, h, _ => by simp at h
  | a :: r, 0, x, h, e => by
    simp at h; subst h
    rw [List.flatMap_cons, List.set_cons_zero, List.flatMap_cons, e, Nat.zero_mul, Nat.zero_add, List.set_append_left _ _ (by rw [hF]; exact hj)]
  | a :: r, i + 1, x, h, e => by
    have h' : r[i]? = some x := by simpa using h
    rw [List.flatMap_cons, List.set_cons_succ, List.flatMap_cons, List.set_append_right _ _ (by rw [hF, Nat.add_mul]; omega), ← flat_set hF hj h' e, hF]
    congr 2
    rw [Nat.add_mul]; omega
theorem u8_mod {k m : Nat} (hk : k < 256) (hm : 0 < m) : Int.tmod (k : Int) (m : Int) = ((k % m : Nat) : Int) ∧ (k : Int) % (m : Int) = ((k % m : Nat) : Int) ∧ IntKind.u8.wrap ((k % m : Nat) : Int) = ((k % m : Nat) : Int) := by
  have h1 : k % m ≤ k := Nat.mod_le _ _
  refine ⟨?_, rfl, ?_⟩
  · rw [Int.tmod_eq_emod_of_nonneg (by omega)]; rfl
  · rw [IntKind.wrap_u8]; omega
theorem imod {k m : Nat} (hk : k < 256) : Int.tmod (k : Int) (m : Int) = ((k % m : Nat) : Int) ∧ (k : Int) % (m : Int) = ((k % m : Nat) : Int) :=
  ⟨by rw [Int.tmod_eq_emod_of_nonneg (by omega)]; rfl, rfl⟩
theorem strs_form {w : World} {v : Value} {l : List Bs} (h : StrsV w v l) : ∃ (a : Option Addr) (n c : Nat), v = .slice a n c := by
  rcases h with ⟨_, rfl | ⟨_, _, rfl⟩⟩ | ⟨_, _, _, rfl, _⟩ <;> exact ⟨_, _, _, rfl⟩
theorem u8_add {a : UInt8} {b : Nat} (hb : b < 256) : IntKind.u8.wrap ((a.toNat : Int) + (b : Int)) = ((a + UInt8.ofNat b).toNat : Int) := by
  have h1 : (a + UInt8.ofNat b).toNat = (a.toNat + b) % 256 := by simp
  rw [IntKind.wrap_u8, h1]; omega
theorem bvals_set {l : Bs} {j : Nat} {b : UInt8} : (bvals l).set j (.int .u8 (b.toNat : Int)) = bvals (l.set j b) := by
  unfold bvals; rw [List.map_set]
theorem filter_take {α : Type} {p : α → Bool} {l : List α} {k : Nat} {x : α} (h : l[k]? = some x) : ((l.take (k + 1)).filter p).length = ((l.take k).filter p).length + (if p x = true then 1 else 0) := by
  rw [List.take_add_one, h, List.filter_append, List.length_append]
  congr 1
  show ([x].filter p).length = _
  rw [List.filter_cons]
  cases p x <;> rfl
theorem walk (va vb vc vd ve : Value) (hm : HisM) (n0 n1 n2 : Nat) (bb : Nat) (w : World) (hr : Ready w) (hp : A1.ParseAt w) (ha : HisAt w 1048576 va vb vc vd ve hm) (qn : n0 < 256 ∧ n1 < 256 ∧ n2 < 256) (qb : bb < 256) :
    Calls Tryz.prog 7 #[.agg #[va, vb, vc, vd, ve, .int .i64 hm.bound, .int .i64 hm.fin], .agg #[.int .u8 (n0 : Int), .int .u8 (n1 : Int), .int .u8 (n2 : Int)], .int .u8 (bb : Int)] w fun e w' => e = .returned (.bool true) ∧ Below w.heap.size w w' := by
  obtain ⟨q0, q1, q2⟩ := qn
  have HA := Lib.hid ha
  have HRY := Lib.hid hr
  have HPW := Lib.hid hp
  obtain ⟨sa, sc, rfl, hslc⟩ := ha.srvs.form
  obtain ⟨nl, hnl⟩ : ∃ z, hm.srvs.length = z := ⟨_, rfl⟩
  have HNL := Lib.hid hnl
  rw [hnl] at HA hslc ⊢
  clear ha hr hp hnl
  go_enter Tryz.func7, Tryz.ntmps7
  go_upto_region 1 with fail
  have HX := Lib.hid (bx_allocH (Bx.new w 69 #[va, vb, .slice sa nl sc, vd, ve, .int .i64 hm.bound, .int .i64 hm.fin]) (.cells #[.int .u8 (n0 : Int), .int .u8 (n1 : Int), .int .u8 (n2 : Int)] 24))
  have HN := Lib.hid (bx_newH (w := w.alloc (.cells #[va, vb, .slice sa nl sc, vd, ve, .int .i64 hm.bound, .int .i64 hm.fin] 69)) (n := w.heap.size + 1) (T := 24) (cs := #[.int .u8 (n0 : Int), .int .u8 (n1 : Int), .int .u8 (n2 : Int)]) (by simp))
  have HB := Lib.hid (((Below.refl w.heap.size w).alloc (Nat.le_refl _) (.cells #[va, vb, .slice sa nl sc, vd, ve, .int .i64 hm.bound, .int .i64 hm.fin] 69)).alloc (by simp) (.cells #[.int .u8 (n0 : Int), .int .u8 (n1 : Int), .int .u8 (n2 : Int)] 24))
  obtain ⟨w0, hw0⟩ : ∃ z, (w.alloc (.cells #[va, vb, .slice sa nl sc, vd, ve, .int .i64 hm.bound, .int .i64 hm.fin] 69)).alloc (.cells #[.int .u8 (n0 : Int), .int .u8 (n1 : Int), .int .u8 (n2 : Int)] 24) = z := ⟨_, rfl⟩
  obtain ⟨b0, hb0⟩ : ∃ z, w.heap.size = z := ⟨_, rfl⟩
  have HB00 : Hid (w.heap.size ≤ b0) := Lib.hid (by omega)
  rw [hw0] at HB HX HN ⊢
  rw [hb0] at HX HN ⊢
  clear hw0 hb0
  have x0 := HX.out.cell (i := 0) rfl
  have x1 := HX.out.cell (i := 1) rfl
  have x2 := HX.out.cell (i := 2) rfl
  have x3 := HX.out.cell (i := 3) rfl
  have x4 := HX.out.cell (i := 4) rfl
  have x5 := HX.out.cell (i := 5) rfl
  have x6 := HX.out.cell (i := 6) rfl
  go_wp2_with fail
  refine (large_any hm va vb (.slice sa nl sc) vd ve 1048576 _ (HA.out.below HB.out) (by decide)).mono ?_
  rintro e w1 ⟨b, rfl, hsm, hb1⟩
  have HB1 := Lib.hid (HB.out.trans (hb1.mono HB.out.size))
  have HX1 := Lib.hid (HX.out.older hb1)
  have HN1 := Lib.hid (HN.out.older hb1)
  clear hb1 x0 x1 x2 x3 x4 x5 x6
  cases b with
  | true =>
    clear hsm
    go_wp2_with fail
    refine (awake58_any _ (HRY.out.below HB1.out) (HPW.out.below HB1.out)).mono ?_
    rintro e w2 ⟨rfl, hb2⟩
    have HB2 := Lib.hid (HB1.out.trans (hb2.mono HB1.out.size))
    clear hb2
    go_wp2_with fail
    go_ret
    exact ⟨rfl, HB2.out⟩
  | false =>
    have HSM := Lib.hid (hsm rfl)
    clear hsm
    go_wp2_with fail
    refine (awake58_any _ (HRY.out.below HB1.out) (HPW.out.below HB1.out)).mono ?_
    rintro e w2 ⟨rfl, hb2⟩
    have HB2 := Lib.hid (HB1.out.trans (hb2.mono HB1.out.size))
    have HX2 := Lib.hid (HX1.out.older hb2)
    have HN2 := Lib.hid (HN1.out.older hb2)
    clear hb2
    have hnm : nl ≤ 1000 := by rw [← HNL.out]; exact HSM.out.nsrv
    have x0 := HX2.out.cell (i := 0) rfl
    have x1 := HX2.out.cell (i := 1) rfl
    have x2 := HX2.out.cell (i := 2) rfl
    have x3 := HX2.out.cell (i := 3) rfl
    have x4 := HX2.out.cell (i := 4) rfl
    have x5 := HX2.out.cell (i := 5) rfl
    have x6 := HX2.out.cell (i := 6) rfl
    by_cases hs0 : nl = 0
    · subst hs0
      go_wp2_with fail
      go_ret
      exact ⟨rfl, HB2.out⟩
    · have l1 : ¬ (nl : Int) = 0 := by omega
      have l2 : ((nl : Int) == 0) = false := by rw [beq_eq_false_iff_ne]; omega
      have l3 : (nl == 0) = false := by rw [beq_eq_false_iff_ne]; omega
      by_cases hb0 : bb = 0
      · subst hb0
        go_wp2_with fail
        go_ret
        exact ⟨rfl, HB2.out⟩
      · have p1 : ¬ (bb : Int) = 0 := by omega
        have p2 : ((bb : Int) == 0) = false := by rw [beq_eq_false_iff_ne]; omega
        have p3 : (bb == 0) = false := by rw [beq_eq_false_iff_ne]; omega
        go_wp2_with fail
        refine (Hy.rule_any hm va vb (.slice sa nl sc) vd ve 1048576 4 _ (HRY.out.below HB2.out) (HPW.out.below HB2.out) (HA.out.below HB2.out) HSM.out (by decide)).mono ?_
        rintro e w3 ⟨v3, rfl, ho3, hb3⟩
        have HB3 := Lib.hid (HB2.out.trans (hb3.mono HB2.out.size))
        have HX3 := Lib.hid (HX2.out.older hb3)
        have HN3 := Lib.hid (HN2.out.older hb3)
        obtain ⟨a3, c3, rfl, _⟩ := ho3.form
        clear hb3 ho3 x0 x1 x2 x3 x4 x5 x6 p1 p2 p3
        obtain ⟨nc, hnc⟩ : ∃ z, (ruleL hm 4).length = z := ⟨_, rfl⟩
        rw [hnc]
        by_cases hn0 : nc = 0
        · have HC0 : Hid (vio4 hm = []) := Lib.hid (List.eq_nil_of_length_eq_zero (hnc.trans hn0))
          subst hn0
          clear hnc
          obtain ⟨i, hi⟩ : ∃ z, n0 % nl = z := ⟨_, rfl⟩
          have hil : i < nl := by rw [← hi]; exact Nat.mod_lt _ (by omega)
          obtain ⟨i1, i2⟩ := imod (k := n0) (m := nl) q0
          rw [hi] at i1 i2
          clear hi
          have i3 : IntKind.i64.wrap (n0 : Int) = (n0 : Int) := IntWalk.i64_in _ (by omega)
          have i4 : (i : Int) < (nl : Int) := by omega
          obtain ⟨x, hxk⟩ : ∃ x, hm.srvs[i]? = some x := ⟨_, List.getElem?_eq_getElem (by rw [HNL.out]; exact hil)⟩
          have HXK := Lib.hid hxk
          have HI3 := Lib.hid (HA.out.below HB3.out)
          have hsx := HI3.out.srv x (List.mem_of_getElem? hxk)
          obtain ⟨ed, ad, tg, te, ak, aw, fr, ti, tv, ts, pv, ps, en⟩ := x
          obtain ⟨_, _, _, z4, _, _, z7, z8, z9⟩ := hsx
          have HZ9 := Lib.hid z9
          obtain ⟨ta, tn, tc, htv⟩ := strs_form z4
          simp only at htv
          subst htv
          have HZ7 := Lib.hid z7
          obtain ⟨pa, pc, hpv, hpl⟩ := z7.form
          simp only at hpv hpl
          subst hpv
          obtain ⟨pl, hpln⟩ : ∃ z, ps.length = z := ⟨_, rfl⟩
          have HPL := Lib.hid hpln
          simp only at z8
          rw [hpln] at hpl z8
          obtain ⟨bs, os, e3, _, _, hrow⟩ := row_at HI3.out.srvs hxk
          cases e3
          have r0 := hrow 0 _ rfl
          have r1 := hrow 1 _ rfl
          have r2 := hrow 2 _ rfl
          have r3 := hrow 3 _ rfl
          have r4 := hrow 4 _ rfl
          have r5 := hrow 5 _ rfl
          have r6 := hrow 6 _ rfl
          have r7 := hrow 7 _ rfl
          have r8 := hrow 8 _ rfl
          have r9 := hrow 9 _ rfl
          have r10 := hrow 10 _ rfl
          rw [Nat.add_zero] at r0
          rw [hpln] at r9
          clear z4 z7 z9 hxk hrow hpln
          have HIL := Lib.hid hil
          have c2 := HX3.out.cell (i := 2) rfl
          have c00 := HX3.out.cell (i := 0) rfl
          have m0 := HN3.out.cell (i := 0) rfl
          obtain ⟨va1, va2, hva, _⟩ := HI3.out.pubs.form
          subst hva
          go_upto_region 7 with fail
          have HS4 := Lib.hid (Bx.new w3 82 #[.string ⟨ed.toArray⟩, .string ⟨ad.toArray⟩, .string ⟨tg.toArray⟩, .int .i64 te, .int .i64 ak, .int .i64 aw, .int .i64 fr, .int .i64 ti, .slice ta tn tc, .slice pa pl pc, .bool en])
          have HX4 := Lib.hid (bx_allocH HX3.out (.cells #[.string ⟨ed.toArray⟩, .string ⟨ad.toArray⟩, .string ⟨tg.toArray⟩, .int .i64 te, .int .i64 ak, .int .i64 aw, .int .i64 fr, .int .i64 ti, .slice ta tn tc, .slice pa pl pc, .bool en] 82))
          have HN4 := Lib.hid (bx_allocH HN3.out (.cells #[.string ⟨ed.toArray⟩, .string ⟨ad.toArray⟩, .string ⟨tg.toArray⟩, .int .i64 te, .int .i64 ak, .int .i64 aw, .int .i64 fr, .int .i64 ti, .slice ta tn tc, .slice pa pl pc, .bool en] 82))
          have HB4 := Lib.hid (HB3.out.alloc HB3.out.size (.cells #[.string ⟨ed.toArray⟩, .string ⟨ad.toArray⟩, .string ⟨tg.toArray⟩, .int .i64 te, .int .i64 ak, .int .i64 aw, .int .i64 fr, .int .i64 ti, .slice ta tn tc, .slice pa pl pc, .bool en] 82))
          obtain ⟨w4, hw4⟩ : ∃ z, w3.alloc (.cells #[.string ⟨ed.toArray⟩, .string ⟨ad.toArray⟩, .string ⟨tg.toArray⟩, .int .i64 te, .int .i64 ak, .int .i64 aw, .int .i64 fr, .int .i64 ti, .slice ta tn tc, .slice pa pl pc, .bool en] 82) = z := ⟨_, rfl⟩
          obtain ⟨b2, hb2⟩ : ∃ z, w3.heap.size = z := ⟨_, rfl⟩
          have HB22 : Hid (b0 < b2) := Lib.hid (by have := HX3.out.lt; omega)
          rw [hw4] at HS4 HX4 HN4 HB4 ⊢
          rw [hb2] at HS4 ⊢
          clear hw4 hb2 HX3 HN3 HI3 r0 r1 r2 r3 r4 r5 r6 r7 r8 r9 r10 c2 m0 i1 i2 i3
          obtain ⟨pn, hpn⟩ : ∃ z, hm.pubs.length = z := ⟨_, rfl⟩
          have HPN := Lib.hid hpn
          have hpm : pn ≤ 1000 := by rw [← hpn]; exact HSM.out.npub
          have HPM := Lib.hid hpm
          have c0 := HX4.out.cell (i := 0) rfl
          rw [hpn] at c0 HX4 HA ⊢
          clear hpn c00
          go_wp2_with fail
          go_loopg [51, 9] pn (fun gq iv vv wr => ∃ (k mny : Nat), iv = .int .i64 k ∧ k ≤ pn ∧ Hid (pn ≤ gq + k) ∧ vv = .int .i64 mny ∧ mny ≤ k ∧ Hid (((hm.pubs.take k).filter fun p => isV p ad tg).length = mny) ∧ Hid (Below w4.heap.size w4 wr))
          case atStart => exact ⟨0, 0, rfl, Nat.zero_le _, Lib.hid (by omega), rfl, Nat.le_refl _, Lib.hid rfl, Lib.hid (Below.refl _ _)⟩
          case round =>
            obtain ⟨k, mny, rfl, hk, HQ, rfl, hmk, HV, HBL⟩ := hrel
            by_cases hlt : k < pn
            · have HLT := Lib.hid hlt
              obtain ⟨p, hpk⟩ : ∃ p, hm.pubs[k]? = some p := ⟨_, List.getElem?_eq_getElem (by rw [HPN.out]; exact hlt)⟩
              have HBW := Lib.hid (HB4.out.trans (HBL.out.mono HB4.out.size))
              have HIW := Lib.hid (HA.out.below HBW.out)
              have hpa := HIW.out.pub p (List.mem_of_getElem? hpk)
              obtain ⟨b5, o5, e5, _, hbl, hrow⟩ := row_at HIW.out.pubs hpk
              cases e5
              have hft := filter_take (p := fun p => isV p ad tg) hpk
              obtain ⟨pat, plim, padr, ptag, pbv, pbody⟩ := p
              obtain ⟨_, _, hsrc, _⟩ := hpa
              obtain ⟨ba, bc, hbv⟩ := Sg.src_form hsrc
              simp only at hbv
              subst hbv
              have d0 := hrow 0 _ rfl
              have d1 := hrow 1 _ rfl
              have d2 := hrow 2 _ rfl
              have d3 := hrow 3 _ rfl
              have d4 := hrow 4 _ rfl
              rw [Nat.add_zero] at d0
              have s1 := (HS4.out.older HBL.out).cell (i := 1) rfl
              have s2 := (HS4.out.older HBL.out).cell (i := 2) rfl
              have hs2 := (HS4.out.older HBL.out).lt
              have HB2 := Lib.hid (HBL.out.alloc HBL.out.size (.cells #[.int .i64 pat, .int .i64 plim, .string ⟨padr.toArray⟩, .string ⟨ptag.toArray⟩, .slice ba pbody.length bc] 86))
              have s1' : (wr.alloc (.cells #[.int .i64 pat, .int .i64 plim, .string ⟨padr.toArray⟩, .string ⟨ptag.toArray⟩, .slice ba pbody.length bc] 86)).cell? ⟨b2, 1, none⟩ = some (.string ⟨ad.toArray⟩) := (HS4.out.older HB2.out).cell (i := 1) rfl
              have s2' : (wr.alloc (.cells #[.int .i64 pat, .int .i64 plim, .string ⟨padr.toArray⟩, .string ⟨ptag.toArray⟩, .slice ba pbody.length bc] 86)).cell? ⟨b2, 2, none⟩ = some (.string ⟨tg.toArray⟩) := (HS4.out.older HB2.out).cell (i := 2) rfl
              unfold isV at hft
              simp only at hft
              rw [show ((hm.pubs.take k).filter fun p => p.addr == ad && p.tag == tg).length = mny from HV.out] at hft
              have HFT := Lib.hid hft
              clear hft hsrc hrow hpk
              have k1 : IntKind.i64.wrap ((mny : Int) + 1) = (mny : Int) + 1 := IntWalk.i64_in _ (by omega)
              cases h1 : (padr == ad) with
              | false =>
                go_wp2_with fail
                go_roundg (gk - 1)
                case rel => exact ⟨k + 1, mny, by go_num, by have := HLT.out; omega, Lib.hid (by have := HQ.out; omega), rfl, by omega, Lib.hid (by have := HFT.out; unfold isV; rw [this]; simp [h1]), HB2⟩
                case measure => have := HQ.out; have := HLT.out; omega
              | true =>
                cases h2 : (ptag == tg) with
                | false =>
                  go_wp2_with fail
                  go_roundg (gk - 1)
                  case rel => exact ⟨k + 1, mny, by go_num, by have := HLT.out; omega, Lib.hid (by have := HQ.out; omega), rfl, by omega, Lib.hid (by have := HFT.out; unfold isV; rw [this]; simp [h1, h2]), HB2⟩
                  case measure => have := HQ.out; have := HLT.out; omega
                | true =>
                  go_wp2_with fail
                  go_roundg (gk - 1)
                  case rel => exact ⟨k + 1, (mny + 1), by go_num, by have := HLT.out; omega, Lib.hid (by have := HQ.out; omega), by go_num, by omega, Lib.hid (by have := HFT.out; unfold isV; rw [this]; simp [h1, h2]), HB2⟩
                  case measure => have := HQ.out; have := HLT.out; omega
            · obtain rfl : pn = k := by omega
              have HMV := Lib.hid (show (hm.pubs.filter fun p => isV p ad tg).length = mny by have := HV.out; rw [List.take_of_length_le (by rw [HPN.out]; exact Nat.le_refl _)] at this; exact this)
              clear HV HQ hlt
              have HB5 := Lib.hid (HB4.out.trans (HBL.out.mono HB4.out.size))
              have HX5 := Lib.hid (HX4.out.older HBL.out)
              have HN5 := Lib.hid (HN4.out.older HBL.out)
              have HS5 := Lib.hid (HS4.out.older HBL.out)
              clear HX4 HN4 HS4 HB4 HBL c0
              have s9 := HS5.out.cell (i := 9) rfl
              by_cases hmo : mny = 1
              · subst hmo
                by_cases hp0 : pl = 0
                · subst hp0
                  go_wp2_with fail
                  go_ret
                  exact ⟨rfl, HB5.out⟩
                · have l4 : ¬ (pl : Int) = 0 := by omega
                  have l5 : ((pl : Int) == 0) = false := by rw [beq_eq_false_iff_ne]; omega
                  have l6 : (pl == 0) = false := by rw [beq_eq_false_iff_ne]; omega
                  obtain ⟨k, hk'⟩ : ∃ z, n1 % pl = z := ⟨_, rfl⟩
                  have hkl : k < pl := by rw [← hk']; exact Nat.mod_lt _ (by omega)
                  obtain ⟨k1, k2⟩ := imod (k := n1) (m := pl) q1
                  rw [hk'] at k1 k2
                  clear hk'
                  have k3 : IntKind.i64.wrap (n1 : Int) = (n1 : Int) := IntWalk.i64_in _ (by omega)
                  have k4 : (k : Int) < (pl : Int) := by omega
                  have m1 := HN5.out.cell (i := 1) rfl
                  obtain ⟨y, hyk⟩ : ∃ y, ps[k]? = some y := ⟨_, List.getElem?_eq_getElem (by rw [HPL.out]; exact hkl)⟩
                  have HYK := Lib.hid hyk
                  have hsx := (HA.out.below HB5.out).srv _ (List.mem_of_getElem? HXK.out)
                  obtain ⟨_, _, _, _, _, _, z7, _, z9⟩ := hsx
                  have hya := z9 y (List.mem_of_getElem? hyk)
                  have hs9 := HS5.out.lt
                  obtain ⟨bp, op, e6, _, hbp, hrowp⟩ := row_at (by simp only at z7; exact z7) hyk
                  cases e6
                  obtain ⟨yat, yoff, ydv, yd⟩ := y
                  obtain ⟨hys, hyb⟩ := hya
                  obtain ⟨da, dc, hdv⟩ := Sg.src_form hys
                  simp only at hdv hyb
                  subst hdv
                  have HYS := Lib.hid hys
                  have y2 := hrowp 2 _ rfl
                  obtain ⟨dl, hdl⟩ : ∃ z, yd.length = z := ⟨_, rfl⟩
                  have HDL := Lib.hid hdl
                  simp only at y2
                  rw [hdl] at y2 hyb
                  clear hdl hys hrowp z7 z9 hyk
                  have HKL := Lib.hid hkl
                  have HBa := Lib.hid ((Below.refl wr.heap.size wr).alloc (Nat.le_refl _) (.cells #[] 5))
                  have HO0 := Lib.hid (show OwnWin (wr.alloc (.cells #[] 5)) wr.heap.size 5 1 (.slice (some ⟨wr.heap.size, 0, none⟩) 0 0) 0 [] from ownK_empty (heap_alloc_new wr _) (Nat.le_refl _))
                  go_upto_region 18 with (at_builtin; refine wpList_appw tyBytes (by rfl) _ _ (by rfl) wr.heap.size (.slice (some ⟨wr.heap.size, 0, none⟩) 0 0) 0 [] (by rfl) HO0.out HBa.out.size (.slice da dl dc) dl (bvals yd) (by rfl) (by have := HYS.out.older HBa.out; simp only [HDL.out] at this; exact this) (by rw [bvals_len, HDL.out, Nat.mul_one]) (bvals_one yd) (by omega) ?_; intro v6 w6 ho6 hg6 hl6; rw [Nat.zero_add, List.nil_append] at ho6; have HO6 := Lib.hid ho6; have HB56 := Lib.hid (HBa.out.grown hg6 HBa.out.size (fun q hq => (HO0.out.lt q hq).1)); obtain ⟨u6, t6, rfl, _⟩ := ho6.form; clear ho6 hg6 hl6)
                  have HB6 := Lib.hid (HB5.out.trans (HB56.out.mono HB5.out.size))
                  have HX6 := Lib.hid (HX5.out.older HB56.out)
                  have HN6 := Lib.hid (HN5.out.older HB56.out)
                  have HS6 := Lib.hid (HS5.out.older HB56.out)
                  have HLO := Lib.hid (show b2 < wr.heap.size from HS5.out.lt)
                  clear HO0 HBa HB56 HX5 HN5 HS5 s9 m1 y2 k1 k2 k3
                  by_cases hd0 : dl = 0
                  · subst hd0
                    go_wp2_with fail
                    go_ret
                    exact ⟨rfl, HB6.out⟩
                  · have l7 : ¬ (dl : Int) = 0 := by omega
                    have l8 : ((dl : Int) == 0) = false := by rw [beq_eq_false_iff_ne]; omega
                    have l9 : (dl == 0) = false := by rw [beq_eq_false_iff_ne]; omega
                    obtain ⟨j, hj⟩ : ∃ z, n2 % dl = z := ⟨_, rfl⟩
                    have hjl : j < dl := by rw [← hj]; exact Nat.mod_lt _ (by omega)
                    obtain ⟨j1, j2⟩ := imod (k := n2) (m := dl) q2
                    rw [hj] at j1 j2
                    clear hj
                    have j3 : IntKind.i64.wrap (n2 : Int) = (n2 : Int) := IntWalk.i64_in _ (by omega)
                    have j4 : (j : Int) < (dl : Int) := by omega
                    have m2 := HN6.out.cell (i := 2) rfl
                    obtain ⟨g6, o6, c6, e6, hg6, _, _, _, hcell⟩ := HO6.out.cells (by omega)
                    cases e6
                    obtain ⟨bt, hbt⟩ : ∃ b, yd[j]? = some b := ⟨_, List.getElem?_eq_getElem (by rw [HDL.out]; exact hjl)⟩
                    have HBT := Lib.hid hbt
                    have y6 := hcell j (.int .u8 (bt.toNat : Int)) (by unfold bvals; rw [List.getElem?_map, hbt]; rfl)
                    have f6 := own_frzH HO6.out (o6 + j)
                    have hgl := World.block_lt_of_cell? _ _ y6
                    clear hcell hbt
                    have a6 := u8_add (a := bt) qb
                    have ha6 : bt.toNat < 256 := bt.toNat_lt
                    have HG6 := Lib.hid hg6
                    obtain ⟨nb, hnb⟩ : ∃ z, bt + UInt8.ofNat bb = z := ⟨_, rfl⟩
                    rw [hnb] at a6
                    have HNB := Lib.hid hnb
                    clear hnb
                    go_upto_region 21 with fail
                    have ht7 := touch_set1 w6 g6 (o6 + j) (.int .u8 (nb.toNat : Int))
                    have HO7 := Lib.hid (own_setH HO6.out (i := j) (by rw [bvals_len, HDL.out]; exact hjl) (.int .u8 (nb.toNat : Int)))
                    rw [bvals_set] at HO7
                    have HX7 := Lib.hid (HX6.out.touch ht7 (by have := HLO.out; have := HB22.out; omega))
                    have HS7 := Lib.hid (HS6.out.touch ht7 (by have := HLO.out; omega))
                    have HB7 := Lib.hid (HB6.out.trans (ht7.below HB6.out.size (fun q hq => by rw [hq]; have := HLO.out; have := HB22.out; have := HB00.out; omega)))
                    obtain ⟨w7, hw7⟩ : ∃ z, (w6.setCell ⟨g6, o6 + j, none⟩ (.int .u8 (nb.toNat : Int))) = z := ⟨_, rfl⟩
                    rw [hw7] at HO7 HX7 HS7 HB7 ⊢
                    clear hw7 ht7 HO6 HX6 HN6 HS6 HB6 m2 y6 f6 hgl j1 j2 j3 a6 ha6
                    have hpos : 0 < nl := by omega
                    have c2 := HX7.out.cell (i := 2) rfl
                    have hz7 := HX7.out.lt
                    have HBa := Lib.hid ((Below.refl w7.heap.size w7).alloc (Nat.le_refl _) (.cells #[] 82))
                    have HO0 := Lib.hid (show OwnWin (w7.alloc (.cells #[] 82)) w7.heap.size 82 11 (.slice (some ⟨w7.heap.size, 0, none⟩) 0 0) 0 [] from ownK_empty (heap_alloc_new w7 _) (Nat.le_refl _))
                    have HI7 := Lib.hid (HA.out.below HB7.out)
                    go_upto_region 22 with (at_builtin; refine wpList_appB tySrv (by rfl) _ _ (by rfl) w7.heap.size (.slice (some ⟨w7.heap.size, 0, none⟩) 0 0) 0 [] (by rfl) HO0.out HBa.out.size (.slice (some ⟨bs, os, none⟩) nl sc) nl (hm.srvs.flatMap srvR) (by rfl) (by have := rows_src (HI7.out.below HBa.out).srvs srvR_len (by decide); rw [HNL.out] at this; exact this) (by rw [flat_len srvR_len, HNL.out]) (one_srv HI7.out.srv) (by omega) ?_; intro v8 w8 ho8 hg8 hl8; rw [Nat.zero_add, List.nil_append] at ho8; have HO8 := Lib.hid ho8; have HB78 := Lib.hid (HBa.out.grown hg8 HBa.out.size (fun q hq => (HO0.out.lt q hq).1)); obtain ⟨g8, o8, t8, rfl, hgb⟩ := own_some ho8 hpos; clear ho8 hg8 hl8; have c8 := (HX7.out.older HB78.out).cell (i := 2) rfl; have f8 := (HX7.out.older HB78.out).frz 2; have hz8 := (HX7.out.older HB78.out).lt)
                    obtain ⟨hbf, hxf, hof⟩ := parts_store (j := 2) HB7.out HX7.out HB00.out HB78.out HO8.out
                    have hts := touch_set1 w8 b0 2 (.slice (some ⟨g8, o8, none⟩) nl t8)
                    have HB9 := Lib.hid hbf
                    have HX9 := Lib.hid hxf
                    have HV9 := Lib.hid hof
                    have HS9 := Lib.hid ((HS7.out.older HB78.out).touch hts (by have := HB22.out; omega))
                    have HO9 := Lib.hid ((HO7.out.older HB78.out).touch hts (fun q hq e => by have := (HO7.out.lt q hq).1; have := HLO.out; have := HB22.out; omega))
                    obtain ⟨w9, hw9⟩ : ∃ z, w8.setCell ⟨b0, 2, none⟩ (.slice (some ⟨g8, o8, none⟩) nl t8) = z := ⟨_, rfl⟩
                    rw [hw9] at HB9 HX9 HV9 HS9 HO9 ⊢
                    have HG8 := Lib.hid (show b2 < g8 by have := HS7.out.lt; omega)
                    clear hw9 hbf hxf hof hts HO8 HO0 HBa HB78 HX7 HS7 HO7 HB7 HI7 c8 f8 hz8 c2 hgb
                    obtain ⟨g9, o9, c9, e9, _, _, _, _, hcell⟩ := HV9.out.cells hpos
                    cases e9
                    have k9 := hcell (i * 11 + 9) _ (flat_at srvR_len HXK.out (u := .slice (some ⟨bp, op, none⟩) ps.length pc) (j := 9) rfl)
                    rw [HPL.out, ← Nat.add_assoc] at k9
                    have k9f := own_frzH HV9.out (o8 + i * 11 + 9)
                    clear hcell
                    have c2 := HX9.out.cell (i := 2) rfl
                    have s9 := HS9.out.cell (i := 9) rfl
                    skip
                    have HXd := Lib.hid (HX9.out.older (Below.refl _ _).drew)
                    have HSd := Lib.hid (HS9.out.older (Below.refl _ _).drew)
                    have HVd := Lib.hid (HV9.out.older (Below.refl _ _).drew)
                    have HOd := Lib.hid (HO9.out.older (Below.refl _ _).drew)
                    have HBd := Lib.hid HB9.out.drew
                    have HKd := Lib.hid (show w9.drew.cell? ⟨g8, o8 + i * 11 + 9, none⟩ = some (.slice (some ⟨bp, op, none⟩) pl pc) from k9)
                    refine wp_region_held_drew (S := (fun w' => w'.cell? ⟨b0, 2, none⟩ = some (.slice (some ⟨g8, o8, none⟩) nl t8) ∧ w'.cell? ⟨b2, 9, none⟩ = some (.slice (some ⟨bp, op, none⟩) pl pc))) (by kernel_rfl) (by exact ⟨c2, s9⟩) (fun hHeld => ?_)
                    obtain ⟨wd, hwd⟩ : ∃ z, w9.drew = z := ⟨_, rfl⟩
                    rw [hwd] at HXd HSd HVd HOd HBd HKd hHeld ⊢
                    clear hwd k9 k9f c2 s9
                    refine Hd.tk 0 ?_
                    try simp only [Act.put, List.setIfInBounds_toArray, List.set_cons_zero, List.set_cons_succ]
                    refine Hd.tk 1 ?_
                    try simp only [Act.put, List.setIfInBounds_toArray, List.set_cons_zero, List.set_cons_succ]
                    refine Hd.tk 2 ?_
                    try simp only [Act.put, List.setIfInBounds_toArray, List.set_cons_zero, List.set_cons_succ]
                    refine Hd.tk 4 ?_
                    try simp only [Act.put, List.setIfInBounds_toArray, List.set_cons_zero, List.set_cons_succ]
                    refine Hd.tk 5 ?_
                    try simp only [Act.put, List.setIfInBounds_toArray, List.set_cons_zero, List.set_cons_succ]
                    refine wpAnyH_ready (rs := [3]) (by kernel_rfl) (by simp) (AllReadyH.cons (by simp only [List.getElem?_toArray, List.getElem?_cons_succ, List.getElem?_cons_zero]; rfl) (fun K hK => ?_) AllReadyH.nil)
                    go_simp
                    have HQ0 := Lib.hid (show OwnWin (wd.alloc (.cells #[] 88)) wd.heap.size 88 3 (.slice (some ⟨wd.heap.size, 0, none⟩) 0 0) 0 [] from ownK_empty (heap_alloc_new wd _) (Nat.le_refl _))
                    have HBa := Lib.hid ((Below.refl wd.heap.size wd).alloc (Nat.le_refl _) (.cells #[] 88))
                    obtain ⟨wa, hwa⟩ : ∃ z, wd.alloc (.cells #[] 88) = z := ⟨_, rfl⟩
                    rw [hwa] at HQ0 HBa ⊢
                    clear hwa
                    refine hK.out _ _ (by exact ⟨(HXd.out.older HBa.out).cell (i := 2) rfl, (HSd.out.older HBa.out).cell (i := 9) rfl⟩) (fun hHe0 => ?_)
                    clear hK K
                    try simp only [Act.put, List.setIfInBounds_toArray, List.set_cons_zero, List.set_cons_succ]
                    refine wpAnyH_ready (rs := [6]) (by kernel_rfl) (by simp) (AllReadyH.cons (by simp only [List.getElem?_toArray, List.getElem?_cons_succ, List.getElem?_cons_zero]; rfl) (fun K hK => ?_) AllReadyH.nil)
                    refine step_appB tyPart (by rfl) _ _ (by rfl) wd.heap.size (.slice (some ⟨wd.heap.size, 0, none⟩) 0 0) 0 [] (by rfl) HQ0.out HBa.out.size (.slice (some ⟨bp, op, none⟩) pl pc) pl (ps.flatMap partR) (by rfl) (by have := rows_src (((HA.out.below HBd.out).below HBa.out).srv _ (List.mem_of_getElem? HXK.out)).2.2.2.2.2.2.1 partR_len (by decide); simp only [HPL.out] at this; exact this) (by rw [flat_len partR_len, HPL.out]) (one_part (fun z hz => (HA.out.srv _ (List.mem_of_getElem? HXK.out)).2.2.2.2.2.2.2.2 z hz)) (by omega) ?_
                    intro v10 w10 ho hg hl
                    rw [Nat.zero_add, List.nil_append] at ho
                    have HP10 := Lib.hid ho
                    have HBb := Lib.hid (HBa.out.grown hg HBa.out.size (fun q hq => (HQ0.out.lt q hq).1))
                    obtain ⟨g10, o10, t10, rfl, hgb⟩ := own_some ho (by have := HKL.out; omega)
                    have HG10 := Lib.hid (show w.heap.size ≤ g10 from Nat.le_trans HBd.out.size hgb)
                    clear ho hg hl hgb HQ0
                    have k10 := keepH HBb.out HKd.out
                    have f10 := own_frzH (HVd.out.older HBb.out) (o8 + i * 11 + 9)
                    have hz10 := World.block_lt_of_cell? _ _ k10
                    refine hK.out _ _ (by exact ⟨(HXd.out.older HBb.out).cell (i := 2) rfl, (HSd.out.older HBb.out).cell (i := 9) rfl⟩) (fun hHe1 => ?_)
                    clear hK K
                    try simp only [Act.put, List.setIfInBounds_toArray, List.set_cons_zero, List.set_cons_succ]
                    refine Hd.tk 7 ?_
                    try simp only [Act.put, List.setIfInBounds_toArray, List.set_cons_zero, List.set_cons_succ]
                    refine Hd.tk 8 ?_
                    try simp only [Act.put, List.setIfInBounds_toArray, List.set_cons_zero, List.set_cons_succ]
                    refine wpAnyH_ready (rs := [9]) (by kernel_rfl) (by simp) (AllReadyH.cons (by simp only [List.getElem?_toArray, List.getElem?_cons_succ, List.getElem?_cons_zero]; rfl) (fun K hK => ?_) AllReadyH.nil)
                    go_simp
                    have hts := touch_set1 w10 g8 (o8 + i * 11 + 9) (.slice (some ⟨g10, o10, none⟩) pl t10)
                    have HX11 := Lib.hid ((HXd.out.older HBb.out).touch hts (by have := HB22.out; have := HG8.out; omega))
                    have HS11 := Lib.hid ((HSd.out.older HBb.out).touch hts (by have := HG8.out; omega))
                    have HV11 := Lib.hid (own_setH (HVd.out.older HBb.out) (i := i * 11 + 9) (by rw [flat_len srvR_len, HNL.out]; omega) (.slice (some ⟨g10, o10, none⟩) pl t10))
                    rw [← Nat.add_assoc] at HV11
                    have HO11 := Lib.hid ((HOd.out.older HBb.out).touch hts (fun q hq e => own_neOwn HOd.out HVd.out (by decide) q hq (by rw [e]; rfl)))
                    have HP11 := Lib.hid (HP10.out.touch hts (fun q hq e => own_neOwn HP10.out (HVd.out.older HBb.out) (by decide) q hq (by rw [e]; rfl)))
                    have HB10 := Lib.hid (HBd.out.trans (HBb.out.mono HBd.out.size))
                    have HB11 := Lib.hid (HB10.out.trans (hts.below HB10.out.size (fun q hq => by rw [hq]; have := HG8.out; have := HB22.out; have := HB00.out; omega)))
                    obtain ⟨w11, hw11⟩ : ∃ z, w10.setCell ⟨g8, o8 + i * 11 + 9, none⟩ (.slice (some ⟨g10, o10, none⟩) pl t10) = z := ⟨_, rfl⟩
                    rw [hw11] at HX11 HS11 HV11 HO11 HP11 HB11 ⊢
                    clear hw11 hts HB10
                    refine hK.out _ _ (by exact ⟨HX11.out.cell (i := 2) rfl, HS11.out.cell (i := 9) rfl⟩) (fun hHe2 => ?_)
                    clear hK K
                    try simp only [Act.put, List.setIfInBounds_toArray, List.set_cons_zero, List.set_cons_succ]
                    refine wpAnyH_done (by kernel_rfl) ?_ _
                    clear HP10 HBb HXd HSd HVd HOd HBd HKd HX9 HS9 HV9 HO9 HB9 k10 f10 hz10 HBa
                    have hfs := flat_set srvR_len (j := 9) (by decide) (u := (.slice (some ⟨g10, o10, none⟩) pl t10)) (y := (⟨ed, ad, tg, te, ak, aw, fr, ti, .slice ta tn tc, ts, (.slice (some ⟨g10, o10, none⟩) pl t10), ps, en⟩ : SrvM)) HXK.out rfl
                    rw [hfs] at HV11
                    clear hfs
                    obtain ⟨g9, o9, c9, e9, _, _, _, _, hcell⟩ := HV11.out.cells hpos
                    cases e9
                    have k9 := hcell (i * 11 + 9) _ (flat_at srvR_len (List.getElem?_set_self (by rw [HNL.out]; exact HIL.out)) (u := (.slice (some ⟨g10, o10, none⟩) pl t10)) (j := 9) rfl)
                    rw [← Nat.add_assoc] at k9
                    clear hcell
                    obtain ⟨g9, o9, c9, e9, _, _, _, _, hcell⟩ := HP11.out.cells (by have := HKL.out; omega)
                    cases e9
                    have p9 := hcell (k * 3 + 2) _ (flat_at partR_len HYK.out (j := 2) rfl)
                    rw [← Nat.add_assoc] at p9
                    have p9f := own_frzH HP11.out (o10 + k * 3 + 2)
                    have hp9 := World.block_lt_of_cell? _ _ p9
                    clear hcell
                    have c2 := HX11.out.cell (i := 2) rfl
                    go_upto_region 24 with fail
                    have hts := touch_set1 w11 g10 (o10 + k * 3 + 2) (.slice (some ⟨g6, o6, none⟩) dl t6)
                    have HX12 := Lib.hid (HX11.out.touch hts (fun e => HX11.out.neOwn HP11.out (by decide) _ rfl e.symm))
                    have HV12 := Lib.hid (HV11.out.touch hts (fun q hq e => own_neOwn HV11.out HP11.out (by decide) q hq (by rw [e]; rfl)))
                    have HO12 := Lib.hid (HO11.out.touch hts (fun q hq e => own_neOwn HO11.out HP11.out (by decide) q hq (by rw [e]; rfl)))
                    have HP12 := Lib.hid (own_setH HP11.out (i := k * 3 + 2) (by rw [flat_len partR_len, HPL.out]; have := HKL.out; omega) (.slice (some ⟨g6, o6, none⟩) dl t6))
                    rw [← Nat.add_assoc, flat_set partR_len (j := 2) (by decide) (u := (.slice (some ⟨g6, o6, none⟩) dl t6)) (y := (⟨yat, yoff, (.slice (some ⟨g6, o6, none⟩) dl t6), yd.set j nb⟩ : PartM)) HYK.out rfl] at HP12
                    have HB12 := Lib.hid (HB11.out.trans (hts.below HB11.out.size (fun q hq => by rw [hq]; exact HG10.out)))
                    obtain ⟨w12, hw12⟩ : ∃ z, w11.setCell ⟨g10, o10 + k * 3 + 2, none⟩ (.slice (some ⟨g6, o6, none⟩) dl t6) = z := ⟨_, rfl⟩
                    rw [hw12] at HX12 HV12 HO12 HP12 HB12 ⊢
                    clear hw12 hts k9 p9 p9f hp9 c2 HX11 HV11 HO11 HP11 HS11
                    have hxm := List.mem_of_getElem? HXK.out
                    have hyl : (yd.set j nb).length = dl := by rw [List.length_set]; exact HDL.out
                    have hfl : (hm.srvs.set i (⟨ed, ad, tg, te, ak, aw, fr, ti, .slice ta tn tc, ts, (.slice (some ⟨g10, o10, none⟩) pl t10), ps.set k ⟨yat, yoff, (.slice (some ⟨g6, o6, none⟩) dl t6), yd.set j nb⟩, en⟩ : SrvM)).flatMap srvR = (hm.srvs.set i (⟨ed, ad, tg, te, ak, aw, fr, ti, .slice ta tn tc, ts, (.slice (some ⟨g10, o10, none⟩) pl t10), ps, en⟩ : SrvM)).flatMap srvR := by rw [← flat_set srvR_len (j := 9) (by decide) (u := (.slice (some ⟨g10, o10, none⟩) pl t10)) (y := (⟨ed, ad, tg, te, ak, aw, fr, ti, .slice ta tn tc, ts, (.slice (some ⟨g10, o10, none⟩) pl t10), ps.set k ⟨yat, yoff, (.slice (some ⟨g6, o6, none⟩) dl t6), yd.set j nb⟩, en⟩ : SrvM)) HXK.out rfl, ← flat_set srvR_len (j := 9) (by decide) (u := (.slice (some ⟨g10, o10, none⟩) pl t10)) (y := (⟨ed, ad, tg, te, ak, aw, fr, ti, .slice ta tn tc, ts, (.slice (some ⟨g10, o10, none⟩) pl t10), ps, en⟩ : SrvM)) HXK.out rfl]
                    have hrows : RowsV srvR 11 w12 (.slice (some ⟨g8, o8, none⟩) nl t8) (hm.srvs.set i (⟨ed, ad, tg, te, ak, aw, fr, ti, .slice ta tn tc, ts, (.slice (some ⟨g10, o10, none⟩) pl t10), ps.set k ⟨yat, yoff, (.slice (some ⟨g6, o6, none⟩) dl t6), yd.set j nb⟩, en⟩ : SrvM)) := rows_ownF (e := 82) (by rw [List.length_set, HNL.out, hfl]; exact HV12.out) srvR_len
                    have HIF := Lib.hid (HisAt.srvsTo (HA.out.below HB12.out) hrows (by rw [List.length_set]; exact HA.out.nsrv) (fun y hy => by
                      rcases List.mem_or_eq_of_mem_set hy with hy | rfl
                      · exact (HA.out.below HB12.out).srv y hy
                      · obtain ⟨z1, z2, z3, z4, z5, z6, z7, z8, z9⟩ := (HA.out.below HB12.out).srv _ hxm
                        exact ⟨z1, z2, z3, z4, z5, z6, rows_ownF (e := 88) (by rw [List.length_set, HPL.out]; exact HP12.out) partR_len, by show (ps.set k _).length ≤ _; rw [List.length_set]; exact z8, fun u hu => by
                          rcases List.mem_or_eq_of_mem_set hu with hu | rfl
                          · exact z9 u hu
                          · exact ⟨by have := SrcAt.of HO12.out; rw [← hyl] at this ⊢; exact this, by have := (z9 _ (List.mem_of_getElem? HYK.out)).2; show (yd.set j nb).length ≤ _; rw [List.length_set]; exact this⟩⟩))
                    have HSF : Hid (({ hm with srvs := hm.srvs.set i (⟨ed, ad, tg, te, ak, aw, fr, ti, .slice ta tn tc, ts, (.slice (some ⟨g10, o10, none⟩) pl t10), ps.set k ⟨yat, yoff, (.slice (some ⟨g6, o6, none⟩) dl t6), yd.set j nb⟩, en⟩ : SrvM) } : HisM).Small) := Lib.hid (Small.srvs HSM.out (by rw [List.length_set]; exact HSM.out.nsrv) (fun y hy => by
                      rcases List.mem_or_eq_of_mem_set hy with hy | rfl
                      · exact HSM.out.srvs y hy
                      · obtain ⟨z1, z2, z3⟩ := HSM.out.srvs _ hxm
                        refine ⟨z1, z2, fun u hu => ?_⟩
                        rcases List.mem_or_eq_of_mem_set hu with hu | rfl
                        · exact z3 u hu
                        · have := z3 _ (List.mem_of_getElem? HYK.out); exact this))
                    have HNF : Hid (vio4 ({ hm with srvs := hm.srvs.set i (⟨ed, ad, tg, te, ak, aw, fr, ti, .slice ta tn tc, ts, (.slice (some ⟨g10, o10, none⟩) pl t10), ps.set k ⟨yat, yoff, (.slice (some ⟨g6, o6, none⟩) dl t6), yd.set j nb⟩, en⟩ : SrvM) } : HisM) = [⟨4, (i : Int), tx4⟩]) := Lib.hid (spoils (x' := ⟨yat, yoff, (.slice (some ⟨g6, o6, none⟩) dl t6), yd.set j nb⟩) HC0.out HXK.out HMV.out HYK.out rfl (by show (yd.set j nb).length = yd.length; rw [List.length_set]) (by
                      have hj9 : j < yd.length := (List.getElem?_eq_some_iff.1 HBT.out).1
                      have e9 : yd[j] = bt := (List.getElem?_eq_some_iff.1 HBT.out).2
                      have := byte_ne hj9 (b := UInt8.ofNat bb) (by intro e; have := congrArg UInt8.toNat e; simp at this; omega)
                      rw [e9, HNB.out] at this; exact this) (.slice (some ⟨g10, o10, none⟩) pl t10))
                    clear hxm hyl hfl hrows HV12 HP12 HO12
                    have x0 := HX12.out.cell (i := 0) rfl
                    have x1 := HX12.out.cell (i := 1) rfl
                    have x2 := HX12.out.cell (i := 2) rfl
                    have x3 := HX12.out.cell (i := 3) rfl
                    have x4 := HX12.out.cell (i := 4) rfl
                    have x5 := HX12.out.cell (i := 5) rfl
                    have x6 := HX12.out.cell (i := 6) rfl
                    go_wp2_with fail
                    refine (Hy.rule_any ({ hm with srvs := hm.srvs.set i (⟨ed, ad, tg, te, ak, aw, fr, ti, .slice ta tn tc, ts, (.slice (some ⟨g10, o10, none⟩) pl t10), ps.set k ⟨yat, yoff, (.slice (some ⟨g6, o6, none⟩) dl t6), yd.set j nb⟩, en⟩ : SrvM) } : HisM) (.slice va1 pn va2) vb (.slice (some ⟨g8, o8, none⟩) nl t8) vd ve 1048576 4 _ (HRY.out.below HB12.out) (HPW.out.below HB12.out) HIF.out HSF.out (by decide)).mono ?_
                    rintro e w13 ⟨v13, rfl, ho13, hb13⟩
                    rw [show ruleL ({ hm with srvs := hm.srvs.set i (⟨ed, ad, tg, te, ak, aw, fr, ti, .slice ta tn tc, ts, (.slice (some ⟨g10, o10, none⟩) pl t10), ps.set k ⟨yat, yoff, (.slice (some ⟨g6, o6, none⟩) dl t6), yd.set j nb⟩, en⟩ : SrvM) } : HisM) 4 = [⟨4, (i : Int), tx4⟩] from HNF.out] at ho13
                    have HB13 := Lib.hid (HB12.out.trans (hb13.mono HB12.out.size))
                    obtain ⟨g13, o13, c13, e13, _, _, _, _, hcell⟩ := ho13.cells (by simp)
                    subst e13
                    have v0 := hcell 0 (.int .i64 4) rfl
                    have v1 := hcell 1 (.int .i64 (i : Int)) rfl
                    rw [Nat.add_zero] at v0
                    clear ho13 hb13 hcell x0 x1 x2 x3 x4 x5 x6
                    simp only [List.length_singleton]
                    go_wp2_with fail
                    go_ret
                    exact ⟨rfl, HB13.out⟩
              · have u1 : ¬ (mny : Int) = 1 := by omega
                have u2 : ((mny : Int) == 1) = false := by rw [beq_eq_false_iff_ne]; omega
                have u3 : (mny == 1) = false := by rw [beq_eq_false_iff_ne]; omega
                have u4 : ((mny : Int) != 1) = true := by rw [bne, u2]; rfl
                have u5 : (mny != 1) = true := by rw [bne, u3]; rfl
                go_wp2_with fail
                go_ret
                exact ⟨rfl, HB5.out⟩
        · have hn1 : (0 : Int) < (nc : Int) := by omega
          have hn2 : decide ((0 : Int) < (nc : Int)) = true := decide_eq_true hn1
          have hn3 : decide (0 < nc) = true := decide_eq_true (by omega)
          clear hnc
          go_wp2_with fail
          go_ret
          exact ⟨rfl, HB3.out⟩

/-- What the walk gives, for every argument. -/
theorem contract (H : Type) (enc : TypeId × Value → H) (W : World) (base : Nat) (args : Array Value) (ds gs : List (DataW H)) (before : List MemPlace)
    (hval : ∀ (j : Nat) t v, Tryz.f7.params[j]? = some t → args[j]? = some v → Value.okWide Tryz.prog W .any base t v)
    (hW : DataW.Whole enc Tryz.prog Tryz.f7.params.toList Rows.historySpoilsSpec.vars false W args.toList ds gs before) (hsz : (DataW.weightsEach Tryz.prog Tryz.f7.params.toList (ds ++ gs)).all (· ≤ reachBytes) = true) (hr : Ready W) (hw : A1.ParseAt W) (hk : Rows.uptoSmall H (ds ++ gs) = true) :
    Calls Tryz.prog 7 args W fun e W' => ∃ v, e = .returned v ∧ Rows.historySpoilsSpec.post enc Tryz.prog Tryz.f7 false true false false W args v W' := by
  have hW' := hW
  have hlt := fun p hp => hW.lt p hp
  obtain ⟨p, q, hA0, hV, rfl, hfz, hnd⟩ := hW
  have hA : DataW.TrodAll enc Tryz.prog W 0 (fun _ => true) true Tryz.f7.params.toList args.toList ds p := hA0
  have hA1 := hA
  obtain ⟨rfl, rfl⟩ := trodVars_none hV
  rw [Tryz.params7] at hA hval
  obtain ⟨v0, vs0, d0, ds0, p0, q0, hargs, rfl, rfl, h0, r0⟩ := trodAll_cons hA
  obtain ⟨v1, vs1, d1, ds1, p1, q1, rfl, rfl, rfl, h1, r1⟩ := trodAll_cons r0
  obtain ⟨v2, vs2, d2, ds2, p2, q2, rfl, rfl, rfl, h2, r2⟩ := trodAll_cons r1
  obtain ⟨rfl, rfl, rfl⟩ := trodAll_nil r2
  obtain rfl : args = #[v0, v1, v2] := by cases args; simp_all
  have fin : ∀ W', Below W.heap.size W W' → Rows.historySpoilsSpec.post enc Tryz.prog Tryz.f7 false true false false W #[v0, v1, v2] (.bool true) W' := fun W' hb => by
    simp only [List.append_nil] at hA1 hW' hlt
    exact ⟨_, _, _, [], _, [], hW', trodAll_cons_mk (shut_bool Tryz.underlying4 _) trodAll_mk0, Fr.trodAll_below (by kernel_rfl) _ (by kernel_rfl) hA1 hb hlt, rfl, hb.frame _, fun h => by cases h⟩
  clear hW' hA0 hA1 hlt
  rw [Tryz.params7, List.append_nil] at hsz
  have hb0 : Rows.uptoBulk d0 ≤ 1048576 := by
    have hbulk := of_decide_eq_true hk
    simp only [Rows.uptoBulkAll, List.cons_append, List.nil_append] at hbulk
    omega
  obtain ⟨va0, vb0, vc0, vd0, ve0, hm0, rfl, ha0⟩ := open_his (hval 0 69 v0 rfl rfl) h0 hb0
  obtain ⟨q1a, q1b, q1c, rfl, lq1⟩ := Hy.open_tri_arg (hval 1 24 v1 rfl rfl) h1
  obtain ⟨n2, rfl, rfl, rfl, wf2⟩ := open_int Tryz.underlying5 (hval 2 5 v2 rfl rfl) h2
  have m2 := Hy.u8_range wf2
  obtain ⟨k2, rfl⟩ : ∃ z : Nat, n2 = (z : Int) := ⟨n2.toNat, by omega⟩
  have q2 : k2 < 256 := by omega
  refine  (walk va0 vb0 vc0 vd0 ve0 hm0 q1a q1b q1c k2 W hr hw ha0 lq1 q2).mono fun e W' ⟨he, hb⟩ => ?_
  subst he
  exact ⟨_, rfl, fin W' hb⟩

theorem laid_met (os : Os) : laidMet Tryz.prog Rows.historySpoilsUptoRow.laid ((Fr.laidE Rows.historySpoilsUptoRow.laid os).forCall (fun _ _ => 0) ⟨#[], #[.agg #[.slice none 0 0, .slice none 0 0, .slice none 0 0, .slice none 0 0, .slice none 0 0, .int .i64 0, .int .i64 0], .agg #[.int .u8 0, .int .u8 0, .int .u8 0], .int .u8 0], []⟩).memory :=
  laidMet_of_run' 8 (by kernel_rfl) (by kernel_rfl)
theorem reads (os : Os) {H : Type} (enc : TypeId × Value → H) : ∃ places, DataW.whole enc Tryz.prog ((Fr.laidE Rows.historySpoilsUptoRow.laid os).forCall (fun _ _ => 0) ⟨#[], #[.agg #[.slice none 0 0, .slice none 0 0, .slice none 0 0, .slice none 0 0, .slice none 0 0, .int .i64 0, .int .i64 0], .agg #[.int .u8 0, .int .u8 0, .int .u8 0], .int .u8 0], []⟩).memory Tryz.f7.params.toList Rows.historySpoilsSpec.vars false (#[.agg #[.slice none 0 0, .slice none 0 0, .slice none 0 0, .slice none 0 0, .slice none 0 0, .int .i64 0, .int .i64 0], .agg #[.int .u8 0, .int .u8 0, .int .u8 0], .int .u8 0] : Array Value).toList 8 = some ([.agg [.nil, .nil, .nil, .nil, .nil, .lit (.int .i64 0), .lit (.int .i64 0)], .agg [.lit (.int .u8 0), .lit (.int .u8 0), .lit (.int .u8 0)], .lit (.int .u8 0)], [], places) :=
  ⟨[], by kernel_rfl⟩

theorem lifted (os : Os) (started : os.Started) (H : Type) (enc : TypeId × Value → H) (F : Stop.Interp) :
    ReturnsInHanded {} Tryz.checked os 7 .any ((Rows.OpenSpec.upto Rows.historySpoilsSpec).preRow enc Tryz.prog Tryz.f7 Rows.historySpoilsUptoRow.domain false Rows.historySpoilsUptoRow.laid) (((Rows.OpenSpec.upto Rows.historySpoilsSpec).at F).post enc Tryz.prog Tryz.f7 false true false false) := by
  obtain ⟨places, hx⟩ := reads os enc
  refine returnsInHanded_of_row (C := Tryz.checked) (s := Rows.OpenSpec.upto Rows.historySpoilsSpec) Fr.own started (by kernel_rfl) Tryz.func7
    (witness_row_at (enc := enc) (C := Tryz.checked) false (Fr.laidE Rows.historySpoilsUptoRow.laid os) #[.agg #[.slice none 0 0, .slice none 0 0, .slice none 0 0, .slice none 0 0, .slice none 0 0, .int .i64 0, .int .i64 0], .agg #[.int .u8 0, .int .u8 0, .int .u8 0], .int .u8 0] rfl (by kernel_rfl) (by kernel_rfl) (by kernel_rfl)
      (OpenSpec.preRow_of_cond 8 hx (by kernel_rfl) (fun k hk => by cases hk; kernel_rfl) (by kernel_rfl) (laid_met os))) ?_
  intro W base args ds gs before hval hW _ hcond hsz hlaid hsh _
  exact contract H enc W base args ds gs before hval hW (by have h9 : (DataW.weightsEach Tryz.prog (Tryz.f7.params.toList ++ []) (ds ++ gs)).all (· ≤ reachBytes) = true := hsz; rw [List.append_nil] at h9; exact h9) (Fr.ready hsh) (Fr.parse_laid hlaid (by kernel_rfl) (by repeat first | exact List.mem_cons_self .. | apply List.mem_cons_of_mem) (by repeat first | exact List.mem_cons_self .. | apply List.mem_cons_of_mem) (by repeat first | exact List.mem_cons_self .. | apply List.mem_cons_of_mem)) (hcond _ rfl)

theorem k_0 : Rows.historySpoilsUptoRow.wf (OpenSpec.ofChange (Rows.OpenSpec.upto Rows.historySpoilsSpec).bare) = true := by kernel_rfl
theorem k_1 : laidOutB Tryz.prog = true := Fr.sf_laidOut
theorem k_2 : mapsRowed Tryz.prog = true := Fr.sf_mapsRowed
theorem k_3 : Tryz.f7.params.all (Tryz.prog.readableRec ·) = true := by kernel_rfl
theorem k_4 : namedTie Tryz.prog Rows.historySpoilsUptoRow.named (Rows.OpenSpec.upto Rows.historySpoilsSpec).bare.vars = true := by kernel_rfl
theorem k_5 : (Rows.historySpoilsUptoRow.stops == []) = true := by kernel_rfl
theorem k_6 : (Tryz.prog.stops == []) = true := Fr.sf_stops
theorem k_7 : (Rows.historySpoilsUptoRow.knobs == []) = true := by kernel_rfl
theorem k_8 : (Tryz.prog.stopKnobs == []) = true := Fr.sf_stopKnobs
theorem k_9 : (Rows.historySpoilsUptoRow.inPlace == Tryz.prog.inPlace 7) = true := by kernel_rfl
theorem k_10 : (Rows.historySpoilsUptoRow.unfollowed == Tryz.prog.unfollowed 7) = true := by kernel_rfl
theorem k_11 : (Rows.historySpoilsUptoRow.recurses == Tryz.prog.recurses 7) = true := by kernel_rfl
theorem k_12 : (Rows.historySpoilsUptoRow.named == Tryz.prog.varsNamed 7) = true := by kernel_rfl
theorem k_13 : (Rows.historySpoilsUptoRow.maps == (Tryz.f7.params.toList ++ (Rows.OpenSpec.upto Rows.historySpoilsSpec).bare.plain.varTypes Tryz.prog).any (Tryz.prog.mapsRec ·)) = true := by kernel_rfl
theorem k_14 : (Rows.historySpoilsUptoRow.ifaces == (Tryz.f7.params.toList ++ (Rows.OpenSpec.upto Rows.historySpoilsSpec).bare.plain.varTypes Tryz.prog).any (Tryz.prog.ifacesRec ·)) = true := by kernel_rfl
theorem k_15 : (Rows.historySpoilsUptoRow.mapsOut == Tryz.prog.mapsAmong Tryz.f7.resultTypes.toList) = true := by kernel_rfl
theorem k_16 : (Rows.historySpoilsUptoRow.loops == (Tryz.f7.params.toList ++ (Rows.OpenSpec.upto Rows.historySpoilsSpec).bare.plain.varTypes Tryz.prog).any (Tryz.prog.loopsFrom ·)) = true := by kernel_rfl
theorem k_17 : (Rows.historySpoilsUptoRow.wideKeys == (Tryz.f7.params.toList ++ (Rows.OpenSpec.upto Rows.historySpoilsSpec).bare.plain.varTypes Tryz.prog ++ Tryz.f7.resultTypes.toList).any (Tryz.prog.wideKeysFrom ·)) = true := by kernel_rfl
theorem k_18 : (Rows.OpenSpec.upto Rows.historySpoilsSpec).bare.vars.all (Tryz.prog.varReadable ·) = true := by kernel_rfl
theorem k_19 : Tryz.f7.resultTypes.all (fun t => Tryz.prog.readableRec t && decide (t < Tryz.prog.types.size)) = true := by kernel_rfl
theorem k_20 : (Rows.historySpoilsUptoRow.ifacesOut == Tryz.f7.resultTypes.toList.any (Tryz.prog.ifacesRec ·)) = true := by kernel_rfl
theorem k_21 : (Rows.historySpoilsUptoRow.loopsOut == Tryz.f7.resultTypes.toList.any (Tryz.prog.loopsFrom ·)) = true := by kernel_rfl
theorem k_22 : (Rows.historySpoilsUptoRow.plainKeys == Tryz.prog.plainKeys) = true := Fr.sf_plainKeys
theorem k_23 : Rows.historySpoilsUptoRow.shortTexts.isNone = true := by kernel_rfl
theorem k_24 : Tryz.prog.stopsHeard = true := Fr.sf_heard
theorem k_25 : Tryz.prog.mayEnter = true := Fr.sf_mayEnter
theorem k_26 : (Rows.historySpoilsUptoRow.lifted == Tryz.prog.liftsFinal) = true := Fr.sf_lifted
theorem k_27 : (Tryz.prog.make == some Rows.historySpoilsUptoRow.make) = true := Fr.sf_make
theorem k_28 : (Rows.historySpoilsUptoRow.kinds == (if Rows.historySpoilsUptoRow.domain.isEmpty then [] else Tryz.f7.params.toList.map fun t => match Tryz.prog.underlying t with | some (.int k) => some k | _ => none)) = true := by kernel_rfl
theorem k_29 : (Rows.historySpoilsUptoRow.pinned == Rows.historySpoilsUptoRow.pinnedBy) = true := by kernel_rfl
theorem k_30 : (Rows.historySpoilsUptoRow.veiled == (Tryz.f7.params.toList ++ (Rows.OpenSpec.upto Rows.historySpoilsSpec).bare.plain.varTypes Tryz.prog ++ Tryz.f7.resultTypes.toList).any (Tryz.prog.veiledRec ·)) = true := by kernel_rfl
theorem k_31 : Rows.historySpoilsUptoRow.veiledFits Tryz.prog Tryz.f7.params.toList (Tryz.f7.params.toList ++ (Rows.OpenSpec.upto Rows.historySpoilsSpec).bare.plain.varTypes Tryz.prog ++ Tryz.f7.resultTypes.toList) = true := by kernel_rfl
theorem closed : joinedFacts Tryz.prog 7 Tryz.f7 (Rows.OpenSpec.upto Rows.historySpoilsSpec).bare Rows.historySpoilsUptoRow = true := Op.andT (Op.andT (Op.andT (Op.andT (Op.andT (Op.andT (Op.andT (Op.andT (Op.andT (Op.andT (Op.andT (Op.andT (Op.andT (Op.andT (Op.andT (Op.andT (Op.andT (Op.andT (Op.andT (Op.andT (Op.andT (Op.andT (Op.andT (Op.andT (Op.andT (Op.andT (Op.andT (Op.andT (Op.andT (Op.andT (Op.andT (k_0) k_1) k_2) k_3) k_4) k_5) k_6) k_7) k_8) k_9) k_10) k_11) k_12) k_13) k_14) k_15) k_16) k_17) k_18) k_19) k_20) k_21) k_22) k_23) k_24) k_25) k_26) k_27) k_28) k_29) k_30) k_31

theorem said : Rows.HistorySpoilsUptoSaid :=
  OpenClaim.holds_of_cond 7 Tryz.f7 rfl rfl rfl rfl rfl rfl rfl ⟨rfl, rfl, rfl, rfl, rfl⟩ rfl rfl rfl rfl rfl (by kernel_rfl) Tryz.func7 closed
    (of_decide_eq_true (by kernel_rfl)) (by unfold Func.isWrapper; first | (rw [if_pos (by decide +kernel)]; kernel_rfl) | (rw [if_neg (by decide +kernel)]; exact ⟨rfl, rfl⟩))
    (fun os started H enc _ F => by rw [OpenClaim.pre_eq_preRow]; exact lifted os started H enc F)

theorem plain (b : Bool) (hb : b = Tryz.pinned.checked.prog.looks []) (f : FuncId) (fn : Func) (hf : Tryz.pinned.checked.prog.funcNamed "quayside/quaysidelaw58.HistorySpoils" = some f) (hfn : Tryz.pinned.checked.prog.funcs[f]? = some fn) :
    b = Tryz.pinned.checked.prog.looks [] ∧ ∀ (j : Nat) t, fn.params[j]? = some t → Tryz.pinned.checked.prog.wantsStandIn t = false := by
  obtain rfl : f = 7 := Option.some.inj ((show Tryz.prog.funcNamed "quayside/quaysidelaw58.HistorySpoils" = some 7 by kernel_rfl).symm.trans hf) |>.symm
  obtain rfl : fn = Tryz.f7 := (Option.some.inj (Tryz.func7.symm.trans hfn)).symm
  refine ⟨hb, fun j t ht => ?_⟩
  rw [Tryz.params7] at ht
  have hm : t ∈ [69, 24, 5] := by simpa using Array.mem_of_getElem? ht
  have hall : ([69, 24, 5].all fun u => !Tryz.prog.wantsStandIn u) = true := by kernel_rfl
  exact (show Tryz.prog.wantsStandIn t = false by simpa using List.all_eq_true.1 hall t hm)

theorem proved : Rows.HistorySpoilsUptoCardSaid :=
  Claim7.holds_tied_plain_at .later [] _ _ _ _ said (fun _ h => by cases h) (by kernel_rfl) (fun _ h => by cases h) historySpoilsUpto_row_tie rfl ⟨rfl, rfl⟩ (by kernel_rfl) rfl (plain _ (by kernel_rfl)) (by kernel_rfl)
#print axioms proved
end Go.Proofs.YtjijijjkkhpjnaaGreatDoor.lawHistorySpoils
