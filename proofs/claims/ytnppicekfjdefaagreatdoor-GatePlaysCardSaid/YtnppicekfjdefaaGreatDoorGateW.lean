/- Contracts: the reference's gate: Jump, Accept. Conditions: a settled gate; an item's address of at most 2^27 bytes. -/
import Derived.Test.YtnppicekfjdefaaGreatDoorGateV
import Derived.Test.YtnppicekfjdefaaGreatDoorGateQ
namespace Go.Proofs.YtnppicekfjdefaaGreatDoor
open Go.RowKit Pl Ad
attribute [local go_sem] ba_get ba_append ba_extract_end ba_extract_zero ba_extract
set_option maxRecDepth 100000
set_option maxHeartbeats 4000000
set_option linter.unusedVariables false
set_option linter.unusedSimpArgs false
namespace A1
attribute [local go_sem] rgV
theorem near_jump {g : GateM} (ho : g.Ok) {n : Int} (h0 : g.applied < n) (h1 : n ≤ 1099511627776) : GateM.Near ⟨g.win, n, n, [], []⟩ g.aside := by
  have := ho.len
  have := ho.lo
  exact ⟨ho.win1, ho.win2, by show 0 ≤ n; omega, h1, by simp, by simp, ho.asc, (fun e he => (ho.far e he).2), ho.few, (fun e he => by cases he), ho.sizeA⟩
theorem refJump_no (g : GateM) (ku au : Value) (n : Int) (w : World) (ho : g.Ok) (hs : RefS w g g.aside ku au) (hn : n ≤ g.applied ∨ 1099511627776 < n) :
    Calls Tryz.prog 20 #[rgV g ku au, .int .i64 n] w fun e w' => ∃ ku' au', e = .returned (rgV (g.jump n) ku' au') ∧ RefS w' (g.jump n) (g.jump n).aside ku' au' ∧ Below w.heap.size w w' := by
  rw [show g.jump n = g from if_pos hn]
  obtain ⟨ua, uc, rfl, _⟩ := hs.kept.form
  obtain ⟨ea, ec, rfl, _⟩ := hs.aside.form
  have HS := Lib.hid hs
  clear hs
  by_cases h1 : n ≤ g.applied
  · clear hn ho
    go_enter Tryz.func20, Tryz.ntmps20
    go_wp2_with fail
    refine bodyPost_ret (v := rgV g (.slice ua g.kept.length uc) (.slice ea g.aside.length ec)) (by simp [results, Tryz.results20, go_sem]) rfl ?_
    have hb := ((Below.refl w.heap.size w).alloc (Nat.le_refl _) (.cells #[.int .i64 g.applied, .int .i64 g.floor, .int .i64 g.win, .slice ua g.kept.length uc, .slice ea g.aside.length ec] 34)).alloc (by simp) (.cells #[.int .i64 g.applied, .int .i64 g.floor, .int .i64 g.win, .slice ua g.kept.length uc, .slice ea g.aside.length ec] 34)
    exact ⟨_, _, rfl, HS.out.below hb, hb⟩
  · have h2 : 1099511627776 < n := by omega
    clear hn ho
    go_enter Tryz.func20, Tryz.ntmps20
    go_wp2_with fail
    refine bodyPost_ret (v := rgV g (.slice ua g.kept.length uc) (.slice ea g.aside.length ec)) (by simp [results, Tryz.results20, go_sem]) rfl ?_
    have hb := ((Below.refl w.heap.size w).alloc (Nat.le_refl _) (.cells #[.int .i64 g.applied, .int .i64 g.floor, .int .i64 g.win, .slice ua g.kept.length uc, .slice ea g.aside.length ec] 34)).alloc (by simp) (.cells #[.int .i64 g.applied, .int .i64 g.floor, .int .i64 g.win, .slice ua g.kept.length uc, .slice ea g.aside.length ec] 34)
    exact ⟨_, _, rfl, HS.out.below hb, hb⟩
theorem refJump_go (g : GateM) (ku au : Value) (n : Int) (w : World) (ho : g.Ok) (hs : RefS w g g.aside ku au) (h1 : g.applied < n) (h2 : n ≤ 1099511627776) :
    Calls Tryz.prog 20 #[rgV g ku au, .int .i64 n] w fun e w' => ∃ ku' au', e = .returned (rgV (g.jump n) ku' au') ∧ RefS w' (g.jump n) (g.jump n).aside ku' au' ∧ Below w.heap.size w w' := by
  obtain ⟨gf, hgf⟩ : ∃ gf, g.jump n = gf := ⟨_, rfl⟩
  have HE := Lib.hid (show GateM.follow ⟨g.win, n, n, [], []⟩ g.aside = gf by rw [← hgf]; unfold GateM.jump; rw [if_neg (by omega)])
  rw [hgf]
  clear hgf
  obtain ⟨ua, uc, rfl, _⟩ := hs.kept.form
  obtain ⟨ea, ec, rfl, _⟩ := hs.aside.form
  have HNR := Lib.hid (near_jump ho h1 h2)
  have HF := Lib.hid (foS_new (w := w) (g := GateM.mk g.win n n [] []) (l := g.aside) ⟨RowsV.nil, hs.aside, TypedV.none _ _, hs.ta⟩)
  clear hs
  have hn0 : ¬ n ≤ g.applied := by omega
  have hn1 : ¬ 1099511627776 < n := by omega
  go_enter Tryz.func20, Tryz.ntmps20
  go_wp2_with fail
  refine ((followOk g.aside.length).at (g := GateM.mk g.win n n [] []) (l := g.aside) rfl rfl rfl (Nat.le_refl _) HNR.out HF.out.ref).mono ?_
  rw [HE.out]
  rintro e w6 ⟨ku6, au6, rfl, hs6, hb6⟩
  obtain ⟨ka, kc, rfl, _⟩ := hs6.kept.form
  obtain ⟨aa, ac, rfl, _⟩ := hs6.aside.form
  have HR6 := Lib.hid hs6
  have HS7 := Lib.hid (HF.out.older hb6)
  clear hs6 hb6
  obtain ⟨⟨e0, e1, e2, e3, e4⟩, ⟨j0, j1, j2, j3, j4⟩, hz2⟩ := HS7.out.res.facts
  go_wp2_with fail
  obtain ⟨⟨z0, z1, z2, z3, z4⟩, _, _⟩ := (HS7.out.res.store (.int .i64 gf.applied) (.int .i64 gf.floor) (.int .i64 gf.win) (.slice ka gf.kept.length kc) (.slice aa gf.aside.length ac)).facts
  refine bodyPost_ret (v := rgV gf (.slice ka gf.kept.length kc) (.slice aa gf.aside.length ac)) (by simp [results, Tryz.results20, go_sem, z0, z1, z2, z3, z4]) rfl ?_
  exact ⟨_, _, rfl, HR6.out.store HS7.out.res _ _ _ _ _, below_store HS7.out.bel (by omega) _ _ _ _ _⟩
theorem refJump_any (g : GateM) (ku au : Value) (n : Int) (w : World) (ho : g.Ok) (hs : RefS w g g.aside ku au) :
    Calls Tryz.prog 20 #[rgV g ku au, .int .i64 n] w fun e w' => ∃ ku' au', e = .returned (rgV (g.jump n) ku' au') ∧ RefS w' (g.jump n) (g.jump n).aside ku' au' ∧ Below w.heap.size w w' := by
  by_cases h : n ≤ g.applied ∨ 1099511627776 < n
  · exact refJump_no g ku au n w ho hs h
  · exact refJump_go g ku au n w ho hs (by omega) (by omega)
/-- The blocks that the reference's Accept makes. -/
structure AcS (w wr : World) (g : GateM) (ku au : Value) (xt : Int) (xa : Bs) (ux : Value) : Prop where
  bel : Below w.heap.size w wr
  box : VBox wr w.heap.size (.int .i64 g.applied) (.int .i64 g.floor) (.int .i64 g.win) ku au
  item : Box3 wr (w.heap.size + 1) 43 (.int .i64 xt) (.string ⟨xa.toArray⟩) ux
theorem AcS.older {w wr w' : World} {g : GateM} {ku au : Value} {xt : Int} {xa : Bs} {ux : Value} (h : AcS w wr g ku au xt xa ux) (hb : Below wr.heap.size wr w') : AcS w w' g ku au xt xa ux := ⟨h.bel.trans (hb.mono h.bel.size), h.box.older hb, h.item.older hb⟩
theorem acS_new (w : World) (g : GateM) (ku au : Value) (xt : Int) (xa : Bs) (ux : Value) :
    AcS w ((w.alloc (.cells #[.int .i64 g.applied, .int .i64 g.floor, .int .i64 g.win, ku, au] 34)).alloc (.cells #[.int .i64 xt, .string ⟨xa.toArray⟩, ux] 43)) g ku au xt xa ux := by
  refine ⟨((Below.refl w.heap.size w).alloc (Nat.le_refl _) _).alloc (by simp) _, (vbox_new w _ _ _ _ _).older ((Below.refl _ _).alloc (Nat.le_refl _) _), ?_⟩
  have h2 := box3_new (w.alloc (.cells #[.int .i64 g.applied, .int .i64 g.floor, .int .i64 g.win, ku, au] 34)) 43 (.int .i64 xt) (.string ⟨xa.toArray⟩) ux
  simpa using h2
theorem any_drop_yes {l : List Pg} {x : It} {i : Nat} (hi : i < l.length) (h : matchB l[i] x = true) : (l.drop i).any (fun p => matchB p x) = true := by
  rw [drop_cons hi, List.any_cons, h]; rfl
theorem any_drop_no {l : List Pg} {x : It} {i : Nat} (hi : i < l.length) (h : matchB l[i] x = false) : (l.drop i).any (fun p => matchB p x) = (l.drop (i + 1)).any (fun p => matchB p x) := by
  rw [drop_cons hi, List.any_cons, h]; rfl
theorem refAccept_any (g : GateM) (ku au : Value) (xt : Int) (xa : Bs) (tags : List Bs) (ux : Value) (n : Int) (w : World) (ho : g.Ok) (hs : RefS w g g.aside ku au) (hx : xa.length ≤ 134217728) (hu : StrsV w ux tags) (htl : tags.length ≤ 9223372036854775807) :
    Calls Tryz.prog 16 #[rgV g ku au, itV xt xa ux, .int .i64 n] w fun e w' => e = .returned (.int .i64 (g.acceptC ⟨xt, xa, tags⟩ n)) ∧ Below w.heap.size w w' := by
  obtain ⟨ua, uc, rfl, _⟩ := hs.kept.form
  obtain ⟨ea, ec, rfl, _⟩ := hs.aside.form
  obtain ⟨ta, tc, rfl⟩ := hu.form
  have HA := Lib.hid (acS_new w g (.slice ua g.kept.length uc) (.slice ea g.aside.length ec) xt xa (.slice ta tags.length tc))
  obtain ⟨⟨c0, c1, c2, c3, c4⟩, ⟨f0, f1, f2, f3, f4⟩, hz⟩ := HA.out.box.facts
  have HK := Lib.hid hs.kept
  have HT := Lib.hid hu
  have HSZ := Lib.hid ho.size
  have hlen := ho.len
  have hlo := ho.lo
  have hhi := ho.hi
  have hroom := ho.room
  have hw2 := ho.win2
  clear hs hu ho
  by_cases h0 : n < 0
  · have HE := Lib.hid (show g.acceptC ⟨xt, xa, tags⟩ n = 1 from if_pos (.inl h0))
    go_enter Tryz.func16, Tryz.ntmps16
    go_wp2_with fail
    go_ret
    exact ⟨ret_int HE.out.symm, HA.out.bel⟩
  by_cases h1 : g.applied < n
  · have HE := Lib.hid (show g.acceptC ⟨xt, xa, tags⟩ n = 1 from if_pos (.inr h1))
    go_enter Tryz.func16, Tryz.ntmps16
    go_wp2_with fail
    go_ret
    exact ⟨ret_int HE.out.symm, HA.out.bel⟩
  by_cases h2 : n < g.floor
  · have HE := Lib.hid (show g.acceptC ⟨xt, xa, tags⟩ n = 18 by unfold GateM.acceptC; rw [if_neg (by omega), if_pos h2])
    go_enter Tryz.func16, Tryz.ntmps16
    go_wp2_with fail
    go_ret
    exact ⟨ret_int HE.out.symm, HA.out.bel⟩
  obtain ⟨j, hj⟩ : ∃ j : Nat, n - g.floor = (j : Int) := ⟨(n - g.floor).toNat, by omega⟩
  have hjl : j ≤ g.kept.length := by omega
  have HE := Lib.hid (show g.acceptC ⟨xt, xa, tags⟩ n = if (g.kept.drop j).any (fun p => matchB p ⟨xt, xa, tags⟩) then 18 else 0 by
    unfold GateM.acceptC
    rw [if_neg (by omega), if_neg h2, hj, Int.toNat_natCast])
  have HJ := Lib.hid hj
  clear hj
  go_enter Tryz.func16, Tryz.ntmps16
  go_upto_region 6 with fail
  rw [HJ.out]
  go_loopg [7] g.kept.length (fun q iv wr => ∃ i : Nat, iv = .int .i64 i ∧ i ≤ g.kept.length ∧ Hid (g.kept.length ≤ q + i) ∧ Hid ((g.kept.drop j).any (fun p => matchB p ⟨xt, xa, tags⟩) = (g.kept.drop i).any (fun p => matchB p ⟨xt, xa, tags⟩)) ∧ AcS w wr g (.slice ua g.kept.length uc) (.slice ea g.aside.length ec) xt xa (.slice ta tags.length tc))
  case atStart => exact ⟨j, rfl, hjl, Lib.hid (by omega), Lib.hid rfl, HA.out⟩
  case round =>
    obtain ⟨i, rfl, hi, HQ, HANY, s⟩ := hrel
    have HS := Lib.hid s
    clear s c0 c1 c2 c3 c4 f0 f1 f2 f3 f4
    obtain ⟨⟨c0, c1, c2, c3, c4⟩, ⟨f0, f1, f2, f3, f4⟩, hz3⟩ := HS.out.box.facts
    by_cases hlt : i < g.kept.length
    · obtain ⟨b, o, c, e, hc, hbz, hcell⟩ := (HK.out.below HS.out.bel).at hlt
      cases e
      have HY := Lib.hid (fun h => any_drop_yes (x := ⟨xt, xa, tags⟩) hlt h)
      have HN := Lib.hid (fun h => any_drop_no (x := ⟨xt, xa, tags⟩) hlt h)
      have hpv := HSZ.out g.kept[i] (List.getElem_mem hlt)
      generalize g.kept[i] = y at hcell HY HN hpv
      obtain ⟨yk, yt, yv⟩ := y
      have p0 : wr.cell? ⟨b, o + i * 3, none⟩ = some (.int .i64 yk) := hcell 0 _ rfl
      have p1 : wr.cell? ⟨b, o + i * 3 + 1, none⟩ = some (.int .i64 yt) := hcell 1 _ rfl
      have p2 : wr.cell? ⟨b, o + i * 3 + 2, none⟩ = some (.string ⟨yv.toArray⟩) := hcell 2 _ rfl
      clear hcell
      obtain ⟨⟨d0, d1, d2⟩, _, hzx⟩ := HS.out.item.facts
      have HT3 := Lib.hid ((HT.out.below HS.out.bel).drewN 1)
      have HS3 := Lib.hid (HS.out.older (Below.refl _ _).drew)
      obtain ⟨bm, hm⟩ : ∃ bm, matchB ⟨yk, yt, yv⟩ ⟨xt, xa, tags⟩ = bm := ⟨_, rfl⟩
      have HM := Lib.hid hm
      cases bm with
      | true =>
        have HY2 := Lib.hid (HY.out hm)
        clear hm
        go_wp2_with fail
        go_region_held3 (fun w' => w'.cell? ⟨b, o + i * 3, none⟩ = some (.int .i64 yk) ∧ w'.cell? ⟨b, o + i * 3 + 1, none⟩ = some (.int .i64 yt) ∧ w'.cell? ⟨b, o + i * 3 + 2, none⟩ = some (.string ⟨yv.toArray⟩) ∧ w'.cell? ⟨w.heap.size + 1, 0, none⟩ = some (.int .i64 xt) ∧ w'.cell? ⟨w.heap.size + 1, 1, none⟩ = some (.string ⟨xa.toArray⟩) ∧ w'.cell? ⟨w.heap.size + 1, 2, none⟩ = some (.slice ta tags.length tc) ∧ w'.cell? ⟨w.heap.size, 3, none⟩ = some (.slice (some ⟨b, o, none⟩) g.kept.length uc))
          (first | go_keep | exact ⟨(hb9.cell (p := ⟨b, _, none⟩) hbz).trans p0, (hb9.cell (p := ⟨b, _, none⟩) hbz).trans p1, (hb9.cell (p := ⟨b, _, none⟩) hbz).trans p2, (hb9.cell (p := ⟨_, _, none⟩) hzx).trans d0, (hb9.cell (p := ⟨_, _, none⟩) hzx).trans d1, (hb9.cell (p := ⟨_, _, none⟩) hzx).trans d2, (hb9.cell (p := ⟨_, _, none⟩) hz3).trans c3⟩)
          ((go_at_call 34; refine (refMatch_any ⟨yk, yt, yv⟩ ⟨xt, xa, tags⟩ (.slice ta tags.length tc) _ hpv hx HT3.out htl).mono ?_; rw [HM.out]; rintro e w9 ⟨rfl, hb9⟩))
        all_goals
          go_wp2_with fail
          go_ret
          exact ⟨ret_int (by rw [HE.out, HANY.out, HY2.out]; rfl), (HS3.out.older hb9).bel⟩
      | false =>
        have HN2 := Lib.hid (HN.out hm)
        clear hm
        go_wp2_with fail
        go_region_held3 (fun w' => w'.cell? ⟨b, o + i * 3, none⟩ = some (.int .i64 yk) ∧ w'.cell? ⟨b, o + i * 3 + 1, none⟩ = some (.int .i64 yt) ∧ w'.cell? ⟨b, o + i * 3 + 2, none⟩ = some (.string ⟨yv.toArray⟩) ∧ w'.cell? ⟨w.heap.size + 1, 0, none⟩ = some (.int .i64 xt) ∧ w'.cell? ⟨w.heap.size + 1, 1, none⟩ = some (.string ⟨xa.toArray⟩) ∧ w'.cell? ⟨w.heap.size + 1, 2, none⟩ = some (.slice ta tags.length tc) ∧ w'.cell? ⟨w.heap.size, 3, none⟩ = some (.slice (some ⟨b, o, none⟩) g.kept.length uc))
          (first | go_keep | exact ⟨(hb9.cell (p := ⟨b, _, none⟩) hbz).trans p0, (hb9.cell (p := ⟨b, _, none⟩) hbz).trans p1, (hb9.cell (p := ⟨b, _, none⟩) hbz).trans p2, (hb9.cell (p := ⟨_, _, none⟩) hzx).trans d0, (hb9.cell (p := ⟨_, _, none⟩) hzx).trans d1, (hb9.cell (p := ⟨_, _, none⟩) hzx).trans d2, (hb9.cell (p := ⟨_, _, none⟩) hz3).trans c3⟩)
          ((go_at_call 34; refine (refMatch_any ⟨yk, yt, yv⟩ ⟨xt, xa, tags⟩ (.slice ta tags.length tc) _ hpv hx HT3.out htl).mono ?_; rw [HM.out]; rintro e w9 ⟨rfl, hb9⟩))
        all_goals
          go_wp2_with fail
          go_roundg (gk - 1)
          case rel => exact ⟨i + 1, by go_num, by omega, Lib.hid (by have := HQ.out; omega), Lib.hid (by rw [HANY.out, HN2.out]), HS3.out.older hb9⟩
          case measure => have := HQ.out; omega
    · have HE2 := Lib.hid (show (g.kept.drop i).any (fun p => matchB p ⟨xt, xa, tags⟩) = false by rw [List.drop_eq_nil_of_le (by omega)]; rfl)
      go_wp2_with fail
      go_ret
      exact ⟨ret_int (by rw [HE.out, HANY.out, HE2.out]; rfl), HS.out.bel⟩
end A1
end Go.Proofs.YtnppicekfjdefaaGreatDoor
