/- PROVED: HistoryRules returns true for every history of the statement's size, and leaves its arguments as they were. No condition beyond the statement's own (the listed variables read as the program's text lays them, which the card ties). -/
import Derived.Test.YtjijijjkkhpjnaaGreatDoorQgA
import Derived.Test.YtjijijjkkhpjnaaGreatDoorQgG
import Derived.Test.YtjijijjkkhpjnaaGreatDoorQgM
import Derived.Test.YtjijijjkkhpjnaaGreatDoorQgN
import Derived.Test.YtjijijjkkhpjnaaGreatDoorQgS
import Derived.Test.YtjijijjkkhpjnaaGreatDoorQgU
namespace Go.Proofs.YtjijijjkkhpjnaaGreatDoor.lawHistoryRules
open Go.ChangeShapes Go.WideShapes Go.ChangeAt Go.RowKit Pl Ad A1 Hy Kr
open Go.ChangeMaps (open_string shut_string)
attribute [local go_sem] ba_get conv_one conv_one_drewN ba_append ba_extract
set_option maxRecDepth 100000
set_option maxHeartbeats 4000000
set_option linter.unusedVariables false
set_option linter.unusedSimpArgs false

theorem vioR_lenS (v : VioM) : (vioR v).length = 3 := rfl
theorem walk (va vb vc vd ve : Value) (hm : HisM) (r : Int) (w : World) (hr : Ready w) (hp : A1.ParseAt w) (ha : HisAt w 1048576 va vb vc vd ve hm) :
    Calls Tryz.prog 4 #[.agg #[va, vb, vc, vd, ve, .int .i64 hm.bound, .int .i64 hm.fin], .int .i64 r] w fun e w' => e = .returned (.bool true) ∧ Below w.heap.size w w' := by
  have HA := Lib.hid ha
  have HRY := Lib.hid hr
  have HPW := Lib.hid hp
  clear ha hr hp
  go_enter Tryz.func4, Tryz.ntmps4
  go_upto_region 1 with fail
  have HX := Lib.hid (Bx.new w 69 #[va, vb, vc, vd, ve, .int .i64 hm.bound, .int .i64 hm.fin])
  have HB := Lib.hid ((Below.refl w.heap.size w).alloc (Nat.le_refl _) (.cells #[va, vb, vc, vd, ve, .int .i64 hm.bound, .int .i64 hm.fin] 69))
  obtain ⟨w0, hw0⟩ : ∃ z, w.alloc (.cells #[va, vb, vc, vd, ve, .int .i64 hm.bound, .int .i64 hm.fin] 69) = z := ⟨_, rfl⟩
  obtain ⟨b0, hb0⟩ : ∃ z, w.heap.size = z := ⟨_, rfl⟩
  have HB00 : Hid (w.heap.size ≤ b0) := Lib.hid (by omega)
  rw [hw0] at HB HX ⊢
  rw [hb0] at HX ⊢
  clear hw0 hb0
  have x0 := HX.out.cell (i := 0) rfl
  have x1 := HX.out.cell (i := 1) rfl
  have x2 := HX.out.cell (i := 2) rfl
  have x3 := HX.out.cell (i := 3) rfl
  have x4 := HX.out.cell (i := 4) rfl
  have x5 := HX.out.cell (i := 5) rfl
  have x6 := HX.out.cell (i := 6) rfl
  go_wp2_with fail
  refine (large_any hm va vb vc vd ve 1048576 _ (HA.out.below HB.out) (by decide)).mono ?_
  rintro e w1 ⟨b, rfl, hsm, hb1⟩
  have HB1 := Lib.hid (HB.out.trans (hb1.mono HB.out.size))
  have HX1 := Lib.hid (HX.out.older hb1)
  clear hb1 x0 x1 x2 x3 x4 x5 x6
  cases b with
  | true =>
    clear hsm
    go_wp2_with fail
    refine (awake58_any _ (HRY.out.below HB1.out) (HPW.out.below HB1.out)).mono ?_
    rintro e w2 ⟨rfl, hb2⟩
    have HB2 := Lib.hid (HB1.out.trans (hb2.mono HB1.out.size))
    clear hb2
    go_wp2_with fail
    go_ret
    exact ⟨rfl, HB2.out⟩
  | false =>
    have HSM := Lib.hid (hsm rfl)
    clear hsm
    go_wp2_with fail
    refine (awake58_any _ (HRY.out.below HB1.out) (HPW.out.below HB1.out)).mono ?_
    rintro e w2 ⟨rfl, hb2⟩
    have HB2 := Lib.hid (HB1.out.trans (hb2.mono HB1.out.size))
    have HX2 := Lib.hid (HX1.out.older hb2)
    clear hb2
    have x0 := HX2.out.cell (i := 0) rfl
    have x1 := HX2.out.cell (i := 1) rfl
    have x2 := HX2.out.cell (i := 2) rfl
    have x3 := HX2.out.cell (i := 3) rfl
    have x4 := HX2.out.cell (i := 4) rfl
    have x5 := HX2.out.cell (i := 5) rfl
    have x6 := HX2.out.cell (i := 6) rfl
    go_upto_region 3 with fail
    refine wp_region_held_drew (S := (fun w' => w'.cell? ⟨b0, 0, none⟩ = some (va) ∧ w'.cell? ⟨b0, 1, none⟩ = some (vb) ∧ w'.cell? ⟨b0, 2, none⟩ = some (vc) ∧ w'.cell? ⟨b0, 3, none⟩ = some (vd) ∧ w'.cell? ⟨b0, 4, none⟩ = some (ve) ∧ w'.cell? ⟨b0, 5, none⟩ = some (.int .i64 hm.bound) ∧ w'.cell? ⟨b0, 6, none⟩ = some (.int .i64 hm.fin))) (by kernel_rfl) (by exact ⟨x0, x1, x2, x3, x4, x5, x6⟩) (fun hHeld => ?_)
    refine Hd.tk 0 ?_
    try simp only [Act.put, List.setIfInBounds_toArray, List.set_cons_zero, List.set_cons_succ]
    refine Hd.tk 1 ?_
    try simp only [Act.put, List.setIfInBounds_toArray, List.set_cons_zero, List.set_cons_succ]
    refine Hd.tk 3 ?_
    try simp only [Act.put, List.setIfInBounds_toArray, List.set_cons_zero, List.set_cons_succ]
    refine Hd.tk 4 ?_
    try simp only [Act.put, List.setIfInBounds_toArray, List.set_cons_zero, List.set_cons_succ]
    refine Hd.tk 6 ?_
    try simp only [Act.put, List.setIfInBounds_toArray, List.set_cons_zero, List.set_cons_succ]
    refine wpAnyH_ready (rs := [2]) (by kernel_rfl) (by simp) (AllReadyH.cons (by simp only [List.getElem?_toArray, List.getElem?_cons_succ, List.getElem?_cons_zero]; rfl) (fun K hK => ?_) AllReadyH.nil)
    go_simp
    go_at_call 31
    refine (Hy.rule_any hm va vb vc vd ve 1048576 r _ (HRY.out.below (HB2.out.drew)) (HPW.out.below (HB2.out.drew)) (HA.out.below (HB2.out.drew)) HSM.out (by decide)).mono ?_
    rintro e wq1 ⟨v5, rfl, ho5, hq1⟩
    have hqw1 : Below w2.heap.size w2 wq1 := ((Below.refl _ _).drew).trans hq1
    obtain ⟨a5, c5', rfl, _⟩ := ho5.form
    have HO5 := Lib.hid ho5
    clear ho5
    go_wp2_with fail
    refine hK.out _ _ (by exact ⟨keepH hqw1 x0, keepH hqw1 x1, keepH hqw1 x2, keepH hqw1 x3, keepH hqw1 x4, keepH hqw1 x5, keepH hqw1 x6⟩) (fun hHe1 => ?_)
    clear hK K
    try simp only [Act.put, List.setIfInBounds_toArray, List.set_cons_zero, List.set_cons_succ]
    refine wpAnyH_ready (rs := [5]) (by kernel_rfl) (by simp) (AllReadyH.cons (by simp only [List.getElem?_toArray, List.getElem?_cons_succ, List.getElem?_cons_zero]; rfl) (fun K hK => ?_) AllReadyH.nil)
    go_simp
    go_at_call 33
    refine (parsed_any hm.prgs va vb vc vd ve hm.bound hm.fin _ (HRY.out.below (HB2.out.trans (hqw1.mono HB2.out.size))) (HPW.out.below (HB2.out.trans (hqw1.mono HB2.out.size))) (HA.out.below (HB2.out.trans (hqw1.mono HB2.out.size))).prgs HSM.out.nprg (fun g hg => Nat.le_trans (HA.out.prg g hg) (by decide))).mono ?_
    rintro e wq2 ⟨pa2, pc2, rfl, hop, hq2⟩
    have hqw2 : Below w2.heap.size w2 wq2 := hqw1.trans (hq2.mono hqw1.size)
    obtain ⟨pl2, hpl2⟩ : ∃ z, hm.prgs.length = z := ⟨_, rfl⟩
    have HLV := Lib.hid (show RowsV psdR 4 wq2 (.slice pa2 pl2 pc2) (hm.prgs.map psdM) from hpl2 ▸ rows_ownF (by rw [List.length_map]; exact hop) psdR_len)
    rw [hpl2]
    have HO6 := Lib.hid (HO5.out.older hq2)
    clear hop hpl2
    go_wp2_with fail
    refine hK.out _ _ (by exact ⟨keepH hqw2 x0, keepH hqw2 x1, keepH hqw2 x2, keepH hqw2 x3, keepH hqw2 x4, keepH hqw2 x5, keepH hqw2 x6⟩) (fun hHe2 => ?_)
    clear hK K
    try simp only [Act.put, List.setIfInBounds_toArray, List.set_cons_zero, List.set_cons_succ]
    refine wpAnyH_ready (rs := [7]) (by kernel_rfl) (by simp) (AllReadyH.cons (by simp only [List.getElem?_toArray, List.getElem?_cons_succ, List.getElem?_cons_zero]; rfl) (fun K hK => ?_) AllReadyH.nil)
    go_simp
    go_at_call 32
    refine (rrule_any hm va vb vc vd ve (.slice pa2 pl2 pc2) 1048576 r _ (HRY.out.below (HB2.out.trans (hqw2.mono HB2.out.size))) (HA.out.below (HB2.out.trans (hqw2.mono HB2.out.size))) HSM.out (by decide) HLV.out).mono ?_
    rintro e wq3 ⟨v7, rfl, ho7, hq3⟩
    have hqw3 : Below w2.heap.size w2 wq3 := hqw2.trans (hq3.mono hqw2.size)
    obtain ⟨a7, c7, rfl, _⟩ := ho7.form
    have HO7 := Lib.hid ho7
    have HO8 := Lib.hid (HO6.out.older hq3)
    clear ho7
    go_wp2_with fail
    refine hK.out _ _ (by exact ⟨keepH hqw3 x0, keepH hqw3 x1, keepH hqw3 x2, keepH hqw3 x3, keepH hqw3 x4, keepH hqw3 x5, keepH hqw3 x6⟩) (fun hHe3 => ?_)
    clear hK K
    try simp only [Act.put, List.setIfInBounds_toArray, List.set_cons_zero, List.set_cons_succ]
    refine wpAnyH_ready (rs := [8]) (by kernel_rfl) (by simp) (AllReadyH.cons (by simp only [List.getElem?_toArray, List.getElem?_cons_succ, List.getElem?_cons_zero]; rfl) (fun K hK => ?_) AllReadyH.nil)
    go_simp
    go_at_call 30
    refine (same_any (ruleL hm r) _ _ _ (rows_ownF (by rw [← vvals_flat]; exact HO8.out) vioR_lenS) (rows_ownF (by rw [← vvals_flat]; exact HO7.out) vioR_lenS) (Nat.le_trans (ruleL_len HSM.out r) (by decide))).mono ?_
    rintro e wq4 ⟨rfl, hq4⟩
    have hqw4 : Below w2.heap.size w2 wq4 := hqw3.trans (hq4.mono hqw3.size)
    go_wp2_with fail
    refine hK.out _ _ (by exact ⟨keepH hqw4 x0, keepH hqw4 x1, keepH hqw4 x2, keepH hqw4 x3, keepH hqw4 x4, keepH hqw4 x5, keepH hqw4 x6⟩) (fun hHe4 => ?_)
    clear hK K
    try simp only [Act.put, List.setIfInBounds_toArray, List.set_cons_zero, List.set_cons_succ]
    refine Hd.tk 9 ?_
    try simp only [Act.put, List.setIfInBounds_toArray, List.set_cons_zero, List.set_cons_succ]
    refine wpAnyH_done (by kernel_rfl) ?_ _
    go_wp2_with fail
    go_ret
    exact ⟨rfl, HB2.out.trans (hqw4.mono HB2.out.size)⟩

/-- What the walk gives, for every argument. -/
theorem contract (H : Type) (enc : TypeId × Value → H) (W : World) (base : Nat) (args : Array Value) (ds gs : List (DataW H)) (before : List MemPlace)
    (hval : ∀ (j : Nat) t v, Tryz.f4.params[j]? = some t → args[j]? = some v → Value.okWide Tryz.prog W .any base t v)
    (hW : DataW.Whole enc Tryz.prog Tryz.f4.params.toList Rows.historyRulesSpec.vars false W args.toList ds gs before) (hsz : (DataW.weightsEach Tryz.prog Tryz.f4.params.toList (ds ++ gs)).all (· ≤ reachBytes) = true) (hr : Ready W) (hw : A1.ParseAt W) (hk : Rows.uptoSmall H (ds ++ gs) = true) :
    Calls Tryz.prog 4 args W fun e W' => ∃ v, e = .returned v ∧ Rows.historyRulesSpec.post enc Tryz.prog Tryz.f4 false true false false W args v W' := by
  have hW' := hW
  have hlt := fun p hp => hW.lt p hp
  obtain ⟨p, q, hA0, hV, rfl, hfz, hnd⟩ := hW
  have hA : DataW.TrodAll enc Tryz.prog W 0 (fun _ => true) true Tryz.f4.params.toList args.toList ds p := hA0
  have hA1 := hA
  obtain ⟨rfl, rfl⟩ := trodVars_none hV
  rw [Tryz.params4] at hA hval
  obtain ⟨v0, vs0, d0, ds0, p0, q0, hargs, rfl, rfl, h0, r0⟩ := trodAll_cons hA
  obtain ⟨v1, vs1, d1, ds1, p1, q1, rfl, rfl, rfl, h1, r1⟩ := trodAll_cons r0
  obtain ⟨rfl, rfl, rfl⟩ := trodAll_nil r1
  obtain rfl : args = #[v0, v1] := by cases args; simp_all
  have fin : ∀ W', Below W.heap.size W W' → Rows.historyRulesSpec.post enc Tryz.prog Tryz.f4 false true false false W #[v0, v1] (.bool true) W' := fun W' hb => by
    simp only [List.append_nil] at hA1 hW' hlt
    exact ⟨_, _, _, [], _, [], hW', trodAll_cons_mk (shut_bool Tryz.underlying4 _) trodAll_mk0, Fr.trodAll_below (by kernel_rfl) _ (by kernel_rfl) hA1 hb hlt, rfl, hb.frame _, fun h => by cases h⟩
  clear hW' hA0 hA1 hlt
  rw [Tryz.params4, List.append_nil] at hsz
  have hb0 : Rows.uptoBulk d0 ≤ 1048576 := by
    have hbulk := of_decide_eq_true hk
    simp only [Rows.uptoBulkAll, List.cons_append, List.nil_append] at hbulk
    omega
  obtain ⟨va0, vb0, vc0, vd0, ve0, hm0, rfl, ha0⟩ := open_his (hval 0 69 v0 rfl rfl) h0 hb0
  obtain ⟨n1, rfl, rfl, rfl, wf1⟩ := open_int Tryz.underlying3 (hval 1 3 v1 rfl rfl) h1
  refine  (walk va0 vb0 vc0 vd0 ve0 hm0 n1 W hr hw ha0).mono fun e W' ⟨he, hb⟩ => ?_
  subst he
  exact ⟨_, rfl, fin W' hb⟩

theorem laid_met (os : Os) : laidMet Tryz.prog Rows.historyRulesUptoRow.laid ((Fr.laidE Rows.historyRulesUptoRow.laid os).forCall (fun _ _ => 0) ⟨#[], #[.agg #[.slice none 0 0, .slice none 0 0, .slice none 0 0, .slice none 0 0, .slice none 0 0, .int .i64 0, .int .i64 0], .int .i64 0], []⟩).memory :=
  laidMet_of_run' 8 (by kernel_rfl) (by kernel_rfl)
theorem reads (os : Os) {H : Type} (enc : TypeId × Value → H) : ∃ places, DataW.whole enc Tryz.prog ((Fr.laidE Rows.historyRulesUptoRow.laid os).forCall (fun _ _ => 0) ⟨#[], #[.agg #[.slice none 0 0, .slice none 0 0, .slice none 0 0, .slice none 0 0, .slice none 0 0, .int .i64 0, .int .i64 0], .int .i64 0], []⟩).memory Tryz.f4.params.toList Rows.historyRulesSpec.vars false (#[.agg #[.slice none 0 0, .slice none 0 0, .slice none 0 0, .slice none 0 0, .slice none 0 0, .int .i64 0, .int .i64 0], .int .i64 0] : Array Value).toList 8 = some ([.agg [.nil, .nil, .nil, .nil, .nil, .lit (.int .i64 0), .lit (.int .i64 0)], .lit (.int .i64 0)], [], places) :=
  ⟨[], by kernel_rfl⟩

theorem lifted (os : Os) (started : os.Started) (H : Type) (enc : TypeId × Value → H) (F : Stop.Interp) :
    ReturnsInHanded {} Tryz.checked os 4 .any ((Rows.OpenSpec.upto Rows.historyRulesSpec).preRow enc Tryz.prog Tryz.f4 Rows.historyRulesUptoRow.domain false Rows.historyRulesUptoRow.laid) (((Rows.OpenSpec.upto Rows.historyRulesSpec).at F).post enc Tryz.prog Tryz.f4 false true false false) := by
  obtain ⟨places, hx⟩ := reads os enc
  refine returnsInHanded_of_row (C := Tryz.checked) (s := Rows.OpenSpec.upto Rows.historyRulesSpec) Fr.own started (by kernel_rfl) Tryz.func4
    (witness_row_at (enc := enc) (C := Tryz.checked) false (Fr.laidE Rows.historyRulesUptoRow.laid os) #[.agg #[.slice none 0 0, .slice none 0 0, .slice none 0 0, .slice none 0 0, .slice none 0 0, .int .i64 0, .int .i64 0], .int .i64 0] rfl (by kernel_rfl) (by kernel_rfl) (by kernel_rfl)
      (OpenSpec.preRow_of_cond 8 hx (by kernel_rfl) (fun k hk => by cases hk; kernel_rfl) (by kernel_rfl) (laid_met os))) ?_
  intro W base args ds gs before hval hW _ hcond hsz hlaid hsh _
  exact contract H enc W base args ds gs before hval hW (by have h9 : (DataW.weightsEach Tryz.prog (Tryz.f4.params.toList ++ []) (ds ++ gs)).all (· ≤ reachBytes) = true := hsz; rw [List.append_nil] at h9; exact h9) (Fr.ready hsh) (Fr.parse_laid hlaid (by kernel_rfl) (by repeat first | exact List.mem_cons_self .. | apply List.mem_cons_of_mem) (by repeat first | exact List.mem_cons_self .. | apply List.mem_cons_of_mem) (by repeat first | exact List.mem_cons_self .. | apply List.mem_cons_of_mem)) (hcond _ rfl)

theorem k_0 : Rows.historyRulesUptoRow.wf (OpenSpec.ofChange (Rows.OpenSpec.upto Rows.historyRulesSpec).bare) = true := by kernel_rfl
theorem k_1 : laidOutB Tryz.prog = true := Fr.sf_laidOut
theorem k_2 : mapsRowed Tryz.prog = true := Fr.sf_mapsRowed
theorem k_3 : Tryz.f4.params.all (Tryz.prog.readableRec ·) = true := by kernel_rfl
theorem k_4 : namedTie Tryz.prog Rows.historyRulesUptoRow.named (Rows.OpenSpec.upto Rows.historyRulesSpec).bare.vars = true := by kernel_rfl
theorem k_5 : (Rows.historyRulesUptoRow.stops == []) = true := by kernel_rfl
theorem k_6 : (Tryz.prog.stops == []) = true := Fr.sf_stops
theorem k_7 : (Rows.historyRulesUptoRow.knobs == []) = true := by kernel_rfl
theorem k_8 : (Tryz.prog.stopKnobs == []) = true := Fr.sf_stopKnobs
theorem k_9 : (Rows.historyRulesUptoRow.inPlace == Tryz.prog.inPlace 4) = true := by kernel_rfl
theorem k_10 : (Rows.historyRulesUptoRow.unfollowed == Tryz.prog.unfollowed 4) = true := by kernel_rfl
theorem k_11 : (Rows.historyRulesUptoRow.recurses == Tryz.prog.recurses 4) = true := by kernel_rfl
theorem k_12 : (Rows.historyRulesUptoRow.named == Tryz.prog.varsNamed 4) = true := by kernel_rfl
theorem k_13 : (Rows.historyRulesUptoRow.maps == (Tryz.f4.params.toList ++ (Rows.OpenSpec.upto Rows.historyRulesSpec).bare.plain.varTypes Tryz.prog).any (Tryz.prog.mapsRec ·)) = true := by kernel_rfl
theorem k_14 : (Rows.historyRulesUptoRow.ifaces == (Tryz.f4.params.toList ++ (Rows.OpenSpec.upto Rows.historyRulesSpec).bare.plain.varTypes Tryz.prog).any (Tryz.prog.ifacesRec ·)) = true := by kernel_rfl
theorem k_15 : (Rows.historyRulesUptoRow.mapsOut == Tryz.prog.mapsAmong Tryz.f4.resultTypes.toList) = true := by kernel_rfl
theorem k_16 : (Rows.historyRulesUptoRow.loops == (Tryz.f4.params.toList ++ (Rows.OpenSpec.upto Rows.historyRulesSpec).bare.plain.varTypes Tryz.prog).any (Tryz.prog.loopsFrom ·)) = true := by kernel_rfl
theorem k_17 : (Rows.historyRulesUptoRow.wideKeys == (Tryz.f4.params.toList ++ (Rows.OpenSpec.upto Rows.historyRulesSpec).bare.plain.varTypes Tryz.prog ++ Tryz.f4.resultTypes.toList).any (Tryz.prog.wideKeysFrom ·)) = true := by kernel_rfl
theorem k_18 : (Rows.OpenSpec.upto Rows.historyRulesSpec).bare.vars.all (Tryz.prog.varReadable ·) = true := by kernel_rfl
theorem k_19 : Tryz.f4.resultTypes.all (fun t => Tryz.prog.readableRec t && decide (t < Tryz.prog.types.size)) = true := by kernel_rfl
theorem k_20 : (Rows.historyRulesUptoRow.ifacesOut == Tryz.f4.resultTypes.toList.any (Tryz.prog.ifacesRec ·)) = true := by kernel_rfl
theorem k_21 : (Rows.historyRulesUptoRow.loopsOut == Tryz.f4.resultTypes.toList.any (Tryz.prog.loopsFrom ·)) = true := by kernel_rfl
theorem k_22 : (Rows.historyRulesUptoRow.plainKeys == Tryz.prog.plainKeys) = true := Fr.sf_plainKeys
theorem k_23 : Rows.historyRulesUptoRow.shortTexts.isNone = true := by kernel_rfl
theorem k_24 : Tryz.prog.stopsHeard = true := Fr.sf_heard
theorem k_25 : Tryz.prog.mayEnter = true := Fr.sf_mayEnter
theorem k_26 : (Rows.historyRulesUptoRow.lifted == Tryz.prog.liftsFinal) = true := Fr.sf_lifted
theorem k_27 : (Tryz.prog.make == some Rows.historyRulesUptoRow.make) = true := Fr.sf_make
theorem k_28 : (Rows.historyRulesUptoRow.kinds == (if Rows.historyRulesUptoRow.domain.isEmpty then [] else Tryz.f4.params.toList.map fun t => match Tryz.prog.underlying t with | some (.int k) => some k | _ => none)) = true := by kernel_rfl
theorem k_29 : (Rows.historyRulesUptoRow.pinned == Rows.historyRulesUptoRow.pinnedBy) = true := by kernel_rfl
theorem k_30 : (Rows.historyRulesUptoRow.veiled == (Tryz.f4.params.toList ++ (Rows.OpenSpec.upto Rows.historyRulesSpec).bare.plain.varTypes Tryz.prog ++ Tryz.f4.resultTypes.toList).any (Tryz.prog.veiledRec ·)) = true := by kernel_rfl
theorem k_31 : Rows.historyRulesUptoRow.veiledFits Tryz.prog Tryz.f4.params.toList (Tryz.f4.params.toList ++ (Rows.OpenSpec.upto Rows.historyRulesSpec).bare.plain.varTypes Tryz.prog ++ Tryz.f4.resultTypes.toList) = true := by kernel_rfl
theorem closed : joinedFacts Tryz.prog 4 Tryz.f4 (Rows.OpenSpec.upto Rows.historyRulesSpec).bare Rows.historyRulesUptoRow = true := Op.andT (Op.andT (Op.andT (Op.andT (Op.andT (Op.andT (Op.andT (Op.andT (Op.andT (Op.andT (Op.andT (Op.andT (Op.andT (Op.andT (Op.andT (Op.andT (Op.andT (Op.andT (Op.andT (Op.andT (Op.andT (Op.andT (Op.andT (Op.andT (Op.andT (Op.andT (Op.andT (Op.andT (Op.andT (Op.andT (Op.andT (k_0) k_1) k_2) k_3) k_4) k_5) k_6) k_7) k_8) k_9) k_10) k_11) k_12) k_13) k_14) k_15) k_16) k_17) k_18) k_19) k_20) k_21) k_22) k_23) k_24) k_25) k_26) k_27) k_28) k_29) k_30) k_31

theorem said : Rows.HistoryRulesUptoSaid :=
  OpenClaim.holds_of_cond 4 Tryz.f4 rfl rfl rfl rfl rfl rfl rfl ⟨rfl, rfl, rfl, rfl, rfl⟩ rfl rfl rfl rfl rfl (by kernel_rfl) Tryz.func4 closed
    (of_decide_eq_true (by kernel_rfl)) (by unfold Func.isWrapper; first | (rw [if_pos (by decide +kernel)]; kernel_rfl) | (rw [if_neg (by decide +kernel)]; exact ⟨rfl, rfl⟩))
    (fun os started H enc _ F => by rw [OpenClaim.pre_eq_preRow]; exact lifted os started H enc F)

theorem plain (b : Bool) (hb : b = Tryz.pinned.checked.prog.looks []) (f : FuncId) (fn : Func) (hf : Tryz.pinned.checked.prog.funcNamed "quayside/quaysidelaw58.HistoryRules" = some f) (hfn : Tryz.pinned.checked.prog.funcs[f]? = some fn) :
    b = Tryz.pinned.checked.prog.looks [] ∧ ∀ (j : Nat) t, fn.params[j]? = some t → Tryz.pinned.checked.prog.wantsStandIn t = false := by
  obtain rfl : f = 4 := Option.some.inj ((show Tryz.prog.funcNamed "quayside/quaysidelaw58.HistoryRules" = some 4 by kernel_rfl).symm.trans hf) |>.symm
  obtain rfl : fn = Tryz.f4 := (Option.some.inj (Tryz.func4.symm.trans hfn)).symm
  refine ⟨hb, fun j t ht => ?_⟩
  rw [Tryz.params4] at ht
  have hm : t ∈ [69, 3] := by simpa using Array.mem_of_getElem? ht
  have hall : ([69, 3].all fun u => !Tryz.prog.wantsStandIn u) = true := by kernel_rfl
  exact (show Tryz.prog.wantsStandIn t = false by simpa using List.all_eq_true.1 hall t hm)

theorem proved : Rows.HistoryRulesUptoCardSaid :=
  Claim7.holds_tied_plain_at .later [] _ _ _ _ said (fun _ h => by cases h) (by kernel_rfl) (fun _ h => by cases h) historyRulesUpto_row_tie rfl ⟨rfl, rfl⟩ (by kernel_rfl) rfl (plain _ (by kernel_rfl)) (by kernel_rfl)
#print axioms proved
end Go.Proofs.YtjijijjkkhpjnaaGreatDoor.lawHistoryRules
