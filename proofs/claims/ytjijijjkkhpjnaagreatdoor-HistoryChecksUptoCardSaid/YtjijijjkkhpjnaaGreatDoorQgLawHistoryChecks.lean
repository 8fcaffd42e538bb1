/- PROVED: HistoryChecks returns true for every history of the statement's size, and leaves its arguments as they were. No condition beyond the statement's own (the listed variables read as the program's text lays them, which the card ties). -/
import Derived.Test.YtjijijjkkhpjnaaGreatDoorQgA
import Derived.Test.YtjijijjkkhpjnaaGreatDoorQgG
import Derived.Test.YtjijijjkkhpjnaaGreatDoorQgM
import Derived.Test.YtjijijjkkhpjnaaGreatDoorQgN
import Derived.Test.YtjijijjkkhpjnaaGreatDoorQgS
import Derived.Test.YtjijijjkkhpjnaaGreatDoorQgU
namespace Go.Proofs.YtjijijjkkhpjnaaGreatDoor.lawHistoryChecks
open Go.ChangeShapes Go.WideShapes Go.ChangeAt Go.RowKit Pl Ad A1 Hy Kr
open Go.ChangeMaps (open_string shut_string)
attribute [local go_sem] ba_get conv_one conv_one_drewN ba_append ba_extract
set_option maxRecDepth 100000
set_option maxHeartbeats 4000000
set_option linter.unusedVariables false
set_option linter.unusedSimpArgs false

theorem vioR_lenS (v : VioM) : (vioR v).length = 3 := rfl
theorem walk (va vb vc vd ve : Value) (hm : HisM) (w : World) (hr : Ready w) (hp : A1.ParseAt w) (ha : HisAt w 1048576 va vb vc vd ve hm) :
    Calls Tryz.prog 5 #[.agg #[va, vb, vc, vd, ve, .int .i64 hm.bound, .int .i64 hm.fin]] w fun e w' => e = .returned (.bool true) ∧ Below w.heap.size w w' := by
  have HA := Lib.hid ha
  have HRY := Lib.hid hr
  have HPW := Lib.hid hp
  clear ha hr hp
  go_enter Tryz.func5, Tryz.ntmps5
  go_upto_region 1 with fail
  have HX := Lib.hid (Bx.new w 69 #[va, vb, vc, vd, ve, .int .i64 hm.bound, .int .i64 hm.fin])
  have HB := Lib.hid ((Below.refl w.heap.size w).alloc (Nat.le_refl _) (.cells #[va, vb, vc, vd, ve, .int .i64 hm.bound, .int .i64 hm.fin] 69))
  obtain ⟨w0, hw0⟩ : ∃ z, w.alloc (.cells #[va, vb, vc, vd, ve, .int .i64 hm.bound, .int .i64 hm.fin] 69) = z := ⟨_, rfl⟩
  obtain ⟨b0, hb0⟩ : ∃ z, w.heap.size = z := ⟨_, rfl⟩
  have HB00 : Hid (w.heap.size ≤ b0) := Lib.hid (by omega)
  rw [hw0] at HB HX ⊢
  rw [hb0] at HX ⊢
  clear hw0 hb0
  have x0 := HX.out.cell (i := 0) rfl
  have x1 := HX.out.cell (i := 1) rfl
  have x2 := HX.out.cell (i := 2) rfl
  have x3 := HX.out.cell (i := 3) rfl
  have x4 := HX.out.cell (i := 4) rfl
  have x5 := HX.out.cell (i := 5) rfl
  have x6 := HX.out.cell (i := 6) rfl
  go_wp2_with fail
  refine (large_any hm va vb vc vd ve 1048576 _ (HA.out.below HB.out) (by decide)).mono ?_
  rintro e w1 ⟨b, rfl, hsm, hb1⟩
  have HB1 := Lib.hid (HB.out.trans (hb1.mono HB.out.size))
  have HX1 := Lib.hid (HX.out.older hb1)
  clear hb1 x0 x1 x2 x3 x4 x5 x6
  cases b with
  | true =>
    clear hsm
    go_wp2_with fail
    refine (awake58_any _ (HRY.out.below HB1.out) (HPW.out.below HB1.out)).mono ?_
    rintro e w2 ⟨rfl, hb2⟩
    have HB2 := Lib.hid (HB1.out.trans (hb2.mono HB1.out.size))
    clear hb2
    go_wp2_with fail
    go_ret
    exact ⟨rfl, HB2.out⟩
  | false =>
    have HSM := Lib.hid (hsm rfl)
    clear hsm
    go_wp2_with fail
    refine (awake58_any _ (HRY.out.below HB1.out) (HPW.out.below HB1.out)).mono ?_
    rintro e w2 ⟨rfl, hb2⟩
    have HB2 := Lib.hid (HB1.out.trans (hb2.mono HB1.out.size))
    have HX2 := Lib.hid (HX1.out.older hb2)
    clear hb2
    have x0 := HX2.out.cell (i := 0) rfl
    have x1 := HX2.out.cell (i := 1) rfl
    have x2 := HX2.out.cell (i := 2) rfl
    have x3 := HX2.out.cell (i := 3) rfl
    have x4 := HX2.out.cell (i := 4) rfl
    have x5 := HX2.out.cell (i := 5) rfl
    have x6 := HX2.out.cell (i := 6) rfl
    go_upto_region 3 with fail
    refine wp_region_held_drew (S := (fun w' => w'.cell? ⟨b0, 0, none⟩ = some (va) ∧ w'.cell? ⟨b0, 1, none⟩ = some (vb) ∧ w'.cell? ⟨b0, 2, none⟩ = some (vc) ∧ w'.cell? ⟨b0, 3, none⟩ = some (vd) ∧ w'.cell? ⟨b0, 4, none⟩ = some (ve) ∧ w'.cell? ⟨b0, 5, none⟩ = some (.int .i64 hm.bound) ∧ w'.cell? ⟨b0, 6, none⟩ = some (.int .i64 hm.fin))) (by kernel_rfl) (by exact ⟨x0, x1, x2, x3, x4, x5, x6⟩) (fun hHeld => ?_)
    refine Hd.tk 0 ?_
    try simp only [Act.put, List.setIfInBounds_toArray, List.set_cons_zero, List.set_cons_succ]
    refine Hd.tk 2 ?_
    try simp only [Act.put, List.setIfInBounds_toArray, List.set_cons_zero, List.set_cons_succ]
    refine Hd.tk 3 ?_
    try simp only [Act.put, List.setIfInBounds_toArray, List.set_cons_zero, List.set_cons_succ]
    refine wpAnyH_ready (rs := [1]) (by kernel_rfl) (by simp) (AllReadyH.cons (by simp only [List.getElem?_toArray, List.getElem?_cons_succ, List.getElem?_cons_zero]; rfl) (fun K hK => ?_) AllReadyH.nil)
    go_simp
    go_at_call 34
    refine (Hy.check_any hm va vb vc vd ve 1048576 _ (HRY.out.below (HB2.out.drew)) (HPW.out.below (HB2.out.drew)) (HA.out.below (HB2.out.drew)) HSM.out (by decide)).mono ?_
    rintro e wq1 ⟨v5, rfl, ho5, hq1⟩
    have hqw1 : Below w2.heap.size w2 wq1 := ((Below.refl _ _).drew).trans hq1
    obtain ⟨a5, c5', rfl, _⟩ := ho5.form
    have HO5 := Lib.hid ho5
    clear ho5
    go_wp2_with fail
    refine hK.out _ _ (by exact ⟨keepH hqw1 x0, keepH hqw1 x1, keepH hqw1 x2, keepH hqw1 x3, keepH hqw1 x4, keepH hqw1 x5, keepH hqw1 x6⟩) (fun hHe1 => ?_)
    clear hK K
    try simp only [Act.put, List.setIfInBounds_toArray, List.set_cons_zero, List.set_cons_succ]
    refine wpAnyH_ready (rs := [4]) (by kernel_rfl) (by simp) (AllReadyH.cons (by simp only [List.getElem?_toArray, List.getElem?_cons_succ, List.getElem?_cons_zero]; rfl) (fun K hK => ?_) AllReadyH.nil)
    go_simp
    go_at_call 33
    refine (parsed_any hm.prgs va vb vc vd ve hm.bound hm.fin _ (HRY.out.below (HB2.out.trans (hqw1.mono HB2.out.size))) (HPW.out.below (HB2.out.trans (hqw1.mono HB2.out.size))) (HA.out.below (HB2.out.trans (hqw1.mono HB2.out.size))).prgs HSM.out.nprg (fun g hg => Nat.le_trans (HA.out.prg g hg) (by decide))).mono ?_
    rintro e wq2 ⟨pa2, pc2, rfl, hop, hq2⟩
    have hqw2 : Below w2.heap.size w2 wq2 := hqw1.trans (hq2.mono hqw1.size)
    obtain ⟨pl2, hpl2⟩ : ∃ z, hm.prgs.length = z := ⟨_, rfl⟩
    have HLV := Lib.hid (show RowsV psdR 4 wq2 (.slice pa2 pl2 pc2) (hm.prgs.map psdM) from hpl2 ▸ rows_ownF (by rw [List.length_map]; exact hop) psdR_len)
    rw [hpl2]
    have HO6 := Lib.hid (HO5.out.older hq2)
    clear hop hpl2
    go_wp2_with fail
    refine hK.out _ _ (by exact ⟨keepH hqw2 x0, keepH hqw2 x1, keepH hqw2 x2, keepH hqw2 x3, keepH hqw2 x4, keepH hqw2 x5, keepH hqw2 x6⟩) (fun hHe2 => ?_)
    clear hK K
    try simp only [Act.put, List.setIfInBounds_toArray, List.set_cons_zero, List.set_cons_succ]
    refine wpAnyH_ready (rs := [5]) (by kernel_rfl) (by simp) (AllReadyH.cons (by simp only [List.getElem?_toArray, List.getElem?_cons_succ, List.getElem?_cons_zero]; rfl) (fun K hK => ?_) AllReadyH.nil)
    go_simp
    go_at_call 35
    refine (rcheck_any hm va vb vc vd ve (.slice pa2 pl2 pc2) 1048576 _ (HRY.out.below (HB2.out.trans (hqw2.mono HB2.out.size))) HLV.out (HA.out.below (HB2.out.trans (hqw2.mono HB2.out.size))) HSM.out (by decide)).mono ?_
    rintro e wq3 ⟨v7, rfl, ho7, hq3⟩
    have hqw3 : Below w2.heap.size w2 wq3 := hqw2.trans (hq3.mono hqw2.size)
    obtain ⟨a7, c7, rfl, _⟩ := ho7.form
    have HO7 := Lib.hid ho7
    have HO8 := Lib.hid (HO6.out.older hq3)
    clear ho7
    go_wp2_with fail
    refine hK.out _ _ (by exact ⟨keepH hqw3 x0, keepH hqw3 x1, keepH hqw3 x2, keepH hqw3 x3, keepH hqw3 x4, keepH hqw3 x5, keepH hqw3 x6⟩) (fun hHe3 => ?_)
    clear hK K
    try simp only [Act.put, List.setIfInBounds_toArray, List.set_cons_zero, List.set_cons_succ]
    refine wpAnyH_ready (rs := [6]) (by kernel_rfl) (by simp) (AllReadyH.cons (by simp only [List.getElem?_toArray, List.getElem?_cons_succ, List.getElem?_cons_zero]; rfl) (fun K hK => ?_) AllReadyH.nil)
    go_simp
    go_at_call 30
    refine (same_any (checkL hm) _ _ _ (rows_ownF (by rw [← vvals_flat]; exact HO8.out) vioR_lenS) (rows_ownF (by rw [← vvals_flat]; exact HO7.out) vioR_lenS) (by rw [← firstL_five]; exact Nat.le_trans (firstL_len HSM.out 5) (by decide))).mono ?_
    rintro e wq4 ⟨rfl, hq4⟩
    have hqw4 : Below w2.heap.size w2 wq4 := hqw3.trans (hq4.mono hqw3.size)
    go_wp2_with fail
    refine hK.out _ _ (by exact ⟨keepH hqw4 x0, keepH hqw4 x1, keepH hqw4 x2, keepH hqw4 x3, keepH hqw4 x4, keepH hqw4 x5, keepH hqw4 x6⟩) (fun hHe4 => ?_)
    clear hK K
    try simp only [Act.put, List.setIfInBounds_toArray, List.set_cons_zero, List.set_cons_succ]
    refine Hd.tk 7 ?_
    try simp only [Act.put, List.setIfInBounds_toArray, List.set_cons_zero, List.set_cons_succ]
    refine wpAnyH_done (by kernel_rfl) ?_ _
    go_wp2_with fail
    go_ret
    exact ⟨rfl, HB2.out.trans (hqw4.mono HB2.out.size)⟩

/-- What the walk gives, for every argument. -/
theorem contract (H : Type) (enc : TypeId × Value → H) (W : World) (base : Nat) (args : Array Value) (ds gs : List (DataW H)) (before : List MemPlace)
    (hval : ∀ (j : Nat) t v, Tryz.f5.params[j]? = some t → args[j]? = some v → Value.okWide Tryz.prog W .any base t v)
    (hW : DataW.Whole enc Tryz.prog Tryz.f5.params.toList Rows.historyChecksSpec.vars false W args.toList ds gs before) (hsz : (DataW.weightsEach Tryz.prog Tryz.f5.params.toList (ds ++ gs)).all (· ≤ reachBytes) = true) (hr : Ready W) (hw : A1.ParseAt W) (hk : Rows.uptoSmall H (ds ++ gs) = true) :
    Calls Tryz.prog 5 args W fun e W' => ∃ v, e = .returned v ∧ Rows.historyChecksSpec.post enc Tryz.prog Tryz.f5 false true false false W args v W' := by
  have hW' := hW
  have hlt := fun p hp => hW.lt p hp
  obtain ⟨p, q, hA0, hV, rfl, hfz, hnd⟩ := hW
  have hA : DataW.TrodAll enc Tryz.prog W 0 (fun _ => true) true Tryz.f5.params.toList args.toList ds p := hA0
  have hA1 := hA
  obtain ⟨rfl, rfl⟩ := trodVars_none hV
  rw [Tryz.params5] at hA hval
  obtain ⟨v0, vs0, d0, ds0, p0, q0, hargs, rfl, rfl, h0, r0⟩ := trodAll_cons hA
  obtain ⟨rfl, rfl, rfl⟩ := trodAll_nil r0
  obtain rfl : args = #[v0] := by cases args; simp_all
  have fin : ∀ W', Below W.heap.size W W' → Rows.historyChecksSpec.post enc Tryz.prog Tryz.f5 false true false false W #[v0] (.bool true) W' := fun W' hb => by
    simp only [List.append_nil] at hA1 hW' hlt
    exact ⟨_, _, _, [], _, [], hW', trodAll_cons_mk (shut_bool Tryz.underlying4 _) trodAll_mk0, Fr.trodAll_below (by kernel_rfl) _ (by kernel_rfl) hA1 hb hlt, rfl, hb.frame _, fun h => by cases h⟩
  clear hW' hA0 hA1 hlt
  rw [Tryz.params5, List.append_nil] at hsz
  have hb0 : Rows.uptoBulk d0 ≤ 1048576 := by
    have hbulk := of_decide_eq_true hk
    simp only [Rows.uptoBulkAll, List.cons_append, List.nil_append] at hbulk
    omega
  obtain ⟨va0, vb0, vc0, vd0, ve0, hm0, rfl, ha0⟩ := open_his (hval 0 69 v0 rfl rfl) h0 hb0
  refine  (walk va0 vb0 vc0 vd0 ve0 hm0 W hr hw ha0).mono fun e W' ⟨he, hb⟩ => ?_
  subst he
  exact ⟨_, rfl, fin W' hb⟩

theorem laid_met (os : Os) : laidMet Tryz.prog Rows.historyChecksUptoRow.laid ((Fr.laidE Rows.historyChecksUptoRow.laid os).forCall (fun _ _ => 0) ⟨#[], #[.agg #[.slice none 0 0, .slice none 0 0, .slice none 0 0, .slice none 0 0, .slice none 0 0, .int .i64 0, .int .i64 0]], []⟩).memory :=
  laidMet_of_run' 8 (by kernel_rfl) (by kernel_rfl)
theorem reads (os : Os) {H : Type} (enc : TypeId × Value → H) : ∃ places, DataW.whole enc Tryz.prog ((Fr.laidE Rows.historyChecksUptoRow.laid os).forCall (fun _ _ => 0) ⟨#[], #[.agg #[.slice none 0 0, .slice none 0 0, .slice none 0 0, .slice none 0 0, .slice none 0 0, .int .i64 0, .int .i64 0]], []⟩).memory Tryz.f5.params.toList Rows.historyChecksSpec.vars false (#[.agg #[.slice none 0 0, .slice none 0 0, .slice none 0 0, .slice none 0 0, .slice none 0 0, .int .i64 0, .int .i64 0]] : Array Value).toList 8 = some ([.agg [.nil, .nil, .nil, .nil, .nil, .lit (.int .i64 0), .lit (.int .i64 0)]], [], places) :=
  ⟨[], by kernel_rfl⟩

theorem lifted (os : Os) (started : os.Started) (H : Type) (enc : TypeId × Value → H) (F : Stop.Interp) :
    ReturnsInHanded {} Tryz.checked os 5 .any ((Rows.OpenSpec.upto Rows.historyChecksSpec).preRow enc Tryz.prog Tryz.f5 Rows.historyChecksUptoRow.domain false Rows.historyChecksUptoRow.laid) (((Rows.OpenSpec.upto Rows.historyChecksSpec).at F).post enc Tryz.prog Tryz.f5 false true false false) := by
  obtain ⟨places, hx⟩ := reads os enc
  refine returnsInHanded_of_row (C := Tryz.checked) (s := Rows.OpenSpec.upto Rows.historyChecksSpec) Fr.own started (by kernel_rfl) Tryz.func5
    (witness_row_at (enc := enc) (C := Tryz.checked) false (Fr.laidE Rows.historyChecksUptoRow.laid os) #[.agg #[.slice none 0 0, .slice none 0 0, .slice none 0 0, .slice none 0 0, .slice none 0 0, .int .i64 0, .int .i64 0]] rfl (by kernel_rfl) (by kernel_rfl) (by kernel_rfl)
      (OpenSpec.preRow_of_cond 8 hx (by kernel_rfl) (fun k hk => by cases hk; kernel_rfl) (by kernel_rfl) (laid_met os))) ?_
  intro W base args ds gs before hval hW _ hcond hsz hlaid hsh _
  exact contract H enc W base args ds gs before hval hW (by have h9 : (DataW.weightsEach Tryz.prog (Tryz.f5.params.toList ++ []) (ds ++ gs)).all (· ≤ reachBytes) = true := hsz; rw [List.append_nil] at h9; exact h9) (Fr.ready hsh) (Fr.parse_laid hlaid (by kernel_rfl) (by repeat first | exact List.mem_cons_self .. | apply List.mem_cons_of_mem) (by repeat first | exact List.mem_cons_self .. | apply List.mem_cons_of_mem) (by repeat first | exact List.mem_cons_self .. | apply List.mem_cons_of_mem)) (hcond _ rfl)

theorem k_0 : Rows.historyChecksUptoRow.wf (OpenSpec.ofChange (Rows.OpenSpec.upto Rows.historyChecksSpec).bare) = true := by kernel_rfl
theorem k_1 : laidOutB Tryz.prog = true := Fr.sf_laidOut
theorem k_2 : mapsRowed Tryz.prog = true := Fr.sf_mapsRowed
theorem k_3 : Tryz.f5.params.all (Tryz.prog.readableRec ·) = true := by kernel_rfl
theorem k_4 : namedTie Tryz.prog Rows.historyChecksUptoRow.named (Rows.OpenSpec.upto Rows.historyChecksSpec).bare.vars = true := by kernel_rfl
theorem k_5 : (Rows.historyChecksUptoRow.stops == []) = true := by kernel_rfl
theorem k_6 : (Tryz.prog.stops == []) = true := Fr.sf_stops
theorem k_7 : (Rows.historyChecksUptoRow.knobs == []) = true := by kernel_rfl
theorem k_8 : (Tryz.prog.stopKnobs == []) = true := Fr.sf_stopKnobs
theorem k_9 : (Rows.historyChecksUptoRow.inPlace == Tryz.prog.inPlace 5) = true := by kernel_rfl
theorem k_10 : (Rows.historyChecksUptoRow.unfollowed == Tryz.prog.unfollowed 5) = true := by kernel_rfl
theorem k_11 : (Rows.historyChecksUptoRow.recurses == Tryz.prog.recurses 5) = true := by kernel_rfl
theorem k_12 : (Rows.historyChecksUptoRow.named == Tryz.prog.varsNamed 5) = true := by kernel_rfl
theorem k_13 : (Rows.historyChecksUptoRow.maps == (Tryz.f5.params.toList ++ (Rows.OpenSpec.upto Rows.historyChecksSpec).bare.plain.varTypes Tryz.prog).any (Tryz.prog.mapsRec ·)) = true := by kernel_rfl
theorem k_14 : (Rows.historyChecksUptoRow.ifaces == (Tryz.f5.params.toList ++ (Rows.OpenSpec.upto Rows.historyChecksSpec).bare.plain.varTypes Tryz.prog).any (Tryz.prog.ifacesRec ·)) = true := by kernel_rfl
theorem k_15 : (Rows.historyChecksUptoRow.mapsOut == Tryz.prog.mapsAmong Tryz.f5.resultTypes.toList) = true := by kernel_rfl
theorem k_16 : (Rows.historyChecksUptoRow.loops == (Tryz.f5.params.toList ++ (Rows.OpenSpec.upto Rows.historyChecksSpec).bare.plain.varTypes Tryz.prog).any (Tryz.prog.loopsFrom ·)) = true := by kernel_rfl
theorem k_17 : (Rows.historyChecksUptoRow.wideKeys == (Tryz.f5.params.toList ++ (Rows.OpenSpec.upto Rows.historyChecksSpec).bare.plain.varTypes Tryz.prog ++ Tryz.f5.resultTypes.toList).any (Tryz.prog.wideKeysFrom ·)) = true := by kernel_rfl
theorem k_18 : (Rows.OpenSpec.upto Rows.historyChecksSpec).bare.vars.all (Tryz.prog.varReadable ·) = true := by kernel_rfl
theorem k_19 : Tryz.f5.resultTypes.all (fun t => Tryz.prog.readableRec t && decide (t < Tryz.prog.types.size)) = true := by kernel_rfl
theorem k_20 : (Rows.historyChecksUptoRow.ifacesOut == Tryz.f5.resultTypes.toList.any (Tryz.prog.ifacesRec ·)) = true := by kernel_rfl
theorem k_21 : (Rows.historyChecksUptoRow.loopsOut == Tryz.f5.resultTypes.toList.any (Tryz.prog.loopsFrom ·)) = true := by kernel_rfl
theorem k_22 : (Rows.historyChecksUptoRow.plainKeys == Tryz.prog.plainKeys) = true := Fr.sf_plainKeys
theorem k_23 : Rows.historyChecksUptoRow.shortTexts.isNone = true := by kernel_rfl
theorem k_24 : Tryz.prog.stopsHeard = true := Fr.sf_heard
theorem k_25 : Tryz.prog.mayEnter = true := Fr.sf_mayEnter
theorem k_26 : (Rows.historyChecksUptoRow.lifted == Tryz.prog.liftsFinal) = true := Fr.sf_lifted
theorem k_27 : (Tryz.prog.make == some Rows.historyChecksUptoRow.make) = true := Fr.sf_make
theorem k_28 : (Rows.historyChecksUptoRow.kinds == (if Rows.historyChecksUptoRow.domain.isEmpty then [] else Tryz.f5.params.toList.map fun t => match Tryz.prog.underlying t with | some (.int k) => some k | _ => none)) = true := by kernel_rfl
theorem k_29 : (Rows.historyChecksUptoRow.pinned == Rows.historyChecksUptoRow.pinnedBy) = true := by kernel_rfl
theorem k_30 : (Rows.historyChecksUptoRow.veiled == (Tryz.f5.params.toList ++ (Rows.OpenSpec.upto Rows.historyChecksSpec).bare.plain.varTypes Tryz.prog ++ Tryz.f5.resultTypes.toList).any (Tryz.prog.veiledRec ·)) = true := by kernel_rfl
theorem k_31 : Rows.historyChecksUptoRow.veiledFits Tryz.prog Tryz.f5.params.toList (Tryz.f5.params.toList ++ (Rows.OpenSpec.upto Rows.historyChecksSpec).bare.plain.varTypes Tryz.prog ++ Tryz.f5.resultTypes.toList) = true := by kernel_rfl
theorem closed : joinedFacts Tryz.prog 5 Tryz.f5 (Rows.OpenSpec.upto Rows.historyChecksSpec).bare Rows.historyChecksUptoRow = true := Op.andT (Op.andT (Op.andT (Op.andT (Op.andT (Op.andT (Op.andT (Op.andT (Op.andT (Op.andT (Op.andT (Op.andT (Op.andT (Op.andT (Op.andT (Op.andT (Op.andT (Op.andT (Op.andT (Op.andT (Op.andT (Op.andT (Op.andT (Op.andT (Op.andT (Op.andT (Op.andT (Op.andT (Op.andT (Op.andT (Op.andT (k_0) k_1) k_2) k_3) k_4) k_5) k_6) k_7) k_8) k_9) k_10) k_11) k_12) k_13) k_14) k_15) k_16) k_17) k_18) k_19) k_20) k_21) k_22) k_23) k_24) k_25) k_26) k_27) k_28) k_29) k_30) k_31

theorem said : Rows.HistoryChecksUptoSaid :=
  OpenClaim.holds_of_cond 5 Tryz.f5 rfl rfl rfl rfl rfl rfl rfl ⟨rfl, rfl, rfl, rfl, rfl⟩ rfl rfl rfl rfl rfl (by kernel_rfl) Tryz.func5 closed
    (of_decide_eq_true (by kernel_rfl)) (by unfold Func.isWrapper; first | (rw [if_pos (by decide +kernel)]; kernel_rfl) | (rw [if_neg (by decide +kernel)]; exact ⟨rfl, rfl⟩))
    (fun os started H enc _ F => by rw [OpenClaim.pre_eq_preRow]; exact lifted os started H enc F)

theorem plain (b : Bool) (hb : b = Tryz.pinned.checked.prog.looks []) (f : FuncId) (fn : Func) (hf : Tryz.pinned.checked.prog.funcNamed "quayside/quaysidelaw58.HistoryChecks" = some f) (hfn : Tryz.pinned.checked.prog.funcs[f]? = some fn) :
    b = Tryz.pinned.checked.prog.looks [] ∧ ∀ (j : Nat) t, fn.params[j]? = some t → Tryz.pinned.checked.prog.wantsStandIn t = false := by
  obtain rfl : f = 5 := Option.some.inj ((show Tryz.prog.funcNamed "quayside/quaysidelaw58.HistoryChecks" = some 5 by kernel_rfl).symm.trans hf) |>.symm
  obtain rfl : fn = Tryz.f5 := (Option.some.inj (Tryz.func5.symm.trans hfn)).symm
  refine ⟨hb, fun j t ht => ?_⟩
  rw [Tryz.params5] at ht
  have hm : t ∈ [69] := by simpa using Array.mem_of_getElem? ht
  have hall : ([69].all fun u => !Tryz.prog.wantsStandIn u) = true := by kernel_rfl
  exact (show Tryz.prog.wantsStandIn t = false by simpa using List.all_eq_true.1 hall t hm)

theorem proved : Rows.HistoryChecksUptoCardSaid :=
  Claim7.holds_tied_plain_at .later [] _ _ _ _ said (fun _ h => by cases h) (by kernel_rfl) (fun _ h => by cases h) historyChecksUpto_row_tie rfl ⟨rfl, rfl⟩ (by kernel_rfl) rfl (plain _ (by kernel_rfl)) (by kernel_rfl)
#print axioms proved
end Go.Proofs.YtjijijjkkhpjnaaGreatDoor.lawHistoryChecks
