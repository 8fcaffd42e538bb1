/- PROVED: HistoryLate returns true for every input and leaves its arguments as they were. No condition beyond the statement's own (the listed variables read as the program's text lays them, which the card ties). -/
import Derived.Test.YtjijijjkkhpjnaaGreatDoorQaA
import Derived.Test.YtjijijjkkhpjnaaGreatDoorQaG
import Derived.Test.YtjijijjkkhpjnaaGreatDoorQaL
namespace Go.Proofs.YtjijijjkkhpjnaaGreatDoor.lawHistoryLate
open Go.ChangeShapes Go.WideShapes Go.ChangeAt Go.RowKit Pl Ad A1 Hy Kr
open Go.ChangeMaps (open_string shut_string)
attribute [local go_sem] ba_get conv_one conv_one_drewN ba_append ba_extract
set_option maxRecDepth 100000
set_option maxHeartbeats 4000000
set_option linter.unusedVariables false

attribute [local go_sem] guard_vi
attribute [-go_sem] run_eql_struct run_eqGuard_agg
def tagT : Bs := [116, 97, 103, 32, 48, 32, 120]
theorem late_small {g : PrgM} {bo fin : Int} (h1 : Hy.inB g.ord) (h2 : Hy.inB g.stl) (h3 : Hy.inB bo) (h4 : Hy.inB fin) : (lateH g bo fin).Small :=
  ⟨fun p hp => (by cases hp), fun x hx => (by rw [List.mem_singleton.1 hx]; exact ⟨h1, h2⟩), fun p hp => (by cases hp), fun p hp => (by cases hp), fun p hp => (by cases hp), h3, h4, by simp [lateH], by simp [lateH], by simp [lateH], by simp [lateH], by simp [lateH]⟩
theorem late_at {w : World} {b : Nat} {g : PrgM} {bo fin : Int} (h : Bx w b 97 #[.string ⟨g.text.toArray⟩, .int .i64 g.ord, .int .i64 g.stl]) (hl : g.text.length ≤ 20) : HisAt w 20 (.slice none 0 0) (.slice (some ⟨b, 0, none⟩) 1 1) (.slice none 0 0) (.slice none 0 0) (.slice none 0 0) (lateH g bo fin) :=
  ⟨.inl ⟨rfl, .inl rfl⟩, by simp [lateH], fun p hp => (by cases hp), rows_bx h (by simp [lateH, prgR]) prgR_len (by simp [lateH]) rfl, by simp [lateH], fun x hx => (by rw [List.mem_singleton.1 hx]; exact hl), .inl ⟨rfl, .inl rfl⟩, by simp [lateH], fun p hp => (by cases hp), .inl ⟨rfl, .inl rfl⟩, by simp [lateH], fun p hp => (by cases hp), .inl ⟨rfl, .inl rfl⟩, by simp [lateH], fun p hp => (by cases hp)⟩
theorem walk (o bo af : Int) (st : Bool) (w : World) (hr : Ready w) (hp : A1.ParseAt w) (mo : 0 ≤ o ∧ o < 65536) (mb : 0 ≤ bo ∧ bo < 65536) (ma : -32768 ≤ af ∧ af < 32768) :
    Calls Tryz.prog 10 #[.int .u16 o, .int .u16 bo, .int .i16 af, .bool st] w fun e w' => e = .returned (.bool true) ∧ Below w.heap.size w w' := by
  have HRY := Lib.hid hr
  have HPW := Lib.hid hp
  obtain ⟨mo1, mo2⟩ := mo
  obtain ⟨mb1, mb2⟩ := mb
  obtain ⟨ma1, ma2⟩ := ma
  have k1 : IntKind.i64.wrap o = o := IntWalk.i64_in _ (by omega)
  have k2 : IntKind.i64.wrap bo = bo := IntWalk.i64_in _ (by omega)
  have k3 : IntKind.i64.wrap af = af := IntWalk.i64_in _ (by omega)
  have k4 : IntKind.i64.wrap (o + bo) = o + bo := IntWalk.i64_in _ (by omega)
  have k5 : IntKind.i64.wrap (o + bo + af) = o + bo + af := IntWalk.i64_in _ (by omega)
  clear hr hp
  go_enter Tryz.func10, Tryz.ntmps10
  go_wp2_with fail
  refine (awake58_any _ HRY.out HPW.out).mono ?_
  rintro e w1 ⟨rfl, hb1⟩
  have HB1 := Lib.hid hb1
  clear hb1
  cases st with
  | false =>
    have HBX := Lib.hid ((HB1.out.alloc HB1.out.size (.cells #[.string ⟨#[116, 97, 103, 32, 48, 32, 120]⟩, .int .i64 o, .int .i64 (-1)] 97)).alloc (by have := HB1.out.size; simp; omega) (.cells #[.slice none 0 0, .slice (some ⟨w1.heap.size, 0, none⟩) 1 1, .slice none 0 0, .slice none 0 0, .slice none 0 0, .int .i64 bo, .int .i64 (o + bo + af)] 69))
    have HAT := Lib.hid (late_at (b := w1.heap.size) (g := ⟨tagT, o, -1⟩) (bo := bo) (fin := o + bo + af) (w := (w1.alloc (.cells #[.string ⟨#[116, 97, 103, 32, 48, 32, 120]⟩, .int .i64 o, .int .i64 (-1)] 97)).alloc (.cells #[.slice none 0 0, .slice (some ⟨w1.heap.size, 0, none⟩) 1 1, .slice none 0 0, .slice none 0 0, .slice none 0 0, .int .i64 bo, .int .i64 (o + bo + af)] 69)) (bx_allocH (Bx.new w1 97 #[.string ⟨#[116, 97, 103, 32, 48, 32, 120]⟩, .int .i64 o, .int .i64 (-1)]) _) (by simp [tagT]))
    have HLB : Hid (lateB (lateH ⟨tagT, o, -1⟩ bo (o + bo + af)) ⟨tagT, o, -1⟩ = decide (0 < af)) := Lib.hid (by unfold lateB lateH; simp only; rw [if_pos (by decide), decide_eq_decide]; omega)
    go_wp2_with fail
    refine (Hy.check_any (lateH ⟨tagT, o, -1⟩ bo (o + bo + af)) (.slice none 0 0) (.slice (some ⟨w1.heap.size, 0, none⟩) 1 1) (.slice none 0 0) (.slice none 0 0) (.slice none 0 0) 20 _ (HRY.out.below HBX.out) (HPW.out.below HBX.out) HAT.out (late_small (by unfold Hy.inB; simp only; omega) (by unfold Hy.inB; simp only; omega) (by unfold Hy.inB; omega) (by unfold Hy.inB; omega)) (by decide)).mono ?_
    rw [late_check, HLB.out]
    by_cases haf : 0 < af
    · have ha1 : decide (0 < af) = true := decide_eq_true haf
      rw [ha1, if_pos rfl]
      rintro e w5 ⟨u, rfl, ho, hb⟩
      have HB5 := Lib.hid (HBX.out.trans (hb.mono HBX.out.size))
      obtain ⟨g, off, c, hu, _, _, _, hgz, hcell⟩ := ho.cells (by decide)
      subst hu
      have r0 := hcell 0 (.int .i64 2) rfl
      have r1 := hcell 1 (.int .i64 0) rfl
      have r2 := hcell 2 (.string ⟨#[112, 117, 114, 103, 101, 32, 110, 111, 116, 32, 97, 110, 115, 119, 101, 114, 101, 100, 32, 105, 110, 32, 116, 105, 109, 101]⟩) rfl
      have heq := eql_vi 2 0 2 0 tx2 tx2 w5
      rw [show ((2 : Int) == 2 && ((0 : Int) == 0 && tx2 == tx2)) = true by decide] at heq
      unfold tx2 at heq
      rw [Nat.add_zero] at r0
      rw [show ([(⟨2, 0, tx2⟩ : VioM)]).length = 1 from rfl]
      clear hb ho hcell
      go_wp2_with fail
      go_ret
      exact ⟨rfl, HB5.out⟩
    · have ha1 : decide (0 < af) = false := decide_eq_false haf
      rw [ha1, if_neg (by decide)]
      rintro e w5 ⟨u, rfl, ho, hb⟩
      have HB5 := Lib.hid (HBX.out.trans (hb.mono HBX.out.size))
      obtain ⟨ua, uc, hu, _⟩ := ho.form
      subst hu
      rw [show ([] : List VioM).length = 0 from rfl]
      clear hb ho
      go_wp2_with fail
      go_ret
      exact ⟨rfl, HB5.out⟩
  | true =>
    by_cases hT : o + bo + af < 0
    · have HBX := Lib.hid ((HB1.out.alloc HB1.out.size (.cells #[.string ⟨#[116, 97, 103, 32, 48, 32, 120]⟩, .int .i64 o, .int .i64 (-1)] 97)).alloc (by have := HB1.out.size; simp; omega) (.cells #[.slice none 0 0, .slice (some ⟨w1.heap.size, 0, none⟩) 1 1, .slice none 0 0, .slice none 0 0, .slice none 0 0, .int .i64 bo, .int .i64 (o + bo + af)] 69))
      go_wp2_with fail
      go_ret
      exact ⟨rfl, HBX.out⟩
    · have hTf : decide (o + bo + af < 0) = false := decide_eq_false hT
      have HBX := Lib.hid ((HB1.out.alloc HB1.out.size (.cells #[.string ⟨#[116, 97, 103, 32, 48, 32, 120]⟩, .int .i64 o, .int .i64 (o + bo + af)] 97)).alloc (by have := HB1.out.size; simp; omega) (.cells #[.slice none 0 0, .slice (some ⟨w1.heap.size, 0, none⟩) 1 1, .slice none 0 0, .slice none 0 0, .slice none 0 0, .int .i64 bo, .int .i64 0] 69))
      have HAT := Lib.hid (late_at (b := w1.heap.size) (g := ⟨tagT, o, o + bo + af⟩) (bo := bo) (fin := 0) (w := (w1.alloc (.cells #[.string ⟨#[116, 97, 103, 32, 48, 32, 120]⟩, .int .i64 o, .int .i64 (o + bo + af)] 97)).alloc (.cells #[.slice none 0 0, .slice (some ⟨w1.heap.size, 0, none⟩) 1 1, .slice none 0 0, .slice none 0 0, .slice none 0 0, .int .i64 bo, .int .i64 0] 69)) (bx_allocH (Bx.new w1 97 #[.string ⟨#[116, 97, 103, 32, 48, 32, 120]⟩, .int .i64 o, .int .i64 (o + bo + af)]) _) (by simp [tagT]))
      have HLB : Hid (lateB (lateH ⟨tagT, o, o + bo + af⟩ bo 0) ⟨tagT, o, o + bo + af⟩ = decide (0 < af)) := Lib.hid (by unfold lateB lateH; simp only; rw [if_neg hT, decide_eq_decide]; omega)
      go_wp2_with fail
      refine (Hy.check_any (lateH ⟨tagT, o, o + bo + af⟩ bo (0)) (.slice none 0 0) (.slice (some ⟨w1.heap.size, 0, none⟩) 1 1) (.slice none 0 0) (.slice none 0 0) (.slice none 0 0) 20 _ (HRY.out.below HBX.out) (HPW.out.below HBX.out) HAT.out (late_small (by unfold Hy.inB; simp only; omega) (by unfold Hy.inB; simp only; omega) (by unfold Hy.inB; omega) (by unfold Hy.inB; omega)) (by decide)).mono ?_
      rw [late_check, HLB.out]
      by_cases haf : 0 < af
      · have ha1 : decide (0 < af) = true := decide_eq_true haf
        rw [ha1, if_pos rfl]
        rintro e w5 ⟨u, rfl, ho, hb⟩
        have HB5 := Lib.hid (HBX.out.trans (hb.mono HBX.out.size))
        obtain ⟨g, off, c, hu, _, _, _, hgz, hcell⟩ := ho.cells (by decide)
        subst hu
        have r0 := hcell 0 (.int .i64 2) rfl
        have r1 := hcell 1 (.int .i64 0) rfl
        have r2 := hcell 2 (.string ⟨#[112, 117, 114, 103, 101, 32, 110, 111, 116, 32, 97, 110, 115, 119, 101, 114, 101, 100, 32, 105, 110, 32, 116, 105, 109, 101]⟩) rfl
        have heq := eql_vi 2 0 2 0 tx2 tx2 w5
        rw [show ((2 : Int) == 2 && ((0 : Int) == 0 && tx2 == tx2)) = true by decide] at heq
        unfold tx2 at heq
        rw [Nat.add_zero] at r0
        rw [show ([(⟨2, 0, tx2⟩ : VioM)]).length = 1 from rfl]
        clear hb ho hcell
        go_wp2_with fail
        go_ret
        exact ⟨rfl, HB5.out⟩
      · have ha1 : decide (0 < af) = false := decide_eq_false haf
        rw [ha1, if_neg (by decide)]
        rintro e w5 ⟨u, rfl, ho, hb⟩
        have HB5 := Lib.hid (HBX.out.trans (hb.mono HBX.out.size))
        obtain ⟨ua, uc, hu, _⟩ := ho.form
        subst hu
        rw [show ([] : List VioM).length = 0 from rfl]
        clear hb ho
        go_wp2_with fail
        go_ret
        exact ⟨rfl, HB5.out⟩

/-- What the walk gives, for every argument. -/
theorem contract (H : Type) (enc : TypeId × Value → H) (W : World) (base : Nat) (args : Array Value) (ds gs : List (DataW H)) (before : List MemPlace)
    (hval : ∀ (j : Nat) t v, Tryz.f10.params[j]? = some t → args[j]? = some v → Value.okWide Tryz.prog W .any base t v)
    (hW : DataW.Whole enc Tryz.prog Tryz.f10.params.toList Rows.historyLateSpec.vars false W args.toList ds gs before) (hsz : (DataW.weightsEach Tryz.prog Tryz.f10.params.toList (ds ++ gs)).all (· ≤ reachBytes) = true) (hr : Ready W) (hw : A1.ParseAt W) :
    Calls Tryz.prog 10 args W fun e W' => ∃ v, e = .returned v ∧ Rows.historyLateSpec.post enc Tryz.prog Tryz.f10 false true false false W args v W' := by
  have hW' := hW
  have hlt := fun p hp => hW.lt p hp
  obtain ⟨p, q, hA0, hV, rfl, hfz, hnd⟩ := hW
  have hA : DataW.TrodAll enc Tryz.prog W 0 (fun _ => true) true Tryz.f10.params.toList args.toList ds p := hA0
  have hA1 := hA
  obtain ⟨rfl, rfl⟩ := trodVars_none hV
  rw [Tryz.params10] at hA hval
  obtain ⟨v0, vs0, d0, ds0, p0, q0, hargs, rfl, rfl, h0, r0⟩ := trodAll_cons hA
  obtain ⟨v1, vs1, d1, ds1, p1, q1, rfl, rfl, rfl, h1, r1⟩ := trodAll_cons r0
  obtain ⟨v2, vs2, d2, ds2, p2, q2, rfl, rfl, rfl, h2, r2⟩ := trodAll_cons r1
  obtain ⟨v3, vs3, d3, ds3, p3, q3, rfl, rfl, rfl, h3, r3⟩ := trodAll_cons r2
  obtain ⟨rfl, rfl, rfl⟩ := trodAll_nil r3
  obtain rfl : args = #[v0, v1, v2, v3] := by cases args; simp_all
  have fin : ∀ W', Below W.heap.size W W' → Rows.historyLateSpec.post enc Tryz.prog Tryz.f10 false true false false W #[v0, v1, v2, v3] (.bool true) W' := fun W' hb => by
    simp only [List.append_nil] at hA1 hW' hlt
    exact ⟨_, _, _, [], _, [], hW', trodAll_cons_mk (shut_bool Tryz.underlying4 _) trodAll_mk0, Fr.trodAll_below (by kernel_rfl) _ (by kernel_rfl) hA1 hb hlt, rfl, hb.frame _, fun h => by cases h⟩
  clear hW' hA0 hA1 hlt
  rw [Tryz.params10, List.append_nil] at hsz
  obtain ⟨n0, rfl, rfl, rfl, wf0⟩ := open_int Tryz.underlying93 (hval 0 93 v0 rfl rfl) h0
  have m0 := Hy.u16_range wf0
  obtain ⟨n1, rfl, rfl, rfl, wf1⟩ := open_int Tryz.underlying93 (hval 1 93 v1 rfl rfl) h1
  have m1 := Hy.u16_range wf1
  obtain ⟨n2, rfl, rfl, rfl, wf2⟩ := open_int Tryz.underlying99 (hval 2 99 v2 rfl rfl) h2
  have m2 := Hy.i16_range wf2
  obtain ⟨b3, rfl, rfl, rfl⟩ := open_bool Tryz.underlying4 (hval 3 4 v3 rfl rfl) h3
  refine  (walk n0 n1 n2 b3 W hr hw m0 m1 m2).mono fun e W' ⟨he, hb⟩ => ?_
  subst he
  exact ⟨_, rfl, fin W' hb⟩

theorem laid_met (os : Os) : laidMet Tryz.prog Rows.historyLateRow.laid ((Fr.laidE Rows.historyLateRow.laid os).forCall (fun _ _ => 0) ⟨#[], #[.int .u16 0, .int .u16 0, .int .i16 0, .bool false], []⟩).memory :=
  laidMet_of_run' 8 (by kernel_rfl) (by kernel_rfl)
theorem reads (os : Os) {H : Type} (enc : TypeId × Value → H) : ∃ places, DataW.whole enc Tryz.prog ((Fr.laidE Rows.historyLateRow.laid os).forCall (fun _ _ => 0) ⟨#[], #[.int .u16 0, .int .u16 0, .int .i16 0, .bool false], []⟩).memory Tryz.f10.params.toList Rows.historyLateSpec.vars false (#[.int .u16 0, .int .u16 0, .int .i16 0, .bool false] : Array Value).toList 8 = some ([.lit (.int .u16 0), .lit (.int .u16 0), .lit (.int .i16 0), .lit (.bool false)], [], places) :=
  ⟨[], by kernel_rfl⟩

theorem lifted (os : Os) (started : os.Started) (H : Type) (enc : TypeId × Value → H) (F : Stop.Interp) :
    ReturnsInHanded {} Tryz.checked os 10 .any ((OpenSpec.ofChange Rows.historyLateSpec).preRow enc Tryz.prog Tryz.f10 Rows.historyLateRow.domain false Rows.historyLateRow.laid) (((OpenSpec.ofChange Rows.historyLateSpec).at F).post enc Tryz.prog Tryz.f10 false true false false) := by
  obtain ⟨places, hx⟩ := reads os enc
  refine returnsInHanded_of_row (C := Tryz.checked) (s := OpenSpec.ofChange Rows.historyLateSpec) Fr.own started (by kernel_rfl) Tryz.func10
    (witness_row_at (enc := enc) (C := Tryz.checked) false (Fr.laidE Rows.historyLateRow.laid os) #[.int .u16 0, .int .u16 0, .int .i16 0, .bool false] rfl (by kernel_rfl) (by kernel_rfl) (by kernel_rfl)
      (OpenSpec.preRow_of_cond 8 hx (by kernel_rfl) (fun k hk => by cases hk) (by kernel_rfl) (laid_met os))) ?_
  intro W base args ds gs before hval hW _ hcond hsz hlaid hsh _
  exact contract H enc W base args ds gs before hval hW (by have h9 : (DataW.weightsEach Tryz.prog (Tryz.f10.params.toList ++ []) (ds ++ gs)).all (· ≤ reachBytes) = true := hsz; rw [List.append_nil] at h9; exact h9) (Fr.ready hsh) (Fr.parse_laid hlaid (by kernel_rfl) (by repeat first | exact List.mem_cons_self .. | apply List.mem_cons_of_mem) (by repeat first | exact List.mem_cons_self .. | apply List.mem_cons_of_mem) (by repeat first | exact List.mem_cons_self .. | apply List.mem_cons_of_mem))

theorem k_0 : Rows.historyLateRow.wf (OpenSpec.ofChange (OpenSpec.ofChange Rows.historyLateSpec).bare) = true := by kernel_rfl
theorem k_1 : laidOutB Tryz.prog = true := Fr.sf_laidOut
theorem k_2 : mapsRowed Tryz.prog = true := Fr.sf_mapsRowed
theorem k_3 : Tryz.f10.params.all (Tryz.prog.readableRec ·) = true := by kernel_rfl
theorem k_4 : namedTie Tryz.prog Rows.historyLateRow.named (OpenSpec.ofChange Rows.historyLateSpec).bare.vars = true := by kernel_rfl
theorem k_5 : (Rows.historyLateRow.stops == []) = true := by kernel_rfl
theorem k_6 : (Tryz.prog.stops == []) = true := Fr.sf_stops
theorem k_7 : (Rows.historyLateRow.knobs == []) = true := by kernel_rfl
theorem k_8 : (Tryz.prog.stopKnobs == []) = true := Fr.sf_stopKnobs
theorem k_9 : (Rows.historyLateRow.inPlace == Tryz.prog.inPlace 10) = true := by kernel_rfl
theorem k_10 : (Rows.historyLateRow.unfollowed == Tryz.prog.unfollowed 10) = true := by kernel_rfl
theorem k_11 : (Rows.historyLateRow.recurses == Tryz.prog.recurses 10) = true := by kernel_rfl
theorem k_12 : (Rows.historyLateRow.named == Tryz.prog.varsNamed 10) = true := by kernel_rfl
theorem k_13 : (Rows.historyLateRow.maps == (Tryz.f10.params.toList ++ (OpenSpec.ofChange Rows.historyLateSpec).bare.plain.varTypes Tryz.prog).any (Tryz.prog.mapsRec ·)) = true := by kernel_rfl
theorem k_14 : (Rows.historyLateRow.ifaces == (Tryz.f10.params.toList ++ (OpenSpec.ofChange Rows.historyLateSpec).bare.plain.varTypes Tryz.prog).any (Tryz.prog.ifacesRec ·)) = true := by kernel_rfl
theorem k_15 : (Rows.historyLateRow.mapsOut == Tryz.prog.mapsAmong Tryz.f10.resultTypes.toList) = true := by kernel_rfl
theorem k_16 : (Rows.historyLateRow.loops == (Tryz.f10.params.toList ++ (OpenSpec.ofChange Rows.historyLateSpec).bare.plain.varTypes Tryz.prog).any (Tryz.prog.loopsFrom ·)) = true := by kernel_rfl
theorem k_17 : (Rows.historyLateRow.wideKeys == (Tryz.f10.params.toList ++ (OpenSpec.ofChange Rows.historyLateSpec).bare.plain.varTypes Tryz.prog ++ Tryz.f10.resultTypes.toList).any (Tryz.prog.wideKeysFrom ·)) = true := by kernel_rfl
theorem k_18 : (OpenSpec.ofChange Rows.historyLateSpec).bare.vars.all (Tryz.prog.varReadable ·) = true := by kernel_rfl
theorem k_19 : Tryz.f10.resultTypes.all (fun t => Tryz.prog.readableRec t && decide (t < Tryz.prog.types.size)) = true := by kernel_rfl
theorem k_20 : (Rows.historyLateRow.ifacesOut == Tryz.f10.resultTypes.toList.any (Tryz.prog.ifacesRec ·)) = true := by kernel_rfl
theorem k_21 : (Rows.historyLateRow.loopsOut == Tryz.f10.resultTypes.toList.any (Tryz.prog.loopsFrom ·)) = true := by kernel_rfl
theorem k_22 : (Rows.historyLateRow.plainKeys == Tryz.prog.plainKeys) = true := Fr.sf_plainKeys
theorem k_23 : Rows.historyLateRow.shortTexts.isNone = true := by kernel_rfl
theorem k_24 : Tryz.prog.stopsHeard = true := Fr.sf_heard
theorem k_25 : Tryz.prog.mayEnter = true := Fr.sf_mayEnter
theorem k_26 : (Rows.historyLateRow.lifted == Tryz.prog.liftsFinal) = true := Fr.sf_lifted
theorem k_27 : (Tryz.prog.make == some Rows.historyLateRow.make) = true := Fr.sf_make
theorem k_28 : (Rows.historyLateRow.kinds == (if Rows.historyLateRow.domain.isEmpty then [] else Tryz.f10.params.toList.map fun t => match Tryz.prog.underlying t with | some (.int k) => some k | _ => none)) = true := by kernel_rfl
theorem k_29 : (Rows.historyLateRow.pinned == Rows.historyLateRow.pinnedBy) = true := by kernel_rfl
theorem k_30 : (Rows.historyLateRow.veiled == (Tryz.f10.params.toList ++ (OpenSpec.ofChange Rows.historyLateSpec).bare.plain.varTypes Tryz.prog ++ Tryz.f10.resultTypes.toList).any (Tryz.prog.veiledRec ·)) = true := by kernel_rfl
theorem k_31 : Rows.historyLateRow.veiledFits Tryz.prog Tryz.f10.params.toList (Tryz.f10.params.toList ++ (OpenSpec.ofChange Rows.historyLateSpec).bare.plain.varTypes Tryz.prog ++ Tryz.f10.resultTypes.toList) = true := by kernel_rfl
theorem closed : joinedFacts Tryz.prog 10 Tryz.f10 (OpenSpec.ofChange Rows.historyLateSpec).bare Rows.historyLateRow = true := Op.andT (Op.andT (Op.andT (Op.andT (Op.andT (Op.andT (Op.andT (Op.andT (Op.andT (Op.andT (Op.andT (Op.andT (Op.andT (Op.andT (Op.andT (Op.andT (Op.andT (Op.andT (Op.andT (Op.andT (Op.andT (Op.andT (Op.andT (Op.andT (Op.andT (Op.andT (Op.andT (Op.andT (Op.andT (Op.andT (Op.andT (k_0) k_1) k_2) k_3) k_4) k_5) k_6) k_7) k_8) k_9) k_10) k_11) k_12) k_13) k_14) k_15) k_16) k_17) k_18) k_19) k_20) k_21) k_22) k_23) k_24) k_25) k_26) k_27) k_28) k_29) k_30) k_31

theorem said : Rows.HistoryLateSaid :=
  OpenClaim.holds_of_cond 10 Tryz.f10 rfl rfl rfl rfl rfl rfl rfl ⟨rfl, rfl, rfl, rfl, rfl⟩ rfl rfl rfl rfl rfl (by kernel_rfl) Tryz.func10 closed
    (of_decide_eq_true (by kernel_rfl)) (by unfold Func.isWrapper; first | (rw [if_pos (by decide +kernel)]; kernel_rfl) | (rw [if_neg (by decide +kernel)]; exact ⟨rfl, rfl⟩))
    (fun os started H enc _ F => by rw [OpenClaim.pre_eq_preRow]; exact lifted os started H enc F)

theorem plain (b : Bool) (hb : b = Tryz.pinned.checked.prog.looks []) (f : FuncId) (fn : Func) (hf : Tryz.pinned.checked.prog.funcNamed "quayside/quaysidelaw58.HistoryLate" = some f) (hfn : Tryz.pinned.checked.prog.funcs[f]? = some fn) :
    b = Tryz.pinned.checked.prog.looks [] ∧ ∀ (j : Nat) t, fn.params[j]? = some t → Tryz.pinned.checked.prog.wantsStandIn t = false := by
  obtain rfl : f = 10 := Option.some.inj ((show Tryz.prog.funcNamed "quayside/quaysidelaw58.HistoryLate" = some 10 by kernel_rfl).symm.trans hf) |>.symm
  obtain rfl : fn = Tryz.f10 := (Option.some.inj (Tryz.func10.symm.trans hfn)).symm
  refine ⟨hb, fun j t ht => ?_⟩
  rw [Tryz.params10] at ht
  have hm : t ∈ [93, 99, 4] := by simpa using Array.mem_of_getElem? ht
  have hall : ([93, 99, 4].all fun u => !Tryz.prog.wantsStandIn u) = true := by kernel_rfl
  exact (show Tryz.prog.wantsStandIn t = false by simpa using List.all_eq_true.1 hall t hm)

theorem proved : Rows.HistoryLateCardSaid :=
  Claim7.holds_tied_plain_at .later [] _ _ _ _ said (fun _ h => by cases h) (by kernel_rfl) (fun _ h => by cases h) historyLate_row_tie rfl ⟨rfl, rfl⟩ (by kernel_rfl) rfl (plain _ (by kernel_rfl)) (by kernel_rfl)
#print axioms proved
end Go.Proofs.YtjijijjkkhpjnaaGreatDoor.lawHistoryLate
