/- PROVED: PurgelogPlays returns true for every input and leaves its arguments as they were. No condition beyond the statement's own (the listed variables read as the program's text lays them, which the card ties). -/
import Derived.Test.YtijjggbiljkalaaDoorFrame
import Derived.Test.YtijjggbiljkalaaDoorClosed
import Derived.Test.YtijjggbiljkalaaDoorPlogI
import Derived.Test.YtijjggbiljkalaaDoorActs
namespace Go.Proofs.YtijjggbiljkalaaDoor.lawPurgelogPlays
open Go.ChangeShapes Go.WideShapes Go.ChangeAt Go.RowKit Pl Ad A1
open Go.ChangeMaps (open_string shut_string)
attribute [local go_sem] ba_get conv_one conv_one_drewN ba_append ba_extract
set_option maxRecDepth 100000
set_option maxHeartbeats 4000000
set_option linter.unusedVariables false

theorem walk_big (m n : Int) (va : Option Addr) (vc : Nat) (acts : List LAct) (w : World) (hr : Ready w) (hv : RowsV actC 5 w (.slice va acts.length vc) acts) (hl : acts.length ≤ 9223372036854775807) (hf : fitsA acts = false) :
    Calls Tryd.prog 5 #[.int .u8 m, .slice va acts.length vc, .int .i64 n] w fun e w' => e = .returned (.bool true) ∧ Below w.heap.size w w' := by
  have HF := Lib.hid hf
  have HV := Lib.hid hv
  clear hf hv
  go_enter Tryd.func5, Tryd.ntmps5
  go_wp2_with fail
  refine (awake37_any _ hr).mono ?_
  rintro e w1 ⟨rfl, hb1⟩
  have HB1 := Lib.hid hb1
  clear hb1
  go_wp2_with fail
  refine (fits37_any (.slice va acts.length vc) acts _ (HV.out.below HB1.out) hl).mono ?_
  rw [HF.out]
  rintro e w2 ⟨rfl, rfl⟩
  go_wp2_with (go_at_call 14; refine (awake37_any _ (hr.below HB1.out)).mono ?_; rintro e w3 ⟨rfl, hb3⟩)
  go_ret
  exact ⟨rfl, HB1.out.trans (hb3.mono HB1.out.size)⟩
theorem walk_ok (m n : Int) (va : Option Addr) (vc : Nat) (acts : List LAct) (w : World) (hr : Ready w) (hv : RowsV actC 5 w (.slice va acts.length vc) acts) (hl : acts.length ≤ 9223372036854775807) (h0 : 0 ≤ m) (h255 : m < 256) (hf : fitsA acts = true) :
    Calls Tryd.prog 5 #[.int .u8 m, .slice va acts.length vc, .int .i64 n] w fun e w' => e = .returned (.bool true) ∧ Below w.heap.size w w' := by
  have hl60 := (fitsA_true hf).2
  have HA := Lib.hid (fitsA_true hf).1
  have HF := Lib.hid hf
  have HV := Lib.hid hv
  have HRY := Lib.hid hr
  obtain ⟨k, hk⟩ : ∃ k : Nat, 1 + m % 24 = (k : Int) := ⟨(1 + m % 24).toNat, by omega⟩
  have hk1 : 1 ≤ k := by omega
  have hk2 : k ≤ 24 := by omega
  have HK := Lib.hid hk
  clear hf hv hk
  go_enter Tryd.func5, Tryd.ntmps5
  go_wp2_with fail
  refine (awake37_any _ hr).mono ?_
  rintro e w1 ⟨rfl, hb1⟩
  have HB1 := Lib.hid hb1
  clear hb1
  go_wp2_with fail
  refine (fits37_any (.slice va acts.length vc) acts _ (HV.out.below HB1.out) hl).mono ?_
  rw [HF.out]
  rintro e w2 ⟨rfl, rfl⟩
  go_wp2_with fail
  refine (window37_any m _ h0 h255).mono ?_
  rw [HK.out]
  rintro e w2 ⟨rfl, rfl⟩
  go_wp2_with fail
  refine (plogNew_ok k _ (by omega) (by omega)).mono ?_
  rintro e w2 ⟨rfl, rfl⟩
  have HR := Lib.hid (show Run w _ w1.heap.size (.slice none 0 0) (.start k) from ⟨HB1.out.alloc HB1.out.size _, logAt_new w1 k w.heap.size HB1.out.size, LogM.ok_start hk1 (by omega)⟩)
  go_wp2_with fail
  refine (window37_any m _ h0 h255).mono ?_
  rw [HK.out]
  rintro e w2 ⟨rfl, rfl⟩
  go_wp2_with fail
  have hlen := play_len (LogM.start k) acts acts.length
  rw [List.take_of_length_le (Nat.le_refl _), show (LogM.start k).all.length = 0 from rfl] at hlen
  refine (play_any w _ w1.heap.size (.slice none 0 0) (.slice va acts.length vc) (.slice none 0 0) (LogM.start k) acts HR.out (OwnWin.nil _ _ _ _) HRY.out HV.out HA.out (by show 0 + acts.length ≤ 1000000; omega)).mono ?_
  obtain ⟨L3, hL3⟩ : ∃ L3, (LogM.start k).play acts = L3 := ⟨_, rfl⟩
  rw [hL3] at hlen ⊢
  have HL3 := Lib.hid hL3
  clear hL3
  rintro e w3 ⟨v3, u3, rfl, hr3, hu3, hg3⟩
  obtain ⟨ua, uc, rfl, _⟩ := OwnWin.form hu3
  have HR3 := Lib.hid hr3
  have HU3 := Lib.hid hu3
  clear hr3 hu3 hg3
  go_wp2_with fail
  refine (is_any _ w.heap.size w.heap.size w1.heap.size v3 _ L3 n (HR3.out.older ((Below.refl _ _).alloc (Nat.le_refl _) _)).log (RefOwn.older HU3.out ((Below.refl _ _).alloc (Nat.le_refl _) _)) HR3.out.ok (by omega)).mono ?_
  rintro e w4 ⟨rfl, hb4⟩
  have HR4 := Lib.hid ((HR3.out.older ((Below.refl _ _).alloc (Nat.le_refl _) _)).older hb4)
  have HU4 := Lib.hid ((RefOwn.older HU3.out ((Below.refl _ _).alloc (Nat.le_refl _) _)).older hb4)
  obtain ⟨⟨c0, c1, c2⟩, _⟩ := ((box3_new w3 51 (.slice ua L3.all.length uc) (.int .i64 L3.dropped) (.int .i64 L3.win)).older hb4).facts
  clear hb4
  go_wp2_with fail
  refine (is_any _ w.heap.size w.heap.size w1.heap.size v3 _ L3 0 HR4.out.log HU4.out HR4.out.ok (by omega)).mono ?_
  rintro e w5 ⟨rfl, hb5⟩
  have HR5 := Lib.hid (HR4.out.older hb5)
  clear hb5
  go_wp2_with fail
  go_ret
  exact ⟨rfl, HR5.out.bel⟩
theorem walk (m : Int) (acts : List LAct) (v : Value) (n : Int) (w : World) (hr : Ready w) (hm : 0 ≤ m ∧ m < 256) (hv : RowsV actC 5 w v acts) (hl : acts.length ≤ 9223372036854775807) :
    Calls Tryd.prog 5 #[.int .u8 m, v, .int .i64 n] w fun e w' => e = .returned (.bool true) ∧ Below w.heap.size w w' := by
  obtain ⟨va, vc, rfl, _⟩ := hv.form
  cases hf : fitsA acts with
  | true => exact walk_ok m n va vc acts w hr hv hl hm.1 hm.2 hf
  | false => exact walk_big m n va vc acts w hr hv hl hf

/-- What the walk gives, for every argument. -/
theorem contract (H : Type) (enc : TypeId × Value → H) (W : World) (base : Nat) (args : Array Value) (ds gs : List (DataW H)) (before : List MemPlace)
    (hval : ∀ (j : Nat) t v, Tryd.f5.params[j]? = some t → args[j]? = some v → Value.okWide Tryd.prog W .any base t v)
    (hW : DataW.Whole enc Tryd.prog Tryd.f5.params.toList Rows.purgelogPlaysSpec.vars false W args.toList ds gs before) (hsz : (DataW.weightsEach Tryd.prog Tryd.f5.params.toList (ds ++ gs)).all (· ≤ reachBytes) = true) (hr : Ready W) :
    Calls Tryd.prog 5 args W fun e W' => ∃ v, e = .returned v ∧ Rows.purgelogPlaysSpec.post enc Tryd.prog Tryd.f5 false true false false W args v W' := by
  have hW' := hW
  have hlt := fun p hp => hW.lt p hp
  obtain ⟨p, q, hA0, hV, rfl, hfz, hnd⟩ := hW
  have hA : DataW.TrodAll enc Tryd.prog W 0 (fun _ => true) true Tryd.f5.params.toList args.toList ds p := hA0
  have hA1 := hA
  obtain ⟨rfl, rfl⟩ := trodVars_none hV
  rw [Tryd.params5] at hA hval
  obtain ⟨v0, vs0, d0, ds0, p0, q0, hargs, rfl, rfl, h0, r0⟩ := trodAll_cons hA
  obtain ⟨v1, vs1, d1, ds1, p1, q1, rfl, rfl, rfl, h1, r1⟩ := trodAll_cons r0
  obtain ⟨v2, vs2, d2, ds2, p2, q2, rfl, rfl, rfl, h2, r2⟩ := trodAll_cons r1
  obtain ⟨rfl, rfl, rfl⟩ := trodAll_nil r2
  obtain rfl : args = #[v0, v1, v2] := by cases args; simp_all
  have fin : ∀ W', Below W.heap.size W W' → Rows.purgelogPlaysSpec.post enc Tryd.prog Tryd.f5 false true false false W #[v0, v1, v2] (.bool true) W' := fun W' hb => by
    simp only [List.append_nil] at hA1 hW' hlt
    exact ⟨_, _, _, [], _, [], hW', trodAll_cons_mk (shut_bool Tryd.underlying4 _) trodAll_mk0, Fr.trodAll_below (by kernel_rfl) _ (by kernel_rfl) hA1 hb hlt, rfl, hb.frame _, fun h => by cases h⟩
  clear hW' hA0 hA1 hlt
  rw [Tryd.params5, List.append_nil] at hsz
  obtain ⟨n0, rfl, rfl, rfl, wf0⟩ := open_int Tryd.underlying5 (hval 0 5 v0 rfl rfl) h0
  have m0 := Op.u8_range wf0
  obtain ⟨ua1, ul1, uc1, rfl⟩ := okWide_slice Tryd.underlying32 (hval 1 32 v1 rfl rfl)
  obtain ⟨fu1, hf1⟩ := h1
  obtain ⟨xs1, hx1, hl1, _⟩ := Op.open_rows (R := actC) (k := 5) (fun _ => True) Tryd.underlying32 (by kernel_rfl) (by decide) (fun n cs y hl h => Op.act_trod hl h) hf1
  obtain ⟨n2, rfl, rfl, rfl, wf2⟩ := open_int Tryd.underlying3 (hval 2 3 v2 rfl rfl) h2
  refine (walk n0 xs1 (.slice ua1 ul1 uc1) n2 W hr m0 hx1 hl1).mono fun e W' ⟨he, hb⟩ => ?_
  subst he
  exact ⟨_, rfl, fin W' hb⟩

theorem laid_met (os : Os) : laidMet Tryd.prog Rows.purgelogPlaysRow.laid ((Fr.laidWorld os).forCall (fun _ _ => 0) ⟨#[], #[.int .u8 0, .slice none 0 0, .int .i64 0], []⟩).memory :=
  laidMet_of_run' 8 (by kernel_rfl) (by kernel_rfl)
theorem reads (os : Os) {H : Type} (enc : TypeId × Value → H) : ∃ places, DataW.whole enc Tryd.prog ((Fr.laidWorld os).forCall (fun _ _ => 0) ⟨#[], #[.int .u8 0, .slice none 0 0, .int .i64 0], []⟩).memory Tryd.f5.params.toList Rows.purgelogPlaysSpec.vars false (#[.int .u8 0, .slice none 0 0, .int .i64 0] : Array Value).toList 8 = some ([.lit (.int .u8 0), .nil, .lit (.int .i64 0)], [], places) :=
  ⟨[], by kernel_rfl⟩

theorem lifted (os : Os) (started : os.Started) (H : Type) (enc : TypeId × Value → H) (F : Stop.Interp) :
    ReturnsInHanded {} Tryd.checked os 5 .any ((OpenSpec.ofChange Rows.purgelogPlaysSpec).preRow enc Tryd.prog Tryd.f5 Rows.purgelogPlaysRow.domain false Rows.purgelogPlaysRow.laid) (((OpenSpec.ofChange Rows.purgelogPlaysSpec).at F).post enc Tryd.prog Tryd.f5 false true false false) := by
  obtain ⟨places, hx⟩ := reads os enc
  refine returnsInHanded_of_row (C := Tryd.checked) (s := OpenSpec.ofChange Rows.purgelogPlaysSpec) Fr.own started (by kernel_rfl) Tryd.func5
    (witness_row_at (enc := enc) (C := Tryd.checked) false (Fr.laidWorld os) #[.int .u8 0, .slice none 0 0, .int .i64 0] rfl (by kernel_rfl) (by kernel_rfl) (by kernel_rfl)
      (OpenSpec.preRow_of_cond 8 hx (by kernel_rfl) (fun k hk => by cases hk) (by kernel_rfl) (laid_met os))) ?_
  intro W base args ds gs before hval hW _ hcond hsz _ hsh _
  exact contract H enc W base args ds gs before hval hW (by have h9 : (DataW.weightsEach Tryd.prog (Tryd.f5.params.toList ++ []) (ds ++ gs)).all (· ≤ reachBytes) = true := hsz; rw [List.append_nil] at h9; exact h9) (Fr.ready hsh)

theorem k_0 : Rows.purgelogPlaysRow.wf (OpenSpec.ofChange (OpenSpec.ofChange Rows.purgelogPlaysSpec).bare) = true := by kernel_rfl
theorem k_1 : laidOutB Tryd.prog = true := Fr.sf_laidOut
theorem k_2 : mapsRowed Tryd.prog = true := Fr.sf_mapsRowed
theorem k_3 : Tryd.f5.params.all (Tryd.prog.readableRec ·) = true := by kernel_rfl
theorem k_4 : namedTie Tryd.prog Rows.purgelogPlaysRow.named (OpenSpec.ofChange Rows.purgelogPlaysSpec).bare.vars = true := by kernel_rfl
theorem k_5 : (Rows.purgelogPlaysRow.stops == []) = true := by kernel_rfl
theorem k_6 : (Tryd.prog.stops == []) = true := Fr.sf_stops
theorem k_7 : (Rows.purgelogPlaysRow.knobs == []) = true := by kernel_rfl
theorem k_8 : (Tryd.prog.stopKnobs == []) = true := Fr.sf_stopKnobs
theorem k_9 : (Rows.purgelogPlaysRow.inPlace == Tryd.prog.inPlace 5) = true := by kernel_rfl
theorem k_10 : (Rows.purgelogPlaysRow.unfollowed == Tryd.prog.unfollowed 5) = true := by kernel_rfl
theorem k_11 : (Rows.purgelogPlaysRow.recurses == Tryd.prog.recurses 5) = true := by kernel_rfl
theorem k_12 : (Rows.purgelogPlaysRow.named == Tryd.prog.varsNamed 5) = true := by kernel_rfl
theorem k_13 : (Rows.purgelogPlaysRow.maps == (Tryd.f5.params.toList ++ (OpenSpec.ofChange Rows.purgelogPlaysSpec).bare.plain.varTypes Tryd.prog).any (Tryd.prog.mapsRec ·)) = true := by kernel_rfl
theorem k_14 : (Rows.purgelogPlaysRow.ifaces == (Tryd.f5.params.toList ++ (OpenSpec.ofChange Rows.purgelogPlaysSpec).bare.plain.varTypes Tryd.prog).any (Tryd.prog.ifacesRec ·)) = true := by kernel_rfl
theorem k_15 : (Rows.purgelogPlaysRow.mapsOut == Tryd.prog.mapsAmong Tryd.f5.resultTypes.toList) = true := by kernel_rfl
theorem k_16 : (Rows.purgelogPlaysRow.loops == (Tryd.f5.params.toList ++ (OpenSpec.ofChange Rows.purgelogPlaysSpec).bare.plain.varTypes Tryd.prog).any (Tryd.prog.loopsFrom ·)) = true := by kernel_rfl
theorem k_17 : (Rows.purgelogPlaysRow.wideKeys == (Tryd.f5.params.toList ++ (OpenSpec.ofChange Rows.purgelogPlaysSpec).bare.plain.varTypes Tryd.prog ++ Tryd.f5.resultTypes.toList).any (Tryd.prog.wideKeysFrom ·)) = true := by kernel_rfl
theorem k_18 : (OpenSpec.ofChange Rows.purgelogPlaysSpec).bare.vars.all (Tryd.prog.varReadable ·) = true := by kernel_rfl
theorem k_19 : Tryd.f5.resultTypes.all (fun t => Tryd.prog.readableRec t && decide (t < Tryd.prog.types.size)) = true := by kernel_rfl
theorem k_20 : (Rows.purgelogPlaysRow.ifacesOut == Tryd.f5.resultTypes.toList.any (Tryd.prog.ifacesRec ·)) = true := by kernel_rfl
theorem k_21 : (Rows.purgelogPlaysRow.loopsOut == Tryd.f5.resultTypes.toList.any (Tryd.prog.loopsFrom ·)) = true := by kernel_rfl
theorem k_22 : (Rows.purgelogPlaysRow.plainKeys == Tryd.prog.plainKeys) = true := Fr.sf_plainKeys
theorem k_23 : Rows.purgelogPlaysRow.shortTexts.isNone = true := by kernel_rfl
theorem k_24 : Tryd.prog.stopsHeard = true := Fr.sf_heard
theorem k_25 : Tryd.prog.mayEnter = true := Fr.sf_mayEnter
theorem k_26 : (Rows.purgelogPlaysRow.lifted == Tryd.prog.liftsFinal) = true := Fr.sf_lifted
theorem k_27 : (Tryd.prog.make == some Rows.purgelogPlaysRow.make) = true := Fr.sf_make
theorem k_28 : (Rows.purgelogPlaysRow.kinds == (if Rows.purgelogPlaysRow.domain.isEmpty then [] else Tryd.f5.params.toList.map fun t => match Tryd.prog.underlying t with | some (.int k) => some k | _ => none)) = true := by kernel_rfl
theorem k_29 : (Rows.purgelogPlaysRow.pinned == Rows.purgelogPlaysRow.pinnedBy) = true := by kernel_rfl
theorem k_30 : (Rows.purgelogPlaysRow.veiled == (Tryd.f5.params.toList ++ (OpenSpec.ofChange Rows.purgelogPlaysSpec).bare.plain.varTypes Tryd.prog ++ Tryd.f5.resultTypes.toList).any (Tryd.prog.veiledRec ·)) = true := by kernel_rfl
theorem k_31 : Rows.purgelogPlaysRow.veiledFits Tryd.prog Tryd.f5.params.toList (Tryd.f5.params.toList ++ (OpenSpec.ofChange Rows.purgelogPlaysSpec).bare.plain.varTypes Tryd.prog ++ Tryd.f5.resultTypes.toList) = true := by kernel_rfl
theorem closed : joinedFacts Tryd.prog 5 Tryd.f5 (OpenSpec.ofChange Rows.purgelogPlaysSpec).bare Rows.purgelogPlaysRow = true := Op.andT (Op.andT (Op.andT (Op.andT (Op.andT (Op.andT (Op.andT (Op.andT (Op.andT (Op.andT (Op.andT (Op.andT (Op.andT (Op.andT (Op.andT (Op.andT (Op.andT (Op.andT (Op.andT (Op.andT (Op.andT (Op.andT (Op.andT (Op.andT (Op.andT (Op.andT (Op.andT (Op.andT (Op.andT (Op.andT (Op.andT (k_0) k_1) k_2) k_3) k_4) k_5) k_6) k_7) k_8) k_9) k_10) k_11) k_12) k_13) k_14) k_15) k_16) k_17) k_18) k_19) k_20) k_21) k_22) k_23) k_24) k_25) k_26) k_27) k_28) k_29) k_30) k_31

theorem said : Rows.PurgelogPlaysSaid :=
  OpenClaim.holds_of_cond 5 Tryd.f5 rfl rfl rfl rfl rfl rfl rfl ⟨rfl, rfl, rfl, rfl, rfl⟩ rfl rfl rfl rfl rfl (by kernel_rfl) Tryd.func5 closed
    (of_decide_eq_true (by kernel_rfl)) (by unfold Func.isWrapper; first | (rw [if_pos (by decide +kernel)]; kernel_rfl) | (rw [if_neg (by decide +kernel)]; exact ⟨rfl, rfl⟩))
    (fun os started H enc _ F => by rw [OpenClaim.pre_eq_preRow]; exact lifted os started H enc F)

theorem plain (b : Bool) (hb : b = Tryd.pinned.checked.prog.looks []) (f : FuncId) (fn : Func) (hf : Tryd.pinned.checked.prog.funcNamed "quayside/quaysidelaw37.PurgelogPlays" = some f) (hfn : Tryd.pinned.checked.prog.funcs[f]? = some fn) :
    b = Tryd.pinned.checked.prog.looks [] ∧ ∀ (j : Nat) t, fn.params[j]? = some t → Tryd.pinned.checked.prog.wantsStandIn t = false := by
  obtain rfl : f = 5 := Option.some.inj ((show Tryd.prog.funcNamed "quayside/quaysidelaw37.PurgelogPlays" = some 5 by kernel_rfl).symm.trans hf) |>.symm
  obtain rfl : fn = Tryd.f5 := (Option.some.inj (Tryd.func5.symm.trans hfn)).symm
  refine ⟨hb, fun j t ht => ?_⟩
  rw [Tryd.params5] at ht
  have hm : t ∈ [5, 32, 3] := by simpa using Array.mem_of_getElem? ht
  have hall : ([5, 32, 3].all fun u => !Tryd.prog.wantsStandIn u) = true := by kernel_rfl
  exact (show Tryd.prog.wantsStandIn t = false by simpa using List.all_eq_true.1 hall t hm)

theorem proved : Rows.PurgelogPlaysCardSaid :=
  Claim7.holds_tied_plain_at .later [] _ _ _ _ said (fun _ h => by cases h) (by kernel_rfl) (fun _ h => by cases h) purgelogPlays_row_tie rfl ⟨rfl, rfl⟩ (by kernel_rfl) rfl (plain _ (by kernel_rfl)) (by kernel_rfl)
#print axioms proved
end Go.Proofs.YtijjggbiljkalaaDoor.lawPurgelogPlays
