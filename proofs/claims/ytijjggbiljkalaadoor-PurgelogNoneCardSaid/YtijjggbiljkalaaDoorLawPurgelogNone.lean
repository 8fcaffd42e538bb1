/- PROVED: PurgelogNone returns true for every input. No condition beyond the statement's own (the listed variables read as the program's text lays them, which the card ties). -/
import Derived.Test.YtijjggbiljkalaaDoorFrame
import Derived.Test.YtijjggbiljkalaaDoorClosed
import Derived.Test.YtijjggbiljkalaaDoorPlogN
import Derived.Test.YtijjggbiljkalaaDoorPurg4
namespace Go.Proofs.YtijjggbiljkalaaDoor.lawPurgelogNone
open Go.ChangeShapes Go.WideShapes Go.ChangeAt Go.RowKit Pl Ad A1
open Go.ChangeMaps (open_string shut_string)
attribute [local go_sem] ba_get conv_one conv_one_drewN ba_append ba_extract
set_option maxRecDepth 100000
set_option maxHeartbeats 4000000
set_option linter.unusedVariables false

attribute [local go_sem] guard_pg eql_pg
theorem walk (n : Int) (w : World) (hr : Ready w) :
    Calls Tryd.prog 9 #[.int .i64 n] w fun e w' => e = .returned (.bool true) ∧ Below w.heap.size w w' := by
  go_enter Tryd.func9, Tryd.ntmps9
  go_wp2_with fail
  refine (awake37_any _ hr).mono ?_
  rintro e w1 ⟨rfl, hb1⟩
  have HB1 := Lib.hid hb1
  clear hb1
  go_wp2_with (go_at_call 39; refine (nilShrink n _).mono ?_; rintro e w' ⟨rfl, rfl⟩)
  refine (nilAppend 3 0 [116] _).mono ?_
  rintro e w2 ⟨rfl, hb2⟩
  have HB2 := Lib.hid (HB1.out.trans (hb2.mono HB1.out.size))
  clear hb2
  go_wp2_with fail
  refine (nilGet n _).mono ?_
  rintro e w3 ⟨rfl, hb3⟩
  have HB3 := Lib.hid ((HB2.out.trans (hb3.mono HB2.out.size)).alloc (Nat.le_trans HB2.out.size hb3.size) (.cells #[.int .i64 0, .int .i64 0, .string ⟨#[]⟩] 37))
  have HX3 := Lib.hid (box3_new w3 37 (.int .i64 0) (.int .i64 0) (.string ⟨#[]⟩))
  clear hb3
  go_wp2_with (go_at_call 40; refine (nilSince n _).mono ?_; rintro e w' ⟨rfl, rfl⟩)
  refine (nilCovered 0 [] none 0 0 n _).mono ?_
  rintro e w4 ⟨rfl, hb4⟩
  have HB4 := Lib.hid (HB3.out.trans (hb4.mono HB3.out.size))
  have HX4 := Lib.hid (HX3.out.older hb4)
  obtain ⟨⟨c0, c1, c2⟩, _, hz4⟩ := HX4.out.facts
  have hz := HB4.out.size
  clear hb4
  go_wp2_with fail
  go_loop [52] (fun i => ∃ k : Nat, k ≤ 4 ∧ i = .int .i64 k) (fun i => 4 - (intOf i).toNat)
  case atStart => exact ⟨0, Nat.zero_le _, rfl⟩
  case round =>
    obtain ⟨k, hk, rfl⟩ := hrel
    have h5 : k = 0 ∨ k = 1 ∨ k = 2 ∨ k = 3 ∨ k = 4 := by omega
    rcases h5 with rfl | rfl | rfl | rfl | rfl
    case inr.inr.inr.inr =>
      go_wp2_with (first | (go_at_call 17; refine (nilLast _).mono ?_; rintro e w' ⟨rfl, rfl⟩) | (go_at_call 18; refine (nilFirst _).mono ?_; rintro e w' ⟨rfl, rfl⟩) | (go_at_call 28; refine (nilCopy _).mono ?_; rintro e w' ⟨rfl, rfl⟩))
      go_ret
      exact ⟨rfl, HB4.out.alloc HB4.out.size _⟩
    all_goals
      go_wp2_with (go_at_call 16; refine (is_err 3 _ (by decide)).mono ?_; rintro e w' ⟨rfl, rfl⟩)
      go_round
      case rel => exact ⟨_, by decide, rfl⟩
      case measure => simp [intOf]

/-- What the walk gives, for every argument. -/
theorem contract (H : Type) (enc : TypeId × Value → H) (W : World) (base : Nat) (args : Array Value) (ds gs : List (DataW H)) (before : List MemPlace)
    (hval : ∀ (j : Nat) t v, Tryd.f9.params[j]? = some t → args[j]? = some v → Value.okWide Tryd.prog W .any base t v)
    (hW : DataW.Whole enc Tryd.prog Tryd.f9.params.toList Rows.purgelogNoneSpec.vars false W args.toList ds gs before) (hsz : (DataW.weightsEach Tryd.prog Tryd.f9.params.toList (ds ++ gs)).all (· ≤ reachBytes) = true) (hr : Ready W) :
    Calls Tryd.prog 9 args W fun e W' => ∃ v, e = .returned v ∧ Rows.purgelogNoneSpec.post enc Tryd.prog Tryd.f9 false true false false W args v W' := by
  have hW' := hW
  have hlt := fun p hp => hW.lt p hp
  obtain ⟨p, q, hA0, hV, rfl, hfz, hnd⟩ := hW
  have hA : DataW.TrodAll enc Tryd.prog W 0 (fun _ => true) true Tryd.f9.params.toList args.toList ds p := hA0
  have hA1 := hA
  obtain ⟨rfl, rfl⟩ := trodVars_none hV
  rw [Tryd.params9] at hA hval
  obtain ⟨v0, vs0, d0, ds0, p0, q0, hargs, rfl, rfl, h0, r0⟩ := trodAll_cons hA
  obtain ⟨rfl, rfl, rfl⟩ := trodAll_nil r0
  obtain rfl : args = #[v0] := by cases args; simp_all
  have fin : ∀ W', Below W.heap.size W W' → Rows.purgelogNoneSpec.post enc Tryd.prog Tryd.f9 false true false false W #[v0] (.bool true) W' := fun W' hb => by
    simp only [List.append_nil] at hA1 hW' hlt
    exact ⟨_, _, _, [], _, [], hW', trodAll_cons_mk (shut_bool Tryd.underlying4 _) trodAll_mk0, Fr.trodAll_below (by kernel_rfl) _ (by kernel_rfl) hA1 hb hlt, rfl, hb.frame _, fun h => by cases h⟩
  clear hW' hA0 hA1 hlt
  rw [Tryd.params9, List.append_nil] at hsz
  obtain ⟨n0, rfl, rfl, rfl, wf0⟩ := open_int Tryd.underlying3 (hval 0 3 v0 rfl rfl) h0
  refine (walk n0 W hr).mono fun e W' ⟨he, hb⟩ => ?_
  subst he
  exact ⟨_, rfl, fin W' hb⟩

theorem laid_met (os : Os) : laidMet Tryd.prog Rows.purgelogNoneRow.laid ((Fr.laidWorld os).forCall (fun _ _ => 0) ⟨#[], #[.int .i64 0], []⟩).memory :=
  laidMet_of_run' 8 (by kernel_rfl) (by kernel_rfl)
theorem reads (os : Os) {H : Type} (enc : TypeId × Value → H) : ∃ places, DataW.whole enc Tryd.prog ((Fr.laidWorld os).forCall (fun _ _ => 0) ⟨#[], #[.int .i64 0], []⟩).memory Tryd.f9.params.toList Rows.purgelogNoneSpec.vars false (#[.int .i64 0] : Array Value).toList 8 = some ([.lit (.int .i64 0)], [], places) :=
  ⟨[], by kernel_rfl⟩

theorem lifted (os : Os) (started : os.Started) (H : Type) (enc : TypeId × Value → H) (F : Stop.Interp) :
    ReturnsInHanded {} Tryd.checked os 9 .any ((OpenSpec.ofChange Rows.purgelogNoneSpec).preRow enc Tryd.prog Tryd.f9 Rows.purgelogNoneRow.domain false Rows.purgelogNoneRow.laid) (((OpenSpec.ofChange Rows.purgelogNoneSpec).at F).post enc Tryd.prog Tryd.f9 false true false false) := by
  obtain ⟨places, hx⟩ := reads os enc
  refine returnsInHanded_of_row (C := Tryd.checked) (s := OpenSpec.ofChange Rows.purgelogNoneSpec) Fr.own started (by kernel_rfl) Tryd.func9
    (witness_row_at (enc := enc) (C := Tryd.checked) false (Fr.laidWorld os) #[.int .i64 0] rfl (by kernel_rfl) (by kernel_rfl) (by kernel_rfl)
      (OpenSpec.preRow_of_cond 8 hx (by kernel_rfl) (fun k hk => by cases hk) (by kernel_rfl) (laid_met os))) ?_
  intro W base args ds gs before hval hW _ hcond hsz _ hsh _
  exact contract H enc W base args ds gs before hval hW (by have h9 : (DataW.weightsEach Tryd.prog (Tryd.f9.params.toList ++ []) (ds ++ gs)).all (· ≤ reachBytes) = true := hsz; rw [List.append_nil] at h9; exact h9) (Fr.ready hsh)

theorem k_0 : Rows.purgelogNoneRow.wf (OpenSpec.ofChange (OpenSpec.ofChange Rows.purgelogNoneSpec).bare) = true := by kernel_rfl
theorem k_1 : laidOutB Tryd.prog = true := Fr.sf_laidOut
theorem k_2 : mapsRowed Tryd.prog = true := Fr.sf_mapsRowed
theorem k_3 : Tryd.f9.params.all (Tryd.prog.readableRec ·) = true := by kernel_rfl
theorem k_4 : namedTie Tryd.prog Rows.purgelogNoneRow.named (OpenSpec.ofChange Rows.purgelogNoneSpec).bare.vars = true := by kernel_rfl
theorem k_5 : (Rows.purgelogNoneRow.stops == []) = true := by kernel_rfl
theorem k_6 : (Tryd.prog.stops == []) = true := Fr.sf_stops
theorem k_7 : (Rows.purgelogNoneRow.knobs == []) = true := by kernel_rfl
theorem k_8 : (Tryd.prog.stopKnobs == []) = true := Fr.sf_stopKnobs
theorem k_9 : (Rows.purgelogNoneRow.inPlace == Tryd.prog.inPlace 9) = true := by kernel_rfl
theorem k_10 : (Rows.purgelogNoneRow.unfollowed == Tryd.prog.unfollowed 9) = true := by kernel_rfl
theorem k_11 : (Rows.purgelogNoneRow.recurses == Tryd.prog.recurses 9) = true := by kernel_rfl
theorem k_12 : (Rows.purgelogNoneRow.named == Tryd.prog.varsNamed 9) = true := by kernel_rfl
theorem k_13 : (Rows.purgelogNoneRow.maps == (Tryd.f9.params.toList ++ (OpenSpec.ofChange Rows.purgelogNoneSpec).bare.plain.varTypes Tryd.prog).any (Tryd.prog.mapsRec ·)) = true := by kernel_rfl
theorem k_14 : (Rows.purgelogNoneRow.ifaces == (Tryd.f9.params.toList ++ (OpenSpec.ofChange Rows.purgelogNoneSpec).bare.plain.varTypes Tryd.prog).any (Tryd.prog.ifacesRec ·)) = true := by kernel_rfl
theorem k_15 : (Rows.purgelogNoneRow.mapsOut == Tryd.prog.mapsAmong Tryd.f9.resultTypes.toList) = true := by kernel_rfl
theorem k_16 : (Rows.purgelogNoneRow.loops == (Tryd.f9.params.toList ++ (OpenSpec.ofChange Rows.purgelogNoneSpec).bare.plain.varTypes Tryd.prog).any (Tryd.prog.loopsFrom ·)) = true := by kernel_rfl
theorem k_17 : (Rows.purgelogNoneRow.wideKeys == (Tryd.f9.params.toList ++ (OpenSpec.ofChange Rows.purgelogNoneSpec).bare.plain.varTypes Tryd.prog ++ Tryd.f9.resultTypes.toList).any (Tryd.prog.wideKeysFrom ·)) = true := by kernel_rfl
theorem k_18 : (OpenSpec.ofChange Rows.purgelogNoneSpec).bare.vars.all (Tryd.prog.varReadable ·) = true := by kernel_rfl
theorem k_19 : Tryd.f9.resultTypes.all (fun t => Tryd.prog.readableRec t && decide (t < Tryd.prog.types.size)) = true := by kernel_rfl
theorem k_20 : (Rows.purgelogNoneRow.ifacesOut == Tryd.f9.resultTypes.toList.any (Tryd.prog.ifacesRec ·)) = true := by kernel_rfl
theorem k_21 : (Rows.purgelogNoneRow.loopsOut == Tryd.f9.resultTypes.toList.any (Tryd.prog.loopsFrom ·)) = true := by kernel_rfl
theorem k_22 : (Rows.purgelogNoneRow.plainKeys == Tryd.prog.plainKeys) = true := Fr.sf_plainKeys
theorem k_23 : Rows.purgelogNoneRow.shortTexts.isNone = true := by kernel_rfl
theorem k_24 : Tryd.prog.stopsHeard = true := Fr.sf_heard
theorem k_25 : Tryd.prog.mayEnter = true := Fr.sf_mayEnter
theorem k_26 : (Rows.purgelogNoneRow.lifted == Tryd.prog.liftsFinal) = true := Fr.sf_lifted
theorem k_27 : (Tryd.prog.make == some Rows.purgelogNoneRow.make) = true := Fr.sf_make
theorem k_28 : (Rows.purgelogNoneRow.kinds == (if Rows.purgelogNoneRow.domain.isEmpty then [] else Tryd.f9.params.toList.map fun t => match Tryd.prog.underlying t with | some (.int k) => some k | _ => none)) = true := by kernel_rfl
theorem k_29 : (Rows.purgelogNoneRow.pinned == Rows.purgelogNoneRow.pinnedBy) = true := by kernel_rfl
theorem k_30 : (Rows.purgelogNoneRow.veiled == (Tryd.f9.params.toList ++ (OpenSpec.ofChange Rows.purgelogNoneSpec).bare.plain.varTypes Tryd.prog ++ Tryd.f9.resultTypes.toList).any (Tryd.prog.veiledRec ·)) = true := by kernel_rfl
theorem k_31 : Rows.purgelogNoneRow.veiledFits Tryd.prog Tryd.f9.params.toList (Tryd.f9.params.toList ++ (OpenSpec.ofChange Rows.purgelogNoneSpec).bare.plain.varTypes Tryd.prog ++ Tryd.f9.resultTypes.toList) = true := by kernel_rfl
theorem closed : joinedFacts Tryd.prog 9 Tryd.f9 (OpenSpec.ofChange Rows.purgelogNoneSpec).bare Rows.purgelogNoneRow = true := Op.andT (Op.andT (Op.andT (Op.andT (Op.andT (Op.andT (Op.andT (Op.andT (Op.andT (Op.andT (Op.andT (Op.andT (Op.andT (Op.andT (Op.andT (Op.andT (Op.andT (Op.andT (Op.andT (Op.andT (Op.andT (Op.andT (Op.andT (Op.andT (Op.andT (Op.andT (Op.andT (Op.andT (Op.andT (Op.andT (Op.andT (k_0) k_1) k_2) k_3) k_4) k_5) k_6) k_7) k_8) k_9) k_10) k_11) k_12) k_13) k_14) k_15) k_16) k_17) k_18) k_19) k_20) k_21) k_22) k_23) k_24) k_25) k_26) k_27) k_28) k_29) k_30) k_31

theorem said : Rows.PurgelogNoneSaid :=
  OpenClaim.holds_of_cond 9 Tryd.f9 rfl rfl rfl rfl rfl rfl rfl ⟨rfl, rfl, rfl, rfl, rfl⟩ rfl rfl rfl rfl rfl (by kernel_rfl) Tryd.func9 closed
    (of_decide_eq_true (by kernel_rfl)) (by unfold Func.isWrapper; first | (rw [if_pos (by decide +kernel)]; kernel_rfl) | (rw [if_neg (by decide +kernel)]; exact ⟨rfl, rfl⟩))
    (fun os started H enc _ F => by rw [OpenClaim.pre_eq_preRow]; exact lifted os started H enc F)

theorem plain (b : Bool) (hb : b = Tryd.pinned.checked.prog.looks []) (f : FuncId) (fn : Func) (hf : Tryd.pinned.checked.prog.funcNamed "quayside/quaysidelaw37.PurgelogNone" = some f) (hfn : Tryd.pinned.checked.prog.funcs[f]? = some fn) :
    b = Tryd.pinned.checked.prog.looks [] ∧ ∀ (j : Nat) t, fn.params[j]? = some t → Tryd.pinned.checked.prog.wantsStandIn t = false := by
  obtain rfl : f = 9 := Option.some.inj ((show Tryd.prog.funcNamed "quayside/quaysidelaw37.PurgelogNone" = some 9 by kernel_rfl).symm.trans hf) |>.symm
  obtain rfl : fn = Tryd.f9 := (Option.some.inj (Tryd.func9.symm.trans hfn)).symm
  refine ⟨hb, fun j t ht => ?_⟩
  rw [Tryd.params9] at ht
  have hm : t ∈ [3] := by simpa using Array.mem_of_getElem? ht
  have hall : ([3].all fun u => !Tryd.prog.wantsStandIn u) = true := by kernel_rfl
  exact (show Tryd.prog.wantsStandIn t = false by simpa using List.all_eq_true.1 hall t hm)

theorem proved : Rows.PurgelogNoneCardSaid :=
  Claim7.holds_tied_plain_at .later [] _ _ _ _ said (fun _ h => by cases h) (by kernel_rfl) (fun _ h => by cases h) purgelogNone_row_tie rfl ⟨rfl, rfl⟩ (by kernel_rfl) rfl (plain _ (by kernel_rfl)) (by kernel_rfl)
#print axioms proved
end Go.Proofs.YtijjggbiljkalaaDoor.lawPurgelogNone
