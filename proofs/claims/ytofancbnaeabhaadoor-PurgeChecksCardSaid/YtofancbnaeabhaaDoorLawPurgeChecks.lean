/- PROVED: PurgeChecks returns true for every input and leaves its argument as it was. No condition beyond the statement's own (the listed variables read as the program's text lays them, which the card ties). -/
import Derived.Test.YtofancbnaeabhaaDoorFrame
import Derived.Test.YtofancbnaeabhaaDoorFrameW
import Derived.Test.YtofancbnaeabhaaDoorClosed
import Derived.Test.YtofancbnaeabhaaDoorPurg7
import Derived.Test.YtofancbnaeabhaaDoorOpen
import Derived.Deep.RegionHeld3
namespace Go.Proofs.YtofancbnaeabhaaDoor.lawPurgeChecks
open Go.ChangeShapes Go.WideShapes Go.ChangeAt Go.RowKit Pl Ad A1
open Go.ChangeMaps (open_string shut_string)
attribute [local go_sem] ba_get conv_one conv_one_drewN ba_append ba_extract
set_option maxRecDepth 100000
set_option maxHeartbeats 4000000
set_option linter.unusedVariables false


/-- A purge's variable, and the world below as it was. -/
structure PB (w : World) (k t : Int) (v : Bs) (w' : World) : Prop where
  bel : Below w.heap.size w w'
  box : Box3 w' w.heap.size 39 (.int .i64 k) (.int .i64 t) (.string ⟨v.toArray⟩)
theorem PB.keep {w : World} {k t : Int} {v : Bs} {w1 w2 : World} {N : Nat} (hb : Below N w1 w2) (hN : N = w1.heap.size) (s : PB w k t v w1) : PB w k t v w2 := by
  subst hN
  exact ⟨s.bel.trans (hb.mono s.bel.size), s.box.older hb⟩
theorem PB.drew {w : World} {k t : Int} {v : Bs} {w1 : World} (s : PB w k t v w1) : PB w k t v w1.drew := ⟨s.bel.drew, s.box⟩
theorem PB.newer {w : World} {k t : Int} {v : Bs} {w1 : World} (s : PB w k t v w1) (o : Obj) : PB w k t v (w1.alloc o) := s.keep ((Below.refl _ _).alloc (Nat.le_refl _) o) rfl
theorem PB.of {w : World} {k t : Int} {v : Bs} {w' : World} (s : w'.cell? ⟨w.heap.size, 0, none⟩ = some (.int .i64 k) ∧ w'.cell? ⟨w.heap.size, 1, none⟩ = some (.int .i64 t) ∧ w'.cell? ⟨w.heap.size, 2, none⟩ = some (.string ⟨v.toArray⟩) ∧ PB w k t v w') : PB w k t v w' := s.2.2.2
theorem PB.all {w : World} {k t : Int} {v : Bs} {w' : World} (s : PB w k t v w') : w'.cell? ⟨w.heap.size, 0, none⟩ = some (.int .i64 k) ∧ w'.cell? ⟨w.heap.size, 1, none⟩ = some (.int .i64 t) ∧ w'.cell? ⟨w.heap.size, 2, none⟩ = some (.string ⟨v.toArray⟩) ∧ PB w k t v w' := ⟨s.box.facts.1.1, s.box.facts.1.2.1, s.box.facts.1.2.2, s⟩

theorem walk_large (k t : Int) (v : Bs) (w : World) (hr : Ready w) (hw : WordsAt w) (h1 : v.length ≤ 140737488351232) (hl : ¬ v.length ≤ 1500) :
    Calls Tryd.prog 13 #[.agg #[.int .i64 k, .int .i64 t, .string ⟨v.toArray⟩]] w fun e w' => e = .returned (.bool true) ∧ Below w.heap.size w w' := by
  have hp : PB w k t v (w.alloc (.cells #[.int .i64 k, .int .i64 t, .string ⟨v.toArray⟩] 39)) := ⟨(Below.refl _ _).alloc (Nat.le_refl _) _, box3_new w 39 _ _ _⟩
  have HP := Lib.hid hp
  have HR := Lib.hid (hr.below hp.bel)
  have HW := Lib.hid (hw.below hp.bel)
  have HL := Lib.hid (decide_eq_false hl)
  clear hp
  go_enter Tryd.func13, Tryd.ntmps13
  go_wp2_with fail
  refine (awake36_any _ HR.out HW.out).mono ?_
  rintro e w1 ⟨rfl, hb1⟩
  have HP1 := Lib.hid (PB.keep hb1 rfl HP.out)
  obtain ⟨⟨c0, c1, c2⟩, _⟩ := HP1.out.box.facts
  go_wp2_with (first | (go_at_call 56; refine (small_any v _).mono ?_; rintro e w2 ⟨rfl, rfl⟩; rw [HL.out]) | (go_at_call 55; refine (awake36_any _ (hr.below HP1.out.bel) (hw.below HP1.out.bel)).mono ?_; rintro e w2 ⟨rfl, hb2⟩))
  go_ret
  exact ⟨rfl, HP1.out.bel.trans (hb2.mono HP1.out.bel.size)⟩

theorem walk_main (k t : Int) (v : Bs) (w : World) (hr : Ready w) (hw : WordsAt w) (hl : v.length ≤ 1500) :
    Calls Tryd.prog 13 #[.agg #[.int .i64 k, .int .i64 t, .string ⟨v.toArray⟩]] w fun e w' => e = .returned (.bool true) ∧ Below w.heap.size w w' := by
  have hp : PB w k t v (w.alloc (.cells #[.int .i64 k, .int .i64 t, .string ⟨v.toArray⟩] 39)) := ⟨(Below.refl _ _).alloc (Nat.le_refl _) _, box3_new w 39 _ _ _⟩
  have HP := Lib.hid hp
  have HR := Lib.hid (hr.below hp.bel)
  have HW := Lib.hid (hw.below hp.bel)
  have HL := Lib.hid (decide_eq_true hl)
  have HRA : Hid (∀ w', Below w.heap.size w w' → Ready w') := Lib.hid fun w' hb => hr.below hb
  have hl2 : v.length ≤ 134217728 := by omega
  clear hp
  go_enter Tryd.func13, Tryd.ntmps13
  go_wp2_with fail
  refine (awake36_any _ HR.out HW.out).mono ?_
  rintro e w1 ⟨rfl, hb1⟩
  have hP1 := PB.keep hb1 rfl HP.out
  obtain ⟨⟨c0, c1, c2⟩, _⟩ := hP1.box.facts
  clear hb1
  go_wp2_with (go_at_call 56; refine (small_any v _).mono ?_; rintro e w2 ⟨rfl, rfl⟩; rw [HL.out])
  clear c0 c1 c2
  go_region_held3 (fun w' => w'.cell? ⟨w.heap.size, 0, none⟩ = some (.int .i64 k) ∧ w'.cell? ⟨w.heap.size, 1, none⟩ = some (.int .i64 t) ∧ w'.cell? ⟨w.heap.size, 2, none⟩ = some (.string ⟨v.toArray⟩) ∧ PB w k t v w') ((refine PB.all ?_; (repeat (first | assumption | (refine PB.of ?_; assumption) | (with_reducible refine PB.drew ?_) | (with_reducible refine PB.newer ?_ _) | (with_reducible refine PB.keep hb9 rfl ?_)))))
    ((first
      | (go_at_call 24; with_reducible refine (of36_any ⟨k, t, v⟩ _).mono ?_; rintro e w9 ⟨rfl, hb9⟩)
      | (go_at_call 27; with_reducible refine (check_any ⟨k, t, v⟩ _ ?_ hl2).mono ?_; exact HRA.out _ (PB.bel (k := k) (t := t) (v := v) (by (repeat (first | assumption | (refine PB.of ?_; assumption) | (with_reducible refine PB.drew ?_) | (with_reducible refine PB.newer ?_ _) | (with_reducible refine PB.keep hb9 rfl ?_))))); rintro e w9 ⟨rfl, hb9⟩)
      | (go_at_call 26; with_reducible refine (num_chk ⟨k, t, v⟩ _).mono ?_; rintro e w9 ⟨rfl, rfl⟩)
      | (go_at_call 57; with_reducible refine (refCheck_any ⟨k, t, v⟩ _ hl2).mono ?_; rintro e w9 ⟨rfl, hb9⟩)))
  all_goals
    go_wp2_with fail
    go_ret
    refine ⟨ret_bool' (by simp), PB.bel (k := k) (t := t) (v := v) ?_⟩
    (repeat (first | assumption | (refine PB.of ?_; assumption) | (with_reducible refine PB.drew ?_) | (with_reducible refine PB.newer ?_ _) | (with_reducible refine PB.keep hb9 rfl ?_)))

theorem walk (p : Pg) (w : World) (hr : Ready w) (hw : WordsAt w) (h1 : p.value.length ≤ 140737488351232) :
    Calls Tryd.prog 13 #[pgV p] w fun e w' => e = .returned (.bool true) ∧ Below w.heap.size w w' := by
  obtain ⟨k, t, v⟩ := p
  simp only at h1
  by_cases hl : v.length ≤ 1500
  · exact walk_main k t v w hr hw hl
  · exact walk_large k t v w hr hw h1 hl

/-- What the walk gives, for every argument. -/
theorem contract (H : Type) (enc : TypeId × Value → H) (W : World) (base : Nat) (args : Array Value) (ds gs : List (DataW H)) (before : List MemPlace)
    (hval : ∀ (j : Nat) t v, Tryd.f13.params[j]? = some t → args[j]? = some v → Value.okWide Tryd.prog W .any base t v)
    (hW : DataW.Whole enc Tryd.prog Tryd.f13.params.toList Rows.purgeChecksSpec.vars false W args.toList ds gs before) (hsz : (DataW.weightsEach Tryd.prog Tryd.f13.params.toList (ds ++ gs)).all (· ≤ reachBytes) = true) (hr : Ready W) (hw : A1.WordsAt W) :
    Calls Tryd.prog 13 args W fun e W' => ∃ v, e = .returned v ∧ Rows.purgeChecksSpec.post enc Tryd.prog Tryd.f13 false true false false W args v W' := by
  have hW' := hW
  have hlt := fun p hp => hW.lt p hp
  obtain ⟨p, q, hA0, hV, rfl, hfz, hnd⟩ := hW
  have hA : DataW.TrodAll enc Tryd.prog W 0 (fun _ => true) true Tryd.f13.params.toList args.toList ds p := hA0
  have hA1 := hA
  obtain ⟨rfl, rfl⟩ := trodVars_none hV
  rw [Tryd.params13] at hA hval
  obtain ⟨v0, vs0, d0, ds0, p0, q0, hargs, rfl, rfl, h0, r0⟩ := trodAll_cons hA
  obtain ⟨rfl, rfl, rfl⟩ := trodAll_nil r0
  obtain rfl : args = #[v0] := by cases args; simp_all
  have fin : ∀ W', Below W.heap.size W W' → Rows.purgeChecksSpec.post enc Tryd.prog Tryd.f13 false true false false W #[v0] (.bool true) W' := fun W' hb => by
    simp only [List.append_nil] at hA1 hW' hlt
    exact ⟨_, _, _, [], _, [], hW', trodAll_cons_mk (shut_bool Tryd.underlying4 _) trodAll_mk0, Fr.trodAll_below (by kernel_rfl) _ (by kernel_rfl) hA1 hb hlt, rfl, hb.frame _, fun h => by cases h⟩
  clear hW' hA0 hA1 hlt
  rw [Tryd.params13, List.append_nil] at hsz
  obtain ⟨c0, c1, c2, y0, y1, y2, m, rfl, rfl, rfl, hy0, hy1, hy2⟩ := Go.Joins.open_agg3 Tryd.underlying39 (by kernel_rfl) (show Tryd.prog.cellsOf 39 = 3 by kernel_rfl) (hval 0 39 v0 rfl rfl) h0
  obtain ⟨n0, e0, rfl, _⟩ := DataW.trod_int Tryd.underlying3 hy0
  obtain ⟨t0, e1, rfl, _⟩ := DataW.trod_int Tryd.underlying3 hy1
  obtain ⟨s0, e2, rfl, _⟩ := DataW.trod_string Tryd.underlying9 hy2
  simp only [List.cons.injEq, and_true] at e0 e1 e2
  subst e0 e1 e2
  obtain ⟨⟨l0⟩⟩ := s0
  have z0 : l0.length ≤ 140737488351232 := Op.sized_pg hsz (j := 0) rfl rfl Tryd.underlying39
  refine  (walk ⟨n0, t0, l0⟩ W hr hw z0).mono fun e W' ⟨he, hb⟩ => ?_
  subst he
  exact ⟨_, rfl, fin W' hb⟩

theorem laid_met (os : Os) : laidMet Tryd.prog Rows.purgeChecksRow.laid ((Fr.laidW Rows.purgeChecksRow.laid os).forCall (fun _ _ => 0) ⟨#[], #[.agg #[.int .i64 0, .int .i64 0, .string ⟨#[]⟩]], []⟩).memory :=
  laidMet_of_run' 8 (by kernel_rfl) (by kernel_rfl)
theorem reads (os : Os) {H : Type} (enc : TypeId × Value → H) : ∃ places, DataW.whole enc Tryd.prog ((Fr.laidW Rows.purgeChecksRow.laid os).forCall (fun _ _ => 0) ⟨#[], #[.agg #[.int .i64 0, .int .i64 0, .string ⟨#[]⟩]], []⟩).memory Tryd.f13.params.toList Rows.purgeChecksSpec.vars false (#[.agg #[.int .i64 0, .int .i64 0, .string ⟨#[]⟩]] : Array Value).toList 8 = some ([.agg [.lit (.int .i64 0), .lit (.int .i64 0), .lit (.string [])]], [], places) :=
  ⟨[], by kernel_rfl⟩

theorem lifted (os : Os) (started : os.Started) (H : Type) (enc : TypeId × Value → H) (F : Stop.Interp) :
    ReturnsInHanded {} Tryd.checked os 13 .any ((OpenSpec.ofChange Rows.purgeChecksSpec).preRow enc Tryd.prog Tryd.f13 Rows.purgeChecksRow.domain false Rows.purgeChecksRow.laid) (((OpenSpec.ofChange Rows.purgeChecksSpec).at F).post enc Tryd.prog Tryd.f13 false true false false) := by
  obtain ⟨places, hx⟩ := reads os enc
  refine returnsInHanded_of_row (C := Tryd.checked) (s := OpenSpec.ofChange Rows.purgeChecksSpec) Fr.own started (by kernel_rfl) Tryd.func13
    (witness_row_at (enc := enc) (C := Tryd.checked) false (Fr.laidW Rows.purgeChecksRow.laid os) #[.agg #[.int .i64 0, .int .i64 0, .string ⟨#[]⟩]] rfl (by kernel_rfl) (by kernel_rfl) (by kernel_rfl)
      (OpenSpec.preRow_of_cond 8 hx (by kernel_rfl) (fun k hk => by cases hk) (by kernel_rfl) (laid_met os))) ?_
  intro W base args ds gs before hval hW _ hcond hsz hlaid hsh _
  exact contract H enc W base args ds gs before hval hW (by have h9 : (DataW.weightsEach Tryd.prog (Tryd.f13.params.toList ++ []) (ds ++ gs)).all (· ≤ reachBytes) = true := hsz; rw [List.append_nil] at h9; exact h9) (Fr.ready hsh) (Fr.words_laid hlaid (by kernel_rfl) (by repeat first | exact List.mem_cons_self .. | apply List.mem_cons_of_mem))

theorem k_0 : Rows.purgeChecksRow.wf (OpenSpec.ofChange (OpenSpec.ofChange Rows.purgeChecksSpec).bare) = true := by kernel_rfl
theorem k_1 : laidOutB Tryd.prog = true := Fr.sf_laidOut
theorem k_2 : mapsRowed Tryd.prog = true := Fr.sf_mapsRowed
theorem k_3 : Tryd.f13.params.all (Tryd.prog.readableRec ·) = true := by kernel_rfl
theorem k_4 : namedTie Tryd.prog Rows.purgeChecksRow.named (OpenSpec.ofChange Rows.purgeChecksSpec).bare.vars = true := by kernel_rfl
theorem k_5 : (Rows.purgeChecksRow.stops == []) = true := by kernel_rfl
theorem k_6 : (Tryd.prog.stops == []) = true := Fr.sf_stops
theorem k_7 : (Rows.purgeChecksRow.knobs == []) = true := by kernel_rfl
theorem k_8 : (Tryd.prog.stopKnobs == []) = true := Fr.sf_stopKnobs
theorem k_9 : (Rows.purgeChecksRow.inPlace == Tryd.prog.inPlace 13) = true := by kernel_rfl
theorem k_10 : (Rows.purgeChecksRow.unfollowed == Tryd.prog.unfollowed 13) = true := by kernel_rfl
theorem k_11 : (Rows.purgeChecksRow.recurses == Tryd.prog.recurses 13) = true := by kernel_rfl
theorem k_12 : (Rows.purgeChecksRow.named == Tryd.prog.varsNamed 13) = true := by kernel_rfl
theorem k_13 : (Rows.purgeChecksRow.maps == (Tryd.f13.params.toList ++ (OpenSpec.ofChange Rows.purgeChecksSpec).bare.plain.varTypes Tryd.prog).any (Tryd.prog.mapsRec ·)) = true := by kernel_rfl
theorem k_14 : (Rows.purgeChecksRow.ifaces == (Tryd.f13.params.toList ++ (OpenSpec.ofChange Rows.purgeChecksSpec).bare.plain.varTypes Tryd.prog).any (Tryd.prog.ifacesRec ·)) = true := by kernel_rfl
theorem k_15 : (Rows.purgeChecksRow.mapsOut == Tryd.prog.mapsAmong Tryd.f13.resultTypes.toList) = true := by kernel_rfl
theorem k_16 : (Rows.purgeChecksRow.loops == (Tryd.f13.params.toList ++ (OpenSpec.ofChange Rows.purgeChecksSpec).bare.plain.varTypes Tryd.prog).any (Tryd.prog.loopsFrom ·)) = true := by kernel_rfl
theorem k_17 : (Rows.purgeChecksRow.wideKeys == (Tryd.f13.params.toList ++ (OpenSpec.ofChange Rows.purgeChecksSpec).bare.plain.varTypes Tryd.prog ++ Tryd.f13.resultTypes.toList).any (Tryd.prog.wideKeysFrom ·)) = true := by kernel_rfl
theorem k_18 : (OpenSpec.ofChange Rows.purgeChecksSpec).bare.vars.all (Tryd.prog.varReadable ·) = true := by kernel_rfl
theorem k_19 : Tryd.f13.resultTypes.all (fun t => Tryd.prog.readableRec t && decide (t < Tryd.prog.types.size)) = true := by kernel_rfl
theorem k_20 : (Rows.purgeChecksRow.ifacesOut == Tryd.f13.resultTypes.toList.any (Tryd.prog.ifacesRec ·)) = true := by kernel_rfl
theorem k_21 : (Rows.purgeChecksRow.loopsOut == Tryd.f13.resultTypes.toList.any (Tryd.prog.loopsFrom ·)) = true := by kernel_rfl
theorem k_22 : (Rows.purgeChecksRow.plainKeys == Tryd.prog.plainKeys) = true := Fr.sf_plainKeys
theorem k_23 : Rows.purgeChecksRow.shortTexts.isNone = true := by kernel_rfl
theorem k_24 : Tryd.prog.stopsHeard = true := Fr.sf_heard
theorem k_25 : Tryd.prog.mayEnter = true := Fr.sf_mayEnter
theorem k_26 : (Rows.purgeChecksRow.lifted == Tryd.prog.liftsFinal) = true := Fr.sf_lifted
theorem k_27 : (Tryd.prog.make == some Rows.purgeChecksRow.make) = true := Fr.sf_make
theorem k_28 : (Rows.purgeChecksRow.kinds == (if Rows.purgeChecksRow.domain.isEmpty then [] else Tryd.f13.params.toList.map fun t => match Tryd.prog.underlying t with | some (.int k) => some k | _ => none)) = true := by kernel_rfl
theorem k_29 : (Rows.purgeChecksRow.pinned == Rows.purgeChecksRow.pinnedBy) = true := by kernel_rfl
theorem k_30 : (Rows.purgeChecksRow.veiled == (Tryd.f13.params.toList ++ (OpenSpec.ofChange Rows.purgeChecksSpec).bare.plain.varTypes Tryd.prog ++ Tryd.f13.resultTypes.toList).any (Tryd.prog.veiledRec ·)) = true := by kernel_rfl
theorem k_31 : Rows.purgeChecksRow.veiledFits Tryd.prog Tryd.f13.params.toList (Tryd.f13.params.toList ++ (OpenSpec.ofChange Rows.purgeChecksSpec).bare.plain.varTypes Tryd.prog ++ Tryd.f13.resultTypes.toList) = true := by kernel_rfl
theorem closed : joinedFacts Tryd.prog 13 Tryd.f13 (OpenSpec.ofChange Rows.purgeChecksSpec).bare Rows.purgeChecksRow = true := Op.andT (Op.andT (Op.andT (Op.andT (Op.andT (Op.andT (Op.andT (Op.andT (Op.andT (Op.andT (Op.andT (Op.andT (Op.andT (Op.andT (Op.andT (Op.andT (Op.andT (Op.andT (Op.andT (Op.andT (Op.andT (Op.andT (Op.andT (Op.andT (Op.andT (Op.andT (Op.andT (Op.andT (Op.andT (Op.andT (Op.andT (k_0) k_1) k_2) k_3) k_4) k_5) k_6) k_7) k_8) k_9) k_10) k_11) k_12) k_13) k_14) k_15) k_16) k_17) k_18) k_19) k_20) k_21) k_22) k_23) k_24) k_25) k_26) k_27) k_28) k_29) k_30) k_31

theorem said : Rows.PurgeChecksSaid :=
  OpenClaim.holds_of_cond 13 Tryd.f13 rfl rfl rfl rfl rfl rfl rfl ⟨rfl, rfl, rfl, rfl, rfl⟩ rfl rfl rfl rfl rfl (by kernel_rfl) Tryd.func13 closed
    (of_decide_eq_true (by kernel_rfl)) (by unfold Func.isWrapper; first | (rw [if_pos (by decide +kernel)]; kernel_rfl) | (rw [if_neg (by decide +kernel)]; exact ⟨rfl, rfl⟩))
    (fun os started H enc _ F => by rw [OpenClaim.pre_eq_preRow]; exact lifted os started H enc F)

theorem plain (f : FuncId) (fn : Func) (hf : Tryd.pinned.checked.prog.funcNamed "quayside/quaysidelaw36.PurgeChecks" = some f) (hfn : Tryd.pinned.checked.prog.funcs[f]? = some fn) :
    true = Tryd.pinned.checked.prog.looks [] ∧ ∀ (j : Nat) t, fn.params[j]? = some t → Tryd.pinned.checked.prog.wantsStandIn t = false := by
  obtain rfl : f = 13 := Option.some.inj ((show Tryd.prog.funcNamed "quayside/quaysidelaw36.PurgeChecks" = some 13 by kernel_rfl).symm.trans hf) |>.symm
  obtain rfl : fn = Tryd.f13 := (Option.some.inj (Tryd.func13.symm.trans hfn)).symm
  refine ⟨by kernel_rfl, fun j t ht => ?_⟩
  rw [Tryd.params13] at ht
  have hm : t ∈ [39] := by simpa using Array.mem_of_getElem? ht
  have hall : ([39].all fun u => !Tryd.prog.wantsStandIn u) = true := by kernel_rfl
  exact (show Tryd.prog.wantsStandIn t = false by simpa using List.all_eq_true.1 hall t hm)

theorem proved : Rows.PurgeChecksCardSaid :=
  Claim7.holds_tied_plain_at .later [] _ _ _ _ said (fun _ h => by cases h) (by kernel_rfl) (fun _ h => by cases h) purgeChecks_row_tie rfl ⟨rfl, rfl⟩ (by kernel_rfl) rfl plain (by kernel_rfl)
#print axioms proved
end Go.Proofs.YtofancbnaeabhaaDoor.lawPurgeChecks
