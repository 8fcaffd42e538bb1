/- PROVED: HistoryFormats returns true for every list of violations of the statement's size, and leaves its arguments as they were. No condition beyond the statement's own (the listed variables read as the program's text lays them, which the card ties). -/
import Derived.Test.YtjijijjkkhpjnaaGreatDoorQfA
import Derived.Test.YtjijijjkkhpjnaaGreatDoorQfG
import Derived.Test.YtjijijjkkhpjnaaGreatDoorQfL
import Derived.Test.YtjijijjkkhpjnaaGreatDoorQfM
namespace Go.Proofs.YtjijijjkkhpjnaaGreatDoor.lawHistoryFormats
open Go.ChangeShapes Go.WideShapes Go.ChangeAt Go.RowKit Pl Ad A1 Hy Kr
open Go.ChangeMaps (open_string shut_string)
attribute [local go_sem] ba_get conv_one conv_one_drewN ba_append ba_extract
set_option maxRecDepth 100000
set_option maxHeartbeats 4000000
set_option linter.unusedVariables false
set_option linter.unusedSimpArgs false

theorem walk (l : List VioM) (v : Value) (w : World) (hr : Ready w) (hp : Hy.FmtAt w) (hx : RowsV vioR 3 w v l) (ha : ∀ x ∈ l, VioAt 1048576 x) (hll : l.length ≤ 1048576) :
    Calls Tryz.prog 12 #[v] w fun e w' => e = .returned (.bool true) ∧ Below w.heap.size w w' := by
  obtain ⟨va, vc, rfl, _⟩ := hx.form
  have HX := Lib.hid hx
  have HA := Lib.hid ha
  have HRY := Lib.hid hr
  have HPW := Lib.hid hp.par
  have HTB := Lib.hid hp.tab
  clear hx ha hr hp
  obtain ⟨n, hn⟩ : ∃ z, l.length = z := ⟨_, rfl⟩
  have HN := Lib.hid hn
  by_cases h50 : n ≤ 50
  · have l1 : ¬ ((50 : Int) < (n : Int)) := by omega
    have l2 : decide ((50 : Int) < (n : Int)) = false := decide_eq_false l1
    have l3 : decide (50 < n) = false := decide_eq_false (by omega)
    rw [hn] at HX hll ⊢
    clear hn
    go_enter Tryz.func12, Tryz.ntmps12
    go_wp2_with fail
    refine (awake58_any _ HRY.out HPW.out).mono ?_
    rintro e w1 ⟨rfl, hb1⟩
    have HB1 := Lib.hid hb1
    clear hb1
    go_wp2_with fail
    refine (hformat_any l _ _ (HX.out.below HB1.out) (by rw [HN.out]; exact h50) HA.out (HTB.out.below HB1.out)).mono ?_
    rintro e w2 ⟨rfl, hb2⟩
    have HB2 := Lib.hid (HB1.out.trans (hb2.mono HB1.out.size))
    clear hb2
    go_wp2_with fail
    refine (rformat_any l _ _ (HX.out.below HB2.out) (by rw [HN.out]; exact h50) HA.out).mono ?_
    rintro e w3 ⟨rfl, hb3⟩
    have HB3 := Lib.hid (HB2.out.trans (hb3.mono HB2.out.size))
    clear hb3
    go_wp2_with fail
    go_ret
    exact ⟨by simp [Act.put, go_sem], HB3.out⟩
  · have l1 : (50 : Int) < (n : Int) := by omega
    have l2 : decide ((50 : Int) < (n : Int)) = true := decide_eq_true l1
    have l3 : decide (50 < n) = true := decide_eq_true (by omega)
    rw [hn] at HX hll ⊢
    clear hn
    go_enter Tryz.func12, Tryz.ntmps12
    go_wp2_with fail
    refine (awake58_any _ HRY.out HPW.out).mono ?_
    rintro e w1 ⟨rfl, hb1⟩
    have HB1 := Lib.hid hb1
    clear hb1
    go_wp2_with fail
    go_ret
    exact ⟨rfl, HB1.out⟩

/-- What the walk gives, for every argument. -/
theorem contract (H : Type) (enc : TypeId × Value → H) (W : World) (base : Nat) (args : Array Value) (ds gs : List (DataW H)) (before : List MemPlace)
    (hval : ∀ (j : Nat) t v, Tryz.f12.params[j]? = some t → args[j]? = some v → Value.okWide Tryz.prog W .any base t v)
    (hW : DataW.Whole enc Tryz.prog Tryz.f12.params.toList Rows.historyFormatsSpec.vars false W args.toList ds gs before) (hsz : (DataW.weightsEach Tryz.prog Tryz.f12.params.toList (ds ++ gs)).all (· ≤ reachBytes) = true) (hr : Ready W) (hw : Hy.FmtAt W) (hk : Rows.uptoSmall H (ds ++ gs) = true) :
    Calls Tryz.prog 12 args W fun e W' => ∃ v, e = .returned v ∧ Rows.historyFormatsSpec.post enc Tryz.prog Tryz.f12 false true false false W args v W' := by
  have hW' := hW
  have hlt := fun p hp => hW.lt p hp
  obtain ⟨p, q, hA0, hV, rfl, hfz, hnd⟩ := hW
  have hA : DataW.TrodAll enc Tryz.prog W 0 (fun _ => true) true Tryz.f12.params.toList args.toList ds p := hA0
  have hA1 := hA
  obtain ⟨rfl, rfl⟩ := trodVars_none hV
  rw [Tryz.params12] at hA hval
  obtain ⟨v0, vs0, d0, ds0, p0, q0, hargs, rfl, rfl, h0, r0⟩ := trodAll_cons hA
  obtain ⟨rfl, rfl, rfl⟩ := trodAll_nil r0
  obtain rfl : args = #[v0] := by cases args; simp_all
  have fin : ∀ W', Below W.heap.size W W' → Rows.historyFormatsSpec.post enc Tryz.prog Tryz.f12 false true false false W #[v0] (.bool true) W' := fun W' hb => by
    simp only [List.append_nil] at hA1 hW' hlt
    exact ⟨_, _, _, [], _, [], hW', trodAll_cons_mk (shut_bool Tryz.underlying4 _) trodAll_mk0, Fr.trodAll_below (by kernel_rfl) _ (by kernel_rfl) hA1 hb hlt, rfl, hb.frame _, fun h => by cases h⟩
  clear hW' hA0 hA1 hlt
  rw [Tryz.params12, List.append_nil] at hsz
  have hb0 : Rows.uptoBulk d0 ≤ 1048576 := by
    have hbulk := of_decide_eq_true hk
    simp only [Rows.uptoBulkAll, List.cons_append, List.nil_append] at hbulk
    omega
  obtain ⟨ua0, ul0, uc0, rfl⟩ := okWide_slice Tryz.underlying72 (hval 0 72 v0 rfl rfl)
  obtain ⟨fu0, hf0⟩ := h0
  obtain ⟨xs0, hx0, hl0, ha0⟩ := Hy.vios_trodB hf0 hb0
  refine  (walk xs0 (.slice ua0 ul0 uc0) W hr hw hx0 ha0 hl0).mono fun e W' ⟨he, hb⟩ => ?_
  subst he
  exact ⟨_, rfl, fin W' hb⟩

theorem laid_met (os : Os) : laidMet Tryz.prog Rows.historyFormatsUptoRow.laid ((Fr.laidE Rows.historyFormatsUptoRow.laid os).forCall (fun _ _ => 0) ⟨#[], #[.slice none 0 0], []⟩).memory :=
  laidMet_of_run' 8 (by kernel_rfl) (by kernel_rfl)
theorem reads (os : Os) {H : Type} (enc : TypeId × Value → H) : ∃ places, DataW.whole enc Tryz.prog ((Fr.laidE Rows.historyFormatsUptoRow.laid os).forCall (fun _ _ => 0) ⟨#[], #[.slice none 0 0], []⟩).memory Tryz.f12.params.toList Rows.historyFormatsSpec.vars false (#[.slice none 0 0] : Array Value).toList 8 = some ([.nil], [], places) :=
  ⟨[], by kernel_rfl⟩

theorem lifted (os : Os) (started : os.Started) (H : Type) (enc : TypeId × Value → H) (F : Stop.Interp) :
    ReturnsInHanded {} Tryz.checked os 12 .any ((Rows.OpenSpec.upto Rows.historyFormatsSpec).preRow enc Tryz.prog Tryz.f12 Rows.historyFormatsUptoRow.domain false Rows.historyFormatsUptoRow.laid) (((Rows.OpenSpec.upto Rows.historyFormatsSpec).at F).post enc Tryz.prog Tryz.f12 false true false false) := by
  obtain ⟨places, hx⟩ := reads os enc
  refine returnsInHanded_of_row (C := Tryz.checked) (s := Rows.OpenSpec.upto Rows.historyFormatsSpec) Fr.own started (by kernel_rfl) Tryz.func12
    (witness_row_at (enc := enc) (C := Tryz.checked) false (Fr.laidE Rows.historyFormatsUptoRow.laid os) #[.slice none 0 0] rfl (by kernel_rfl) (by kernel_rfl) (by kernel_rfl)
      (OpenSpec.preRow_of_cond 8 hx (by kernel_rfl) (fun k hk => by cases hk; kernel_rfl) (by kernel_rfl) (laid_met os))) ?_
  intro W base args ds gs before hval hW _ hcond hsz hlaid hsh _
  exact contract H enc W base args ds gs before hval hW (by have h9 : (DataW.weightsEach Tryz.prog (Tryz.f12.params.toList ++ []) (ds ++ gs)).all (· ≤ reachBytes) = true := hsz; rw [List.append_nil] at h9; exact h9) (Fr.ready hsh) (Fr.fmt_laid hlaid (by kernel_rfl) (by repeat first | exact List.mem_cons_self .. | apply List.mem_cons_of_mem) (by repeat first | exact List.mem_cons_self .. | apply List.mem_cons_of_mem) (by repeat first | exact List.mem_cons_self .. | apply List.mem_cons_of_mem) (by repeat first | exact List.mem_cons_self .. | apply List.mem_cons_of_mem)) (hcond _ rfl)

theorem k_0 : Rows.historyFormatsUptoRow.wf (OpenSpec.ofChange (Rows.OpenSpec.upto Rows.historyFormatsSpec).bare) = true := by kernel_rfl
theorem k_1 : laidOutB Tryz.prog = true := Fr.sf_laidOut
theorem k_2 : mapsRowed Tryz.prog = true := Fr.sf_mapsRowed
theorem k_3 : Tryz.f12.params.all (Tryz.prog.readableRec ·) = true := by kernel_rfl
theorem k_4 : namedTie Tryz.prog Rows.historyFormatsUptoRow.named (Rows.OpenSpec.upto Rows.historyFormatsSpec).bare.vars = true := by kernel_rfl
theorem k_5 : (Rows.historyFormatsUptoRow.stops == []) = true := by kernel_rfl
theorem k_6 : (Tryz.prog.stops == []) = true := Fr.sf_stops
theorem k_7 : (Rows.historyFormatsUptoRow.knobs == []) = true := by kernel_rfl
theorem k_8 : (Tryz.prog.stopKnobs == []) = true := Fr.sf_stopKnobs
theorem k_9 : (Rows.historyFormatsUptoRow.inPlace == Tryz.prog.inPlace 12) = true := by kernel_rfl
theorem k_10 : (Rows.historyFormatsUptoRow.unfollowed == Tryz.prog.unfollowed 12) = true := by kernel_rfl
theorem k_11 : (Rows.historyFormatsUptoRow.recurses == Tryz.prog.recurses 12) = true := by kernel_rfl
theorem k_12 : (Rows.historyFormatsUptoRow.named == Tryz.prog.varsNamed 12) = true := by kernel_rfl
theorem k_13 : (Rows.historyFormatsUptoRow.maps == (Tryz.f12.params.toList ++ (Rows.OpenSpec.upto Rows.historyFormatsSpec).bare.plain.varTypes Tryz.prog).any (Tryz.prog.mapsRec ·)) = true := by kernel_rfl
theorem k_14 : (Rows.historyFormatsUptoRow.ifaces == (Tryz.f12.params.toList ++ (Rows.OpenSpec.upto Rows.historyFormatsSpec).bare.plain.varTypes Tryz.prog).any (Tryz.prog.ifacesRec ·)) = true := by kernel_rfl
theorem k_15 : (Rows.historyFormatsUptoRow.mapsOut == Tryz.prog.mapsAmong Tryz.f12.resultTypes.toList) = true := by kernel_rfl
theorem k_16 : (Rows.historyFormatsUptoRow.loops == (Tryz.f12.params.toList ++ (Rows.OpenSpec.upto Rows.historyFormatsSpec).bare.plain.varTypes Tryz.prog).any (Tryz.prog.loopsFrom ·)) = true := by kernel_rfl
theorem k_17 : (Rows.historyFormatsUptoRow.wideKeys == (Tryz.f12.params.toList ++ (Rows.OpenSpec.upto Rows.historyFormatsSpec).bare.plain.varTypes Tryz.prog ++ Tryz.f12.resultTypes.toList).any (Tryz.prog.wideKeysFrom ·)) = true := by kernel_rfl
theorem k_18 : (Rows.OpenSpec.upto Rows.historyFormatsSpec).bare.vars.all (Tryz.prog.varReadable ·) = true := by kernel_rfl
theorem k_19 : Tryz.f12.resultTypes.all (fun t => Tryz.prog.readableRec t && decide (t < Tryz.prog.types.size)) = true := by kernel_rfl
theorem k_20 : (Rows.historyFormatsUptoRow.ifacesOut == Tryz.f12.resultTypes.toList.any (Tryz.prog.ifacesRec ·)) = true := by kernel_rfl
theorem k_21 : (Rows.historyFormatsUptoRow.loopsOut == Tryz.f12.resultTypes.toList.any (Tryz.prog.loopsFrom ·)) = true := by kernel_rfl
theorem k_22 : (Rows.historyFormatsUptoRow.plainKeys == Tryz.prog.plainKeys) = true := Fr.sf_plainKeys
theorem k_23 : Rows.historyFormatsUptoRow.shortTexts.isNone = true := by kernel_rfl
theorem k_24 : Tryz.prog.stopsHeard = true := Fr.sf_heard
theorem k_25 : Tryz.prog.mayEnter = true := Fr.sf_mayEnter
theorem k_26 : (Rows.historyFormatsUptoRow.lifted == Tryz.prog.liftsFinal) = true := Fr.sf_lifted
theorem k_27 : (Tryz.prog.make == some Rows.historyFormatsUptoRow.make) = true := Fr.sf_make
theorem k_28 : (Rows.historyFormatsUptoRow.kinds == (if Rows.historyFormatsUptoRow.domain.isEmpty then [] else Tryz.f12.params.toList.map fun t => match Tryz.prog.underlying t with | some (.int k) => some k | _ => none)) = true := by kernel_rfl
theorem k_29 : (Rows.historyFormatsUptoRow.pinned == Rows.historyFormatsUptoRow.pinnedBy) = true := by kernel_rfl
theorem k_30 : (Rows.historyFormatsUptoRow.veiled == (Tryz.f12.params.toList ++ (Rows.OpenSpec.upto Rows.historyFormatsSpec).bare.plain.varTypes Tryz.prog ++ Tryz.f12.resultTypes.toList).any (Tryz.prog.veiledRec ·)) = true := by kernel_rfl
theorem k_31 : Rows.historyFormatsUptoRow.veiledFits Tryz.prog Tryz.f12.params.toList (Tryz.f12.params.toList ++ (Rows.OpenSpec.upto Rows.historyFormatsSpec).bare.plain.varTypes Tryz.prog ++ Tryz.f12.resultTypes.toList) = true := by kernel_rfl
theorem closed : joinedFacts Tryz.prog 12 Tryz.f12 (Rows.OpenSpec.upto Rows.historyFormatsSpec).bare Rows.historyFormatsUptoRow = true := Op.andT (Op.andT (Op.andT (Op.andT (Op.andT (Op.andT (Op.andT (Op.andT (Op.andT (Op.andT (Op.andT (Op.andT (Op.andT (Op.andT (Op.andT (Op.andT (Op.andT (Op.andT (Op.andT (Op.andT (Op.andT (Op.andT (Op.andT (Op.andT (Op.andT (Op.andT (Op.andT (Op.andT (Op.andT (Op.andT (Op.andT (k_0) k_1) k_2) k_3) k_4) k_5) k_6) k_7) k_8) k_9) k_10) k_11) k_12) k_13) k_14) k_15) k_16) k_17) k_18) k_19) k_20) k_21) k_22) k_23) k_24) k_25) k_26) k_27) k_28) k_29) k_30) k_31

theorem said : Rows.HistoryFormatsUptoSaid :=
  OpenClaim.holds_of_cond 12 Tryz.f12 rfl rfl rfl rfl rfl rfl rfl ⟨rfl, rfl, rfl, rfl, rfl⟩ rfl rfl rfl rfl rfl (by kernel_rfl) Tryz.func12 closed
    (of_decide_eq_true (by kernel_rfl)) (by unfold Func.isWrapper; first | (rw [if_pos (by decide +kernel)]; kernel_rfl) | (rw [if_neg (by decide +kernel)]; exact ⟨rfl, rfl⟩))
    (fun os started H enc _ F => by rw [OpenClaim.pre_eq_preRow]; exact lifted os started H enc F)

theorem plain (b : Bool) (hb : b = Tryz.pinned.checked.prog.looks []) (f : FuncId) (fn : Func) (hf : Tryz.pinned.checked.prog.funcNamed "quayside/quaysidelaw58.HistoryFormats" = some f) (hfn : Tryz.pinned.checked.prog.funcs[f]? = some fn) :
    b = Tryz.pinned.checked.prog.looks [] ∧ ∀ (j : Nat) t, fn.params[j]? = some t → Tryz.pinned.checked.prog.wantsStandIn t = false := by
  obtain rfl : f = 12 := Option.some.inj ((show Tryz.prog.funcNamed "quayside/quaysidelaw58.HistoryFormats" = some 12 by kernel_rfl).symm.trans hf) |>.symm
  obtain rfl : fn = Tryz.f12 := (Option.some.inj (Tryz.func12.symm.trans hfn)).symm
  refine ⟨hb, fun j t ht => ?_⟩
  rw [Tryz.params12] at ht
  have hm : t ∈ [72] := by simpa using Array.mem_of_getElem? ht
  have hall : ([72].all fun u => !Tryz.prog.wantsStandIn u) = true := by kernel_rfl
  exact (show Tryz.prog.wantsStandIn t = false by simpa using List.all_eq_true.1 hall t hm)

theorem proved : Rows.HistoryFormatsUptoCardSaid :=
  Claim7.holds_tied_plain_at .later [] _ _ _ _ said (fun _ h => by cases h) (by kernel_rfl) (fun _ h => by cases h) historyFormatsUpto_row_tie rfl ⟨rfl, rfl⟩ (by kernel_rfl) rfl (plain _ (by kernel_rfl)) (by kernel_rfl)
#print axioms proved
end Go.Proofs.YtjijijjkkhpjnaaGreatDoor.lawHistoryFormats
