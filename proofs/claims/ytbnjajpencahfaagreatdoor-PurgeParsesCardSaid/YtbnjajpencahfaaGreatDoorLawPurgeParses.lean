/- PROVED: PurgeParses returns true for every input and leaves its arguments as they were. No condition beyond the statement's own (the listed variables read as the program's text lays them, which the card ties). -/
import Derived.Test.YtbnjajpencahfaaGreatDoorFrame
import Derived.Test.YtbnjajpencahfaaGreatDoorFrameP
import Derived.Test.YtbnjajpencahfaaGreatDoorClosed
import Derived.Test.YtbnjajpencahfaaGreatDoorPars2
import Derived.Test.YtbnjajpencahfaaGreatDoorPurgE
import Derived.Test.YtbnjajpencahfaaGreatDoorPurg7
import Derived.Test.YtbnjajpencahfaaGreatDoorOpen
import Derived.Deep.RegionHeld3
namespace Go.Proofs.YtbnjajpencahfaaGreatDoor.lawPurgeParses
open Go.ChangeShapes Go.WideShapes Go.ChangeAt Go.RowKit Pl Ad A1
open Go.ChangeMaps (open_string shut_string)
attribute [local go_sem] ba_get conv_one conv_one_drewN ba_append ba_extract
set_option maxRecDepth 100000
set_option maxHeartbeats 4000000
set_option linter.unusedVariables false
attribute [local go_sem] guard_pg eql_pg
attribute [-go_sem] run_eql_struct run_eqGuard_agg
theorem eql_pg0 (w : World) : (binOp .eql 31 (.agg #[.int .i64 0, .int .i64 0, .string ⟨#[]⟩]) (.agg #[.int .i64 0, .int .i64 0, .string ⟨#[]⟩])).run Tryz.prog w = .ok (.bool true) w := by
  have h := eql_pg 0 0 0 0 [] [] w
  simpa using h
attribute [local go_sem] eql_pg0
/-- The variables of the purge and of the reference's. -/
structure G2 (w : World) (R1 R2 : Nat) (k t : Int) (v : Bs) (w' : World) : Prop where
  bel : Below w.heap.size w w'
  box : Box3 w' R1 31 (.int .i64 k) (.int .i64 t) (.string ⟨v.toArray⟩)
  box2 : Box3 w' R2 23 (.int .i64 k) (.int .i64 t) (.string ⟨v.toArray⟩)
theorem G2.keep {w : World} {R1 R2 : Nat} {k t : Int} {v : Bs} {w1 w2 : World} {N : Nat} (hb : Below N w1 w2) (hN : N = w1.heap.size) (s : G2 w R1 R2 k t v w1) : G2 w R1 R2 k t v w2 := by
  subst hN
  exact ⟨s.bel.trans (hb.mono s.bel.size), s.box.older hb, s.box2.older hb⟩
theorem G2.drew {w : World} {R1 R2 : Nat} {k t : Int} {v : Bs} {w1 : World} (s : G2 w R1 R2 k t v w1) : G2 w R1 R2 k t v w1.drew := ⟨s.bel.drew, s.box, s.box2⟩
theorem G2.of {w : World} {R1 R2 : Nat} {k t : Int} {v : Bs} {w' : World} (s : w'.cell? ⟨R1, 0, none⟩ = some (.int .i64 k) ∧ w'.cell? ⟨R1, 1, none⟩ = some (.int .i64 t) ∧ w'.cell? ⟨R1, 2, none⟩ = some (.string ⟨v.toArray⟩) ∧ w'.cell? ⟨R2, 0, none⟩ = some (.int .i64 k) ∧ w'.cell? ⟨R2, 1, none⟩ = some (.int .i64 t) ∧ w'.cell? ⟨R2, 2, none⟩ = some (.string ⟨v.toArray⟩) ∧ G2 w R1 R2 k t v w') : G2 w R1 R2 k t v w' := s.2.2.2.2.2.2
theorem G2.all {w : World} {R1 R2 : Nat} {k t : Int} {v : Bs} {w' : World} (s : G2 w R1 R2 k t v w') : w'.cell? ⟨R1, 0, none⟩ = some (.int .i64 k) ∧ w'.cell? ⟨R1, 1, none⟩ = some (.int .i64 t) ∧ w'.cell? ⟨R1, 2, none⟩ = some (.string ⟨v.toArray⟩) ∧ w'.cell? ⟨R2, 0, none⟩ = some (.int .i64 k) ∧ w'.cell? ⟨R2, 1, none⟩ = some (.int .i64 t) ∧ w'.cell? ⟨R2, 2, none⟩ = some (.string ⟨v.toArray⟩) ∧ G2 w R1 R2 k t v w' := ⟨s.box.facts.1.1, s.box.facts.1.2.1, s.box.facts.1.2.2, s.box2.facts.1.1, s.box2.facts.1.2.1, s.box2.facts.1.2.2, s⟩

theorem walk_large (s : Bs) (w : World) (hr : Ready w) (hp : ParseAt w) (hl : ¬ s.length ≤ 1500) :
    Calls Tryz.prog 5 #[.string ⟨s.toArray⟩] w fun e w' => e = .returned (.bool true) ∧ Below w.heap.size w w' := by
  have HL := Lib.hid (decide_eq_false hl)
  clear hl
  go_enter Tryz.func5, Tryz.ntmps5
  go_wp2_with fail
  refine (awake36_any _ hr hp.words).mono ?_
  rintro e w1 ⟨rfl, hb1⟩
  have HB1 := Lib.hid hb1
  have HR1 := Lib.hid (hr.below HB1.out)
  have HP1 := Lib.hid (hp.below HB1.out)
  clear hb1
  go_wp2_with (first | (go_at_call 7; with_reducible refine (small_any s _).mono ?_; rintro e w2 ⟨rfl, rfl⟩; rw [HL.out]) | (go_at_call 6; refine (awake36_any _ HR1.out HP1.out.words).mono ?_; rintro e w2 ⟨rfl, hb2⟩))
  go_ret
  exact ⟨rfl, HB1.out.trans (hb2.mono HB1.out.size)⟩

theorem walk_none (s : Bs) (w : World) (hr : Ready w) (hp : ParseAt w) (hl : s.length ≤ 1500) (ho : parseO s = none) :
    Calls Tryz.prog 5 #[.string ⟨s.toArray⟩] w fun e w' => e = .returned (.bool true) ∧ Below w.heap.size w w' := by
  have HL := Lib.hid (decide_eq_true hl)
  have hl1 : s.length ≤ 134217728 := by omega
  have HO := Lib.hid (show parV (parseO s) = .tuple #[.agg #[.int .i64 0, .int .i64 0, .string ⟨#[]⟩], .iface 43 (.int .i64 2)] by rw [ho]; rfl)
  have HQ := Lib.hid (show refParV (parseO s) = .tuple #[.agg #[.int .i64 0, .int .i64 0, .string ⟨#[]⟩], .bool false] by rw [ho]; rfl)
  clear ho
  go_enter Tryz.func5, Tryz.ntmps5
  go_wp2_with fail
  refine (awake36_any _ hr hp.words).mono ?_
  rintro e w1 ⟨rfl, hb1⟩
  have HB1 := Lib.hid hb1
  have HR1 := Lib.hid (hr.below HB1.out)
  have HP1 := Lib.hid (hp.below HB1.out)
  clear hb1
  go_wp2_with (first | (go_at_call 7; with_reducible refine (small_any s _).mono ?_; rintro e w2 ⟨rfl, rfl⟩; rw [HL.out]) | (go_at_call 16; with_reducible refine (pparse_any s _ HR1.out HP1.out hl1).mono ?_; rintro e w2 ⟨rfl, hb2⟩; rw [HO.out]; have HB2 := Lib.hid ((HB1.out.trans (hb2.mono HB1.out.size)).alloc (HB1.out.trans (hb2.mono HB1.out.size)).size (.cells #[.int .i64 0, .int .i64 0, .string ⟨#[]⟩] 31)); have HX2 := Lib.hid (box3_new w2 31 (.int .i64 0) (.int .i64 0) (.string ⟨#[]⟩)); clear hb2) | (go_at_call 17; with_reducible refine (prefParse_any s _ hl1).mono ?_; rintro e w3 ⟨rfl, hb3⟩; rw [HQ.out]; have HB3 := Lib.hid ((HB2.out.trans (hb3.mono HB2.out.size)).alloc (HB2.out.trans (hb3.mono HB2.out.size)).size (.cells #[.int .i64 0, .int .i64 0, .string ⟨#[]⟩] 23)); have HX3 := Lib.hid (HX2.out.older hb3); have HX4 := Lib.hid (HX3.out.alloc (.cells #[.int .i64 0, .int .i64 0, .string ⟨#[]⟩] 23)); have HY4 := Lib.hid (box3_new w3 23 (.int .i64 0) (.int .i64 0) (.string ⟨#[]⟩)); have HR3 := Lib.hid (hr.below HB3.out); have HP3 := Lib.hid (hp.below HB3.out); obtain ⟨⟨c0, c1, c2⟩, _, hz⟩ := HX4.out.facts; clear hb3) | (go_at_call 15; with_reducible refine (is_err 2 _ (by decide)).mono ?_; rintro e w5 ⟨rfl, rfl⟩))
  go_ret
  exact ⟨rfl, HB3.out⟩

theorem walk_some (s : Bs) (w : World) (hr : Ready w) (hp : ParseAt w) (k t : Int) (v : Bs) (hl : s.length ≤ 1500) (ho : parseO s = some ⟨k, t, v⟩) :
    Calls Tryz.prog 5 #[.string ⟨s.toArray⟩] w fun e w' => e = .returned (.bool true) ∧ Below w.heap.size w w' := by
  have HL := Lib.hid (decide_eq_true hl)
  have hl1 : s.length ≤ 134217728 := by omega
  have HO := Lib.hid (show parV (parseO s) = .tuple #[.agg #[.int .i64 k, .int .i64 t, .string ⟨v.toArray⟩], .nilIface] by rw [ho]; rfl)
  have HQ := Lib.hid (show refParV (parseO s) = .tuple #[.agg #[.int .i64 k, .int .i64 t, .string ⟨v.toArray⟩], .bool true] by rw [ho]; rfl)
  have hi : checkN ⟨k, t, v⟩ = 0 ∧ fmtT ⟨k, t, v⟩ = s := by have h := parseO_is s; rw [ho] at h; exact h
  have HC := Lib.hid hi.1
  have HT := Lib.hid hi.2
  have hvl : v.length ≤ 134217728 := by have h := congrArg List.length hi.2; rw [fmtT_head] at h; simp at h; omega
  clear ho hi
  go_enter Tryz.func5, Tryz.ntmps5
  go_wp2_with fail
  refine (awake36_any _ hr hp.words).mono ?_
  rintro e w1 ⟨rfl, hb1⟩
  have HB1 := Lib.hid hb1
  have HR1 := Lib.hid (hr.below HB1.out)
  have HP1 := Lib.hid (hp.below HB1.out)
  clear hb1
  go_wp2_with (first | (go_at_call 7; with_reducible refine (small_any s _).mono ?_; rintro e w2 ⟨rfl, rfl⟩; rw [HL.out]) | (go_at_call 16; with_reducible refine (pparse_any s _ HR1.out HP1.out hl1).mono ?_; rintro e w2 ⟨rfl, hb2⟩; rw [HO.out]; have HB2 := Lib.hid ((HB1.out.trans (hb2.mono HB1.out.size)).alloc (HB1.out.trans (hb2.mono HB1.out.size)).size (.cells #[.int .i64 k, .int .i64 t, .string ⟨v.toArray⟩] 31)); have HX2 := Lib.hid (box3_new w2 31 (.int .i64 k) (.int .i64 t) (.string ⟨v.toArray⟩)); clear hb2) | (go_at_call 17; with_reducible refine (prefParse_any s _ hl1).mono ?_; rintro e w3 ⟨rfl, hb3⟩; rw [HQ.out]; have HB3 := Lib.hid ((HB2.out.trans (hb3.mono HB2.out.size)).alloc (HB2.out.trans (hb3.mono HB2.out.size)).size (.cells #[.int .i64 k, .int .i64 t, .string ⟨v.toArray⟩] 23)); have HX3 := Lib.hid (HX2.out.older hb3); have HX4 := Lib.hid (HX3.out.alloc (.cells #[.int .i64 k, .int .i64 t, .string ⟨v.toArray⟩] 23)); have HY4 := Lib.hid (box3_new w3 23 (.int .i64 k) (.int .i64 t) (.string ⟨v.toArray⟩)); have HR3 := Lib.hid (hr.below HB3.out); have HP3 := Lib.hid (hp.below HB3.out); obtain ⟨⟨c0, c1, c2⟩, _, hz⟩ := HX4.out.facts; clear hb3) | (go_at_call 13; with_reducible refine (format_ok ⟨k, t, v⟩ _ HR3.out HP3.out.words hvl HC.out).mono ?_; rintro e w4 ⟨rfl, hb4⟩; rw [HT.out]; have HG := Lib.hid (show G2 w w2.heap.size w3.heap.size k t v w4 from ⟨HB3.out.trans (hb4.mono HB3.out.size), HX4.out.older hb4, HY4.out.older hb4⟩); clear hb4 c0 c1 c2))
  have hG := HG.out
  clear HX2 HX3 HX4 HY4 HG
  go_region_held3 (fun w' => w'.cell? ⟨w2.heap.size, 0, none⟩ = some (.int .i64 k) ∧ w'.cell? ⟨w2.heap.size, 1, none⟩ = some (.int .i64 t) ∧ w'.cell? ⟨w2.heap.size, 2, none⟩ = some (.string ⟨v.toArray⟩) ∧ w'.cell? ⟨w3.heap.size, 0, none⟩ = some (.int .i64 k) ∧ w'.cell? ⟨w3.heap.size, 1, none⟩ = some (.int .i64 t) ∧ w'.cell? ⟨w3.heap.size, 2, none⟩ = some (.string ⟨v.toArray⟩) ∧ G2 w w2.heap.size w3.heap.size k t v w') ((refine G2.all ?_; (repeat (first | assumption | (refine G2.of ?_; assumption) | (with_reducible refine G2.drew ?_) | (with_reducible refine G2.keep hb9 rfl ?_)))))
    ((first
      | (go_at_call 10; with_reducible refine (of36_any ⟨k, t, v⟩ _).mono ?_; rintro e w9 ⟨rfl, hb9⟩)))
  all_goals
    go_wp2_with fail
    go_ret
    refine ⟨ret_bool' (by simp), G2.bel (w := w) (R1 := w2.heap.size) (R2 := w3.heap.size) (k := k) (t := t) (v := v) ?_⟩
    (repeat (first | assumption | (refine G2.of ?_; assumption) | (with_reducible refine G2.drew ?_) | (with_reducible refine G2.keep hb9 rfl ?_)))

theorem walk (s : Bs) (w : World) (hr : Ready w) (hp : ParseAt w) (h1 : s.length ≤ 140737488351232) :
    Calls Tryz.prog 5 #[.string ⟨s.toArray⟩] w fun e w' => e = .returned (.bool true) ∧ Below w.heap.size w w' := by
  by_cases hl : s.length ≤ 1500
  · cases ho : parseO s with
    | none => exact walk_none s w hr hp hl ho
    | some p =>
      obtain ⟨k, t, v⟩ := p
      exact walk_some s w hr hp k t v hl ho
  · exact walk_large s w hr hp hl

/-- What the walk gives, for every argument. -/
theorem contract (H : Type) (enc : TypeId × Value → H) (W : World) (base : Nat) (args : Array Value) (ds gs : List (DataW H)) (before : List MemPlace)
    (hval : ∀ (j : Nat) t v, Tryz.f5.params[j]? = some t → args[j]? = some v → Value.okWide Tryz.prog W .any base t v)
    (hW : DataW.Whole enc Tryz.prog Tryz.f5.params.toList Rows.purgeParsesSpec.vars false W args.toList ds gs before) (hsz : (DataW.weightsEach Tryz.prog Tryz.f5.params.toList (ds ++ gs)).all (· ≤ reachBytes) = true) (hr : Ready W) (hw : A1.ParseAt W) :
    Calls Tryz.prog 5 args W fun e W' => ∃ v, e = .returned v ∧ Rows.purgeParsesSpec.post enc Tryz.prog Tryz.f5 false true false false W args v W' := by
  have hW' := hW
  have hlt := fun p hp => hW.lt p hp
  obtain ⟨p, q, hA0, hV, rfl, hfz, hnd⟩ := hW
  have hA : DataW.TrodAll enc Tryz.prog W 0 (fun _ => true) true Tryz.f5.params.toList args.toList ds p := hA0
  have hA1 := hA
  obtain ⟨rfl, rfl⟩ := trodVars_none hV
  rw [Tryz.params5] at hA hval
  obtain ⟨v0, vs0, d0, ds0, p0, q0, hargs, rfl, rfl, h0, r0⟩ := trodAll_cons hA
  obtain ⟨rfl, rfl, rfl⟩ := trodAll_nil r0
  obtain rfl : args = #[v0] := by cases args; simp_all
  have fin : ∀ W', Below W.heap.size W W' → Rows.purgeParsesSpec.post enc Tryz.prog Tryz.f5 false true false false W #[v0] (.bool true) W' := fun W' hb => by
    simp only [List.append_nil] at hA1 hW' hlt
    exact ⟨_, _, _, [], _, [], hW', trodAll_cons_mk (shut_bool Tryz.underlying4 _) trodAll_mk0, Fr.trodAll_below (by kernel_rfl) _ (by kernel_rfl) hA1 hb hlt, rfl, hb.frame _, fun h => by cases h⟩
  clear hW' hA0 hA1 hlt
  rw [Tryz.params5, List.append_nil] at hsz
  obtain ⟨s0, rfl, rfl, rfl, hs0⟩ := open_string Tryz.underlying9 (hval 0 9 v0 rfl rfl) h0
  obtain ⟨⟨l0⟩⟩ := s0
  have z0 : l0.length ≤ 140737488351232 := sized_string hsz (j := 0) rfl rfl
  refine  (walk l0 W hr hw z0).mono fun e W' ⟨he, hb⟩ => ?_
  subst he
  exact ⟨_, rfl, fin W' hb⟩

theorem laid_met (os : Os) : laidMet Tryz.prog Rows.purgeParsesRow.laid ((Fr.laidE Rows.purgeParsesRow.laid os).forCall (fun _ _ => 0) ⟨#[], #[.string ⟨#[]⟩], []⟩).memory :=
  laidMet_of_run' 8 (by kernel_rfl) (by kernel_rfl)
theorem reads (os : Os) {H : Type} (enc : TypeId × Value → H) : ∃ places, DataW.whole enc Tryz.prog ((Fr.laidE Rows.purgeParsesRow.laid os).forCall (fun _ _ => 0) ⟨#[], #[.string ⟨#[]⟩], []⟩).memory Tryz.f5.params.toList Rows.purgeParsesSpec.vars false (#[.string ⟨#[]⟩] : Array Value).toList 8 = some ([.lit (.string [])], [], places) :=
  ⟨[], by kernel_rfl⟩

theorem lifted (os : Os) (started : os.Started) (H : Type) (enc : TypeId × Value → H) (F : Stop.Interp) :
    ReturnsInHanded {} Tryz.checked os 5 .any ((OpenSpec.ofChange Rows.purgeParsesSpec).preRow enc Tryz.prog Tryz.f5 Rows.purgeParsesRow.domain false Rows.purgeParsesRow.laid) (((OpenSpec.ofChange Rows.purgeParsesSpec).at F).post enc Tryz.prog Tryz.f5 false true false false) := by
  obtain ⟨places, hx⟩ := reads os enc
  refine returnsInHanded_of_row (C := Tryz.checked) (s := OpenSpec.ofChange Rows.purgeParsesSpec) Fr.own started (by kernel_rfl) Tryz.func5
    (witness_row_at (enc := enc) (C := Tryz.checked) false (Fr.laidE Rows.purgeParsesRow.laid os) #[.string ⟨#[]⟩] rfl (by kernel_rfl) (by kernel_rfl) (by kernel_rfl)
      (OpenSpec.preRow_of_cond 8 hx (by kernel_rfl) (fun k hk => by cases hk) (by kernel_rfl) (laid_met os))) ?_
  intro W base args ds gs before hval hW _ hcond hsz hlaid hsh _
  exact contract H enc W base args ds gs before hval hW (by have h9 : (DataW.weightsEach Tryz.prog (Tryz.f5.params.toList ++ []) (ds ++ gs)).all (· ≤ reachBytes) = true := hsz; rw [List.append_nil] at h9; exact h9) (Fr.ready hsh) (Fr.parse_laid hlaid (by kernel_rfl) (by repeat first | exact List.mem_cons_self .. | apply List.mem_cons_of_mem) (by repeat first | exact List.mem_cons_self .. | apply List.mem_cons_of_mem) (by repeat first | exact List.mem_cons_self .. | apply List.mem_cons_of_mem))

theorem k_0 : Rows.purgeParsesRow.wf (OpenSpec.ofChange (OpenSpec.ofChange Rows.purgeParsesSpec).bare) = true := by kernel_rfl
theorem k_1 : laidOutB Tryz.prog = true := Fr.sf_laidOut
theorem k_2 : mapsRowed Tryz.prog = true := Fr.sf_mapsRowed
theorem k_3 : Tryz.f5.params.all (Tryz.prog.readableRec ·) = true := by kernel_rfl
theorem k_4 : namedTie Tryz.prog Rows.purgeParsesRow.named (OpenSpec.ofChange Rows.purgeParsesSpec).bare.vars = true := by kernel_rfl
theorem k_5 : (Rows.purgeParsesRow.stops == []) = true := by kernel_rfl
theorem k_6 : (Tryz.prog.stops == []) = true := Fr.sf_stops
theorem k_7 : (Rows.purgeParsesRow.knobs == []) = true := by kernel_rfl
theorem k_8 : (Tryz.prog.stopKnobs == []) = true := Fr.sf_stopKnobs
theorem k_9 : (Rows.purgeParsesRow.inPlace == Tryz.prog.inPlace 5) = true := by kernel_rfl
theorem k_10 : (Rows.purgeParsesRow.unfollowed == Tryz.prog.unfollowed 5) = true := by kernel_rfl
theorem k_11 : (Rows.purgeParsesRow.recurses == Tryz.prog.recurses 5) = true := by kernel_rfl
theorem k_12 : (Rows.purgeParsesRow.named == Tryz.prog.varsNamed 5) = true := by kernel_rfl
theorem k_13 : (Rows.purgeParsesRow.maps == (Tryz.f5.params.toList ++ (OpenSpec.ofChange Rows.purgeParsesSpec).bare.plain.varTypes Tryz.prog).any (Tryz.prog.mapsRec ·)) = true := by kernel_rfl
theorem k_14 : (Rows.purgeParsesRow.ifaces == (Tryz.f5.params.toList ++ (OpenSpec.ofChange Rows.purgeParsesSpec).bare.plain.varTypes Tryz.prog).any (Tryz.prog.ifacesRec ·)) = true := by kernel_rfl
theorem k_15 : (Rows.purgeParsesRow.mapsOut == Tryz.prog.mapsAmong Tryz.f5.resultTypes.toList) = true := by kernel_rfl
theorem k_16 : (Rows.purgeParsesRow.loops == (Tryz.f5.params.toList ++ (OpenSpec.ofChange Rows.purgeParsesSpec).bare.plain.varTypes Tryz.prog).any (Tryz.prog.loopsFrom ·)) = true := by kernel_rfl
theorem k_17 : (Rows.purgeParsesRow.wideKeys == (Tryz.f5.params.toList ++ (OpenSpec.ofChange Rows.purgeParsesSpec).bare.plain.varTypes Tryz.prog ++ Tryz.f5.resultTypes.toList).any (Tryz.prog.wideKeysFrom ·)) = true := by kernel_rfl
theorem k_18 : (OpenSpec.ofChange Rows.purgeParsesSpec).bare.vars.all (Tryz.prog.varReadable ·) = true := by kernel_rfl
theorem k_19 : Tryz.f5.resultTypes.all (fun t => Tryz.prog.readableRec t && decide (t < Tryz.prog.types.size)) = true := by kernel_rfl
theorem k_20 : (Rows.purgeParsesRow.ifacesOut == Tryz.f5.resultTypes.toList.any (Tryz.prog.ifacesRec ·)) = true := by kernel_rfl
theorem k_21 : (Rows.purgeParsesRow.loopsOut == Tryz.f5.resultTypes.toList.any (Tryz.prog.loopsFrom ·)) = true := by kernel_rfl
theorem k_22 : (Rows.purgeParsesRow.plainKeys == Tryz.prog.plainKeys) = true := Fr.sf_plainKeys
theorem k_23 : Rows.purgeParsesRow.shortTexts.isNone = true := by kernel_rfl
theorem k_24 : Tryz.prog.stopsHeard = true := Fr.sf_heard
theorem k_25 : Tryz.prog.mayEnter = true := Fr.sf_mayEnter
theorem k_26 : (Rows.purgeParsesRow.lifted == Tryz.prog.liftsFinal) = true := Fr.sf_lifted
theorem k_27 : (Tryz.prog.make == some Rows.purgeParsesRow.make) = true := Fr.sf_make
theorem k_28 : (Rows.purgeParsesRow.kinds == (if Rows.purgeParsesRow.domain.isEmpty then [] else Tryz.f5.params.toList.map fun t => match Tryz.prog.underlying t with | some (.int k) => some k | _ => none)) = true := by kernel_rfl
theorem k_29 : (Rows.purgeParsesRow.pinned == Rows.purgeParsesRow.pinnedBy) = true := by kernel_rfl
theorem k_30 : (Rows.purgeParsesRow.veiled == (Tryz.f5.params.toList ++ (OpenSpec.ofChange Rows.purgeParsesSpec).bare.plain.varTypes Tryz.prog ++ Tryz.f5.resultTypes.toList).any (Tryz.prog.veiledRec ·)) = true := by kernel_rfl
theorem k_31 : Rows.purgeParsesRow.veiledFits Tryz.prog Tryz.f5.params.toList (Tryz.f5.params.toList ++ (OpenSpec.ofChange Rows.purgeParsesSpec).bare.plain.varTypes Tryz.prog ++ Tryz.f5.resultTypes.toList) = true := by kernel_rfl
theorem closed : joinedFacts Tryz.prog 5 Tryz.f5 (OpenSpec.ofChange Rows.purgeParsesSpec).bare Rows.purgeParsesRow = true := Op.andT (Op.andT (Op.andT (Op.andT (Op.andT (Op.andT (Op.andT (Op.andT (Op.andT (Op.andT (Op.andT (Op.andT (Op.andT (Op.andT (Op.andT (Op.andT (Op.andT (Op.andT (Op.andT (Op.andT (Op.andT (Op.andT (Op.andT (Op.andT (Op.andT (Op.andT (Op.andT (Op.andT (Op.andT (Op.andT (Op.andT (k_0) k_1) k_2) k_3) k_4) k_5) k_6) k_7) k_8) k_9) k_10) k_11) k_12) k_13) k_14) k_15) k_16) k_17) k_18) k_19) k_20) k_21) k_22) k_23) k_24) k_25) k_26) k_27) k_28) k_29) k_30) k_31

theorem said : Rows.PurgeParsesSaid :=
  OpenClaim.holds_of_cond 5 Tryz.f5 rfl rfl rfl rfl rfl rfl rfl ⟨rfl, rfl, rfl, rfl, rfl⟩ rfl rfl rfl rfl rfl (by kernel_rfl) Tryz.func5 closed
    (of_decide_eq_true (by kernel_rfl)) (by unfold Func.isWrapper; first | (rw [if_pos (by decide +kernel)]; kernel_rfl) | (rw [if_neg (by decide +kernel)]; exact ⟨rfl, rfl⟩))
    (fun os started H enc _ F => by rw [OpenClaim.pre_eq_preRow]; exact lifted os started H enc F)

theorem plain (b : Bool) (hb : b = Tryz.pinned.checked.prog.looks []) (f : FuncId) (fn : Func) (hf : Tryz.pinned.checked.prog.funcNamed "quayside/quaysidelaw36.PurgeParses" = some f) (hfn : Tryz.pinned.checked.prog.funcs[f]? = some fn) :
    b = Tryz.pinned.checked.prog.looks [] ∧ ∀ (j : Nat) t, fn.params[j]? = some t → Tryz.pinned.checked.prog.wantsStandIn t = false := by
  obtain rfl : f = 5 := Option.some.inj ((show Tryz.prog.funcNamed "quayside/quaysidelaw36.PurgeParses" = some 5 by kernel_rfl).symm.trans hf) |>.symm
  obtain rfl : fn = Tryz.f5 := (Option.some.inj (Tryz.func5.symm.trans hfn)).symm
  refine ⟨hb, fun j t ht => ?_⟩
  rw [Tryz.params5] at ht
  have hm : t ∈ [9] := by simpa using Array.mem_of_getElem? ht
  have hall : ([9].all fun u => !Tryz.prog.wantsStandIn u) = true := by kernel_rfl
  exact (show Tryz.prog.wantsStandIn t = false by simpa using List.all_eq_true.1 hall t hm)

theorem proved : Rows.PurgeParsesCardSaid :=
  Claim7.holds_tied_plain_at .later [] _ _ _ _ said (fun _ h => by cases h) (by kernel_rfl) (fun _ h => by cases h) purgeParses_row_tie rfl ⟨rfl, rfl⟩ (by kernel_rfl) rfl (plain _ (by kernel_rfl)) (by kernel_rfl)
#print axioms proved
end Go.Proofs.YtbnjajpencahfaaGreatDoor.lawPurgeParses
