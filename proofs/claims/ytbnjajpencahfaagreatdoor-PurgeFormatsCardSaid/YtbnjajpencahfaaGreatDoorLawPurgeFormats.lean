/- PROVED: PurgeFormats returns true for every input and leaves its arguments as they were. No condition beyond the statement's own (the listed variables read as the program's text lays them, which the card ties). -/
import Derived.Test.YtbnjajpencahfaaGreatDoorFrame
import Derived.Test.YtbnjajpencahfaaGreatDoorFrameP
import Derived.Test.YtbnjajpencahfaaGreatDoorClosed
import Derived.Test.YtbnjajpencahfaaGreatDoorPars2
import Derived.Test.YtbnjajpencahfaaGreatDoorPurgE
import Derived.Test.YtbnjajpencahfaaGreatDoorPurg7
import Derived.Test.YtbnjajpencahfaaGreatDoorOpen
import Derived.Deep.RegionHeld3
namespace Go.Proofs.YtbnjajpencahfaaGreatDoor.lawPurgeFormats
open Go.ChangeShapes Go.WideShapes Go.ChangeAt Go.RowKit Pl Ad A1
open Go.ChangeMaps (open_string shut_string)
attribute [local go_sem] ba_get conv_one conv_one_drewN ba_append ba_extract
set_option maxRecDepth 100000
set_option maxHeartbeats 4000000
set_option linter.unusedVariables false
attribute [local go_sem] guard_pg eql_pg
attribute [-go_sem] run_eql_struct run_eqGuard_agg
/-- The variables of the purge and of what was read again. -/
structure F2 (w : World) (R : Nat) (k t : Int) (v : Bs) (w' : World) : Prop where
  bel : Below w.heap.size w w'
  box : Box3 w' w.heap.size 23 (.int .i64 k) (.int .i64 t) (.string ⟨v.toArray⟩)
  box2 : Box3 w' R 31 (.int .i64 k) (.int .i64 t) (.string ⟨v.toArray⟩)
theorem F2.keep {w : World} {R : Nat} {k t : Int} {v : Bs} {w1 w2 : World} {N : Nat} (hb : Below N w1 w2) (hN : N = w1.heap.size) (s : F2 w R k t v w1) : F2 w R k t v w2 := by
  subst hN
  exact ⟨s.bel.trans (hb.mono s.bel.size), s.box.older hb, s.box2.older hb⟩
theorem F2.drew {w : World} {R : Nat} {k t : Int} {v : Bs} {w1 : World} (s : F2 w R k t v w1) : F2 w R k t v w1.drew := ⟨s.bel.drew, s.box, s.box2⟩
theorem F2.of {w : World} {R : Nat} {k t : Int} {v : Bs} {w' : World} (s : w'.cell? ⟨w.heap.size, 0, none⟩ = some (.int .i64 k) ∧ w'.cell? ⟨w.heap.size, 1, none⟩ = some (.int .i64 t) ∧ w'.cell? ⟨w.heap.size, 2, none⟩ = some (.string ⟨v.toArray⟩) ∧ w'.cell? ⟨R, 0, none⟩ = some (.int .i64 k) ∧ w'.cell? ⟨R, 1, none⟩ = some (.int .i64 t) ∧ w'.cell? ⟨R, 2, none⟩ = some (.string ⟨v.toArray⟩) ∧ F2 w R k t v w') : F2 w R k t v w' := s.2.2.2.2.2.2
theorem F2.all {w : World} {R : Nat} {k t : Int} {v : Bs} {w' : World} (s : F2 w R k t v w') : w'.cell? ⟨w.heap.size, 0, none⟩ = some (.int .i64 k) ∧ w'.cell? ⟨w.heap.size, 1, none⟩ = some (.int .i64 t) ∧ w'.cell? ⟨w.heap.size, 2, none⟩ = some (.string ⟨v.toArray⟩) ∧ w'.cell? ⟨R, 0, none⟩ = some (.int .i64 k) ∧ w'.cell? ⟨R, 1, none⟩ = some (.int .i64 t) ∧ w'.cell? ⟨R, 2, none⟩ = some (.string ⟨v.toArray⟩) ∧ F2 w R k t v w' := ⟨s.box.facts.1.1, s.box.facts.1.2.1, s.box.facts.1.2.2, s.box2.facts.1.1, s.box2.facts.1.2.1, s.box2.facts.1.2.2, s⟩

theorem walk_large (k t : Int) (v : Bs) (w : World) (hr : Ready w) (hp : ParseAt w) (hl : ¬ v.length ≤ 1500) :
    Calls Tryz.prog 4 #[.agg #[.int .i64 k, .int .i64 t, .string ⟨v.toArray⟩]] w fun e w' => e = .returned (.bool true) ∧ Below w.heap.size w w' := by
  have HX := Lib.hid (box3_new w 23 (.int .i64 k) (.int .i64 t) (.string ⟨v.toArray⟩))
  have HB := Lib.hid ((Below.refl w.heap.size w).alloc (Nat.le_refl _) (.cells #[.int .i64 k, .int .i64 t, .string ⟨v.toArray⟩] 23))
  have HR := Lib.hid (hr.below HB.out)
  have HP := Lib.hid (hp.below HB.out)
  have HL := Lib.hid (decide_eq_false hl)
  clear hl
  go_enter Tryz.func4, Tryz.ntmps4
  go_wp2_with fail
  refine (awake36_any _ HR.out HP.out.words).mono ?_
  rintro e w1 ⟨rfl, hb1⟩
  have HX1 := Lib.hid (HX.out.older hb1)
  have HB1 := Lib.hid (HB.out.trans (hb1.mono HB.out.size))
  have HR1 := Lib.hid (hr.below HB1.out)
  have HP1 := Lib.hid (hp.below HB1.out)
  obtain ⟨⟨c0, c1, c2⟩, _, hz⟩ := HX1.out.facts
  clear hb1
  go_wp2_with (first | (go_at_call 7; with_reducible refine (small_any v _).mono ?_; rintro e w2 ⟨rfl, rfl⟩; rw [HL.out]) | (go_at_call 6; refine (awake36_any _ HR1.out HP1.out.words).mono ?_; rintro e w2 ⟨rfl, hb2⟩))
  go_ret
  exact ⟨rfl, HB1.out.trans (hb2.mono HB1.out.size)⟩

theorem walk_bad (k t : Int) (v : Bs) (w : World) (hr : Ready w) (hp : ParseAt w) (hl : v.length ≤ 1500) (hc : ¬ checkN ⟨k, t, v⟩ = 0) :
    Calls Tryz.prog 4 #[.agg #[.int .i64 k, .int .i64 t, .string ⟨v.toArray⟩]] w fun e w' => e = .returned (.bool true) ∧ Below w.heap.size w w' := by
  have HX := Lib.hid (box3_new w 23 (.int .i64 k) (.int .i64 t) (.string ⟨v.toArray⟩))
  have HB := Lib.hid ((Below.refl w.heap.size w).alloc (Nat.le_refl _) (.cells #[.int .i64 k, .int .i64 t, .string ⟨v.toArray⟩] 23))
  have HR := Lib.hid (hr.below HB.out)
  have HP := Lib.hid (hp.below HB.out)
  have HL := Lib.hid (decide_eq_true hl)
  have HC := Lib.hid hc
  have hl1 : v.length ≤ 134217728 := by omega
  clear hc
  go_enter Tryz.func4, Tryz.ntmps4
  go_wp2_with fail
  refine (awake36_any _ HR.out HP.out.words).mono ?_
  rintro e w1 ⟨rfl, hb1⟩
  have HX1 := Lib.hid (HX.out.older hb1)
  have HB1 := Lib.hid (HB.out.trans (hb1.mono HB.out.size))
  have HR1 := Lib.hid (hr.below HB1.out)
  have HP1 := Lib.hid (hp.below HB1.out)
  obtain ⟨⟨c0, c1, c2⟩, _, hz⟩ := HX1.out.facts
  clear hb1
  go_wp2_with (first | (go_at_call 7; with_reducible refine (small_any v _).mono ?_; rintro e w2 ⟨rfl, rfl⟩; rw [HL.out]) | (go_at_call 10; with_reducible refine (of36_any ⟨k, t, v⟩ _).mono ?_; rintro e w2 ⟨rfl, hb2⟩; have HX1 := Lib.hid (HX1.out.older hb2); have HB1 := Lib.hid (HB1.out.trans (hb2.mono HB1.out.size)); have HR1 := Lib.hid (hr.below HB1.out); have HP1 := Lib.hid (hp.below HB1.out); obtain ⟨⟨c0, c1, c2⟩, _, hz⟩ := HX1.out.facts; clear hb2) | (go_at_call 13; with_reducible refine (format_err ⟨k, t, v⟩ _ HR1.out hl1 HC.out).mono ?_; rintro e w2 ⟨rfl, hb2⟩; have HX1 := Lib.hid (HX1.out.older hb2); have HB1 := Lib.hid (HB1.out.trans (hb2.mono HB1.out.size)); have HR1 := Lib.hid (hr.below HB1.out); have HP1 := Lib.hid (hp.below HB1.out); obtain ⟨⟨c0, c1, c2⟩, _, hz⟩ := HX1.out.facts; clear hb2) | (go_at_call 14; with_reducible refine (refFormat_bad ⟨k, t, v⟩ _ hl1 HC.out).mono ?_; rintro e w2 ⟨rfl, hb2⟩; have HX1 := Lib.hid (HX1.out.older hb2); have HB1 := Lib.hid (HB1.out.trans (hb2.mono HB1.out.size)); have HR1 := Lib.hid (hr.below HB1.out); have HP1 := Lib.hid (hp.below HB1.out); obtain ⟨⟨c0, c1, c2⟩, _, hz⟩ := HX1.out.facts; clear hb2) | (go_at_call 15; with_reducible refine (is_err 2 _ (by decide)).mono ?_; rintro e w3 ⟨rfl, rfl⟩))
  go_ret
  exact ⟨rfl, HB1.out⟩

theorem walk_good (k t : Int) (v : Bs) (w : World) (hr : Ready w) (hp : ParseAt w) (hl : v.length ≤ 1500) (hc : checkN ⟨k, t, v⟩ = 0) :
    Calls Tryz.prog 4 #[.agg #[.int .i64 k, .int .i64 t, .string ⟨v.toArray⟩]] w fun e w' => e = .returned (.bool true) ∧ Below w.heap.size w w' := by
  have HX := Lib.hid (box3_new w 23 (.int .i64 k) (.int .i64 t) (.string ⟨v.toArray⟩))
  have HB := Lib.hid ((Below.refl w.heap.size w).alloc (Nat.le_refl _) (.cells #[.int .i64 k, .int .i64 t, .string ⟨v.toArray⟩] 23))
  have HR := Lib.hid (hr.below HB.out)
  have HP := Lib.hid (hp.below HB.out)
  have HL := Lib.hid (decide_eq_true hl)
  have HC := Lib.hid hc
  have hl1 : v.length ≤ 134217728 := by omega
  have HO := Lib.hid (show parV (parseO (fmtT ⟨k, t, v⟩)) = .tuple #[.agg #[.int .i64 k, .int .i64 t, .string ⟨v.toArray⟩], .nilIface] by rw [parseO_fmt hc]; rfl)
  obtain ⟨txt, htx⟩ : ∃ txt, fmtT ⟨k, t, v⟩ = txt := ⟨_, rfl⟩
  have htl : txt.length ≤ 134217728 := by rw [← htx, fmtT_head]; have := headT_len k t; simp; omega
  have HT := Lib.hid htx
  rw [htx] at HO
  clear hc htx
  go_enter Tryz.func4, Tryz.ntmps4
  go_wp2_with fail
  refine (awake36_any _ HR.out HP.out.words).mono ?_
  rintro e w1 ⟨rfl, hb1⟩
  have HX1 := Lib.hid (HX.out.older hb1)
  have HB1 := Lib.hid (HB.out.trans (hb1.mono HB.out.size))
  have HR1 := Lib.hid (hr.below HB1.out)
  have HP1 := Lib.hid (hp.below HB1.out)
  obtain ⟨⟨c0, c1, c2⟩, _, hz⟩ := HX1.out.facts
  clear hb1
  go_wp2_with (first | (go_at_call 7; with_reducible refine (small_any v _).mono ?_; rintro e w2 ⟨rfl, rfl⟩; rw [HL.out]) | (go_at_call 10; with_reducible refine (of36_any ⟨k, t, v⟩ _).mono ?_; rintro e w2 ⟨rfl, hb2⟩; have HX1 := Lib.hid (HX1.out.older hb2); have HB1 := Lib.hid (HB1.out.trans (hb2.mono HB1.out.size)); have HR1 := Lib.hid (hr.below HB1.out); have HP1 := Lib.hid (hp.below HB1.out); obtain ⟨⟨c0, c1, c2⟩, _, hz⟩ := HX1.out.facts; clear hb2) | (go_at_call 13; with_reducible refine (format_ok ⟨k, t, v⟩ _ HR1.out HP1.out.words hl1 HC.out).mono ?_; rintro e w2 ⟨rfl, hb2⟩; rw [HT.out]; have HX1 := Lib.hid (HX1.out.older hb2); have HB1 := Lib.hid (HB1.out.trans (hb2.mono HB1.out.size)); have HR1 := Lib.hid (hr.below HB1.out); have HP1 := Lib.hid (hp.below HB1.out); obtain ⟨⟨c0, c1, c2⟩, _, hz⟩ := HX1.out.facts; clear hb2) | (go_at_call 14; with_reducible refine (refFormat_ok ⟨k, t, v⟩ _ hl1 HC.out).mono ?_; rintro e w2 ⟨rfl, hb2⟩; rw [HT.out]; have HX1 := Lib.hid (HX1.out.older hb2); have HB1 := Lib.hid (HB1.out.trans (hb2.mono HB1.out.size)); have HR1 := Lib.hid (hr.below HB1.out); have HP1 := Lib.hid (hp.below HB1.out); obtain ⟨⟨c0, c1, c2⟩, _, hz⟩ := HX1.out.facts; clear hb2) | (go_at_call 16; with_reducible refine (pparse_any txt _ HR1.out HP1.out htl).mono ?_; rintro e w2 ⟨rfl, hb2⟩; rw [HO.out]; have HX1 := Lib.hid (HX1.out.older hb2); have HB1 := Lib.hid (HB1.out.trans (hb2.mono HB1.out.size)); have HR1 := Lib.hid (hr.below HB1.out); have HP1 := Lib.hid (hp.below HB1.out); obtain ⟨⟨c0, c1, c2⟩, _, hz⟩ := HX1.out.facts; clear hb2))
  have hF2 : F2 w w2.heap.size k t v (w2.alloc (.cells #[.int .i64 k, .int .i64 t, .string ⟨v.toArray⟩] 31)) := ⟨HB1.out.alloc HB1.out.size _, HX1.out.alloc _, box3_new w2 31 _ _ _⟩
  clear HX HX1 c0 c1 c2
  go_region_held3 (fun w' => w'.cell? ⟨w.heap.size, 0, none⟩ = some (.int .i64 k) ∧ w'.cell? ⟨w.heap.size, 1, none⟩ = some (.int .i64 t) ∧ w'.cell? ⟨w.heap.size, 2, none⟩ = some (.string ⟨v.toArray⟩) ∧ w'.cell? ⟨w2.heap.size, 0, none⟩ = some (.int .i64 k) ∧ w'.cell? ⟨w2.heap.size, 1, none⟩ = some (.int .i64 t) ∧ w'.cell? ⟨w2.heap.size, 2, none⟩ = some (.string ⟨v.toArray⟩) ∧ F2 w w2.heap.size k t v w') ((refine F2.all ?_; (repeat (first | assumption | (refine F2.of ?_; assumption) | (with_reducible refine F2.drew ?_) | (with_reducible refine F2.keep hb9 rfl ?_)))))
    ((first
      | (go_at_call 10; with_reducible refine (of36_any ⟨k, t, v⟩ _).mono ?_; rintro e w9 ⟨rfl, hb9⟩)))
  all_goals
    go_wp2_with fail
    go_ret
    refine ⟨ret_bool' (by simp), F2.bel (w := w) (R := w2.heap.size) (k := k) (t := t) (v := v) ?_⟩
    (repeat (first | assumption | (refine F2.of ?_; assumption) | (with_reducible refine F2.drew ?_) | (with_reducible refine F2.keep hb9 rfl ?_)))

theorem walk (p : Pg) (w : World) (hr : Ready w) (hp : ParseAt w) (h1 : p.value.length ≤ 140737488351232) :
    Calls Tryz.prog 4 #[pgV p] w fun e w' => e = .returned (.bool true) ∧ Below w.heap.size w w' := by
  obtain ⟨k, t, v⟩ := p
  by_cases hl : v.length ≤ 1500
  · by_cases hc : checkN ⟨k, t, v⟩ = 0
    · exact walk_good k t v w hr hp hl hc
    · exact walk_bad k t v w hr hp hl hc
  · exact walk_large k t v w hr hp hl

/-- What the walk gives, for every argument. -/
theorem contract (H : Type) (enc : TypeId × Value → H) (W : World) (base : Nat) (args : Array Value) (ds gs : List (DataW H)) (before : List MemPlace)
    (hval : ∀ (j : Nat) t v, Tryz.f4.params[j]? = some t → args[j]? = some v → Value.okWide Tryz.prog W .any base t v)
    (hW : DataW.Whole enc Tryz.prog Tryz.f4.params.toList Rows.purgeFormatsSpec.vars false W args.toList ds gs before) (hsz : (DataW.weightsEach Tryz.prog Tryz.f4.params.toList (ds ++ gs)).all (· ≤ reachBytes) = true) (hr : Ready W) (hw : A1.ParseAt W) :
    Calls Tryz.prog 4 args W fun e W' => ∃ v, e = .returned v ∧ Rows.purgeFormatsSpec.post enc Tryz.prog Tryz.f4 false true false false W args v W' := by
  have hW' := hW
  have hlt := fun p hp => hW.lt p hp
  obtain ⟨p, q, hA0, hV, rfl, hfz, hnd⟩ := hW
  have hA : DataW.TrodAll enc Tryz.prog W 0 (fun _ => true) true Tryz.f4.params.toList args.toList ds p := hA0
  have hA1 := hA
  obtain ⟨rfl, rfl⟩ := trodVars_none hV
  rw [Tryz.params4] at hA hval
  obtain ⟨v0, vs0, d0, ds0, p0, q0, hargs, rfl, rfl, h0, r0⟩ := trodAll_cons hA
  obtain ⟨rfl, rfl, rfl⟩ := trodAll_nil r0
  obtain rfl : args = #[v0] := by cases args; simp_all
  have fin : ∀ W', Below W.heap.size W W' → Rows.purgeFormatsSpec.post enc Tryz.prog Tryz.f4 false true false false W #[v0] (.bool true) W' := fun W' hb => by
    simp only [List.append_nil] at hA1 hW' hlt
    exact ⟨_, _, _, [], _, [], hW', trodAll_cons_mk (shut_bool Tryz.underlying4 _) trodAll_mk0, Fr.trodAll_below (by kernel_rfl) _ (by kernel_rfl) hA1 hb hlt, rfl, hb.frame _, fun h => by cases h⟩
  clear hW' hA0 hA1 hlt
  rw [Tryz.params4, List.append_nil] at hsz
  obtain ⟨c0, c1, c2, y0, y1, y2, m, rfl, rfl, rfl, hy0, hy1, hy2⟩ := Go.Joins.open_agg3 Tryz.underlying23 (by kernel_rfl) (show Tryz.prog.cellsOf 23 = 3 by kernel_rfl) (hval 0 23 v0 rfl rfl) h0
  obtain ⟨n0, e0, rfl, _⟩ := DataW.trod_int Tryz.underlying3 hy0
  obtain ⟨t0, e1, rfl, _⟩ := DataW.trod_int Tryz.underlying3 hy1
  obtain ⟨s0, e2, rfl, _⟩ := DataW.trod_string Tryz.underlying9 hy2
  simp only [List.cons.injEq, and_true] at e0 e1 e2
  subst e0 e1 e2
  obtain ⟨⟨l0⟩⟩ := s0
  have z0 : l0.length ≤ 140737488351232 := Op.sized_pg hsz (j := 0) rfl rfl Tryz.underlying23
  refine  (walk ⟨n0, t0, l0⟩ W hr hw z0).mono fun e W' ⟨he, hb⟩ => ?_
  subst he
  exact ⟨_, rfl, fin W' hb⟩

theorem laid_met (os : Os) : laidMet Tryz.prog Rows.purgeFormatsRow.laid ((Fr.laidE Rows.purgeFormatsRow.laid os).forCall (fun _ _ => 0) ⟨#[], #[.agg #[.int .i64 0, .int .i64 0, .string ⟨#[]⟩]], []⟩).memory :=
  laidMet_of_run' 8 (by kernel_rfl) (by kernel_rfl)
theorem reads (os : Os) {H : Type} (enc : TypeId × Value → H) : ∃ places, DataW.whole enc Tryz.prog ((Fr.laidE Rows.purgeFormatsRow.laid os).forCall (fun _ _ => 0) ⟨#[], #[.agg #[.int .i64 0, .int .i64 0, .string ⟨#[]⟩]], []⟩).memory Tryz.f4.params.toList Rows.purgeFormatsSpec.vars false (#[.agg #[.int .i64 0, .int .i64 0, .string ⟨#[]⟩]] : Array Value).toList 8 = some ([.agg [.lit (.int .i64 0), .lit (.int .i64 0), .lit (.string [])]], [], places) :=
  ⟨[], by kernel_rfl⟩

theorem lifted (os : Os) (started : os.Started) (H : Type) (enc : TypeId × Value → H) (F : Stop.Interp) :
    ReturnsInHanded {} Tryz.checked os 4 .any ((OpenSpec.ofChange Rows.purgeFormatsSpec).preRow enc Tryz.prog Tryz.f4 Rows.purgeFormatsRow.domain false Rows.purgeFormatsRow.laid) (((OpenSpec.ofChange Rows.purgeFormatsSpec).at F).post enc Tryz.prog Tryz.f4 false true false false) := by
  obtain ⟨places, hx⟩ := reads os enc
  refine returnsInHanded_of_row (C := Tryz.checked) (s := OpenSpec.ofChange Rows.purgeFormatsSpec) Fr.own started (by kernel_rfl) Tryz.func4
    (witness_row_at (enc := enc) (C := Tryz.checked) false (Fr.laidE Rows.purgeFormatsRow.laid os) #[.agg #[.int .i64 0, .int .i64 0, .string ⟨#[]⟩]] rfl (by kernel_rfl) (by kernel_rfl) (by kernel_rfl)
      (OpenSpec.preRow_of_cond 8 hx (by kernel_rfl) (fun k hk => by cases hk) (by kernel_rfl) (laid_met os))) ?_
  intro W base args ds gs before hval hW _ hcond hsz hlaid hsh _
  exact contract H enc W base args ds gs before hval hW (by have h9 : (DataW.weightsEach Tryz.prog (Tryz.f4.params.toList ++ []) (ds ++ gs)).all (· ≤ reachBytes) = true := hsz; rw [List.append_nil] at h9; exact h9) (Fr.ready hsh) (Fr.parse_laid hlaid (by kernel_rfl) (by repeat first | exact List.mem_cons_self .. | apply List.mem_cons_of_mem) (by repeat first | exact List.mem_cons_self .. | apply List.mem_cons_of_mem) (by repeat first | exact List.mem_cons_self .. | apply List.mem_cons_of_mem))

theorem k_0 : Rows.purgeFormatsRow.wf (OpenSpec.ofChange (OpenSpec.ofChange Rows.purgeFormatsSpec).bare) = true := by kernel_rfl
theorem k_1 : laidOutB Tryz.prog = true := Fr.sf_laidOut
theorem k_2 : mapsRowed Tryz.prog = true := Fr.sf_mapsRowed
theorem k_3 : Tryz.f4.params.all (Tryz.prog.readableRec ·) = true := by kernel_rfl
theorem k_4 : namedTie Tryz.prog Rows.purgeFormatsRow.named (OpenSpec.ofChange Rows.purgeFormatsSpec).bare.vars = true := by kernel_rfl
theorem k_5 : (Rows.purgeFormatsRow.stops == []) = true := by kernel_rfl
theorem k_6 : (Tryz.prog.stops == []) = true := Fr.sf_stops
theorem k_7 : (Rows.purgeFormatsRow.knobs == []) = true := by kernel_rfl
theorem k_8 : (Tryz.prog.stopKnobs == []) = true := Fr.sf_stopKnobs
theorem k_9 : (Rows.purgeFormatsRow.inPlace == Tryz.prog.inPlace 4) = true := by kernel_rfl
theorem k_10 : (Rows.purgeFormatsRow.unfollowed == Tryz.prog.unfollowed 4) = true := by kernel_rfl
theorem k_11 : (Rows.purgeFormatsRow.recurses == Tryz.prog.recurses 4) = true := by kernel_rfl
theorem k_12 : (Rows.purgeFormatsRow.named == Tryz.prog.varsNamed 4) = true := by kernel_rfl
theorem k_13 : (Rows.purgeFormatsRow.maps == (Tryz.f4.params.toList ++ (OpenSpec.ofChange Rows.purgeFormatsSpec).bare.plain.varTypes Tryz.prog).any (Tryz.prog.mapsRec ·)) = true := by kernel_rfl
theorem k_14 : (Rows.purgeFormatsRow.ifaces == (Tryz.f4.params.toList ++ (OpenSpec.ofChange Rows.purgeFormatsSpec).bare.plain.varTypes Tryz.prog).any (Tryz.prog.ifacesRec ·)) = true := by kernel_rfl
theorem k_15 : (Rows.purgeFormatsRow.mapsOut == Tryz.prog.mapsAmong Tryz.f4.resultTypes.toList) = true := by kernel_rfl
theorem k_16 : (Rows.purgeFormatsRow.loops == (Tryz.f4.params.toList ++ (OpenSpec.ofChange Rows.purgeFormatsSpec).bare.plain.varTypes Tryz.prog).any (Tryz.prog.loopsFrom ·)) = true := by kernel_rfl
theorem k_17 : (Rows.purgeFormatsRow.wideKeys == (Tryz.f4.params.toList ++ (OpenSpec.ofChange Rows.purgeFormatsSpec).bare.plain.varTypes Tryz.prog ++ Tryz.f4.resultTypes.toList).any (Tryz.prog.wideKeysFrom ·)) = true := by kernel_rfl
theorem k_18 : (OpenSpec.ofChange Rows.purgeFormatsSpec).bare.vars.all (Tryz.prog.varReadable ·) = true := by kernel_rfl
theorem k_19 : Tryz.f4.resultTypes.all (fun t => Tryz.prog.readableRec t && decide (t < Tryz.prog.types.size)) = true := by kernel_rfl
theorem k_20 : (Rows.purgeFormatsRow.ifacesOut == Tryz.f4.resultTypes.toList.any (Tryz.prog.ifacesRec ·)) = true := by kernel_rfl
theorem k_21 : (Rows.purgeFormatsRow.loopsOut == Tryz.f4.resultTypes.toList.any (Tryz.prog.loopsFrom ·)) = true := by kernel_rfl
theorem k_22 : (Rows.purgeFormatsRow.plainKeys == Tryz.prog.plainKeys) = true := Fr.sf_plainKeys
theorem k_23 : Rows.purgeFormatsRow.shortTexts.isNone = true := by kernel_rfl
theorem k_24 : Tryz.prog.stopsHeard = true := Fr.sf_heard
theorem k_25 : Tryz.prog.mayEnter = true := Fr.sf_mayEnter
theorem k_26 : (Rows.purgeFormatsRow.lifted == Tryz.prog.liftsFinal) = true := Fr.sf_lifted
theorem k_27 : (Tryz.prog.make == some Rows.purgeFormatsRow.make) = true := Fr.sf_make
theorem k_28 : (Rows.purgeFormatsRow.kinds == (if Rows.purgeFormatsRow.domain.isEmpty then [] else Tryz.f4.params.toList.map fun t => match Tryz.prog.underlying t with | some (.int k) => some k | _ => none)) = true := by kernel_rfl
theorem k_29 : (Rows.purgeFormatsRow.pinned == Rows.purgeFormatsRow.pinnedBy) = true := by kernel_rfl
theorem k_30 : (Rows.purgeFormatsRow.veiled == (Tryz.f4.params.toList ++ (OpenSpec.ofChange Rows.purgeFormatsSpec).bare.plain.varTypes Tryz.prog ++ Tryz.f4.resultTypes.toList).any (Tryz.prog.veiledRec ·)) = true := by kernel_rfl
theorem k_31 : Rows.purgeFormatsRow.veiledFits Tryz.prog Tryz.f4.params.toList (Tryz.f4.params.toList ++ (OpenSpec.ofChange Rows.purgeFormatsSpec).bare.plain.varTypes Tryz.prog ++ Tryz.f4.resultTypes.toList) = true := by kernel_rfl
theorem closed : joinedFacts Tryz.prog 4 Tryz.f4 (OpenSpec.ofChange Rows.purgeFormatsSpec).bare Rows.purgeFormatsRow = true := Op.andT (Op.andT (Op.andT (Op.andT (Op.andT (Op.andT (Op.andT (Op.andT (Op.andT (Op.andT (Op.andT (Op.andT (Op.andT (Op.andT (Op.andT (Op.andT (Op.andT (Op.andT (Op.andT (Op.andT (Op.andT (Op.andT (Op.andT (Op.andT (Op.andT (Op.andT (Op.andT (Op.andT (Op.andT (Op.andT (Op.andT (k_0) k_1) k_2) k_3) k_4) k_5) k_6) k_7) k_8) k_9) k_10) k_11) k_12) k_13) k_14) k_15) k_16) k_17) k_18) k_19) k_20) k_21) k_22) k_23) k_24) k_25) k_26) k_27) k_28) k_29) k_30) k_31

theorem said : Rows.PurgeFormatsSaid :=
  OpenClaim.holds_of_cond 4 Tryz.f4 rfl rfl rfl rfl rfl rfl rfl ⟨rfl, rfl, rfl, rfl, rfl⟩ rfl rfl rfl rfl rfl (by kernel_rfl) Tryz.func4 closed
    (of_decide_eq_true (by kernel_rfl)) (by unfold Func.isWrapper; first | (rw [if_pos (by decide +kernel)]; kernel_rfl) | (rw [if_neg (by decide +kernel)]; exact ⟨rfl, rfl⟩))
    (fun os started H enc _ F => by rw [OpenClaim.pre_eq_preRow]; exact lifted os started H enc F)

theorem plain (b : Bool) (hb : b = Tryz.pinned.checked.prog.looks []) (f : FuncId) (fn : Func) (hf : Tryz.pinned.checked.prog.funcNamed "quayside/quaysidelaw36.PurgeFormats" = some f) (hfn : Tryz.pinned.checked.prog.funcs[f]? = some fn) :
    b = Tryz.pinned.checked.prog.looks [] ∧ ∀ (j : Nat) t, fn.params[j]? = some t → Tryz.pinned.checked.prog.wantsStandIn t = false := by
  obtain rfl : f = 4 := Option.some.inj ((show Tryz.prog.funcNamed "quayside/quaysidelaw36.PurgeFormats" = some 4 by kernel_rfl).symm.trans hf) |>.symm
  obtain rfl : fn = Tryz.f4 := (Option.some.inj (Tryz.func4.symm.trans hfn)).symm
  refine ⟨hb, fun j t ht => ?_⟩
  rw [Tryz.params4] at ht
  have hm : t ∈ [23] := by simpa using Array.mem_of_getElem? ht
  have hall : ([23].all fun u => !Tryz.prog.wantsStandIn u) = true := by kernel_rfl
  exact (show Tryz.prog.wantsStandIn t = false by simpa using List.all_eq_true.1 hall t hm)

theorem proved : Rows.PurgeFormatsCardSaid :=
  Claim7.holds_tied_plain_at .later [] _ _ _ _ said (fun _ h => by cases h) (by kernel_rfl) (fun _ h => by cases h) purgeFormats_row_tie rfl ⟨rfl, rfl⟩ (by kernel_rfl) rfl (plain _ (by kernel_rfl)) (by kernel_rfl)
#print axioms proved
end Go.Proofs.YtbnjajpencahfaaGreatDoor.lawPurgeFormats
