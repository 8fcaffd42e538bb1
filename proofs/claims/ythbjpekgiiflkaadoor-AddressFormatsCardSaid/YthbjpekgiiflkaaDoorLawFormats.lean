/- PROVED: AddressFormats returns true for every input and leaves its argument as it was. No condition beyond the statement's own (the listed tables of package unicode/utf8 read as the program's text lays them, which the card ties). -/
import Derived.Test.YthbjpekgiiflkaaDoorFrame
import Derived.Test.YthbjpekgiiflkaaDoorAddrD
import Derived.Test.YthbjpekgiiflkaaDoorAddrE
namespace Go.Proofs.YthbjpekgiiflkaaDoor.lawFormats
open Go.ChangeShapes Go.WideShapes Go.ChangeAt Go.RowKit Pl Ad A1
open Go.ChangeMaps (open_string shut_string)
attribute [local go_sem] ba_get conv_one conv_one_drewN ba_append ba_extract
set_option maxRecDepth 100000
set_option maxHeartbeats 4000000
set_option linter.unusedVariables false


/-- An address' cells, and the world below them as it was. -/
structure OneBox (w : World) (h p q : Bs) (b : Bool) (w' : World) : Prop where
  bel : Below w.heap.size w w'
  size : w.heap.size < w'.heap.size
  box : Box w' w.heap.size 43 (.string ⟨h.toArray⟩) (.string ⟨p.toArray⟩) (.string ⟨q.toArray⟩) (.bool b)
theorem OneBox.keep {w : World} {h p q : Bs} {b : Bool} {w1 w2 : World} (s : OneBox w h p q b w1) (hb : Below w1.heap.size w1 w2) : OneBox w h p q b w2 :=
  ⟨s.bel.trans (hb.mono s.bel.size), Nat.lt_of_lt_of_le s.size hb.size, s.box.below hb s.size⟩

theorem walk_large (h p q : Bs) (b : Bool) (w : World) (hr : Ready w) (h1 : h.length ≤ 140737488351232) (h2 : p.length ≤ 140737488351232) (h3 : q.length ≤ 140737488351232) (hl : ¬ h.length + p.length + q.length ≤ 1500) :
    Calls Tryd.prog 6 #[.agg #[.string ⟨h.toArray⟩, .string ⟨p.toArray⟩, .string ⟨q.toArray⟩, .bool b]] w fun e w' => e = .returned (.bool true) ∧ Below w.heap.size w w' := by
  have hbz := (Below.refl w.heap.size w).alloc (Nat.le_refl _) (.cells #[.string ⟨h.toArray⟩, .string ⟨p.toArray⟩, .string ⟨q.toArray⟩, .bool b] 43)
  have HRD := Lib.hid (hr.below hbz)
  have HS : Hid (OneBox w h p q b _) := ⟨hbz, by simp, box_new w 43 (.string ⟨h.toArray⟩) (.string ⟨p.toArray⟩) (.string ⟨q.toArray⟩) (.bool b)⟩
  clear hr hbz
  go_enter Tryd.func6, Tryd.ntmps6
  go_wp2_with fail
  have hS0 := HS.out
  have HR0 := HRD
  refine (awake_any _ HRD.out).mono ?_
  rintro e w1 ⟨rfl, hb⟩
  have hS1 := hS0.keep hb
  have HR1 := Lib.hid (HR0.out.below hb)
  obtain ⟨⟨c0, c1, c2, c3⟩, _⟩ := hS1.box.facts
  clear hb
  go_wp2_with fail
  refine (awake_any _ HR1.out).mono ?_
  rintro e w2 ⟨rfl, hb⟩
  have hS2 := hS1.keep hb
  have HR2 := Lib.hid (HR1.out.below hb)
  obtain ⟨⟨c0, c1, c2, c3⟩, _⟩ := hS2.box.facts
  clear hb
  go_wp2_with fail
  go_ret
  exact ⟨rfl, hS2.bel⟩

theorem walk_yes (h p q : Bs) (b : Bool) (w : World) (hr : Ready w) (hl : h.length + p.length + q.length ≤ 1500) (hv : valid ⟨h, p, q, b⟩ = true) :
    Calls Tryd.prog 6 #[.agg #[.string ⟨h.toArray⟩, .string ⟨p.toArray⟩, .string ⟨q.toArray⟩, .bool b]] w fun e w' => e = .returned (.bool true) ∧ Below w.heap.size w w' := by
  have HV := Lib.hid hv
  clear hv
  have hbz := (Below.refl w.heap.size w).alloc (Nat.le_refl _) (.cells #[.string ⟨h.toArray⟩, .string ⟨p.toArray⟩, .string ⟨q.toArray⟩, .bool b] 43)
  have HRD := Lib.hid (hr.below hbz)
  have HS : Hid (OneBox w h p q b _) := ⟨hbz, by simp, box_new w 43 (.string ⟨h.toArray⟩) (.string ⟨p.toArray⟩) (.string ⟨q.toArray⟩) (.bool b)⟩
  clear hr hbz
  go_enter Tryd.func6, Tryd.ntmps6
  go_wp2_with fail
  have hS0 := HS.out
  have HR0 := HRD
  refine (awake_any _ HRD.out).mono ?_
  rintro e w1 ⟨rfl, hb⟩
  have hS1 := hS0.keep hb
  have HR1 := Lib.hid (HR0.out.below hb)
  obtain ⟨⟨c0, c1, c2, c3⟩, _⟩ := hS1.box.facts
  clear hb
  go_wp2_with fail
  refine (refValid_any ⟨h, p, q, b⟩ _ (by simp; omega) (by simp; omega) (by simp; omega)).mono ?_
  rintro e w2 ⟨rfl, hb⟩
  have hS2 := hS1.keep hb
  have HR2 := Lib.hid (HR1.out.below hb)
  obtain ⟨⟨c0, c1, c2, c3⟩, _⟩ := hS2.box.facts
  clear hb
  rw [HV.out]
  go_wp2_with fail
  refine (of_any ⟨h, p, q, b⟩ _).mono ?_
  rintro e w3 ⟨rfl, hb⟩
  have hS3 := hS2.keep hb
  have HR3 := Lib.hid (HR2.out.below hb)
  obtain ⟨⟨c0, c1, c2, c3⟩, _⟩ := hS3.box.facts
  clear hb
  go_wp2_with fail
  refine (format_yes ⟨h, p, q, b⟩ _ HR3.out (by simp; omega) (by simp; omega) (by simp; omega) HV.out).mono ?_
  rintro e w4 ⟨rfl, hb⟩
  have hS4 := hS3.keep hb
  have HR4 := Lib.hid (HR3.out.below hb)
  obtain ⟨⟨c0, c1, c2, c3⟩, _⟩ := hS4.box.facts
  clear hb
  go_wp2_with fail
  refine (of_any ⟨h, p, q, b⟩ _).mono ?_
  rintro e w5 ⟨rfl, hb⟩
  have hS5 := hS4.keep hb
  have HR5 := Lib.hid (HR4.out.below hb)
  obtain ⟨⟨c0, c1, c2, c3⟩, _⟩ := hS5.box.facts
  clear hb
  go_wp2_with fail
  refine (valid_any ⟨h, p, q, b⟩ _ HR5.out (by simp; omega) (by simp; omega) (by simp; omega)).mono ?_
  rintro e w6 ⟨rfl, hb⟩
  have hS6 := hS5.keep hb
  have HR6 := Lib.hid (HR5.out.below hb)
  obtain ⟨⟨c0, c1, c2, c3⟩, _⟩ := hS6.box.facts
  clear hb
  rw [HV.out]
  go_wp2_with fail
  refine (refText_any h p q b _ (by omega) (by omega) (by omega)).mono ?_
  rintro e w7 ⟨rfl, hb⟩
  have hS7 := hS6.keep hb
  have HR7 := Lib.hid (HR6.out.below hb)
  obtain ⟨⟨c0, c1, c2, c3⟩, _⟩ := hS7.box.facts
  clear hb
  go_wp2_with fail
  go_ret
  exact ⟨ret_bool (by simp [Adr.text]), hS7.bel⟩

theorem walk_no (h p q : Bs) (b : Bool) (w : World) (hr : Ready w) (hl : h.length + p.length + q.length ≤ 1500) (hv : valid ⟨h, p, q, b⟩ = false) :
    Calls Tryd.prog 6 #[.agg #[.string ⟨h.toArray⟩, .string ⟨p.toArray⟩, .string ⟨q.toArray⟩, .bool b]] w fun e w' => e = .returned (.bool true) ∧ Below w.heap.size w w' := by
  have HV := Lib.hid hv
  clear hv
  have hbz := (Below.refl w.heap.size w).alloc (Nat.le_refl _) (.cells #[.string ⟨h.toArray⟩, .string ⟨p.toArray⟩, .string ⟨q.toArray⟩, .bool b] 43)
  have HRD := Lib.hid (hr.below hbz)
  have HS : Hid (OneBox w h p q b _) := ⟨hbz, by simp, box_new w 43 (.string ⟨h.toArray⟩) (.string ⟨p.toArray⟩) (.string ⟨q.toArray⟩) (.bool b)⟩
  clear hr hbz
  go_enter Tryd.func6, Tryd.ntmps6
  go_wp2_with fail
  have hS0 := HS.out
  have HR0 := HRD
  refine (awake_any _ HRD.out).mono ?_
  rintro e w1 ⟨rfl, hb⟩
  have hS1 := hS0.keep hb
  have HR1 := Lib.hid (HR0.out.below hb)
  obtain ⟨⟨c0, c1, c2, c3⟩, _⟩ := hS1.box.facts
  clear hb
  go_wp2_with fail
  refine (refValid_any ⟨h, p, q, b⟩ _ (by simp; omega) (by simp; omega) (by simp; omega)).mono ?_
  rintro e w2 ⟨rfl, hb⟩
  have hS2 := hS1.keep hb
  have HR2 := Lib.hid (HR1.out.below hb)
  obtain ⟨⟨c0, c1, c2, c3⟩, _⟩ := hS2.box.facts
  clear hb
  rw [HV.out]
  go_wp2_with fail
  refine (of_any ⟨h, p, q, b⟩ _).mono ?_
  rintro e w3 ⟨rfl, hb⟩
  have hS3 := hS2.keep hb
  have HR3 := Lib.hid (HR2.out.below hb)
  obtain ⟨⟨c0, c1, c2, c3⟩, _⟩ := hS3.box.facts
  clear hb
  go_wp2_with fail
  refine (format_no ⟨h, p, q, b⟩ _ HR3.out (by simp; omega) (by simp; omega) (by simp; omega) HV.out).mono ?_
  rintro e w4 ⟨rfl, hb⟩
  have hS4 := hS3.keep hb
  have HR4 := Lib.hid (HR3.out.below hb)
  obtain ⟨⟨c0, c1, c2, c3⟩, _⟩ := hS4.box.facts
  clear hb
  go_wp2_with fail
  refine (of_any ⟨h, p, q, b⟩ _).mono ?_
  rintro e w5 ⟨rfl, hb⟩
  have hS5 := hS4.keep hb
  have HR5 := Lib.hid (HR4.out.below hb)
  obtain ⟨⟨c0, c1, c2, c3⟩, _⟩ := hS5.box.facts
  clear hb
  go_wp2_with fail
  refine (valid_any ⟨h, p, q, b⟩ _ HR5.out (by simp; omega) (by simp; omega) (by simp; omega)).mono ?_
  rintro e w6 ⟨rfl, hb⟩
  have hS6 := hS5.keep hb
  have HR6 := Lib.hid (HR5.out.below hb)
  obtain ⟨⟨c0, c1, c2, c3⟩, _⟩ := hS6.box.facts
  clear hb
  rw [HV.out]
  go_wp2_with (go_at_call 15; refine (is_err 2 _ (by decide)).mono ?_; rintro e w7 ⟨rfl, rfl⟩)
  go_ret
  exact ⟨rfl, hS6.bel⟩

theorem walk (h p q : Bs) (b : Bool) (w : World) (hr : Ready w) (h1 : h.length ≤ 140737488351232) (h2 : p.length ≤ 140737488351232) (h3 : q.length ≤ 140737488351232) :
    Calls Tryd.prog 6 #[.agg #[.string ⟨h.toArray⟩, .string ⟨p.toArray⟩, .string ⟨q.toArray⟩, .bool b]] w fun e w' => e = .returned (.bool true) ∧ Below w.heap.size w w' := by
  by_cases hl : h.length + p.length + q.length ≤ 1500
  · cases hv : valid ⟨h, p, q, b⟩ with
    | true => exact walk_yes h p q b w hr hl hv
    | false => exact walk_no h p q b w hr hl hv
  · exact walk_large h p q b w hr h1 h2 h3 hl

/-- What the walk gives, for every argument. -/
theorem contract (H : Type) (enc : TypeId × Value → H) (W : World) (base : Nat) (args : Array Value) (ds gs : List (DataW H)) (before : List MemPlace)
    (hval : ∀ (j : Nat) t v, Tryd.f6.params[j]? = some t → args[j]? = some v → Value.okWide Tryd.prog W .any base t v)
    (hW : DataW.Whole enc Tryd.prog Tryd.f6.params.toList Rows.addressFormatsSpec.vars false W args.toList ds gs before) (hsz : (DataW.weightsEach Tryd.prog Tryd.f6.params.toList (ds ++ gs)).all (· ≤ reachBytes) = true) (hr : Ready W) :
    Calls Tryd.prog 6 args W fun e W' => ∃ v, e = .returned v ∧ Rows.addressFormatsSpec.post enc Tryd.prog Tryd.f6 false true false false W args v W' := by
  have hW' := hW
  have hlt := fun p hp => hW.lt p hp
  obtain ⟨p, q, hA0, hV, rfl, hfz, hnd⟩ := hW
  have hA : DataW.TrodAll enc Tryd.prog W 0 (fun _ => true) true Tryd.f6.params.toList args.toList ds p := hA0
  have hA1 := hA
  obtain ⟨rfl, rfl⟩ := trodVars_none hV
  rw [Tryd.params6] at hA hval
  obtain ⟨v0, vs0, d0, ds0, p0, q0, hargs, rfl, rfl, h0, r0⟩ := trodAll_cons hA
  obtain ⟨rfl, rfl, rfl⟩ := trodAll_nil r0
  obtain rfl : args = #[v0] := by cases args; simp_all
  have fin : ∀ W', Below W.heap.size W W' → Rows.addressFormatsSpec.post enc Tryd.prog Tryd.f6 false true false false W #[v0] (.bool true) W' := fun W' hb => by
    simp only [List.append_nil] at hA1 hW' hlt
    exact ⟨_, _, _, [], _, [], hW', trodAll_cons_mk (shut_bool Tryd.underlying4 _) trodAll_mk0, Fr.trodAll_below (by kernel_rfl) _ (by kernel_rfl) hA1 hb hlt, rfl, hb.frame _, fun h => by cases h⟩
  clear hW' hA0 hA1 hlt
  rw [Tryd.params6, List.append_nil] at hsz
  obtain ⟨c0, c1, c2, c3, y0, y1, y2, y3, m, rfl, rfl, rfl, hy0, hy1, hy2, hy3⟩ := Go.Joins.open_agg4 Tryd.underlying43 (by kernel_rfl) (show Tryd.prog.cellsOf 43 = 4 by kernel_rfl) (hval 0 43 v0 rfl rfl) h0
  obtain ⟨s0_0, e0, rfl, hs0_0⟩ := DataW.trod_string Tryd.underlying9 hy0
  obtain ⟨s0_1, e1, rfl, hs0_1⟩ := DataW.trod_string Tryd.underlying9 hy1
  obtain ⟨s0_2, e2, rfl, hs0_2⟩ := DataW.trod_string Tryd.underlying9 hy2
  obtain ⟨b0, e3, rfl⟩ := DataW.trod_bool Tryd.underlying4 hy3
  simp only [List.cons.injEq, and_true] at e0 e1 e2 e3
  subst e0 e1 e2 e3
  obtain ⟨⟨l0_0⟩⟩ := s0_0
  obtain ⟨⟨l0_1⟩⟩ := s0_1
  obtain ⟨⟨l0_2⟩⟩ := s0_2
  have z0 : l0_0.length ≤ 140737488351232 ∧ l0_1.length ≤ 140737488351232 ∧ l0_2.length ≤ 140737488351232 := Fr.sized_adr hsz (j := 0) rfl rfl Tryd.underlying43
  refine (walk l0_0 l0_1 l0_2 b0 W hr z0.1 z0.2.1 z0.2.2).mono fun e W' ⟨he, hb⟩ => ?_
  subst he
  exact ⟨_, rfl, fin W' hb⟩

theorem laid_met (os : Os) : laidMet Tryd.prog Rows.addressFormatsRow.laid ((Fr.laidWorld os).forCall (fun _ _ => 0) ⟨#[], #[.agg #[.string ⟨#[]⟩, .string ⟨#[]⟩, .string ⟨#[]⟩, .bool false]], []⟩).memory :=
  laidMet_of_run' 8 (by kernel_rfl) (by kernel_rfl)
theorem reads (os : Os) {H : Type} (enc : TypeId × Value → H) : ∃ places, DataW.whole enc Tryd.prog ((Fr.laidWorld os).forCall (fun _ _ => 0) ⟨#[], #[.agg #[.string ⟨#[]⟩, .string ⟨#[]⟩, .string ⟨#[]⟩, .bool false]], []⟩).memory Tryd.f6.params.toList Rows.addressFormatsSpec.vars false (#[.agg #[.string ⟨#[]⟩, .string ⟨#[]⟩, .string ⟨#[]⟩, .bool false]] : Array Value).toList 8 = some ([.agg [.lit (.string []), .lit (.string []), .lit (.string []), .lit (.bool false)]], [], places) :=
  ⟨[], by kernel_rfl⟩

theorem lifted (os : Os) (started : os.Started) (H : Type) (enc : TypeId × Value → H) (F : Stop.Interp) :
    ReturnsInHanded {} Tryd.checked os 6 .any ((OpenSpec.ofChange Rows.addressFormatsSpec).preRow enc Tryd.prog Tryd.f6 Rows.addressFormatsRow.domain false Rows.addressFormatsRow.laid) (((OpenSpec.ofChange Rows.addressFormatsSpec).at F).post enc Tryd.prog Tryd.f6 false true false false) := by
  obtain ⟨places, hx⟩ := reads os enc
  refine returnsInHanded_of_row (C := Tryd.checked) (s := OpenSpec.ofChange Rows.addressFormatsSpec) Fr.own started (by kernel_rfl) Tryd.func6
    (witness_row_at (enc := enc) (C := Tryd.checked) false (Fr.laidWorld os) #[.agg #[.string ⟨#[]⟩, .string ⟨#[]⟩, .string ⟨#[]⟩, .bool false]] rfl (by kernel_rfl) (by kernel_rfl) (by kernel_rfl)
      (OpenSpec.preRow_of_cond 8 hx (by kernel_rfl) (fun k hk => by cases hk) (by kernel_rfl) (laid_met os))) ?_
  intro W base args ds gs before hval hW _ _ hsz _ hsh _
  exact contract H enc W base args ds gs before hval hW (by have h9 : (DataW.weightsEach Tryd.prog (Tryd.f6.params.toList ++ []) (ds ++ gs)).all (· ≤ reachBytes) = true := hsz; rw [List.append_nil] at h9; exact h9) (Fr.ready hsh)

theorem said : Rows.AddressFormatsSaid :=
  OpenClaim.holds_of_cond 6 Tryd.f6 rfl rfl rfl rfl rfl rfl rfl ⟨rfl, rfl, rfl, rfl, rfl⟩ rfl rfl rfl rfl rfl (by kernel_rfl) Tryd.func6 (by kernel_rfl)
    (of_decide_eq_true (by kernel_rfl)) (by unfold Func.isWrapper; first | (rw [if_pos (by decide +kernel)]; kernel_rfl) | (rw [if_neg (by decide +kernel)]; exact ⟨rfl, rfl⟩))
    (fun os started H enc _ F => by rw [OpenClaim.pre_eq_preRow]; exact lifted os started H enc F)

theorem plain (f : FuncId) (fn : Func) (hf : Tryd.pinned.checked.prog.funcNamed "quayside/quaysidelaw03.AddressFormats" = some f) (hfn : Tryd.pinned.checked.prog.funcs[f]? = some fn) :
    true = Tryd.pinned.checked.prog.looks [] ∧ ∀ (j : Nat) t, fn.params[j]? = some t → Tryd.pinned.checked.prog.wantsStandIn t = false := by
  obtain rfl : f = 6 := Option.some.inj ((show Tryd.prog.funcNamed "quayside/quaysidelaw03.AddressFormats" = some 6 by kernel_rfl).symm.trans hf) |>.symm
  obtain rfl : fn = Tryd.f6 := (Option.some.inj (Tryd.func6.symm.trans hfn)).symm
  refine ⟨by kernel_rfl, fun j t ht => ?_⟩
  rw [Tryd.params6] at ht
  have hm : t ∈ [43] := by simpa using Array.mem_of_getElem? ht
  have hall : ([43].all fun u => !Tryd.prog.wantsStandIn u) = true := by kernel_rfl
  exact (show Tryd.prog.wantsStandIn t = false by simpa using List.all_eq_true.1 hall t hm)

theorem proved : Rows.AddressFormatsCardSaid :=
  Claim7.holds_tied_plain_at .later [] _ _ _ _ said (fun _ h => by cases h) (by kernel_rfl) (fun _ h => by cases h) addressFormats_row_tie rfl ⟨rfl, rfl⟩ (by kernel_rfl) rfl plain (by kernel_rfl)
#print axioms proved
end Go.Proofs.YthbjpekgiiflkaaDoor.lawFormats
