/- PROVED: AddressReturns returns true for every input and leaves its arguments as they were. No condition beyond the statement's own (the listed tables of package unicode/utf8 read as the program's text lays them, which the card ties). -/
import Derived.Test.YthbjpekgiiflkaaDoorFrame
import Derived.Test.YthbjpekgiiflkaaDoorAddrD
import Derived.Test.YthbjpekgiiflkaaDoorAddrE
import Derived.Test.YthbjpekgiiflkaaDoorAddrJ
import Derived.Test.YthbjpekgiiflkaaDoorAddrG
namespace Go.Proofs.YthbjpekgiiflkaaDoor.lawReturns
open Go.ChangeShapes Go.WideShapes Go.ChangeAt Go.RowKit Pl Ad A1
open Go.ChangeMaps (open_string shut_string)
attribute [local go_sem] ba_get conv_one conv_one_drewN ba_append ba_extract
set_option maxRecDepth 100000
set_option maxHeartbeats 4000000
set_option linter.unusedVariables false


theorem walk_large (h t : Bs) (w : World) (hr : Ready w) (h1 : h.length ≤ 140737488351232) (h2 : t.length ≤ 140737488351232) (hl : ¬ h.length + t.length ≤ 1500) :
    Calls Tryd.prog 11 #[.string ⟨h.toArray⟩, .string ⟨t.toArray⟩] w fun e w' => e = .returned (.bool true) ∧ Below w.heap.size w w' := by
  go_enter Tryd.func11, Tryd.ntmps11
  go_wp2_with fail
  refine (awake_any _ hr).mono ?_
  rintro e w1 ⟨rfl, hb1⟩
  go_wp2_with fail
  refine (awake_any _ (hr.below hb1)).mono ?_
  rintro e w2 ⟨rfl, hb2⟩
  go_wp2_with fail
  go_ret
  exact ⟨rfl, hb1.trans (hb2.mono hb1.size)⟩

theorem walk_err (h t : Bs) (n : Int) (w : World) (hr : Ready w) (hl : h.length + t.length ≤ 1500) (hp : parse h t = .error n) :
    Calls Tryd.prog 11 #[.string ⟨h.toArray⟩, .string ⟨t.toArray⟩] w fun e w' => e = .returned (.bool true) ∧ Below w.heap.size w w' := by
  have HP := Lib.hid hp
  clear hp
  go_enter Tryd.func11, Tryd.ntmps11
  go_wp2_with fail
  refine (awake_any _ hr).mono ?_
  rintro e w1 ⟨rfl, hb1⟩
  have hr1 := Lib.hid (hr.below hb1)
  go_wp2_with fail
  refine (parse_err _ (by omega) (by omega) hr1.out HP.out).mono ?_
  rintro e w2 ⟨rfl, hb2⟩
  have HB2 := Lib.hid (hb1.trans (hb2.mono hb1.size))
  clear hb1 hb2
  go_wp2_with (go_at_call 20; refine (ref_any ⟨[], [], [], false⟩ _).mono ?_; rintro e w3 ⟨rfl, hb3⟩)
  go_ret
  exact ⟨rfl, HB2.out.trans (((Below.refl w2.heap.size w2).alloc (Nat.le_refl _) _).trans (hb3.mono (by simp)) |>.mono HB2.out.size)⟩

theorem walk_ok_true (h t ah ap aq : Bs) (w : World) (hr : Ready w) (hl : h.length + t.length ≤ 1500) (hp : parse h t = .ok ⟨ah, ap, aq, true⟩) :
    Calls Tryd.prog 11 #[.string ⟨h.toArray⟩, .string ⟨t.toArray⟩] w fun e w' => e = .returned (.bool true) ∧ Below w.heap.size w w' := by
  have HP := Lib.hid hp
  have HV := Lib.hid (parse_valid hp)
  have HL := Lib.hid (parse_lens hp)
  have HG := Lib.hid (show parse ah (ap ++ 63 :: aq) = .ok ⟨ah, ap, aq, true⟩ by simpa [Adr.target] using parse_again hp)
  have HT := Lib.hid (show readL (adText ah ap aq true) = some ⟨ah, ap, aq, true⟩ from read_text hp)
  have HTL := Lib.hid (show (adText ah ap aq true).length ≤ 4096 by have h9 := parse_lens hp; simp [adText]; simp at h9; omega)
  clear hp
  obtain ⟨l1, l2, l3⟩ := HL.out
  simp only at l1 l2 l3
  go_enter Tryd.func11, Tryd.ntmps11
  go_wp2_with fail
  refine (awake_any _ hr).mono ?_
  rintro e w1 ⟨rfl, hb1⟩
  have hr1 := Lib.hid (hr.below hb1)
  go_wp2_with fail
  refine (parse_ok _ (by omega) (by omega) hr1.out HP.out).mono ?_
  rintro e w2 ⟨rfl, hb2⟩
  have hB2 := hb1.trans (hb2.mono hb1.size)
  have hA2 := (Below.refl w2.heap.size w2).alloc (Nat.le_refl _) (.cells #[.string ⟨ah.toArray⟩, .string ⟨ap.toArray⟩, .string ⟨aq.toArray⟩, .bool true] 38)
  have hX2 := box_new w2 38 (.string ⟨ah.toArray⟩) (.string ⟨ap.toArray⟩) (.string ⟨aq.toArray⟩) (.bool true)
  have hr2 := Lib.hid ((hr1.out.below hb2).below hA2)
  have hz2 : w2.heap.size < (w2.alloc (.cells #[.string ⟨ah.toArray⟩, .string ⟨ap.toArray⟩, .string ⟨aq.toArray⟩, .bool true] 38)).heap.size := by simp
  have hB2' := Lib.hid (hB2.trans (hA2.mono hB2.size))
  clear hb1 hb2 hB2 hA2
  go_wp2_with fail
  refine (format_yes ⟨ah, ap, aq, true⟩ _ hr2.out (by simp; omega) (by simp; omega) (by simp; omega) HV.out).mono ?_
  rintro e w3 ⟨rfl, hb3⟩
  have hX3 := hX2.below hb3 hz2
  have hr3 := Lib.hid (hr2.out.below hb3)
  have hB3 := Lib.hid (hB2'.out.trans (hb3.mono hB2'.out.size))
  have hz3 := Nat.lt_of_lt_of_le hz2 hb3.size
  clear hb3 hX2 hz2
  obtain ⟨⟨c0, c1, c2, c3⟩, _⟩ := hX3.facts
  go_wp2_with fail
  refine (read_yes _ _ _ hr3.out (Nat.le_trans HTL.out (by decide)) HT.out).mono ?_
  rintro e w4 ⟨rfl, hb4⟩
  have hX4 := hX3.below hb4 hz3
  have hA4 := (Below.refl w4.heap.size w4).alloc (Nat.le_refl _) (.cells #[.string ⟨ah.toArray⟩, .string ⟨ap.toArray⟩, .string ⟨aq.toArray⟩, .bool true] 38)
  have hY4 := box_new w4 38 (.string ⟨ah.toArray⟩) (.string ⟨ap.toArray⟩) (.string ⟨aq.toArray⟩) (.bool true)
  have hr4 := Lib.hid ((hr3.out.below hb4).below hA4)
  have hz4 := Nat.lt_of_lt_of_le hz3 hb4.size
  have hX4' := hX4.below hA4 hz4
  have hB4 := Lib.hid (hB3.out.trans ((hb4.trans (hA4.mono hb4.size)).mono hB3.out.size))
  have hz4' : w4.heap.size < (w4.alloc (.cells #[.string ⟨ah.toArray⟩, .string ⟨ap.toArray⟩, .string ⟨aq.toArray⟩, .bool true] 38)).heap.size := by simp
  have hz4b : w2.heap.size < (w4.alloc (.cells #[.string ⟨ah.toArray⟩, .string ⟨ap.toArray⟩, .string ⟨aq.toArray⟩, .bool true] 38)).heap.size := by simp; omega
  clear c0 c1 c2 c3 hb4 hX3 hz3 hA4
  obtain ⟨⟨c0, c1, c2, c3⟩, _⟩ := hX4.facts
  go_wp2_with fail
  refine (parse_ok _ (by omega) (by first | omega | (simp; omega)) hr4.out HG.out).mono ?_
  rintro e w5 ⟨rfl, hb5⟩
  have hX5 := hX4'.below hb5 hz4b
  have hY5 := hY4.below hb5 hz4'
  have hB5 := Lib.hid (hB4.out.trans (hb5.mono hB4.out.size))
  clear c0 c1 c2 c3
  obtain ⟨⟨c0, c1, c2, c3⟩, _, hs5⟩ := hX5.facts
  obtain ⟨⟨d0, d1, d2, d3⟩, _, ht5⟩ := hY5.facts
  go_wp2_with fail
  go_ret
  exact ⟨rfl, hB5.out.alloc hB5.out.size _⟩

theorem walk_ok_false (h t ah ap aq : Bs) (w : World) (hr : Ready w) (hl : h.length + t.length ≤ 1500) (hp : parse h t = .ok ⟨ah, ap, aq, false⟩) :
    Calls Tryd.prog 11 #[.string ⟨h.toArray⟩, .string ⟨t.toArray⟩] w fun e w' => e = .returned (.bool true) ∧ Below w.heap.size w w' := by
  have HP := Lib.hid hp
  have HV := Lib.hid (parse_valid hp)
  have HL := Lib.hid (parse_lens hp)
  have HG := Lib.hid (show parse ah ap = .ok ⟨ah, ap, aq, false⟩ by simpa [Adr.target] using parse_again hp)
  have HT := Lib.hid (show readL (adText ah ap aq false) = some ⟨ah, ap, aq, false⟩ from read_text hp)
  have HTL := Lib.hid (show (adText ah ap aq false).length ≤ 4096 by have h9 := parse_lens hp; simp [adText]; simp at h9; omega)
  clear hp
  obtain ⟨l1, l2, l3⟩ := HL.out
  simp only at l1 l2 l3
  go_enter Tryd.func11, Tryd.ntmps11
  go_wp2_with fail
  refine (awake_any _ hr).mono ?_
  rintro e w1 ⟨rfl, hb1⟩
  have hr1 := Lib.hid (hr.below hb1)
  go_wp2_with fail
  refine (parse_ok _ (by omega) (by omega) hr1.out HP.out).mono ?_
  rintro e w2 ⟨rfl, hb2⟩
  have hB2 := hb1.trans (hb2.mono hb1.size)
  have hA2 := (Below.refl w2.heap.size w2).alloc (Nat.le_refl _) (.cells #[.string ⟨ah.toArray⟩, .string ⟨ap.toArray⟩, .string ⟨aq.toArray⟩, .bool false] 38)
  have hX2 := box_new w2 38 (.string ⟨ah.toArray⟩) (.string ⟨ap.toArray⟩) (.string ⟨aq.toArray⟩) (.bool false)
  have hr2 := Lib.hid ((hr1.out.below hb2).below hA2)
  have hz2 : w2.heap.size < (w2.alloc (.cells #[.string ⟨ah.toArray⟩, .string ⟨ap.toArray⟩, .string ⟨aq.toArray⟩, .bool false] 38)).heap.size := by simp
  have hB2' := Lib.hid (hB2.trans (hA2.mono hB2.size))
  clear hb1 hb2 hB2 hA2
  go_wp2_with fail
  refine (format_yes ⟨ah, ap, aq, false⟩ _ hr2.out (by simp; omega) (by simp; omega) (by simp; omega) HV.out).mono ?_
  rintro e w3 ⟨rfl, hb3⟩
  have hX3 := hX2.below hb3 hz2
  have hr3 := Lib.hid (hr2.out.below hb3)
  have hB3 := Lib.hid (hB2'.out.trans (hb3.mono hB2'.out.size))
  have hz3 := Nat.lt_of_lt_of_le hz2 hb3.size
  clear hb3 hX2 hz2
  obtain ⟨⟨c0, c1, c2, c3⟩, _⟩ := hX3.facts
  go_wp2_with fail
  refine (read_yes _ _ _ hr3.out (Nat.le_trans HTL.out (by decide)) HT.out).mono ?_
  rintro e w4 ⟨rfl, hb4⟩
  have hX4 := hX3.below hb4 hz3
  have hA4 := (Below.refl w4.heap.size w4).alloc (Nat.le_refl _) (.cells #[.string ⟨ah.toArray⟩, .string ⟨ap.toArray⟩, .string ⟨aq.toArray⟩, .bool false] 38)
  have hY4 := box_new w4 38 (.string ⟨ah.toArray⟩) (.string ⟨ap.toArray⟩) (.string ⟨aq.toArray⟩) (.bool false)
  have hr4 := Lib.hid ((hr3.out.below hb4).below hA4)
  have hz4 := Nat.lt_of_lt_of_le hz3 hb4.size
  have hX4' := hX4.below hA4 hz4
  have hB4 := Lib.hid (hB3.out.trans ((hb4.trans (hA4.mono hb4.size)).mono hB3.out.size))
  have hz4' : w4.heap.size < (w4.alloc (.cells #[.string ⟨ah.toArray⟩, .string ⟨ap.toArray⟩, .string ⟨aq.toArray⟩, .bool false] 38)).heap.size := by simp
  have hz4b : w2.heap.size < (w4.alloc (.cells #[.string ⟨ah.toArray⟩, .string ⟨ap.toArray⟩, .string ⟨aq.toArray⟩, .bool false] 38)).heap.size := by simp; omega
  clear c0 c1 c2 c3 hb4 hX3 hz3 hA4
  obtain ⟨⟨c0, c1, c2, c3⟩, _⟩ := hX4.facts
  go_wp2_with fail
  refine (parse_ok _ (by omega) (by first | omega | (simp; omega)) hr4.out HG.out).mono ?_
  rintro e w5 ⟨rfl, hb5⟩
  have hX5 := hX4'.below hb5 hz4b
  have hY5 := hY4.below hb5 hz4'
  have hB5 := Lib.hid (hB4.out.trans (hb5.mono hB4.out.size))
  clear c0 c1 c2 c3
  obtain ⟨⟨c0, c1, c2, c3⟩, _, hs5⟩ := hX5.facts
  obtain ⟨⟨d0, d1, d2, d3⟩, _, ht5⟩ := hY5.facts
  go_wp2_with fail
  go_ret
  exact ⟨rfl, hB5.out.alloc hB5.out.size _⟩

theorem walk (h t : Bs) (w : World) (hr : Ready w) (h1 : h.length ≤ 140737488351232) (h2 : t.length ≤ 140737488351232) :
    Calls Tryd.prog 11 #[.string ⟨h.toArray⟩, .string ⟨t.toArray⟩] w fun e w' => e = .returned (.bool true) ∧ Below w.heap.size w w' := by
  by_cases hl : h.length + t.length ≤ 1500
  · cases hp : parse h t with
    | error n => exact walk_err h t n w hr hl hp
    | ok a =>
      obtain ⟨ah, ap, aq, ab⟩ := a
      cases ab
      · exact walk_ok_false h t ah ap aq w hr hl hp
      · exact walk_ok_true h t ah ap aq w hr hl hp
  · exact walk_large h t w hr h1 h2 hl

/-- What the walk gives, for every argument. -/
theorem contract (H : Type) (enc : TypeId × Value → H) (W : World) (base : Nat) (args : Array Value) (ds gs : List (DataW H)) (before : List MemPlace)
    (hval : ∀ (j : Nat) t v, Tryd.f11.params[j]? = some t → args[j]? = some v → Value.okWide Tryd.prog W .any base t v)
    (hW : DataW.Whole enc Tryd.prog Tryd.f11.params.toList Rows.addressReturnsSpec.vars false W args.toList ds gs before) (hsz : (DataW.weightsEach Tryd.prog Tryd.f11.params.toList (ds ++ gs)).all (· ≤ reachBytes) = true) (hr : Ready W) :
    Calls Tryd.prog 11 args W fun e W' => ∃ v, e = .returned v ∧ Rows.addressReturnsSpec.post enc Tryd.prog Tryd.f11 false true false false W args v W' := by
  have hW' := hW
  have hlt := fun p hp => hW.lt p hp
  obtain ⟨p, q, hA0, hV, rfl, hfz, hnd⟩ := hW
  have hA : DataW.TrodAll enc Tryd.prog W 0 (fun _ => true) true Tryd.f11.params.toList args.toList ds p := hA0
  have hA1 := hA
  obtain ⟨rfl, rfl⟩ := trodVars_none hV
  rw [Tryd.params11] at hA hval
  obtain ⟨v0, vs0, d0, ds0, p0, q0, hargs, rfl, rfl, h0, r0⟩ := trodAll_cons hA
  obtain ⟨v1, vs1, d1, ds1, p1, q1, rfl, rfl, rfl, h1, r1⟩ := trodAll_cons r0
  obtain ⟨rfl, rfl, rfl⟩ := trodAll_nil r1
  obtain rfl : args = #[v0, v1] := by cases args; simp_all
  have fin : ∀ W', Below W.heap.size W W' → Rows.addressReturnsSpec.post enc Tryd.prog Tryd.f11 false true false false W #[v0, v1] (.bool true) W' := fun W' hb => by
    simp only [List.append_nil] at hA1 hW' hlt
    exact ⟨_, _, _, [], _, [], hW', trodAll_cons_mk (shut_bool Tryd.underlying4 _) trodAll_mk0, Fr.trodAll_below (by kernel_rfl) _ (by kernel_rfl) hA1 hb hlt, rfl, hb.frame _, fun h => by cases h⟩
  clear hW' hA0 hA1 hlt
  rw [Tryd.params11, List.append_nil] at hsz
  obtain ⟨s0, rfl, rfl, rfl, hs0⟩ := open_string Tryd.underlying9 (hval 0 9 v0 rfl rfl) h0
  obtain ⟨⟨l0⟩⟩ := s0
  have z0 : l0.length ≤ 140737488351232 := sized_string hsz (j := 0) rfl rfl
  obtain ⟨s1, rfl, rfl, rfl, hs1⟩ := open_string Tryd.underlying9 (hval 1 9 v1 rfl rfl) h1
  obtain ⟨⟨l1⟩⟩ := s1
  have z1 : l1.length ≤ 140737488351232 := sized_string hsz (j := 1) rfl rfl
  refine (walk l0 l1 W hr z0 z1).mono fun e W' ⟨he, hb⟩ => ?_
  subst he
  exact ⟨_, rfl, fin W' hb⟩

theorem laid_met (os : Os) : laidMet Tryd.prog Rows.addressReturnsRow.laid ((Fr.laidWorld os).forCall (fun _ _ => 0) ⟨#[], #[.string ⟨#[]⟩, .string ⟨#[]⟩], []⟩).memory :=
  laidMet_of_run' 8 (by kernel_rfl) (by kernel_rfl)
theorem reads (os : Os) {H : Type} (enc : TypeId × Value → H) : ∃ places, DataW.whole enc Tryd.prog ((Fr.laidWorld os).forCall (fun _ _ => 0) ⟨#[], #[.string ⟨#[]⟩, .string ⟨#[]⟩], []⟩).memory Tryd.f11.params.toList Rows.addressReturnsSpec.vars false (#[.string ⟨#[]⟩, .string ⟨#[]⟩] : Array Value).toList 8 = some ([.lit (.string []), .lit (.string [])], [], places) :=
  ⟨[], by kernel_rfl⟩

theorem lifted (os : Os) (started : os.Started) (H : Type) (enc : TypeId × Value → H) (F : Stop.Interp) :
    ReturnsInHanded {} Tryd.checked os 11 .any ((OpenSpec.ofChange Rows.addressReturnsSpec).preRow enc Tryd.prog Tryd.f11 Rows.addressReturnsRow.domain false Rows.addressReturnsRow.laid) (((OpenSpec.ofChange Rows.addressReturnsSpec).at F).post enc Tryd.prog Tryd.f11 false true false false) := by
  obtain ⟨places, hx⟩ := reads os enc
  refine returnsInHanded_of_row (C := Tryd.checked) (s := OpenSpec.ofChange Rows.addressReturnsSpec) Fr.own started (by kernel_rfl) Tryd.func11
    (witness_row_at (enc := enc) (C := Tryd.checked) false (Fr.laidWorld os) #[.string ⟨#[]⟩, .string ⟨#[]⟩] rfl (by kernel_rfl) (by kernel_rfl) (by kernel_rfl)
      (OpenSpec.preRow_of_cond 8 hx (by kernel_rfl) (fun k hk => by cases hk) (by kernel_rfl) (laid_met os))) ?_
  intro W base args ds gs before hval hW _ hcond hsz _ hsh _
  exact contract H enc W base args ds gs before hval hW (by have h9 : (DataW.weightsEach Tryd.prog (Tryd.f11.params.toList ++ []) (ds ++ gs)).all (· ≤ reachBytes) = true := hsz; rw [List.append_nil] at h9; exact h9) (Fr.ready hsh)

theorem said : Rows.AddressReturnsSaid :=
  OpenClaim.holds_of_cond 11 Tryd.f11 rfl rfl rfl rfl rfl rfl rfl ⟨rfl, rfl, rfl, rfl, rfl⟩ rfl rfl rfl rfl rfl (by kernel_rfl) Tryd.func11 (by kernel_rfl)
    (of_decide_eq_true (by kernel_rfl)) (by unfold Func.isWrapper; first | (rw [if_pos (by decide +kernel)]; kernel_rfl) | (rw [if_neg (by decide +kernel)]; exact ⟨rfl, rfl⟩))
    (fun os started H enc _ F => by rw [OpenClaim.pre_eq_preRow]; exact lifted os started H enc F)

theorem plain (f : FuncId) (fn : Func) (hf : Tryd.pinned.checked.prog.funcNamed "quayside/quaysidelaw03.AddressReturns" = some f) (hfn : Tryd.pinned.checked.prog.funcs[f]? = some fn) :
    true = Tryd.pinned.checked.prog.looks [] ∧ ∀ (j : Nat) t, fn.params[j]? = some t → Tryd.pinned.checked.prog.wantsStandIn t = false := by
  obtain rfl : f = 11 := Option.some.inj ((show Tryd.prog.funcNamed "quayside/quaysidelaw03.AddressReturns" = some 11 by kernel_rfl).symm.trans hf) |>.symm
  obtain rfl : fn = Tryd.f11 := (Option.some.inj (Tryd.func11.symm.trans hfn)).symm
  refine ⟨by kernel_rfl, fun j t ht => ?_⟩
  rw [Tryd.params11] at ht
  have hm : t ∈ [9] := by simpa using Array.mem_of_getElem? ht
  have hall : ([9].all fun u => !Tryd.prog.wantsStandIn u) = true := by kernel_rfl
  exact (show Tryd.prog.wantsStandIn t = false by simpa using List.all_eq_true.1 hall t hm)

theorem proved : Rows.AddressReturnsCardSaid :=
  Claim7.holds_tied_plain_at .later [] _ _ _ _ said (fun _ h => by cases h) (by kernel_rfl) (fun _ h => by cases h) addressReturns_row_tie rfl ⟨rfl, rfl⟩ (by kernel_rfl) rfl plain (by kernel_rfl)
#print axioms proved
end Go.Proofs.YthbjpekgiiflkaaDoor.lawReturns
