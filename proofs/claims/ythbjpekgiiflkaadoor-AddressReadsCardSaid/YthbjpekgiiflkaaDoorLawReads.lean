/- PROVED: AddressReads returns true for every input and leaves its argument as it was. No condition beyond the statement's own (the listed tables of package unicode/utf8 read as the program's text lays them, which the card ties). -/
import Derived.Test.YthbjpekgiiflkaaDoorFrame
import Derived.Test.YthbjpekgiiflkaaDoorAddrD
import Derived.Test.YthbjpekgiiflkaaDoorAddrE
import Derived.Test.YthbjpekgiiflkaaDoorAddrK
import Derived.Deep.RegionHeld3
import Derived.Test.YthbjpekgiiflkaaDoorAddrG
namespace Go.Proofs.YthbjpekgiiflkaaDoor.lawReads
open Go.ChangeShapes Go.WideShapes Go.ChangeAt Go.RowKit Pl Ad A1
open Go.ChangeMaps (open_string shut_string)
attribute [local go_sem] ba_get conv_one conv_one_drewN ba_append ba_extract
set_option maxRecDepth 100000
set_option maxHeartbeats 4000000
set_option linter.unusedVariables false


theorem Box.drewBelow {w w' : World} {R T B : Nat} {v0 v1 v2 v3 : Value} (h : Box w R T v0 v1 v2 v3) (hb : Below B w.drew w') (hR : R < B) : Box w' R T v0 v1 v2 v3 := (hb.block R hR).trans h

/-- Two variables that hold one address, and the world below them as it was. -/
structure PBox (w : World) (A B : Nat) (ah ap aq : Bs) (ab : Bool) (w' : World) : Prop where
  bel : Below w.heap.size w w'
  sa : A < w'.heap.size
  sb : B < w'.heap.size
  boxA : Box w' A 38 (.string ⟨ah.toArray⟩) (.string ⟨ap.toArray⟩) (.string ⟨aq.toArray⟩) (.bool ab)
  boxB : Box w' B 43 (.string ⟨ah.toArray⟩) (.string ⟨ap.toArray⟩) (.string ⟨aq.toArray⟩) (.bool ab)
theorem PBox.keep {w : World} {A B : Nat} {ah ap aq : Bs} {ab : Bool} {w1 w2 : World} {N : Nat} (hb : Below N w1 w2) (hN : N = w1.heap.size) (s : PBox w A B ah ap aq ab w1) : PBox w A B ah ap aq ab w2 := by
  subst hN
  exact ⟨s.bel.trans (hb.mono s.bel.size), Nat.lt_of_lt_of_le s.sa hb.size, Nat.lt_of_lt_of_le s.sb hb.size, s.boxA.below hb s.sa, s.boxB.below hb s.sb⟩
theorem PBox.drew {w : World} {A B : Nat} {ah ap aq : Bs} {ab : Bool} {w1 : World} (s : PBox w A B ah ap aq ab w1) : PBox w A B ah ap aq ab w1.drew := ⟨s.bel.drew, s.sa, s.sb, s.boxA, s.boxB⟩
theorem PBox.of {w : World} {A B : Nat} {ah ap aq : Bs} {ab : Bool} {w' : World} (s : w'.cell? ⟨A, 0, none⟩ = some (.string ⟨ah.toArray⟩) ∧ w'.cell? ⟨A, 1, none⟩ = some (.string ⟨ap.toArray⟩) ∧ w'.cell? ⟨A, 2, none⟩ = some (.string ⟨aq.toArray⟩) ∧ w'.cell? ⟨A, 3, none⟩ = some (.bool ab) ∧ w'.cell? ⟨B, 0, none⟩ = some (.string ⟨ah.toArray⟩) ∧ w'.cell? ⟨B, 1, none⟩ = some (.string ⟨ap.toArray⟩) ∧ w'.cell? ⟨B, 2, none⟩ = some (.string ⟨aq.toArray⟩) ∧ w'.cell? ⟨B, 3, none⟩ = some (.bool ab) ∧ PBox w A B ah ap aq ab w') : PBox w A B ah ap aq ab w' := s.2.2.2.2.2.2.2.2
theorem PBox.all {w : World} {A B : Nat} {ah ap aq : Bs} {ab : Bool} {w' : World} (s : PBox w A B ah ap aq ab w') : w'.cell? ⟨A, 0, none⟩ = some (.string ⟨ah.toArray⟩) ∧ w'.cell? ⟨A, 1, none⟩ = some (.string ⟨ap.toArray⟩) ∧ w'.cell? ⟨A, 2, none⟩ = some (.string ⟨aq.toArray⟩) ∧ w'.cell? ⟨A, 3, none⟩ = some (.bool ab) ∧ w'.cell? ⟨B, 0, none⟩ = some (.string ⟨ah.toArray⟩) ∧ w'.cell? ⟨B, 1, none⟩ = some (.string ⟨ap.toArray⟩) ∧ w'.cell? ⟨B, 2, none⟩ = some (.string ⟨aq.toArray⟩) ∧ w'.cell? ⟨B, 3, none⟩ = some (.bool ab) ∧ PBox w A B ah ap aq ab w' := by
  obtain ⟨⟨a0, a1, a2, a3⟩, _⟩ := s.boxA.facts
  obtain ⟨⟨b0, b1, b2, b3⟩, _⟩ := s.boxB.facts
  exact ⟨a0, a1, a2, a3, b0, b1, b2, b3, s⟩

theorem walk_large (t : Bs) (w : World) (hr : Ready w) (h1 : t.length ≤ 140737488351232) (hl : ¬ t.length ≤ 1500) :
    Calls Tryd.prog 10 #[.string ⟨t.toArray⟩] w fun e w' => e = .returned (.bool true) ∧ Below w.heap.size w w' := by
  go_enter Tryd.func10, Tryd.ntmps10
  go_wp2_with fail
  refine (awake_any _ hr).mono ?_
  rintro e w1 ⟨rfl, hb1⟩
  go_wp2_with fail
  refine (awake_any _ (hr.below hb1)).mono ?_
  rintro e w2 ⟨rfl, hb2⟩
  go_wp2_with fail
  go_ret
  exact ⟨rfl, hb1.trans (hb2.mono hb1.size)⟩

theorem walk_no (t : Bs) (w : World) (hr : Ready w) (hl : t.length ≤ 1500) (hp : readL t = none) :
    Calls Tryd.prog 10 #[.string ⟨t.toArray⟩] w fun e w' => e = .returned (.bool true) ∧ Below w.heap.size w w' := by
  have HP := Lib.hid hp
  clear hp
  go_enter Tryd.func10, Tryd.ntmps10
  go_wp2_with fail
  refine (awake_any _ hr).mono ?_
  rintro e w1 ⟨rfl, hb1⟩
  have hr1 := Lib.hid (hr.below hb1)
  go_wp2_with fail
  refine (read_no t _ hr1.out (by omega) HP.out).mono ?_
  rintro e w2 ⟨rfl, hb2⟩
  have hB2 := hb1.trans (hb2.mono hb1.size)
  have hA2 := (Below.refl w2.heap.size w2).alloc (Nat.le_refl _) (.cells #[.string ⟨#[]⟩, .string ⟨#[]⟩, .string ⟨#[]⟩, .bool false] 38)
  have hX2 := box_new w2 38 (.string ⟨#[]⟩) (.string ⟨#[]⟩) (.string ⟨#[]⟩) (.bool false)
  have hz2 : w2.heap.size < (w2.alloc (.cells #[.string ⟨#[]⟩, .string ⟨#[]⟩, .string ⟨#[]⟩, .bool false] 38)).heap.size := by simp
  have hB2' := Lib.hid (hB2.trans (hA2.mono hB2.size))
  clear hb1 hb2 hB2 hA2
  go_wp2_with fail
  refine (refRead_no t _ (by omega) HP.out).mono ?_
  rintro e w3 ⟨rfl, hb3⟩
  have hX3 := hX2.below hb3 hz2
  have hB3 := Lib.hid (hB2'.out.trans (hb3.mono hB2'.out.size))
  clear hb3
  obtain ⟨⟨c0, c1, c2, c3⟩, _, hs3⟩ := hX3.facts
  go_wp2_with (first | (go_at_call 20; refine (ref_any ⟨[], [], [], false⟩ _).mono ?_; rintro e w4 ⟨rfl, hb4⟩) | (go_at_call 15; refine (is_err 2 _ (by decide)).mono ?_; rintro e w5 ⟨rfl, rfl⟩))
  go_ret
  exact ⟨rfl, hB3.out.trans (((Below.refl w3.heap.size w3).alloc (Nat.le_refl _) _).trans (hb4.mono (by simp)) |>.mono hB3.out.size)⟩

theorem walk_yes (t ah ap aq : Bs) (ab : Bool) (w : World) (hr : Ready w) (hl : t.length ≤ 1500) (hp : readL t = some ⟨ah, ap, aq, ab⟩) :
    Calls Tryd.prog 10 #[.string ⟨t.toArray⟩] w fun e w' => e = .returned (.bool true) ∧ Below w.heap.size w w' := by
  have HP := Lib.hid hp
  have HV := Lib.hid (read_valid hp)
  have HT := Lib.hid (show Adr.text ⟨ah, ap, aq, ab⟩ = t from (readL_some hp).2)
  have HL := Lib.hid (parse_lens (readL_some hp).1)
  clear hp
  obtain ⟨l1, l2, l3⟩ := HL.out
  simp only at l1 l2 l3
  go_enter Tryd.func10, Tryd.ntmps10
  go_wp2_with fail
  refine (awake_any _ hr).mono ?_
  rintro e w1 ⟨rfl, hb1⟩
  have hr1 := Lib.hid (hr.below hb1)
  go_wp2_with fail
  refine (read_yes t _ _ hr1.out (by omega) HP.out).mono ?_
  rintro e w2 ⟨rfl, hb2⟩
  have hB2 := hb1.trans (hb2.mono hb1.size)
  have hA2 := (Below.refl w2.heap.size w2).alloc (Nat.le_refl _) (.cells #[.string ⟨ah.toArray⟩, .string ⟨ap.toArray⟩, .string ⟨aq.toArray⟩, .bool ab] 38)
  have hX2 := box_new w2 38 (.string ⟨ah.toArray⟩) (.string ⟨ap.toArray⟩) (.string ⟨aq.toArray⟩) (.bool ab)
  have hr2 := Lib.hid ((hr1.out.below hb2).below hA2)
  have hz2 : w2.heap.size < (w2.alloc (.cells #[.string ⟨ah.toArray⟩, .string ⟨ap.toArray⟩, .string ⟨aq.toArray⟩, .bool ab] 38)).heap.size := by simp
  have hB2' := Lib.hid (hB2.trans (hA2.mono hB2.size))
  clear hb1 hb2 hB2 hA2
  go_wp2_with fail
  refine (refRead_yes t _ _ (by omega) HP.out).mono ?_
  rintro e w3 ⟨rfl, hb3⟩
  have hX3 := hX2.below hb3 hz2
  have hA3 := (Below.refl w3.heap.size w3).alloc (Nat.le_refl _) (.cells #[.string ⟨ah.toArray⟩, .string ⟨ap.toArray⟩, .string ⟨aq.toArray⟩, .bool ab] 43)
  have hY3 := box_new w3 43 (.string ⟨ah.toArray⟩) (.string ⟨ap.toArray⟩) (.string ⟨aq.toArray⟩) (.bool ab)
  have hr3 := Lib.hid ((hr2.out.below hb3).below hA3)
  have hz3 := Nat.lt_of_lt_of_le hz2 hb3.size
  have hX3' := hX3.below hA3 hz3
  have hB3 := Lib.hid (hB2'.out.trans ((hb3.trans (hA3.mono hb3.size)).mono hB2'.out.size))
  have hy3 : w3.heap.size < (w3.alloc (.cells #[.string ⟨ah.toArray⟩, .string ⟨ap.toArray⟩, .string ⟨aq.toArray⟩, .bool ab] 43)).heap.size := by simp
  have hx3 : w2.heap.size < (w3.alloc (.cells #[.string ⟨ah.toArray⟩, .string ⟨ap.toArray⟩, .string ⟨aq.toArray⟩, .bool ab] 43)).heap.size := by simp; omega
  clear hb3 hX2 hz2 hA3
  obtain ⟨⟨c0, c1, c2, c3⟩, _⟩ := hX3.facts
  go_wp2_with fail
  refine (format_yes ⟨ah, ap, aq, ab⟩ _ hr3.out (by simp; omega) (by simp; omega) (by simp; omega) HV.out).mono ?_
  rintro e w4 ⟨rfl, hb4⟩
  rw [HT.out]
  have hX4 := hX3'.below hb4 hx3
  have hY4 := hY3.below hb4 hy3
  have hB4 := Lib.hid (hB3.out.trans (hb4.mono hB3.out.size))
  clear c0 c1 c2 c3 hb4 hX3 hX3' hY3
  have hPB : PBox w w2.heap.size w3.heap.size ah ap aq ab w4 := ⟨hB4.out, hX4.facts.2.2, hY4.facts.2.2, hX4, hY4⟩
  clear hX4 hY4
  go_wp2_with fail
  go_region_held3 (fun w' => w'.cell? ⟨w2.heap.size, 0, none⟩ = some (.string ⟨ah.toArray⟩) ∧ w'.cell? ⟨w2.heap.size, 1, none⟩ = some (.string ⟨ap.toArray⟩) ∧ w'.cell? ⟨w2.heap.size, 2, none⟩ = some (.string ⟨aq.toArray⟩) ∧ w'.cell? ⟨w2.heap.size, 3, none⟩ = some (.bool ab) ∧ w'.cell? ⟨w3.heap.size, 0, none⟩ = some (.string ⟨ah.toArray⟩) ∧ w'.cell? ⟨w3.heap.size, 1, none⟩ = some (.string ⟨ap.toArray⟩) ∧ w'.cell? ⟨w3.heap.size, 2, none⟩ = some (.string ⟨aq.toArray⟩) ∧ w'.cell? ⟨w3.heap.size, 3, none⟩ = some (.bool ab) ∧ PBox w w2.heap.size w3.heap.size ah ap aq ab w') ((refine PBox.all ?_; first | assumption | (refine PBox.drew ?_; assumption) | (refine PBox.keep hb9 rfl ?_; first | assumption | (refine PBox.drew ?_; assumption) | (refine PBox.of ?_; assumption) | (refine PBox.drew (PBox.of ?_); assumption)) | (refine PBox.of ?_; assumption) | (refine PBox.drew (PBox.of ?_); assumption)))
    ((first | (go_at_call 20; refine (ref_any ⟨_, _, _, _⟩ _).mono ?_; rintro e w9 ⟨rfl, hb9⟩) | fail))
  all_goals
    go_wp2_with fail
    go_ret
    refine ⟨ret_bool (by simp), PBox.bel (A := w2.heap.size) (B := w3.heap.size) (ah := ah) (ap := ap) (aq := aq) (ab := ab) ?_⟩
    first | assumption | (refine PBox.of ?_; assumption) | (refine PBox.keep hb9 rfl ?_; first | assumption | (refine PBox.drew ?_; assumption) | (refine PBox.of ?_; assumption) | (refine PBox.drew (PBox.of ?_); assumption))

theorem walk (t : Bs) (w : World) (hr : Ready w) (h1 : t.length ≤ 140737488351232) :
    Calls Tryd.prog 10 #[.string ⟨t.toArray⟩] w fun e w' => e = .returned (.bool true) ∧ Below w.heap.size w w' := by
  by_cases hl : t.length ≤ 1500
  · cases hp : readL t with
    | none => exact walk_no t w hr hl hp
    | some a =>
      obtain ⟨ah, ap, aq, ab⟩ := a
      exact walk_yes t ah ap aq ab w hr hl hp
  · exact walk_large t w hr h1 hl

/-- What the walk gives, for every argument. -/
theorem contract (H : Type) (enc : TypeId × Value → H) (W : World) (base : Nat) (args : Array Value) (ds gs : List (DataW H)) (before : List MemPlace)
    (hval : ∀ (j : Nat) t v, Tryd.f10.params[j]? = some t → args[j]? = some v → Value.okWide Tryd.prog W .any base t v)
    (hW : DataW.Whole enc Tryd.prog Tryd.f10.params.toList Rows.addressReadsSpec.vars false W args.toList ds gs before) (hsz : (DataW.weightsEach Tryd.prog Tryd.f10.params.toList (ds ++ gs)).all (· ≤ reachBytes) = true) (hr : Ready W) :
    Calls Tryd.prog 10 args W fun e W' => ∃ v, e = .returned v ∧ Rows.addressReadsSpec.post enc Tryd.prog Tryd.f10 false true false false W args v W' := by
  have hW' := hW
  have hlt := fun p hp => hW.lt p hp
  obtain ⟨p, q, hA0, hV, rfl, hfz, hnd⟩ := hW
  have hA : DataW.TrodAll enc Tryd.prog W 0 (fun _ => true) true Tryd.f10.params.toList args.toList ds p := hA0
  have hA1 := hA
  obtain ⟨rfl, rfl⟩ := trodVars_none hV
  rw [Tryd.params10] at hA hval
  obtain ⟨v0, vs0, d0, ds0, p0, q0, hargs, rfl, rfl, h0, r0⟩ := trodAll_cons hA
  obtain ⟨rfl, rfl, rfl⟩ := trodAll_nil r0
  obtain rfl : args = #[v0] := by cases args; simp_all
  have fin : ∀ W', Below W.heap.size W W' → Rows.addressReadsSpec.post enc Tryd.prog Tryd.f10 false true false false W #[v0] (.bool true) W' := fun W' hb => by
    simp only [List.append_nil] at hA1 hW' hlt
    exact ⟨_, _, _, [], _, [], hW', trodAll_cons_mk (shut_bool Tryd.underlying4 _) trodAll_mk0, Fr.trodAll_below (by kernel_rfl) _ (by kernel_rfl) hA1 hb hlt, rfl, hb.frame _, fun h => by cases h⟩
  clear hW' hA0 hA1 hlt
  rw [Tryd.params10, List.append_nil] at hsz
  obtain ⟨s0, rfl, rfl, rfl, hs0⟩ := open_string Tryd.underlying9 (hval 0 9 v0 rfl rfl) h0
  obtain ⟨⟨l0⟩⟩ := s0
  have z0 : l0.length ≤ 140737488351232 := sized_string hsz (j := 0) rfl rfl
  refine (walk l0 W hr z0).mono fun e W' ⟨he, hb⟩ => ?_
  subst he
  exact ⟨_, rfl, fin W' hb⟩

theorem laid_met (os : Os) : laidMet Tryd.prog Rows.addressReadsRow.laid ((Fr.laidWorld os).forCall (fun _ _ => 0) ⟨#[], #[.string ⟨#[]⟩], []⟩).memory :=
  laidMet_of_run' 8 (by kernel_rfl) (by kernel_rfl)
theorem reads (os : Os) {H : Type} (enc : TypeId × Value → H) : ∃ places, DataW.whole enc Tryd.prog ((Fr.laidWorld os).forCall (fun _ _ => 0) ⟨#[], #[.string ⟨#[]⟩], []⟩).memory Tryd.f10.params.toList Rows.addressReadsSpec.vars false (#[.string ⟨#[]⟩] : Array Value).toList 8 = some ([.lit (.string [])], [], places) :=
  ⟨[], by kernel_rfl⟩

theorem lifted (os : Os) (started : os.Started) (H : Type) (enc : TypeId × Value → H) (F : Stop.Interp) :
    ReturnsInHanded {} Tryd.checked os 10 .any ((OpenSpec.ofChange Rows.addressReadsSpec).preRow enc Tryd.prog Tryd.f10 Rows.addressReadsRow.domain false Rows.addressReadsRow.laid) (((OpenSpec.ofChange Rows.addressReadsSpec).at F).post enc Tryd.prog Tryd.f10 false true false false) := by
  obtain ⟨places, hx⟩ := reads os enc
  refine returnsInHanded_of_row (C := Tryd.checked) (s := OpenSpec.ofChange Rows.addressReadsSpec) Fr.own started (by kernel_rfl) Tryd.func10
    (witness_row_at (enc := enc) (C := Tryd.checked) false (Fr.laidWorld os) #[.string ⟨#[]⟩] rfl (by kernel_rfl) (by kernel_rfl) (by kernel_rfl)
      (OpenSpec.preRow_of_cond 8 hx (by kernel_rfl) (fun k hk => by cases hk) (by kernel_rfl) (laid_met os))) ?_
  intro W base args ds gs before hval hW _ hcond hsz _ hsh _
  exact contract H enc W base args ds gs before hval hW (by have h9 : (DataW.weightsEach Tryd.prog (Tryd.f10.params.toList ++ []) (ds ++ gs)).all (· ≤ reachBytes) = true := hsz; rw [List.append_nil] at h9; exact h9) (Fr.ready hsh)

theorem said : Rows.AddressReadsSaid :=
  OpenClaim.holds_of_cond 10 Tryd.f10 rfl rfl rfl rfl rfl rfl rfl ⟨rfl, rfl, rfl, rfl, rfl⟩ rfl rfl rfl rfl rfl (by kernel_rfl) Tryd.func10 (by kernel_rfl)
    (of_decide_eq_true (by kernel_rfl)) (by unfold Func.isWrapper; first | (rw [if_pos (by decide +kernel)]; kernel_rfl) | (rw [if_neg (by decide +kernel)]; exact ⟨rfl, rfl⟩))
    (fun os started H enc _ F => by rw [OpenClaim.pre_eq_preRow]; exact lifted os started H enc F)

theorem plain (f : FuncId) (fn : Func) (hf : Tryd.pinned.checked.prog.funcNamed "quayside/quaysidelaw03.AddressReads" = some f) (hfn : Tryd.pinned.checked.prog.funcs[f]? = some fn) :
    true = Tryd.pinned.checked.prog.looks [] ∧ ∀ (j : Nat) t, fn.params[j]? = some t → Tryd.pinned.checked.prog.wantsStandIn t = false := by
  obtain rfl : f = 10 := Option.some.inj ((show Tryd.prog.funcNamed "quayside/quaysidelaw03.AddressReads" = some 10 by kernel_rfl).symm.trans hf) |>.symm
  obtain rfl : fn = Tryd.f10 := (Option.some.inj (Tryd.func10.symm.trans hfn)).symm
  refine ⟨by kernel_rfl, fun j t ht => ?_⟩
  rw [Tryd.params10] at ht
  have hm : t ∈ [9] := by simpa using Array.mem_of_getElem? ht
  have hall : ([9].all fun u => !Tryd.prog.wantsStandIn u) = true := by kernel_rfl
  exact (show Tryd.prog.wantsStandIn t = false by simpa using List.all_eq_true.1 hall t hm)

theorem proved : Rows.AddressReadsCardSaid :=
  Claim7.holds_tied_plain_at .later [] _ _ _ _ said (fun _ h => by cases h) (by kernel_rfl) (fun _ h => by cases h) addressReads_row_tie rfl ⟨rfl, rfl⟩ (by kernel_rfl) rfl plain (by kernel_rfl)
#print axioms proved
end Go.Proofs.YthbjpekgiiflkaaDoor.lawReads
