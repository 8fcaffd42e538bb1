/- PROVED: AddressArgs returns true for every input of at most 1048576 values and letters together, and leaves its arguments as they were. No condition beyond the statement's own (the listed tables of package unicode/utf8 read as the program's text lays them, which the card ties). -/
import Derived.Test.YthbjpekgiiflkaaDoorFrame
import Derived.Test.YthbjpekgiiflkaaDoorAddrD
import Derived.Test.YthbjpekgiiflkaaDoorAddrH
import Derived.Deep.RegionHeld3
namespace Go.Proofs.YthbjpekgiiflkaaDoor.lawArgs
open Go.ChangeShapes Go.WideShapes Go.ChangeAt Go.RowKit Pl Ad A1
open Go.ChangeMaps (open_string shut_string)
attribute [local go_sem] ba_get conv_one conv_one_drewN ba_append ba_extract
set_option maxRecDepth 100000
set_option maxHeartbeats 4000000
set_option linter.unusedVariables false


/-- An address' cells, and the world below them as it was. -/
structure OneBox (w : World) (h p q : Bs) (b : Bool) (w' : World) : Prop where
  bel : Below w.heap.size w w'
  size : w.heap.size < w'.heap.size
  box : Box w' w.heap.size 43 (.string ⟨h.toArray⟩) (.string ⟨p.toArray⟩) (.string ⟨q.toArray⟩) (.bool b)
theorem OneBox.keep {w : World} {h p q : Bs} {b : Bool} {w1 w2 : World} (s : OneBox w h p q b w1) (hb : Below w1.heap.size w1 w2) : OneBox w h p q b w2 :=
  ⟨s.bel.trans (hb.mono s.bel.size), Nat.lt_of_lt_of_le s.size hb.size, s.box.below hb s.size⟩
theorem OneBox.keep' {w : World} {h p q : Bs} {b : Bool} {w1 w2 : World} {B : Nat} (hb : Below B w1 w2) (hB : B = w1.heap.size) (s : OneBox w h p q b w1) : OneBox w h p q b w2 := s.keep (hB ▸ hb)
theorem OneBox.of {w : World} {h p q : Bs} {b : Bool} {w' : World} (s : w'.cell? ⟨w.heap.size, 0, none⟩ = some (.string ⟨h.toArray⟩) ∧ w'.cell? ⟨w.heap.size, 1, none⟩ = some (.string ⟨p.toArray⟩) ∧ w'.cell? ⟨w.heap.size, 2, none⟩ = some (.string ⟨q.toArray⟩) ∧ w'.cell? ⟨w.heap.size, 3, none⟩ = some (.bool b) ∧ OneBox w h p q b w') : OneBox w h p q b w' := s.2.2.2.2
theorem OneBox.all {w : World} {h p q : Bs} {b : Bool} {w' : World} (s : OneBox w h p q b w') : w'.cell? ⟨w.heap.size, 0, none⟩ = some (.string ⟨h.toArray⟩) ∧ w'.cell? ⟨w.heap.size, 1, none⟩ = some (.string ⟨p.toArray⟩) ∧ w'.cell? ⟨w.heap.size, 2, none⟩ = some (.string ⟨q.toArray⟩) ∧ w'.cell? ⟨w.heap.size, 3, none⟩ = some (.bool b) ∧ OneBox w h p q b w' := by
  obtain ⟨⟨a0, a1, a2, a3⟩, _⟩ := s.box.facts
  exact ⟨a0, a1, a2, a3, s⟩
theorem OneBox.drew {w : World} {h p q : Bs} {b : Bool} {w1 : World} (s : OneBox w h p q b w1) : OneBox w h p q b w1.drew := ⟨s.bel.drew, s.size, s.box⟩

theorem walk_large (h p q : Bs) (b : Bool) (n : Bs) (w : World) (hr : Ready w) (h3 : q.length ≤ 140737488351232) (h4 : n.length ≤ 140737488351232) (hl : ¬ q.length + n.length ≤ 1500) :
    Calls Tryd.prog 9 #[.agg #[.string ⟨h.toArray⟩, .string ⟨p.toArray⟩, .string ⟨q.toArray⟩, .bool b], .string ⟨n.toArray⟩] w fun e w' => e = .returned (.bool true) ∧ Below w.heap.size w w' := by
  have hbz := (Below.refl w.heap.size w).alloc (Nat.le_refl _) (.cells #[.string ⟨h.toArray⟩, .string ⟨p.toArray⟩, .string ⟨q.toArray⟩, .bool b] 43)
  have HRD := Lib.hid (hr.below hbz)
  have HS : Hid (OneBox w h p q b _) := ⟨hbz, by simp, box_new w 43 (.string ⟨h.toArray⟩) (.string ⟨p.toArray⟩) (.string ⟨q.toArray⟩) (.bool b)⟩
  clear hr hbz
  go_enter Tryd.func9, Tryd.ntmps9
  go_wp2_with fail
  have hS0 := HS.out
  have HR0 := HRD
  refine (awake_any _ HRD.out).mono ?_
  rintro e w1 ⟨rfl, hb⟩
  have hS1 := hS0.keep hb
  have HR1 := Lib.hid (HR0.out.below hb)
  obtain ⟨⟨c0, c1, c2, c3⟩, _⟩ := hS1.box.facts
  clear hb
  go_wp2_with fail
  refine (awake_any _ HR1.out).mono ?_
  rintro e w2 ⟨rfl, hb⟩
  have hS2 := hS1.keep hb
  have HR2 := Lib.hid (HR1.out.below hb)
  obtain ⟨⟨c0, c1, c2, c3⟩, _⟩ := hS2.box.facts
  clear hb
  go_wp2_with fail
  go_ret
  exact ⟨rfl, hS2.bel⟩

theorem walk_main (h p q : Bs) (b : Bool) (n : Bs) (w : World) (hr : Ready w) (h2 : p.length ≤ 1048576) (hl : q.length + n.length ≤ 1500) :
    Calls Tryd.prog 9 #[.agg #[.string ⟨h.toArray⟩, .string ⟨p.toArray⟩, .string ⟨q.toArray⟩, .bool b], .string ⟨n.toArray⟩] w fun e w' => e = .returned (.bool true) ∧ Below w.heap.size w w' := by
  have HRA : Hid (∀ w', Below w.heap.size w w' → Ready w') := Lib.hid fun w' hb => hr.below hb
  have hbz := (Below.refl w.heap.size w).alloc (Nat.le_refl _) (.cells #[.string ⟨h.toArray⟩, .string ⟨p.toArray⟩, .string ⟨q.toArray⟩, .bool b] 43)
  have HRD := Lib.hid (hr.below hbz)
  have HS : Hid (OneBox w h p q b _) := ⟨hbz, by simp, box_new w 43 (.string ⟨h.toArray⟩) (.string ⟨p.toArray⟩) (.string ⟨q.toArray⟩) (.bool b)⟩
  clear hr hbz
  go_enter Tryd.func9, Tryd.ntmps9
  go_wp2_with fail
  have hS0 := HS.out
  have HR0 := HRD
  refine (awake_any _ HRD.out).mono ?_
  rintro e w1 ⟨rfl, hb⟩
  have hS1 := hS0.keep hb
  have HR1 := Lib.hid (HR0.out.below hb)
  obtain ⟨⟨c0, c1, c2, c3⟩, _⟩ := hS1.box.facts
  clear hb
  go_wp2_with fail
  refine (of_any ⟨h, p, q, b⟩ _).mono ?_
  rintro e w2 ⟨rfl, hb⟩
  have hS2 := hS1.keep hb
  have HR2 := Lib.hid (HR1.out.below hb)
  obtain ⟨⟨c0, c1, c2, c3⟩, _⟩ := hS2.box.facts
  clear hb
  go_wp2_with fail
  refine (arg_any h p q n b _ (by omega) (by omega) HR2.out).mono ?_
  rintro e w3 ⟨rfl, hb⟩
  have hS3 := hS2.keep hb
  have HR3 := Lib.hid (HR2.out.below hb)
  obtain ⟨⟨c0, c1, c2, c3⟩, _⟩ := hS3.box.facts
  clear hb
  unfold argV
  go_wp2_with fail
  refine (refArg_any h p q n b _ (by omega) (by omega)).mono ?_
  rintro e w4 ⟨rfl, hb⟩
  have hS4 := hS3.keep hb
  have HR4 := Lib.hid (HR3.out.below hb)
  obtain ⟨⟨c0, c1, c2, c3⟩, _⟩ := hS4.box.facts
  clear hb
  unfold argV
  go_wp2_with fail
  have hsg : (segs p).length ≤ 4294967296 := by
    rcases cutAt_ways 47 p with ⟨h9, _⟩ | ⟨a, r, rfl, h9, _⟩
    · rw [segs_miss h9]; simp
    · rw [segs_hit h9]
      have h8 := splitOn_count 47 r
      simp at h2; omega
  have hSS := hS4
  clear c0 c1 c2 c3 hS4
  go_region_held3 (fun w' => w'.cell? ⟨w.heap.size, 0, none⟩ = some (.string ⟨h.toArray⟩) ∧ w'.cell? ⟨w.heap.size, 1, none⟩ = some (.string ⟨p.toArray⟩) ∧ w'.cell? ⟨w.heap.size, 2, none⟩ = some (.string ⟨q.toArray⟩) ∧ w'.cell? ⟨w.heap.size, 3, none⟩ = some (.bool b) ∧ OneBox w h p q b w') ((refine OneBox.all ?_; first | assumption | (refine OneBox.drew ?_; assumption) | (refine OneBox.of ?_; assumption) | (refine OneBox.drew (OneBox.of ?_); assumption) | (refine OneBox.keep' hb9 rfl ?_; first | assumption | (refine OneBox.drew ?_; assumption) | (refine OneBox.of ?_; assumption) | (refine OneBox.drew (OneBox.of ?_); assumption))))
    ((first
      | (go_at_call 28; refine (segments_any p _ (by omega) ?_).mono ?_; exact HRA.out _ (OneBox.bel (h := h) (p := p) (q := q) (b := b) (by first | assumption | (refine OneBox.drew ?_; assumption) | (refine OneBox.of ?_; assumption) | (refine OneBox.drew (OneBox.of ?_); assumption) | (refine OneBox.keep' hb9 rfl ?_; first | assumption | (refine OneBox.drew ?_; assumption) | (refine OneBox.of ?_; assumption) | (refine OneBox.drew (OneBox.of ?_); assumption)))); rintro e w9 ⟨v1, rfl, hv1, hb9⟩; try have hv2 := hv2.below hb9)
      | (go_at_call 32; refine (refSegments_any p _ (by omega)).mono ?_; rintro e w9 ⟨v2, rfl, hv2, hb9⟩; try have hv1 := hv1.below hb9)
      | (go_at_call 31; refine (texts_any _ _ _ _ _ hv1 hv2 hsg hsg).mono ?_; rintro e w9 ⟨rfl, hb9⟩)))
  all_goals
    go_wp2_with fail
    go_ret
    refine ⟨ret_bool (by simp), OneBox.bel (h := h) (p := p) (q := q) (b := b) ?_⟩
    first | assumption | (refine OneBox.drew ?_; assumption) | (refine OneBox.of ?_; assumption) | (refine OneBox.drew (OneBox.of ?_); assumption) | (refine OneBox.keep' hb9 rfl ?_; first | assumption | (refine OneBox.drew ?_; assumption) | (refine OneBox.of ?_; assumption) | (refine OneBox.drew (OneBox.of ?_); assumption))

theorem walk (h p q : Bs) (b : Bool) (n : Bs) (w : World) (hr : Ready w) (h1 : h.length ≤ 140737488351232) (h2 : p.length ≤ 140737488351232) (h3 : q.length ≤ 140737488351232) (h4 : n.length ≤ 140737488351232) (hbk : p.length ≤ 1048576) :
    Calls Tryd.prog 9 #[.agg #[.string ⟨h.toArray⟩, .string ⟨p.toArray⟩, .string ⟨q.toArray⟩, .bool b], .string ⟨n.toArray⟩] w fun e w' => e = .returned (.bool true) ∧ Below w.heap.size w w' := by
  by_cases hl : q.length + n.length ≤ 1500
  · exact walk_main h p q b n w hr hbk hl
  · exact walk_large h p q b n w hr h3 h4 hl

/-- What the walk gives, for every argument. -/
theorem contract (H : Type) (enc : TypeId × Value → H) (W : World) (base : Nat) (args : Array Value) (ds gs : List (DataW H)) (before : List MemPlace)
    (hval : ∀ (j : Nat) t v, Tryd.f9.params[j]? = some t → args[j]? = some v → Value.okWide Tryd.prog W .any base t v)
    (hW : DataW.Whole enc Tryd.prog Tryd.f9.params.toList Rows.addressArgsSpec.vars false W args.toList ds gs before) (hsz : (DataW.weightsEach Tryd.prog Tryd.f9.params.toList (ds ++ gs)).all (· ≤ reachBytes) = true) (hr : Ready W) (hk : Rows.uptoSmall H (ds ++ gs) = true) :
    Calls Tryd.prog 9 args W fun e W' => ∃ v, e = .returned v ∧ Rows.addressArgsSpec.post enc Tryd.prog Tryd.f9 false true false false W args v W' := by
  have hW' := hW
  have hlt := fun p hp => hW.lt p hp
  obtain ⟨p, q, hA0, hV, rfl, hfz, hnd⟩ := hW
  have hA : DataW.TrodAll enc Tryd.prog W 0 (fun _ => true) true Tryd.f9.params.toList args.toList ds p := hA0
  have hA1 := hA
  obtain ⟨rfl, rfl⟩ := trodVars_none hV
  rw [Tryd.params9] at hA hval
  obtain ⟨v0, vs0, d0, ds0, p0, q0, hargs, rfl, rfl, h0, r0⟩ := trodAll_cons hA
  obtain ⟨v1, vs1, d1, ds1, p1, q1, rfl, rfl, rfl, h1, r1⟩ := trodAll_cons r0
  obtain ⟨rfl, rfl, rfl⟩ := trodAll_nil r1
  obtain rfl : args = #[v0, v1] := by cases args; simp_all
  have fin : ∀ W', Below W.heap.size W W' → Rows.addressArgsSpec.post enc Tryd.prog Tryd.f9 false true false false W #[v0, v1] (.bool true) W' := fun W' hb => by
    simp only [List.append_nil] at hA1 hW' hlt
    exact ⟨_, _, _, [], _, [], hW', trodAll_cons_mk (shut_bool Tryd.underlying4 _) trodAll_mk0, Fr.trodAll_below (by kernel_rfl) _ (by kernel_rfl) hA1 hb hlt, rfl, hb.frame _, fun h => by cases h⟩
  clear hW' hA0 hA1 hlt
  rw [Tryd.params9, List.append_nil] at hsz
  obtain ⟨c0, c1, c2, c3, y0, y1, y2, y3, m, rfl, rfl, rfl, hy0, hy1, hy2, hy3⟩ := Go.Joins.open_agg4 Tryd.underlying43 (by kernel_rfl) (show Tryd.prog.cellsOf 43 = 4 by kernel_rfl) (hval 0 43 v0 rfl rfl) h0
  obtain ⟨s0_0, e0, rfl, hs0_0⟩ := DataW.trod_string Tryd.underlying9 hy0
  obtain ⟨s0_1, e1, rfl, hs0_1⟩ := DataW.trod_string Tryd.underlying9 hy1
  obtain ⟨s0_2, e2, rfl, hs0_2⟩ := DataW.trod_string Tryd.underlying9 hy2
  obtain ⟨b0, e3, rfl⟩ := DataW.trod_bool Tryd.underlying4 hy3
  simp only [List.cons.injEq, and_true] at e0 e1 e2 e3
  subst e0 e1 e2 e3
  obtain ⟨⟨l0_0⟩⟩ := s0_0
  obtain ⟨⟨l0_1⟩⟩ := s0_1
  obtain ⟨⟨l0_2⟩⟩ := s0_2
  have z0 : l0_0.length ≤ 140737488351232 ∧ l0_1.length ≤ 140737488351232 ∧ l0_2.length ≤ 140737488351232 := Fr.sized_adr hsz (j := 0) rfl rfl Tryd.underlying43
  obtain ⟨s1, rfl, rfl, rfl, hs1⟩ := open_string Tryd.underlying9 (hval 1 9 v1 rfl rfl) h1
  obtain ⟨⟨l1⟩⟩ := s1
  have z1 : l1.length ≤ 140737488351232 := sized_string hsz (j := 1) rfl rfl
  have hbulk := of_decide_eq_true hk
  simp only [Rows.uptoBulkAll, Rows.uptoBulk, List.cons_append, List.nil_append] at hbulk
  refine (walk l0_0 l0_1 l0_2 b0 l1 W hr z0.1 z0.2.1 z0.2.2 z1 (by omega)).mono fun e W' ⟨he, hb⟩ => ?_
  subst he
  exact ⟨_, rfl, fin W' hb⟩

theorem laid_met (os : Os) : laidMet Tryd.prog Rows.addressArgsUptoRow.laid ((Fr.laidWorld os).forCall (fun _ _ => 0) ⟨#[], #[.agg #[.string ⟨#[]⟩, .string ⟨#[]⟩, .string ⟨#[]⟩, .bool false], .string ⟨#[]⟩], []⟩).memory :=
  laidMet_of_run' 8 (by kernel_rfl) (by kernel_rfl)
theorem reads (os : Os) {H : Type} (enc : TypeId × Value → H) : ∃ places, DataW.whole enc Tryd.prog ((Fr.laidWorld os).forCall (fun _ _ => 0) ⟨#[], #[.agg #[.string ⟨#[]⟩, .string ⟨#[]⟩, .string ⟨#[]⟩, .bool false], .string ⟨#[]⟩], []⟩).memory Tryd.f9.params.toList Rows.addressArgsSpec.vars false (#[.agg #[.string ⟨#[]⟩, .string ⟨#[]⟩, .string ⟨#[]⟩, .bool false], .string ⟨#[]⟩] : Array Value).toList 8 = some ([.agg [.lit (.string []), .lit (.string []), .lit (.string []), .lit (.bool false)], .lit (.string [])], [], places) :=
  ⟨[], by kernel_rfl⟩

theorem lifted (os : Os) (started : os.Started) (H : Type) (enc : TypeId × Value → H) (F : Stop.Interp) :
    ReturnsInHanded {} Tryd.checked os 9 .any ((Rows.OpenSpec.upto Rows.addressArgsSpec).preRow enc Tryd.prog Tryd.f9 Rows.addressArgsUptoRow.domain false Rows.addressArgsUptoRow.laid) (((Rows.OpenSpec.upto Rows.addressArgsSpec).at F).post enc Tryd.prog Tryd.f9 false true false false) := by
  obtain ⟨places, hx⟩ := reads os enc
  refine returnsInHanded_of_row (C := Tryd.checked) (s := Rows.OpenSpec.upto Rows.addressArgsSpec) Fr.own started (by kernel_rfl) Tryd.func9
    (witness_row_at (enc := enc) (C := Tryd.checked) false (Fr.laidWorld os) #[.agg #[.string ⟨#[]⟩, .string ⟨#[]⟩, .string ⟨#[]⟩, .bool false], .string ⟨#[]⟩] rfl (by kernel_rfl) (by kernel_rfl) (by kernel_rfl)
      (OpenSpec.preRow_of_cond 8 hx (by kernel_rfl) (fun k hk => by cases hk; kernel_rfl) (by kernel_rfl) (laid_met os))) ?_
  intro W base args ds gs before hval hW _ hcond hsz _ hsh _
  exact contract H enc W base args ds gs before hval hW (by have h9 : (DataW.weightsEach Tryd.prog (Tryd.f9.params.toList ++ []) (ds ++ gs)).all (· ≤ reachBytes) = true := hsz; rw [List.append_nil] at h9; exact h9) (Fr.ready hsh) (hcond _ rfl)

theorem said : Rows.AddressArgsUptoSaid :=
  OpenClaim.holds_of_cond 9 Tryd.f9 rfl rfl rfl rfl rfl rfl rfl ⟨rfl, rfl, rfl, rfl, rfl⟩ rfl rfl rfl rfl rfl (by kernel_rfl) Tryd.func9 (by kernel_rfl)
    (of_decide_eq_true (by kernel_rfl)) (by unfold Func.isWrapper; first | (rw [if_pos (by decide +kernel)]; kernel_rfl) | (rw [if_neg (by decide +kernel)]; exact ⟨rfl, rfl⟩))
    (fun os started H enc _ F => by rw [OpenClaim.pre_eq_preRow]; exact lifted os started H enc F)

theorem plain (f : FuncId) (fn : Func) (hf : Tryd.pinned.checked.prog.funcNamed "quayside/quaysidelaw03.AddressArgs" = some f) (hfn : Tryd.pinned.checked.prog.funcs[f]? = some fn) :
    true = Tryd.pinned.checked.prog.looks [] ∧ ∀ (j : Nat) t, fn.params[j]? = some t → Tryd.pinned.checked.prog.wantsStandIn t = false := by
  obtain rfl : f = 9 := Option.some.inj ((show Tryd.prog.funcNamed "quayside/quaysidelaw03.AddressArgs" = some 9 by kernel_rfl).symm.trans hf) |>.symm
  obtain rfl : fn = Tryd.f9 := (Option.some.inj (Tryd.func9.symm.trans hfn)).symm
  refine ⟨by kernel_rfl, fun j t ht => ?_⟩
  rw [Tryd.params9] at ht
  have hm : t ∈ [43, 9] := by simpa using Array.mem_of_getElem? ht
  have hall : ([43, 9].all fun u => !Tryd.prog.wantsStandIn u) = true := by kernel_rfl
  exact (show Tryd.prog.wantsStandIn t = false by simpa using List.all_eq_true.1 hall t hm)

theorem proved : Rows.AddressArgsUptoCardSaid :=
  Claim7.holds_tied_plain_at .later [] _ _ _ _ said (fun _ h => by cases h) (by kernel_rfl) (fun _ h => by cases h) addressArgsUpto_row_tie rfl ⟨rfl, rfl⟩ (by kernel_rfl) rfl plain (by kernel_rfl)
#print axioms proved
end Go.Proofs.YthbjpekgiiflkaaDoor.lawArgs
