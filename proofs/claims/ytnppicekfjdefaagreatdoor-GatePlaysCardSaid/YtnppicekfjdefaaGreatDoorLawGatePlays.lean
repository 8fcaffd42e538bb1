/- PROVED: GatePlays returns true for every input and leaves its arguments as they were. No condition beyond the statement's own (the listed variables read as the program's text lays them, which the card ties). -/
import Derived.Test.YtnppicekfjdefaaGreatDoorFrame
import Derived.Test.YtnppicekfjdefaaGreatDoorClosed
import Derived.Test.YtnppicekfjdefaaGreatDoorGateN
import Derived.StillTailTactics
import Derived.Deep.LoopGhost
import Derived.Deep.RegionHeld3
namespace Go.Proofs.YtnppicekfjdefaaGreatDoor.lawGatePlays
open Go.ChangeShapes Go.WideShapes Go.ChangeAt Go.RowKit Pl Ad A1
open Go.ChangeMaps (open_string shut_string)
attribute [local go_sem] ba_get conv_one conv_one_drewN ba_append ba_extract
set_option maxRecDepth 100000
set_option maxHeartbeats 4000000
set_option linter.unusedVariables false

theorem walk_big (m : Int) (va : Option Addr) (vc : Nat) (acts : List GAct) (n : Int) (w : World) (hr : Ready w) (h0 : 0 ≤ m) (h255 : m < 256) (hv : RowsV actG 3 w (.slice va acts.length vc) acts) (hl : acts.length ≤ 9223372036854775807) (ha : ∀ a ∈ acts, RowsV pcells 3 w a.u a.list ∧ a.list.length ≤ 9223372036854775807) (hf : fitsG acts = false) :
    Calls Tryz.prog 3 #[.int .u8 m, .slice va acts.length vc, .int .i64 n] w fun e w' => e = .returned (.bool true) ∧ Below w.heap.size w w' := by
  have HF := Lib.hid hf
  have HV := Lib.hid hv
  have HA := Lib.hid ha
  have HRA : Hid (∀ w', Below w.heap.size w w' → Ready w') := Lib.hid fun w' hb => hr.below hb
  have HRY := Lib.hid hr
  clear hf hv ha
  go_enter Tryz.func3, Tryz.ntmps3
  go_wp2_with fail
  refine (awake38_any _ HRY.out).mono ?_
  rintro e w1 ⟨rfl, hb1⟩
  have HB3 := Lib.hid hb1
  clear hb1
  go_wp2_with (first | (go_at_call 6; refine (fits38_any (.slice va acts.length vc) acts _ (HV.out.below HB3.out) hl (fun a h => ⟨(HA.out a h).1.below HB3.out, (HA.out a h).2⟩)).mono ?_; rw [HF.out]; rintro e w2 ⟨rfl, rfl⟩) | (go_at_call 5; refine (awake38_any _ (HRA.out _ HB3.out)).mono ?_; rintro e w3 ⟨rfl, hb3⟩))
  go_ret
  exact ⟨rfl, HB3.out.trans (hb3.mono HB3.out.size)⟩
theorem walk_ok (m : Int) (va : Option Addr) (vc : Nat) (acts : List GAct) (n : Int) (w : World) (hr : Ready w) (h0 : 0 ≤ m) (h255 : m < 256) (hv : RowsV actG 3 w (.slice va acts.length vc) acts) (hl : acts.length ≤ 9223372036854775807) (ha : ∀ a ∈ acts, RowsV pcells 3 w a.u a.list ∧ a.list.length ≤ 9223372036854775807) (hf : fitsG acts = true) :
    Calls Tryz.prog 3 #[.int .u8 m, .slice va acts.length vc, .int .i64 n] w fun e w' => e = .returned (.bool true) ∧ Below w.heap.size w w' := by
  have hl40 := (fitsG_true hf).2
  have HSH := Lib.hid (fitsG_true hf).1
  obtain ⟨k, hk⟩ : ∃ k : Nat, 1 + m % 24 = (k : Int) := ⟨(1 + m % 24).toNat, by omega⟩
  have hk1 : 1 ≤ k := by omega
  have hk2 : k ≤ 24 := by omega
  have HK := Lib.hid hk
  have HF := Lib.hid hf
  have HV := Lib.hid hv
  have HA := Lib.hid ha
  have HRA : Hid (∀ w', Below w.heap.size w w' → Ready w') := Lib.hid fun w' hb => hr.below hb
  have HRY := Lib.hid hr
  clear hf hv ha hk
  go_enter Tryz.func3, Tryz.ntmps3
  go_wp2_with fail
  refine (awake38_any _ HRY.out).mono ?_
  rintro e w1 ⟨rfl, hb1⟩
  have HB3 := Lib.hid hb1
  clear hb1
  go_wp2_with (first | (go_at_call 6; refine (fits38_any (.slice va acts.length vc) acts _ (HV.out.below HB3.out) hl (fun a h => ⟨(HA.out a h).1.below HB3.out, (HA.out a h).2⟩)).mono ?_; rw [HF.out]; rintro e w2 ⟨rfl, rfl⟩) | (go_at_call 8; refine (window38_any m _ h0 h255).mono ?_; rw [HK.out]; rintro e w' ⟨rfl, rfl⟩))
  refine (gateNew_ok k _ (by omega) (by omega)).mono ?_
  rintro e w4 ⟨rfl, rfl⟩
  have HR := Lib.hid (gRun_new w1 k hk1 (by omega))
  have HRY3 := Lib.hid (HRA.out _ HB3.out)
  have HV3 := Lib.hid (HV.out.below HB3.out)
  have HA3 := Lib.hid (fun a h => (HA.out a h).1.below HB3.out)
  go_wp2_with (go_at_call 8; refine (window38_any m _ h0 h255).mono ?_; rw [HK.out]; rintro e w' ⟨rfl, rfl⟩)
  have hP := pair_new (r := GateM.start k) (ku := .slice none 0 0) (au := .slice none 0 0) HR.out ⟨RowsV.nil, RowsV.nil, TypedV.none _ _, TypedV.none _ _⟩
  rw [show ((w1.alloc (.map #[] 0)).alloc (.cells #[.int .i64 (k : Int), .int .i64 0, .int .i64 0, .slice none 0 0, .map (some w1.heap.size)] 63)).heap.size = w1.heap.size + 1 + 1 by simp] at hP
  have HP5 := Lib.hid hP
  clear hP
  go_loopg [10] acts.length (fun q iv wr => ∃ (j : Nat) (v : Value) (g : GateM) (ku au : Value), j ≤ acts.length ∧ iv = .int .i64 j ∧ Hid (acts.length ≤ q + j) ∧ PairS w1 wr (w1.heap.size + 1) w1.heap.size v g (w1.heap.size + 1 + 1) g ku au)
  case atStart => exact ⟨0, _, GateM.start k, _, _, Nat.zero_le _, rfl, Lib.hid (by omega), HP5.out⟩
  case round =>
    obtain ⟨j, v, g, ku, au, hj, rfl, HQ11, s⟩ := hrel
    obtain ⟨ka, kc, rfl, _⟩ := s.ref.kept.form
    obtain ⟨aa, ac, rfl, _⟩ := s.ref.aside.form
    have HS1 := Lib.hid s
    have hg0 := s.run.ok.lo
    have hg1 := s.run.ok.hi
    have hg2 : g.floor ≤ g.applied := by have := s.run.ok.len; omega
    clear s
    obtain ⟨⟨c0, c1, c2, c3, c4⟩, ⟨f0, f1, f2, f3, f4⟩, hz⟩ := HS1.out.box.facts
    by_cases hlt : j < acts.length
    · obtain ⟨b0, o, c, e, hc, hbz, hcell⟩ := HV3.out.at hlt
      cases e
      have HSj := Lib.hid (HSH.out acts[j] (List.getElem_mem hlt))
      have HAj := Lib.hid (HA3.out acts[j] (List.getElem_mem hlt))
      generalize acts[j] = y at hcell HSj HAj
      have HRj := Lib.hid (HAj.out.below HS1.out.run.bel)
      have HZj := Lib.hid (shortB_true HSj.out)
      have q0 := (HS1.out.run.bel.cell (p := ⟨b0, _, none⟩) hbz).trans (hcell 0 _ rfl)
      have q1 := (HS1.out.run.bel.cell (p := ⟨b0, _, none⟩) hbz).trans (hcell 1 _ rfl)
      have q2 := (HS1.out.run.bel.cell (p := ⟨b0, _, none⟩) hbz).trans (hcell 2 _ rfl)
      rw [Nat.add_zero] at q0
      rw [← Nat.add_assoc] at q1 q2
      have HC0 := Lib.hid (show w1.cell? ⟨b0, o + j * 3, none⟩ = some (.bool y.jump) from hcell 0 _ rfl)
      have HC1 := Lib.hid (show w1.cell? ⟨b0, o + j * 3 + 1, none⟩ = some (.int .i64 y.first) from hcell 1 _ rfl)
      have HC2 := Lib.hid (show w1.cell? ⟨b0, o + j * 3 + 2, none⟩ = some y.u from hcell 2 _ rfl)
      clear hcell
      obtain ⟨yj, yn, yu, yl⟩ := y
      obtain ⟨h, hh⟩ : ∃ h, g.doA ⟨yj, yn, yu, yl⟩ = h := ⟨_, rfl⟩
      have HH := Lib.hid hh
      clear hh
      go_wp2_with fail
      have HSd := Lib.hid (HS1.out.older (Below.refl _ _).drew)
      go_still_tail 5, (by kernel_rfl)
      change wpList _ _ _ _ _ wr.drew
      generalize hw8 : wr.drew = w8 at HSd ⊢
      clear hw8
      go_upto_region 11 with (go_at_call 9; refine (told38_any g (.slice ka g.kept.length kc) (.slice aa g.aside.length ac) yu yj yn yl _ (HAj.out.below HSd.out.run.bel) (Nat.le_trans HZj.out.2 (by decide)) (fun p hp => Nat.le_trans (HZj.out.1 p hp) (by decide)) HSd.out.run.ok HSd.out.ref).mono ?_; rw [HH.out]; rintro e w9 ⟨ku9, au9, rfl, hr9, hb9⟩; obtain ⟨kb, kd, rfl, _⟩ := hr9.kept.form; obtain ⟨ab, ad, rfl, _⟩ := hr9.aside.form; have HS10 := Lib.hid (HSd.out.store hr9 hb9); have HS9 := Lib.hid (HSd.out.older hb9); clear hr9 hb9 c0 c1 c2 c3 c4 f0 f1 f2 f3 f4 q0 q1 q2; obtain ⟨⟨c0, c1, c2, c3, c4⟩, ⟨f0, f1, f2, f3, f4⟩, hz9⟩ := HS9.out.box.facts)
      generalize hw9 : (((((w9.setCell ⟨(w1.heap.size + 1 + 1), 0, none⟩ (.int .i64 h.applied)).setCell ⟨(w1.heap.size + 1 + 1), 1, none⟩ (.int .i64 h.floor)).setCell ⟨(w1.heap.size + 1 + 1), 2, none⟩ (.int .i64 h.win)).setCell ⟨(w1.heap.size + 1 + 1), 3, none⟩ (.slice kb h.kept.length kd)).setCell ⟨(w1.heap.size + 1 + 1), 4, none⟩ (.slice ab h.aside.length ad)) = w10 at HS10 ⊢
      clear hw9
      have HS10d := Lib.hid (HS10.out.older (Below.refl _ _).drew)
      have q0 := (HS10.out.run.bel.cell (p := ⟨b0, _, none⟩) hbz).trans HC0.out
      have q1 := (HS10.out.run.bel.cell (p := ⟨b0, _, none⟩) hbz).trans HC1.out
      have q2 := (HS10.out.run.bel.cell (p := ⟨b0, _, none⟩) hbz).trans HC2.out
      clear c0 c1 c2 c3 c4 f0 f1 f2 f3 f4
      obtain ⟨⟨c0, c1, c2, c3, c4⟩, ⟨f0, f1, f2, f3, f4⟩, hz10⟩ := HS10.out.box.facts
      go_region_held3 (fun w' => w'.cell? ⟨(w1.heap.size + 1 + 1), 0, none⟩ = some (.int .i64 h.applied) ∧ w'.cell? ⟨(w1.heap.size + 1 + 1), 1, none⟩ = some (.int .i64 h.floor) ∧ w'.cell? ⟨(w1.heap.size + 1 + 1), 2, none⟩ = some (.int .i64 h.win) ∧ w'.cell? ⟨(w1.heap.size + 1 + 1), 3, none⟩ = some (.slice kb h.kept.length kd) ∧ w'.cell? ⟨(w1.heap.size + 1 + 1), 4, none⟩ = some (.slice ab h.aside.length ad) ∧ w'.cell? ⟨b0, o + j * 3, none⟩ = some (.bool yj) ∧ w'.cell? ⟨b0, o + j * 3 + 1, none⟩ = some (.int .i64 yn) ∧ w'.cell? ⟨b0, o + j * 3 + 2, none⟩ = some yu) (first | go_keep | exact ⟨c0, c1, c2, c3, c4, q0, q1, q2⟩)
        ((first | (go_at_call 10; refine (do38_any w1 _ (w1.heap.size + 1) w1.heap.size v yu g yj yn yl HS10d.out.run HRY3.out (HAj.out.below HS10d.out.run.bel) (fun p hp => Nat.le_trans (HZj.out.1 p hp) (by decide)) (Nat.le_trans HZj.out.2 (by decide))).mono ?_; rw [HH.out]; rintro e w11 ⟨v11, rfl, hr11, hg11⟩; have HS11 := Lib.hid (HS10d.out.goes hr11 hg11); clear hr11 hg11; have q0 := (HS11.out.run.bel.cell (p := ⟨b0, _, none⟩) hbz).trans HC0.out; have q1 := (HS11.out.run.bel.cell (p := ⟨b0, _, none⟩) hbz).trans HC1.out; have q2 := (HS11.out.run.bel.cell (p := ⟨b0, _, none⟩) hbz).trans HC2.out; clear c0 c1 c2 c3 c4 f0 f1 f2 f3 f4; obtain ⟨⟨c0, c1, c2, c3, c4⟩, ⟨f0, f1, f2, f3, f4⟩, hz11⟩ := HS11.out.box.facts) | (go_at_call 11; refine (is38_any w1 _ (w1.heap.size + 1) w1.heap.size v11 (.slice kb h.kept.length kd) (.slice ab h.aside.length ad) h n HS11.out.run HS11.out.ref).mono ?_; rintro e w12 ⟨rfl, hb12⟩; have HS12 := Lib.hid (HS11.out.older hb12); clear hb12; have q0 := (HS12.out.run.bel.cell (p := ⟨b0, _, none⟩) hbz).trans HC0.out; have q1 := (HS12.out.run.bel.cell (p := ⟨b0, _, none⟩) hbz).trans HC1.out; have q2 := (HS12.out.run.bel.cell (p := ⟨b0, _, none⟩) hbz).trans HC2.out; clear c0 c1 c2 c3 c4 f0 f1 f2 f3 f4; obtain ⟨⟨c0, c1, c2, c3, c4⟩, ⟨f0, f1, f2, f3, f4⟩, hz12⟩ := HS12.out.box.facts)))
      all_goals
        go_wp2_with fail
        go_roundg (gk - 1)
        case rel => exact ⟨j + 1, v11, h, _, _, by omega, by go_num, Lib.hid (by have := HQ11.out; omega), HS12.out⟩
        case measure => have := HQ11.out; omega
    · go_wp2_with (go_at_call 11; refine (is38_any w1 _ (w1.heap.size + 1) w1.heap.size v (.slice ka g.kept.length kc) (.slice aa g.aside.length ac) g n HS1.out.run HS1.out.ref).mono ?_; rintro e w12 ⟨rfl, hb12⟩)
      go_ret
      exact ⟨rfl, HB3.out.trans ((HS1.out.older hb12).run.bel.mono HB3.out.size)⟩
theorem walk (m : Int) (acts : List GAct) (v : Value) (n : Int) (w : World) (hr : Ready w) (hm : 0 ≤ m ∧ m < 256) (hv : RowsV actG 3 w v acts) (hl : acts.length ≤ 9223372036854775807) (ha : ∀ a ∈ acts, RowsV pcells 3 w a.u a.list ∧ a.list.length ≤ 9223372036854775807) :
    Calls Tryz.prog 3 #[.int .u8 m, v, .int .i64 n] w fun e w' => e = .returned (.bool true) ∧ Below w.heap.size w w' := by
  obtain ⟨va, vc, rfl, _⟩ := hv.form
  have h0 := hm.1
  have h255 := hm.2
  cases hf : fitsG acts with
  | false => exact walk_big m va vc acts n w hr h0 h255 hv hl ha hf
  | true => exact walk_ok m va vc acts n w hr h0 h255 hv hl ha hf

/-- What the walk gives, for every argument. -/
theorem contract (H : Type) (enc : TypeId × Value → H) (W : World) (base : Nat) (args : Array Value) (ds gs : List (DataW H)) (before : List MemPlace)
    (hval : ∀ (j : Nat) t v, Tryz.f3.params[j]? = some t → args[j]? = some v → Value.okWide Tryz.prog W .any base t v)
    (hW : DataW.Whole enc Tryz.prog Tryz.f3.params.toList Rows.gatePlaysSpec.vars false W args.toList ds gs before) (hsz : (DataW.weightsEach Tryz.prog Tryz.f3.params.toList (ds ++ gs)).all (· ≤ reachBytes) = true) (hr : Ready W) :
    Calls Tryz.prog 3 args W fun e W' => ∃ v, e = .returned v ∧ Rows.gatePlaysSpec.post enc Tryz.prog Tryz.f3 false true false false W args v W' := by
  have hW' := hW
  have hlt := fun p hp => hW.lt p hp
  obtain ⟨p, q, hA0, hV, rfl, hfz, hnd⟩ := hW
  have hA : DataW.TrodAll enc Tryz.prog W 0 (fun _ => true) true Tryz.f3.params.toList args.toList ds p := hA0
  have hA1 := hA
  obtain ⟨rfl, rfl⟩ := trodVars_none hV
  rw [Tryz.params3] at hA hval
  obtain ⟨v0, vs0, d0, ds0, p0, q0, hargs, rfl, rfl, h0, r0⟩ := trodAll_cons hA
  obtain ⟨v1, vs1, d1, ds1, p1, q1, rfl, rfl, rfl, h1, r1⟩ := trodAll_cons r0
  obtain ⟨v2, vs2, d2, ds2, p2, q2, rfl, rfl, rfl, h2, r2⟩ := trodAll_cons r1
  obtain ⟨rfl, rfl, rfl⟩ := trodAll_nil r2
  obtain rfl : args = #[v0, v1, v2] := by cases args; simp_all
  have fin : ∀ W', Below W.heap.size W W' → Rows.gatePlaysSpec.post enc Tryz.prog Tryz.f3 false true false false W #[v0, v1, v2] (.bool true) W' := fun W' hb => by
    simp only [List.append_nil] at hA1 hW' hlt
    exact ⟨_, _, _, [], _, [], hW', trodAll_cons_mk (shut_bool Tryz.underlying4 _) trodAll_mk0, Fr.trodAll_below (by kernel_rfl) _ (by kernel_rfl) hA1 hb hlt, rfl, hb.frame _, fun h => by cases h⟩
  clear hW' hA0 hA1 hlt
  rw [Tryz.params3, List.append_nil] at hsz
  obtain ⟨n0, rfl, rfl, rfl, wf0⟩ := open_int Tryz.underlying5 (hval 0 5 v0 rfl rfl) h0
  have m0 := Op.u8_range wf0
  obtain ⟨ua1, ul1, uc1, rfl⟩ := okWide_slice Tryz.underlying22 (hval 1 22 v1 rfl rfl)
  obtain ⟨fu1, hf1⟩ := h1
  obtain ⟨xs1, hx1, hl1, ha1⟩ := Op.gacts_trod hf1
  obtain ⟨n2, rfl, rfl, rfl, wf2⟩ := open_int Tryz.underlying3 (hval 2 3 v2 rfl rfl) h2
  refine (walk n0 xs1 (.slice ua1 ul1 uc1) n2 W hr m0 hx1 hl1 ha1).mono fun e W' ⟨he, hb⟩ => ?_
  subst he
  exact ⟨_, rfl, fin W' hb⟩

theorem laid_met (os : Os) : laidMet Tryz.prog Rows.gatePlaysRow.laid ((Fr.laidWorld os).forCall (fun _ _ => 0) ⟨#[], #[.int .u8 0, .slice none 0 0, .int .i64 0], []⟩).memory :=
  laidMet_of_run' 8 (by kernel_rfl) (by kernel_rfl)
theorem reads (os : Os) {H : Type} (enc : TypeId × Value → H) : ∃ places, DataW.whole enc Tryz.prog ((Fr.laidWorld os).forCall (fun _ _ => 0) ⟨#[], #[.int .u8 0, .slice none 0 0, .int .i64 0], []⟩).memory Tryz.f3.params.toList Rows.gatePlaysSpec.vars false (#[.int .u8 0, .slice none 0 0, .int .i64 0] : Array Value).toList 8 = some ([.lit (.int .u8 0), .nil, .lit (.int .i64 0)], [], places) :=
  ⟨[], by kernel_rfl⟩

theorem lifted (os : Os) (started : os.Started) (H : Type) (enc : TypeId × Value → H) (F : Stop.Interp) :
    ReturnsInHanded {} Tryz.checked os 3 .any ((OpenSpec.ofChange Rows.gatePlaysSpec).preRow enc Tryz.prog Tryz.f3 Rows.gatePlaysRow.domain false Rows.gatePlaysRow.laid) (((OpenSpec.ofChange Rows.gatePlaysSpec).at F).post enc Tryz.prog Tryz.f3 false true false false) := by
  obtain ⟨places, hx⟩ := reads os enc
  refine returnsInHanded_of_row (C := Tryz.checked) (s := OpenSpec.ofChange Rows.gatePlaysSpec) Fr.own started (by kernel_rfl) Tryz.func3
    (witness_row_at (enc := enc) (C := Tryz.checked) false (Fr.laidWorld os) #[.int .u8 0, .slice none 0 0, .int .i64 0] rfl (by kernel_rfl) (by kernel_rfl) (by kernel_rfl)
      (OpenSpec.preRow_of_cond 8 hx (by kernel_rfl) (fun k hk => by cases hk) (by kernel_rfl) (laid_met os))) ?_
  intro W base args ds gs before hval hW _ hcond hsz _ hsh _
  exact contract H enc W base args ds gs before hval hW (by have h9 : (DataW.weightsEach Tryz.prog (Tryz.f3.params.toList ++ []) (ds ++ gs)).all (· ≤ reachBytes) = true := hsz; rw [List.append_nil] at h9; exact h9) (Fr.ready hsh)

theorem k_0 : Rows.gatePlaysRow.wf (OpenSpec.ofChange (OpenSpec.ofChange Rows.gatePlaysSpec).bare) = true := by kernel_rfl
theorem k_1 : laidOutB Tryz.prog = true := Fr.sf_laidOut
theorem k_2 : mapsRowed Tryz.prog = true := Fr.sf_mapsRowed
theorem k_3 : Tryz.f3.params.all (Tryz.prog.readableRec ·) = true := by kernel_rfl
theorem k_4 : namedTie Tryz.prog Rows.gatePlaysRow.named (OpenSpec.ofChange Rows.gatePlaysSpec).bare.vars = true := by kernel_rfl
theorem k_5 : (Rows.gatePlaysRow.stops == []) = true := by kernel_rfl
theorem k_6 : (Tryz.prog.stops == []) = true := Fr.sf_stops
theorem k_7 : (Rows.gatePlaysRow.knobs == []) = true := by kernel_rfl
theorem k_8 : (Tryz.prog.stopKnobs == []) = true := Fr.sf_stopKnobs
theorem k_9 : (Rows.gatePlaysRow.inPlace == Tryz.prog.inPlace 3) = true := by kernel_rfl
theorem k_10 : (Rows.gatePlaysRow.unfollowed == Tryz.prog.unfollowed 3) = true := by kernel_rfl
theorem k_11 : (Rows.gatePlaysRow.recurses == Tryz.prog.recurses 3) = true := by kernel_rfl
theorem k_12 : (Rows.gatePlaysRow.named == Tryz.prog.varsNamed 3) = true := by kernel_rfl
theorem k_13 : (Rows.gatePlaysRow.maps == (Tryz.f3.params.toList ++ (OpenSpec.ofChange Rows.gatePlaysSpec).bare.plain.varTypes Tryz.prog).any (Tryz.prog.mapsRec ·)) = true := by kernel_rfl
theorem k_14 : (Rows.gatePlaysRow.ifaces == (Tryz.f3.params.toList ++ (OpenSpec.ofChange Rows.gatePlaysSpec).bare.plain.varTypes Tryz.prog).any (Tryz.prog.ifacesRec ·)) = true := by kernel_rfl
theorem k_15 : (Rows.gatePlaysRow.mapsOut == Tryz.prog.mapsAmong Tryz.f3.resultTypes.toList) = true := by kernel_rfl
theorem k_16 : (Rows.gatePlaysRow.loops == (Tryz.f3.params.toList ++ (OpenSpec.ofChange Rows.gatePlaysSpec).bare.plain.varTypes Tryz.prog).any (Tryz.prog.loopsFrom ·)) = true := by kernel_rfl
theorem k_17 : (Rows.gatePlaysRow.wideKeys == (Tryz.f3.params.toList ++ (OpenSpec.ofChange Rows.gatePlaysSpec).bare.plain.varTypes Tryz.prog ++ Tryz.f3.resultTypes.toList).any (Tryz.prog.wideKeysFrom ·)) = true := by kernel_rfl
theorem k_18 : (OpenSpec.ofChange Rows.gatePlaysSpec).bare.vars.all (Tryz.prog.varReadable ·) = true := by kernel_rfl
theorem k_19 : Tryz.f3.resultTypes.all (fun t => Tryz.prog.readableRec t && decide (t < Tryz.prog.types.size)) = true := by kernel_rfl
theorem k_20 : (Rows.gatePlaysRow.ifacesOut == Tryz.f3.resultTypes.toList.any (Tryz.prog.ifacesRec ·)) = true := by kernel_rfl
theorem k_21 : (Rows.gatePlaysRow.loopsOut == Tryz.f3.resultTypes.toList.any (Tryz.prog.loopsFrom ·)) = true := by kernel_rfl
theorem k_22 : (Rows.gatePlaysRow.plainKeys == Tryz.prog.plainKeys) = true := Fr.sf_plainKeys
theorem k_23 : Rows.gatePlaysRow.shortTexts.isNone = true := by kernel_rfl
theorem k_24 : Tryz.prog.stopsHeard = true := Fr.sf_heard
theorem k_25 : Tryz.prog.mayEnter = true := Fr.sf_mayEnter
theorem k_26 : (Rows.gatePlaysRow.lifted == Tryz.prog.liftsFinal) = true := Fr.sf_lifted
theorem k_27 : (Tryz.prog.make == some Rows.gatePlaysRow.make) = true := Fr.sf_make
theorem k_28 : (Rows.gatePlaysRow.kinds == (if Rows.gatePlaysRow.domain.isEmpty then [] else Tryz.f3.params.toList.map fun t => match Tryz.prog.underlying t with | some (.int k) => some k | _ => none)) = true := by kernel_rfl
theorem k_29 : (Rows.gatePlaysRow.pinned == Rows.gatePlaysRow.pinnedBy) = true := by kernel_rfl
theorem k_30 : (Rows.gatePlaysRow.veiled == (Tryz.f3.params.toList ++ (OpenSpec.ofChange Rows.gatePlaysSpec).bare.plain.varTypes Tryz.prog ++ Tryz.f3.resultTypes.toList).any (Tryz.prog.veiledRec ·)) = true := by kernel_rfl
theorem k_31 : Rows.gatePlaysRow.veiledFits Tryz.prog Tryz.f3.params.toList (Tryz.f3.params.toList ++ (OpenSpec.ofChange Rows.gatePlaysSpec).bare.plain.varTypes Tryz.prog ++ Tryz.f3.resultTypes.toList) = true := by kernel_rfl
theorem closed : joinedFacts Tryz.prog 3 Tryz.f3 (OpenSpec.ofChange Rows.gatePlaysSpec).bare Rows.gatePlaysRow = true := Op.andT (Op.andT (Op.andT (Op.andT (Op.andT (Op.andT (Op.andT (Op.andT (Op.andT (Op.andT (Op.andT (Op.andT (Op.andT (Op.andT (Op.andT (Op.andT (Op.andT (Op.andT (Op.andT (Op.andT (Op.andT (Op.andT (Op.andT (Op.andT (Op.andT (Op.andT (Op.andT (Op.andT (Op.andT (Op.andT (Op.andT (k_0) k_1) k_2) k_3) k_4) k_5) k_6) k_7) k_8) k_9) k_10) k_11) k_12) k_13) k_14) k_15) k_16) k_17) k_18) k_19) k_20) k_21) k_22) k_23) k_24) k_25) k_26) k_27) k_28) k_29) k_30) k_31

theorem said : Rows.GatePlaysSaid :=
  OpenClaim.holds_of_cond 3 Tryz.f3 rfl rfl rfl rfl rfl rfl rfl ⟨rfl, rfl, rfl, rfl, rfl⟩ rfl rfl rfl rfl rfl (by kernel_rfl) Tryz.func3 closed
    (of_decide_eq_true (by kernel_rfl)) (by unfold Func.isWrapper; first | (rw [if_pos (by decide +kernel)]; kernel_rfl) | (rw [if_neg (by decide +kernel)]; exact ⟨rfl, rfl⟩))
    (fun os started H enc _ F => by rw [OpenClaim.pre_eq_preRow]; exact lifted os started H enc F)

theorem plain (b : Bool) (hb : b = Tryz.pinned.checked.prog.looks []) (f : FuncId) (fn : Func) (hf : Tryz.pinned.checked.prog.funcNamed "quayside/quaysidelaw38.GatePlays" = some f) (hfn : Tryz.pinned.checked.prog.funcs[f]? = some fn) :
    b = Tryz.pinned.checked.prog.looks [] ∧ ∀ (j : Nat) t, fn.params[j]? = some t → Tryz.pinned.checked.prog.wantsStandIn t = false := by
  obtain rfl : f = 3 := Option.some.inj ((show Tryz.prog.funcNamed "quayside/quaysidelaw38.GatePlays" = some 3 by kernel_rfl).symm.trans hf) |>.symm
  obtain rfl : fn = Tryz.f3 := (Option.some.inj (Tryz.func3.symm.trans hfn)).symm
  refine ⟨hb, fun j t ht => ?_⟩
  rw [Tryz.params3] at ht
  have hm : t ∈ [5, 22, 3] := by simpa using Array.mem_of_getElem? ht
  have hall : ([5, 22, 3].all fun u => !Tryz.prog.wantsStandIn u) = true := by kernel_rfl
  exact (show Tryz.prog.wantsStandIn t = false by simpa using List.all_eq_true.1 hall t hm)

theorem proved : Rows.GatePlaysCardSaid :=
  Claim7.holds_tied_plain_at .later [] _ _ _ _ said (fun _ h => by cases h) (by kernel_rfl) (fun _ h => by cases h) gatePlays_row_tie rfl ⟨rfl, rfl⟩ (by kernel_rfl) rfl (plain _ (by kernel_rfl)) (by kernel_rfl)
#print axioms proved
end Go.Proofs.YtnppicekfjdefaaGreatDoor.lawGatePlays
