/- PROVED: GateGrows returns true for every input and leaves its arguments as they were. No condition beyond the statement's own (the listed variables read as the program's text lays them, which the card ties). -/
import Derived.Test.YtnppicekfjdefaaDoorFrame
import Derived.Test.YtnppicekfjdefaaDoorClosed
import Derived.Test.YtnppicekfjdefaaDoorGLawC
import Derived.Test.YtnppicekfjdefaaDoorOpenQ
namespace Go.Proofs.YtnppicekfjdefaaDoor.lawGateGrows
open Go.ChangeShapes Go.WideShapes Go.ChangeAt Go.RowKit Pl Ad A1
open Go.ChangeMaps (open_string shut_string)
attribute [local go_sem] ba_get conv_one conv_one_drewN ba_append ba_extract
set_option maxRecDepth 100000
set_option maxHeartbeats 4000000
set_option linter.unusedVariables false

theorem walk_big (va : Option Addr) (vc : Nat) (acts : List GAct) (xt : Int) (xa : Bs) (tags : List Bs) (ua : Option Addr) (uc : Nat) (asOf m : Int) (w : World) (hr : Ready w) (hv : RowsV actG 3 w (.slice va acts.length vc) acts) (hl : acts.length ≤ 9223372036854775807) (ha : ∀ a ∈ acts, RowsV pcells 3 w a.u a.list ∧ a.list.length ≤ 9223372036854775807) (hux : StrsV w (.slice ua tags.length uc) tags) (htl : tags.length ≤ 9223372036854775807) (h0 : 0 ≤ m) (h255 : m < 256) (hf : fitsG acts = false) :
    Calls Tryd.prog 4 #[.slice va acts.length vc, .agg #[.int .i64 xt, .string ⟨xa.toArray⟩, (.slice ua tags.length uc), .int .i64 asOf, .int .u8 m]] w fun e w' => e = .returned (.bool true) ∧ Below w.heap.size w w' := by
  have hb0 := (Below.refl w.heap.size w).alloc (Nat.le_refl _) (.cells #[.int .i64 xt, .string ⟨xa.toArray⟩, (.slice ua tags.length uc), .int .i64 asOf, .int .u8 m] 28)
  have HB0 := Lib.hid hb0
  have HQ0 : Hid (QBox (w.alloc (.cells #[.int .i64 xt, .string ⟨xa.toArray⟩, (.slice ua tags.length uc), .int .i64 asOf, .int .u8 m] 28)) w.heap.size xt xa (.slice ua tags.length uc) asOf m) := Lib.hid (heap_alloc_new w _)
  have HV := Lib.hid hv
  have HU := Lib.hid hux
  have HRA : Hid (∀ w', Below w.heap.size w w' → Ready w') := Lib.hid fun w' hb => hr.below hb
  have HA := Lib.hid ha
  clear hb0 hv hux ha
  have HF := Lib.hid hf
  clear hf
  go_enter Tryd.func4, Tryd.ntmps4
  go_wp2_with fail
  refine (awake38_any _ (HRA.out _ HB0.out)).mono ?_
  rintro e w1 ⟨rfl, hb1⟩
  have HB1 := Lib.hid (HB0.out.trans (hb1.mono HB0.out.size))
  have HQ1 := Lib.hid (HQ0.out.older hb1)
  obtain ⟨⟨d0, d1, d2, d3, d4⟩, hzq⟩ := HQ1.out.facts
  clear hb1
  go_wp2_with (first | (go_at_call 18; refine (fits38_any (.slice va acts.length vc) acts _ (HV.out.below HB1.out) hl (fun a h => ⟨(HA.out a h).1.below HB1.out, (HA.out a h).2⟩)).mono ?_; rw [HF.out]; rintro e w2 ⟨rfl, rfl⟩) | (go_at_call 6; refine (awake38_any _ (HRA.out _ HB1.out)).mono ?_; rintro e w3 ⟨rfl, hb3⟩))
  go_ret
  exact ⟨rfl, HB1.out.trans (hb3.mono HB1.out.size)⟩
theorem walk_huge (va : Option Addr) (vc : Nat) (acts : List GAct) (xt : Int) (xa : Bs) (tags : List Bs) (ua : Option Addr) (uc : Nat) (asOf m : Int) (w : World) (hr : Ready w) (hv : RowsV actG 3 w (.slice va acts.length vc) acts) (hl : acts.length ≤ 9223372036854775807) (ha : ∀ a ∈ acts, RowsV pcells 3 w a.u a.list ∧ a.list.length ≤ 9223372036854775807) (hux : StrsV w (.slice ua tags.length uc) tags) (htl : tags.length ≤ 9223372036854775807) (h0 : 0 ≤ m) (h255 : m < 256) (hf : fitsG acts = true) (ht : tinyB ⟨xt, xa, tags⟩ = false) :
    Calls Tryd.prog 4 #[.slice va acts.length vc, .agg #[.int .i64 xt, .string ⟨xa.toArray⟩, (.slice ua tags.length uc), .int .i64 asOf, .int .u8 m]] w fun e w' => e = .returned (.bool true) ∧ Below w.heap.size w w' := by
  have hb0 := (Below.refl w.heap.size w).alloc (Nat.le_refl _) (.cells #[.int .i64 xt, .string ⟨xa.toArray⟩, (.slice ua tags.length uc), .int .i64 asOf, .int .u8 m] 28)
  have HB0 := Lib.hid hb0
  have HQ0 : Hid (QBox (w.alloc (.cells #[.int .i64 xt, .string ⟨xa.toArray⟩, (.slice ua tags.length uc), .int .i64 asOf, .int .u8 m] 28)) w.heap.size xt xa (.slice ua tags.length uc) asOf m) := Lib.hid (heap_alloc_new w _)
  have HV := Lib.hid hv
  have HU := Lib.hid hux
  have HRA : Hid (∀ w', Below w.heap.size w w' → Ready w') := Lib.hid fun w' hb => hr.below hb
  have HA := Lib.hid ha
  clear hb0 hv hux ha
  have HF := Lib.hid hf
  have HT := Lib.hid ht
  clear hf ht
  go_enter Tryd.func4, Tryd.ntmps4
  go_wp2_with fail
  refine (awake38_any _ (HRA.out _ HB0.out)).mono ?_
  rintro e w1 ⟨rfl, hb1⟩
  have HB1 := Lib.hid (HB0.out.trans (hb1.mono HB0.out.size))
  have HQ1 := Lib.hid (HQ0.out.older hb1)
  obtain ⟨⟨d0, d1, d2, d3, d4⟩, hzq⟩ := HQ1.out.facts
  clear hb1
  go_wp2_with (first | (go_at_call 18; refine (fits38_any (.slice va acts.length vc) acts _ (HV.out.below HB1.out) hl (fun a h => ⟨(HA.out a h).1.below HB1.out, (HA.out a h).2⟩)).mono ?_; rw [HF.out]; rintro e w2 ⟨rfl, rfl⟩) | (go_at_call 8; refine (tiny38_any xt xa tags ua uc _ htl).mono ?_; rw [HT.out]; rintro e w3 ⟨rfl, hb3⟩; have HB3 := Lib.hid (HB1.out.trans (hb3.mono HB1.out.size)); have HQ3 := Lib.hid (HQ1.out.older hb3); clear hb3 d0 d1 d2 d3 d4; obtain ⟨⟨d0, d1, d2, d3, d4⟩, hz3⟩ := HQ3.out.facts) | (go_at_call 6; refine (awake38_any _ (HRA.out _ HB3.out)).mono ?_; rintro e w4 ⟨rfl, hb4⟩))
  go_ret
  exact ⟨rfl, HB3.out.trans (hb4.mono HB3.out.size)⟩
theorem walk_ok (va : Option Addr) (vc : Nat) (acts : List GAct) (xt : Int) (xa : Bs) (tags : List Bs) (ua : Option Addr) (uc : Nat) (asOf m : Int) (w : World) (hr : Ready w) (hv : RowsV actG 3 w (.slice va acts.length vc) acts) (hl : acts.length ≤ 9223372036854775807) (ha : ∀ a ∈ acts, RowsV pcells 3 w a.u a.list ∧ a.list.length ≤ 9223372036854775807) (hux : StrsV w (.slice ua tags.length uc) tags) (htl : tags.length ≤ 9223372036854775807) (h0 : 0 ≤ m) (h255 : m < 256) (hf : fitsG acts = true) (ht : tinyB ⟨xt, xa, tags⟩ = true) :
    Calls Tryd.prog 4 #[.slice va acts.length vc, .agg #[.int .i64 xt, .string ⟨xa.toArray⟩, (.slice ua tags.length uc), .int .i64 asOf, .int .u8 m]] w fun e w' => e = .returned (.bool true) ∧ Below w.heap.size w w' := by
  have hb0 := (Below.refl w.heap.size w).alloc (Nat.le_refl _) (.cells #[.int .i64 xt, .string ⟨xa.toArray⟩, (.slice ua tags.length uc), .int .i64 asOf, .int .u8 m] 28)
  have HB0 := Lib.hid hb0
  have HQ0 : Hid (QBox (w.alloc (.cells #[.int .i64 xt, .string ⟨xa.toArray⟩, (.slice ua tags.length uc), .int .i64 asOf, .int .u8 m] 28)) w.heap.size xt xa (.slice ua tags.length uc) asOf m) := Lib.hid (heap_alloc_new w _)
  have HV := Lib.hid hv
  have HU := Lib.hid hux
  have HRA : Hid (∀ w', Below w.heap.size w w' → Ready w') := Lib.hid fun w' hb => hr.below hb
  have HA := Lib.hid ha
  clear hb0 hv hux ha
  have hl40 := (fitsG_true hf).2
  have HSH := Lib.hid (fitsG_true hf).1
  have HF := Lib.hid hf
  have HT := Lib.hid ht
  have htt : tags.length ≤ 40 ∧ xa.length ≤ 1200 := by unfold tinyB at ht; simpa using ht
  have hxl : xa.length ≤ 134217728 := by omega
  have htl4 : tags.length ≤ 40 := htt.1
  obtain ⟨k, hk⟩ : ∃ k : Nat, 1 + m % 24 = (k : Int) := ⟨(1 + m % 24).toNat, by omega⟩
  have hk1 : 1 ≤ k := by omega
  have hk2 : k ≤ 24 := by omega
  have HK := Lib.hid hk
  have HRY := Lib.hid hr
  clear hf ht hk htt
  go_enter Tryd.func4, Tryd.ntmps4
  go_wp2_with fail
  refine (awake38_any _ (HRA.out _ HB0.out)).mono ?_
  rintro e w1 ⟨rfl, hb1⟩
  have HB1 := Lib.hid (HB0.out.trans (hb1.mono HB0.out.size))
  have HQ1 := Lib.hid (HQ0.out.older hb1)
  obtain ⟨⟨d0, d1, d2, d3, d4⟩, hzq⟩ := HQ1.out.facts
  clear hb1
  go_wp2_with (first | (go_at_call 18; refine (fits38_any (.slice va acts.length vc) acts _ (HV.out.below HB1.out) hl (fun a h => ⟨(HA.out a h).1.below HB1.out, (HA.out a h).2⟩)).mono ?_; rw [HF.out]; rintro e w2 ⟨rfl, rfl⟩) | (go_at_call 8; refine (tiny38_any xt xa tags ua uc _ htl).mono ?_; rw [HT.out]; rintro e w3 ⟨rfl, hb3⟩; have HB3 := Lib.hid (HB1.out.trans (hb3.mono HB1.out.size)); have HQ3 := Lib.hid (HQ1.out.older hb3); clear hb3 d0 d1 d2 d3 d4; obtain ⟨⟨d0, d1, d2, d3, d4⟩, hz3⟩ := HQ3.out.facts))
  go_wp2_with (go_at_call 11; refine (window38_any m _ h0 h255).mono ?_; rw [HK.out]; rintro e w' ⟨rfl, rfl⟩)
  refine (gateNew_ok k _ (by omega) (by omega)).mono ?_
  rintro e w4 ⟨rfl, rfl⟩
  have HR := Lib.hid (gRun_new w3 k hk1 (by omega))
  have HU4 := Lib.hid (HU.out.below (HB3.out.trans (HR.out.bel.mono HB3.out.size)))
  have HRY3 := Lib.hid (HRA.out _ HB3.out)
  have HV3 := Lib.hid (HV.out.below HB3.out)
  have HA3 := Lib.hid (fun a h => (HA.out a h).1.below HB3.out)
  clear d0 d1 d2 d3 d4 hz3
  obtain ⟨⟨d0, d1, d2, d3, d4⟩, hz4⟩ := (HQ3.out.older HR.out.bel).facts
  go_wp2_with (go_at_call 12; refine (item36_own xt xa _ tags _ HU4.out (by omega)).mono ?_; rintro e w5 ⟨nv, rfl, hnv, hb5⟩; obtain ⟨na, nc, rfl, _⟩ := hnv.form; have HE5 := Lib.hid (gRest_new (xt := xt) (xa := xa) HR.out hb5 hnv); clear hb5 hnv)
  go_loopw [8, 9, 10, 11] (fun rv av fv iv wr => ∃ (j : Nat) (v : Value) (b : Bool) (g : GateM), j ≤ acts.length ∧ rv = .bool b ∧ av = .int .i64 g.applied ∧ fv = .int .i64 g.floor ∧ iv = .int .i64 j ∧ Hid ((GateM.start k).plays (acts.take j) = g) ∧ Hid (b = true → g.acceptC ⟨xt, xa, tags⟩ asOf = 18) ∧ GRest w3 wr (w3.heap.size + 1) w3.heap.size v (.slice na tags.length nc) g w5.heap.size xt xa tags) (fun _ _ _ iv _ => acts.length - (intOf iv).toNat)
  case atStart => exact ⟨0, _, false, GateM.start k, Nat.zero_le _, rfl, rfl, rfl, rfl, Lib.hid rfl, Lib.hid (fun h => by cases h), HE5.out⟩
  case round =>
    obtain ⟨j, v, b, g, hj, rfl, rfl, rfl, rfl, HPL0, HBR, s⟩ := hrel
    have hpl := HPL0.out
    clear HPL0
    have HS1 := Lib.hid s
    have HPL := Lib.hid hpl
    have hg0 := s.run.ok.lo
    have hg1 := s.run.ok.hi
    have hg2 := s.run.ok.len
    have hg3 : g.floor ≤ g.applied := by omega
    clear s hg2 hpl
    by_cases hlt : j < acts.length
    · have HSN := Lib.hid (GateM.plays_snoc (.start k) hlt)
      obtain ⟨b0, o, c, e, hc, hbz, hcell⟩ := HV3.out.at hlt
      cases e
      have HSj := Lib.hid (HSH.out acts[j] (List.getElem_mem hlt))
      have HAj := Lib.hid (HA3.out acts[j] (List.getElem_mem hlt))
      rw [HPL.out] at HSN
      generalize acts[j] = y at hcell HSN HSj HAj
      have HRj := Lib.hid (HAj.out.below HS1.out.run.bel)
      have HZj := Lib.hid (shortB_true HSj.out)
      have q0 := (HS1.out.run.bel.cell (p := ⟨b0, _, none⟩) hbz).trans (hcell 0 _ rfl)
      have q1 := (HS1.out.run.bel.cell (p := ⟨b0, _, none⟩) hbz).trans (hcell 1 _ rfl)
      have q2 := (HS1.out.run.bel.cell (p := ⟨b0, _, none⟩) hbz).trans (hcell 2 _ rfl)
      rw [Nat.add_zero] at q0
      rw [← Nat.add_assoc] at q1 q2
      clear hcell
      obtain ⟨yj, yn, yu, yl⟩ := y
      obtain ⟨h, hh⟩ : ∃ h, g.doA ⟨yj, yn, yu, yl⟩ = h := ⟨_, rfl⟩
      have HH := Lib.hid hh
      rw [hh] at HSN
      clear hh
      have HGR := Lib.hid (GateM.doA_grow g ⟨yj, yn, yu, yl⟩ HS1.out.run.ok (fun p hp => Nat.le_trans (HZj.out.1 p hp) (by decide)))
      have HOK := Lib.hid (GateM.ok_doA ⟨yj, yn, yu, yl⟩ HS1.out.run.ok (fun p hp => Nat.le_trans (HZj.out.1 p hp) (by decide)))
      rw [HH.out] at HGR HOK
      have hn1 : ¬ h.applied < g.applied := by have := HGR.out.ap; omega
      have hn2 : ¬ h.floor < g.floor := by have := HGR.out.fl; omega
      have hn3 : ¬ h.applied < h.floor := by have := HOK.out.len; omega
      have hh0 := HOK.out.lo
      have hh1 := HOK.out.hi
      have HAG := Lib.hid (fun hr => GateM.acceptC_grow (x := ⟨xt, xa, tags⟩) (n := asOf) HGR.out hr)
      obtain ⟨cc, hcc⟩ : ∃ cc, h.acceptC ⟨xt, xa, tags⟩ asOf = cc := ⟨_, rfl⟩
      have HC := Lib.hid hcc
      rw [hcc] at HAG
      clear hcc
      by_cases h18 : cc = 18
      · have HD := Lib.hid (decide_eq_true h18)
        have HD2 := Lib.hid h18
        clear h18
        cases b with
        | true =>
          go_wp2_with (first | (go_at_call 19; refine (do38_any w3 _ (w3.heap.size + 1) w3.heap.size v yu g yj yn yl HS1.out.run HRY3.out HRj.out (fun p hp => Nat.le_trans (HZj.out.1 p hp) (by decide)) (Nat.le_trans HZj.out.2 (by decide))).mono ?_; rw [HH.out]; rintro e w6 ⟨v6, rfl, hr6, hg6⟩; have HS6 := Lib.hid (HS1.out.goes hr6 hg6); clear hr6 hg6; obtain ⟨⟨d0, d1, d2, d3, d4⟩, hz6⟩ := (HQ3.out.older HS6.out.run.bel).facts; obtain ⟨⟨x0, x1, x2⟩, _, hx6⟩ := HS6.out.box.facts) | (go_at_call 16; refine (gateAccept w3.heap.size (w3.heap.size + 1) w3.heap.size v6 h xt xa tags (.slice na tags.length nc) asOf _ HS6.out.run.gate HS6.out.run.ok (HRY3.out.below HS6.out.run.bel) hxl (strsV_own HS6.out.str) (by omega)).mono ?_; rw [HC.out]; rintro e w7 ⟨rfl, hb7⟩; have HS7 := Lib.hid (HS6.out.older hb7); clear hb7) | (go_at_call 20; refine (is_codeV _ 18 _ (by decide)).mono ?_; rw [HD.out]; rintro e w' ⟨rfl, rfl⟩) | (go_at_call 15; refine (gateApplied w3.heap.size _ _ _ _ _ _ HS7.out.run.gate).mono ?_; rintro e w' ⟨rfl, rfl⟩) | (go_at_call 21; refine (gateFloor w3.heap.size _ _ _ _ _ _ HS7.out.run.gate).mono ?_; rintro e w' ⟨rfl, rfl⟩))
          go_roundw
          case rel => exact ⟨j + 1, v6, true, h, by omega, rfl, rfl, rfl, by go_num, Lib.hid HSN.out, Lib.hid (fun _ => by rw [HC.out, HD2.out]), HS7.out⟩
          case measure => simp [intOf]; omega
        | false =>
          go_wp2_with (first | (go_at_call 19; refine (do38_any w3 _ (w3.heap.size + 1) w3.heap.size v yu g yj yn yl HS1.out.run HRY3.out HRj.out (fun p hp => Nat.le_trans (HZj.out.1 p hp) (by decide)) (Nat.le_trans HZj.out.2 (by decide))).mono ?_; rw [HH.out]; rintro e w6 ⟨v6, rfl, hr6, hg6⟩; have HS6 := Lib.hid (HS1.out.goes hr6 hg6); clear hr6 hg6; obtain ⟨⟨d0, d1, d2, d3, d4⟩, hz6⟩ := (HQ3.out.older HS6.out.run.bel).facts; obtain ⟨⟨x0, x1, x2⟩, _, hx6⟩ := HS6.out.box.facts) | (go_at_call 16; refine (gateAccept w3.heap.size (w3.heap.size + 1) w3.heap.size v6 h xt xa tags (.slice na tags.length nc) asOf _ HS6.out.run.gate HS6.out.run.ok (HRY3.out.below HS6.out.run.bel) hxl (strsV_own HS6.out.str) (by omega)).mono ?_; rw [HC.out]; rintro e w7 ⟨rfl, hb7⟩; have HS7 := Lib.hid (HS6.out.older hb7); clear hb7) | (go_at_call 20; refine (is_codeV _ 18 _ (by decide)).mono ?_; rw [HD.out]; rintro e w' ⟨rfl, rfl⟩) | (go_at_call 15; refine (gateApplied w3.heap.size _ _ _ _ _ _ HS7.out.run.gate).mono ?_; rintro e w' ⟨rfl, rfl⟩) | (go_at_call 21; refine (gateFloor w3.heap.size _ _ _ _ _ _ HS7.out.run.gate).mono ?_; rintro e w' ⟨rfl, rfl⟩))
          go_roundw
          case rel => exact ⟨j + 1, v6, true, h, by omega, rfl, rfl, rfl, by go_num, Lib.hid HSN.out, Lib.hid (fun _ => by rw [HC.out, HD2.out]), HS7.out⟩
          case measure => simp [intOf]; omega
      · have HD := Lib.hid (decide_eq_false h18)
        cases b with
        | true => exact absurd (HAG.out (HBR.out rfl)) h18
        | false =>
          clear h18
          go_wp2_with (first | (go_at_call 19; refine (do38_any w3 _ (w3.heap.size + 1) w3.heap.size v yu g yj yn yl HS1.out.run HRY3.out HRj.out (fun p hp => Nat.le_trans (HZj.out.1 p hp) (by decide)) (Nat.le_trans HZj.out.2 (by decide))).mono ?_; rw [HH.out]; rintro e w6 ⟨v6, rfl, hr6, hg6⟩; have HS6 := Lib.hid (HS1.out.goes hr6 hg6); clear hr6 hg6; obtain ⟨⟨d0, d1, d2, d3, d4⟩, hz6⟩ := (HQ3.out.older HS6.out.run.bel).facts; obtain ⟨⟨x0, x1, x2⟩, _, hx6⟩ := HS6.out.box.facts) | (go_at_call 16; refine (gateAccept w3.heap.size (w3.heap.size + 1) w3.heap.size v6 h xt xa tags (.slice na tags.length nc) asOf _ HS6.out.run.gate HS6.out.run.ok (HRY3.out.below HS6.out.run.bel) hxl (strsV_own HS6.out.str) (by omega)).mono ?_; rw [HC.out]; rintro e w7 ⟨rfl, hb7⟩; have HS7 := Lib.hid (HS6.out.older hb7); clear hb7) | (go_at_call 20; refine (is_codeV _ 18 _ (by decide)).mono ?_; rw [HD.out]; rintro e w' ⟨rfl, rfl⟩) | (go_at_call 15; refine (gateApplied w3.heap.size _ _ _ _ _ _ HS7.out.run.gate).mono ?_; rintro e w' ⟨rfl, rfl⟩) | (go_at_call 21; refine (gateFloor w3.heap.size _ _ _ _ _ _ HS7.out.run.gate).mono ?_; rintro e w' ⟨rfl, rfl⟩))
          go_roundw
          case rel => exact ⟨j + 1, v6, false, h, by omega, rfl, rfl, rfl, by go_num, Lib.hid HSN.out, Lib.hid (fun h => by cases h), HS7.out⟩
          case measure => simp [intOf]; omega
    · go_wp2
      go_ret
      exact ⟨rfl, HB3.out.trans (HS1.out.run.bel.mono HB3.out.size)⟩
theorem walk (acts : List GAct) (v : Value) (xt : Int) (xa : Bs) (tags : List Bs) (u : Value) (asOf m : Int) (w : World) (hr : Ready w) (hv : RowsV actG 3 w v acts) (hl : acts.length ≤ 9223372036854775807) (ha : ∀ a ∈ acts, RowsV pcells 3 w a.u a.list ∧ a.list.length ≤ 9223372036854775807) (hux : StrsV w u tags) (htl : tags.length ≤ 9223372036854775807) (h0 : 0 ≤ m) (h255 : m < 256) :
    Calls Tryd.prog 4 #[v, .agg #[.int .i64 xt, .string ⟨xa.toArray⟩, u, .int .i64 asOf, .int .u8 m]] w fun e w' => e = .returned (.bool true) ∧ Below w.heap.size w w' := by
  obtain ⟨va, vc, rfl, _⟩ := hv.form
  obtain ⟨ua, uc, rfl⟩ := hux.form
  cases hf : fitsG acts with
  | false => exact walk_big va vc acts xt xa tags ua uc asOf m w hr hv hl ha hux htl h0 h255 hf
  | true =>
    cases ht : tinyB ⟨xt, xa, tags⟩ with
    | false => exact walk_huge va vc acts xt xa tags ua uc asOf m w hr hv hl ha hux htl h0 h255 hf ht
    | true => exact walk_ok va vc acts xt xa tags ua uc asOf m w hr hv hl ha hux htl h0 h255 hf ht

/-- What the walk gives, for every argument. -/
theorem contract (H : Type) (enc : TypeId × Value → H) (W : World) (base : Nat) (args : Array Value) (ds gs : List (DataW H)) (before : List MemPlace)
    (hval : ∀ (j : Nat) t v, Tryd.f4.params[j]? = some t → args[j]? = some v → Value.okWide Tryd.prog W .any base t v)
    (hW : DataW.Whole enc Tryd.prog Tryd.f4.params.toList Rows.gateGrowsSpec.vars false W args.toList ds gs before) (hsz : (DataW.weightsEach Tryd.prog Tryd.f4.params.toList (ds ++ gs)).all (· ≤ reachBytes) = true) (hr : Ready W) :
    Calls Tryd.prog 4 args W fun e W' => ∃ v, e = .returned v ∧ Rows.gateGrowsSpec.post enc Tryd.prog Tryd.f4 false true false false W args v W' := by
  have hW' := hW
  have hlt := fun p hp => hW.lt p hp
  obtain ⟨p, q, hA0, hV, rfl, hfz, hnd⟩ := hW
  have hA : DataW.TrodAll enc Tryd.prog W 0 (fun _ => true) true Tryd.f4.params.toList args.toList ds p := hA0
  have hA1 := hA
  obtain ⟨rfl, rfl⟩ := trodVars_none hV
  rw [Tryd.params4] at hA hval
  obtain ⟨v0, vs0, d0, ds0, p0, q0, hargs, rfl, rfl, h0, r0⟩ := trodAll_cons hA
  obtain ⟨v1, vs1, d1, ds1, p1, q1, rfl, rfl, rfl, h1, r1⟩ := trodAll_cons r0
  obtain ⟨rfl, rfl, rfl⟩ := trodAll_nil r1
  obtain rfl : args = #[v0, v1] := by cases args; simp_all
  have fin : ∀ W', Below W.heap.size W W' → Rows.gateGrowsSpec.post enc Tryd.prog Tryd.f4 false true false false W #[v0, v1] (.bool true) W' := fun W' hb => by
    simp only [List.append_nil] at hA1 hW' hlt
    exact ⟨_, _, _, [], _, [], hW', trodAll_cons_mk (shut_bool Tryd.underlying4 _) trodAll_mk0, Fr.trodAll_below (by kernel_rfl) _ (by kernel_rfl) hA1 hb hlt, rfl, hb.frame _, fun h => by cases h⟩
  clear hW' hA0 hA1 hlt
  rw [Tryd.params4, List.append_nil] at hsz
  obtain ⟨ua0, ul0, uc0, rfl⟩ := okWide_slice Tryd.underlying52 (hval 0 52 v0 rfl rfl)
  obtain ⟨fu0, hf0⟩ := h0
  obtain ⟨xs0, hx0, hl0, ha0⟩ := Op.gacts_trod hf0
  obtain ⟨xt, xa, tags, ux, asOf, mq, rfl, hux, htl, hq0, hq1⟩ := Op.open_q38 (hval 1 28 v1 rfl rfl) h1
  refine (walk xs0 (.slice ua0 ul0 uc0) xt xa tags ux asOf mq W hr hx0 hl0 ha0 hux htl hq0 hq1).mono fun e W' ⟨he, hb⟩ => ?_
  subst he
  exact ⟨_, rfl, fin W' hb⟩

theorem laid_met (os : Os) : laidMet Tryd.prog Rows.gateGrowsRow.laid ((Fr.laidWorld os).forCall (fun _ _ => 0) ⟨#[], #[.slice none 0 0, .agg #[.int .i64 0, .string ⟨#[]⟩, .slice none 0 0, .int .i64 0, .int .u8 0]], []⟩).memory :=
  laidMet_of_run' 8 (by kernel_rfl) (by kernel_rfl)
theorem reads (os : Os) {H : Type} (enc : TypeId × Value → H) : ∃ places, DataW.whole enc Tryd.prog ((Fr.laidWorld os).forCall (fun _ _ => 0) ⟨#[], #[.slice none 0 0, .agg #[.int .i64 0, .string ⟨#[]⟩, .slice none 0 0, .int .i64 0, .int .u8 0]], []⟩).memory Tryd.f4.params.toList Rows.gateGrowsSpec.vars false (#[.slice none 0 0, .agg #[.int .i64 0, .string ⟨#[]⟩, .slice none 0 0, .int .i64 0, .int .u8 0]] : Array Value).toList 8 = some ([.nil, .agg [.agg [.lit (.int .i64 0), .lit (.string []), .nil], .lit (.int .i64 0), .lit (.int .u8 0)]], [], places) :=
  ⟨[], by kernel_rfl⟩

theorem lifted (os : Os) (started : os.Started) (H : Type) (enc : TypeId × Value → H) (F : Stop.Interp) :
    ReturnsInHanded {} Tryd.checked os 4 .any ((OpenSpec.ofChange Rows.gateGrowsSpec).preRow enc Tryd.prog Tryd.f4 Rows.gateGrowsRow.domain false Rows.gateGrowsRow.laid) (((OpenSpec.ofChange Rows.gateGrowsSpec).at F).post enc Tryd.prog Tryd.f4 false true false false) := by
  obtain ⟨places, hx⟩ := reads os enc
  refine returnsInHanded_of_row (C := Tryd.checked) (s := OpenSpec.ofChange Rows.gateGrowsSpec) Fr.own started (by kernel_rfl) Tryd.func4
    (witness_row_at (enc := enc) (C := Tryd.checked) false (Fr.laidWorld os) #[.slice none 0 0, .agg #[.int .i64 0, .string ⟨#[]⟩, .slice none 0 0, .int .i64 0, .int .u8 0]] rfl (by kernel_rfl) (by kernel_rfl) (by kernel_rfl)
      (OpenSpec.preRow_of_cond 8 hx (by kernel_rfl) (fun k hk => by cases hk) (by kernel_rfl) (laid_met os))) ?_
  intro W base args ds gs before hval hW _ hcond hsz _ hsh _
  exact contract H enc W base args ds gs before hval hW (by have h9 : (DataW.weightsEach Tryd.prog (Tryd.f4.params.toList ++ []) (ds ++ gs)).all (· ≤ reachBytes) = true := hsz; rw [List.append_nil] at h9; exact h9) (Fr.ready hsh)

theorem k_0 : Rows.gateGrowsRow.wf (OpenSpec.ofChange (OpenSpec.ofChange Rows.gateGrowsSpec).bare) = true := by kernel_rfl
theorem k_1 : laidOutB Tryd.prog = true := Fr.sf_laidOut
theorem k_2 : mapsRowed Tryd.prog = true := Fr.sf_mapsRowed
theorem k_3 : Tryd.f4.params.all (Tryd.prog.readableRec ·) = true := by kernel_rfl
theorem k_4 : namedTie Tryd.prog Rows.gateGrowsRow.named (OpenSpec.ofChange Rows.gateGrowsSpec).bare.vars = true := by kernel_rfl
theorem k_5 : (Rows.gateGrowsRow.stops == []) = true := by kernel_rfl
theorem k_6 : (Tryd.prog.stops == []) = true := Fr.sf_stops
theorem k_7 : (Rows.gateGrowsRow.knobs == []) = true := by kernel_rfl
theorem k_8 : (Tryd.prog.stopKnobs == []) = true := Fr.sf_stopKnobs
theorem k_9 : (Rows.gateGrowsRow.inPlace == Tryd.prog.inPlace 4) = true := by kernel_rfl
theorem k_10 : (Rows.gateGrowsRow.unfollowed == Tryd.prog.unfollowed 4) = true := by kernel_rfl
theorem k_11 : (Rows.gateGrowsRow.recurses == Tryd.prog.recurses 4) = true := by kernel_rfl
theorem k_12 : (Rows.gateGrowsRow.named == Tryd.prog.varsNamed 4) = true := by kernel_rfl
theorem k_13 : (Rows.gateGrowsRow.maps == (Tryd.f4.params.toList ++ (OpenSpec.ofChange Rows.gateGrowsSpec).bare.plain.varTypes Tryd.prog).any (Tryd.prog.mapsRec ·)) = true := by kernel_rfl
theorem k_14 : (Rows.gateGrowsRow.ifaces == (Tryd.f4.params.toList ++ (OpenSpec.ofChange Rows.gateGrowsSpec).bare.plain.varTypes Tryd.prog).any (Tryd.prog.ifacesRec ·)) = true := by kernel_rfl
theorem k_15 : (Rows.gateGrowsRow.mapsOut == Tryd.prog.mapsAmong Tryd.f4.resultTypes.toList) = true := by kernel_rfl
theorem k_16 : (Rows.gateGrowsRow.loops == (Tryd.f4.params.toList ++ (OpenSpec.ofChange Rows.gateGrowsSpec).bare.plain.varTypes Tryd.prog).any (Tryd.prog.loopsFrom ·)) = true := by kernel_rfl
theorem k_17 : (Rows.gateGrowsRow.wideKeys == (Tryd.f4.params.toList ++ (OpenSpec.ofChange Rows.gateGrowsSpec).bare.plain.varTypes Tryd.prog ++ Tryd.f4.resultTypes.toList).any (Tryd.prog.wideKeysFrom ·)) = true := by kernel_rfl
theorem k_18 : (OpenSpec.ofChange Rows.gateGrowsSpec).bare.vars.all (Tryd.prog.varReadable ·) = true := by kernel_rfl
theorem k_19 : Tryd.f4.resultTypes.all (fun t => Tryd.prog.readableRec t && decide (t < Tryd.prog.types.size)) = true := by kernel_rfl
theorem k_20 : (Rows.gateGrowsRow.ifacesOut == Tryd.f4.resultTypes.toList.any (Tryd.prog.ifacesRec ·)) = true := by kernel_rfl
theorem k_21 : (Rows.gateGrowsRow.loopsOut == Tryd.f4.resultTypes.toList.any (Tryd.prog.loopsFrom ·)) = true := by kernel_rfl
theorem k_22 : (Rows.gateGrowsRow.plainKeys == Tryd.prog.plainKeys) = true := Fr.sf_plainKeys
theorem k_23 : Rows.gateGrowsRow.shortTexts.isNone = true := by kernel_rfl
theorem k_24 : Tryd.prog.stopsHeard = true := Fr.sf_heard
theorem k_25 : Tryd.prog.mayEnter = true := Fr.sf_mayEnter
theorem k_26 : (Rows.gateGrowsRow.lifted == Tryd.prog.liftsFinal) = true := Fr.sf_lifted
theorem k_27 : (Tryd.prog.make == some Rows.gateGrowsRow.make) = true := Fr.sf_make
theorem k_28 : (Rows.gateGrowsRow.kinds == (if Rows.gateGrowsRow.domain.isEmpty then [] else Tryd.f4.params.toList.map fun t => match Tryd.prog.underlying t with | some (.int k) => some k | _ => none)) = true := by kernel_rfl
theorem k_29 : (Rows.gateGrowsRow.pinned == Rows.gateGrowsRow.pinnedBy) = true := by kernel_rfl
theorem k_30 : (Rows.gateGrowsRow.veiled == (Tryd.f4.params.toList ++ (OpenSpec.ofChange Rows.gateGrowsSpec).bare.plain.varTypes Tryd.prog ++ Tryd.f4.resultTypes.toList).any (Tryd.prog.veiledRec ·)) = true := by kernel_rfl
theorem k_31 : Rows.gateGrowsRow.veiledFits Tryd.prog Tryd.f4.params.toList (Tryd.f4.params.toList ++ (OpenSpec.ofChange Rows.gateGrowsSpec).bare.plain.varTypes Tryd.prog ++ Tryd.f4.resultTypes.toList) = true := by kernel_rfl
theorem closed : joinedFacts Tryd.prog 4 Tryd.f4 (OpenSpec.ofChange Rows.gateGrowsSpec).bare Rows.gateGrowsRow = true := Op.andT (Op.andT (Op.andT (Op.andT (Op.andT (Op.andT (Op.andT (Op.andT (Op.andT (Op.andT (Op.andT (Op.andT (Op.andT (Op.andT (Op.andT (Op.andT (Op.andT (Op.andT (Op.andT (Op.andT (Op.andT (Op.andT (Op.andT (Op.andT (Op.andT (Op.andT (Op.andT (Op.andT (Op.andT (Op.andT (Op.andT (k_0) k_1) k_2) k_3) k_4) k_5) k_6) k_7) k_8) k_9) k_10) k_11) k_12) k_13) k_14) k_15) k_16) k_17) k_18) k_19) k_20) k_21) k_22) k_23) k_24) k_25) k_26) k_27) k_28) k_29) k_30) k_31

theorem said : Rows.GateGrowsSaid :=
  OpenClaim.holds_of_cond 4 Tryd.f4 rfl rfl rfl rfl rfl rfl rfl ⟨rfl, rfl, rfl, rfl, rfl⟩ rfl rfl rfl rfl rfl (by kernel_rfl) Tryd.func4 closed
    (of_decide_eq_true (by kernel_rfl)) (by unfold Func.isWrapper; first | (rw [if_pos (by decide +kernel)]; kernel_rfl) | (rw [if_neg (by decide +kernel)]; exact ⟨rfl, rfl⟩))
    (fun os started H enc _ F => by rw [OpenClaim.pre_eq_preRow]; exact lifted os started H enc F)

theorem plain (b : Bool) (hb : b = Tryd.pinned.checked.prog.looks []) (f : FuncId) (fn : Func) (hf : Tryd.pinned.checked.prog.funcNamed "quayside/quaysidelaw38.GateGrows" = some f) (hfn : Tryd.pinned.checked.prog.funcs[f]? = some fn) :
    b = Tryd.pinned.checked.prog.looks [] ∧ ∀ (j : Nat) t, fn.params[j]? = some t → Tryd.pinned.checked.prog.wantsStandIn t = false := by
  obtain rfl : f = 4 := Option.some.inj ((show Tryd.prog.funcNamed "quayside/quaysidelaw38.GateGrows" = some 4 by kernel_rfl).symm.trans hf) |>.symm
  obtain rfl : fn = Tryd.f4 := (Option.some.inj (Tryd.func4.symm.trans hfn)).symm
  refine ⟨hb, fun j t ht => ?_⟩
  rw [Tryd.params4] at ht
  have hm : t ∈ [52, 28] := by simpa using Array.mem_of_getElem? ht
  have hall : ([52, 28].all fun u => !Tryd.prog.wantsStandIn u) = true := by kernel_rfl
  exact (show Tryd.prog.wantsStandIn t = false by simpa using List.all_eq_true.1 hall t hm)

theorem proved : Rows.GateGrowsCardSaid :=
  Claim7.holds_tied_plain_at .later [] _ _ _ _ said (fun _ h => by cases h) (by kernel_rfl) (fun _ h => by cases h) gateGrows_row_tie rfl ⟨rfl, rfl⟩ (by kernel_rfl) rfl (plain _ (by kernel_rfl)) (by kernel_rfl)
#print axioms proved
end Go.Proofs.YtnppicekfjdefaaDoor.lawGateGrows
