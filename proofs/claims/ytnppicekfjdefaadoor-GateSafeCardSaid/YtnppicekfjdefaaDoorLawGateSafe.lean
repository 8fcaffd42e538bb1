/- PROVED: GateSafe returns true for every input and leaves its arguments as they were. No condition beyond the statement's own (the listed variables read as the program's text lays them, which the card ties). -/
import Derived.Test.YtnppicekfjdefaaDoorFrame
import Derived.Test.YtnppicekfjdefaaDoorClosed
import Derived.Test.YtnppicekfjdefaaDoorGLawD
import Derived.Test.YtnppicekfjdefaaDoorOpenQ
import Derived.Deep.LoopGhost
namespace Go.Proofs.YtnppicekfjdefaaDoor.lawGateSafe
open Go.ChangeShapes Go.WideShapes Go.ChangeAt Go.RowKit Pl Ad A1
open Go.ChangeMaps (open_string shut_string)
attribute [local go_sem] ba_get conv_one conv_one_drewN ba_append ba_extract
set_option maxRecDepth 100000
set_option maxHeartbeats 4000000
set_option linter.unusedVariables false

theorem walk_long (va : Option Addr) (vc : Nat) (l : List Pg) (pa : Option Addr) (pc : Nat) (parts : List Part) (xt : Int) (xa : Bs) (tags : List Bs) (ua : Option Addr) (uc : Nat) (asOf m : Int) (w : World) (hr : Ready w) (hv : RowsV pcells 3 w (.slice va l.length vc) l) (hl : l.length ≤ 9223372036854775807) (hp : RowsV partC 2 w (.slice pa parts.length pc) parts) (hpl : parts.length ≤ 9223372036854775807) (hpp : ∀ a ∈ parts, a.src < 256 ∧ a.many < 256) (hux : StrsV w (.slice ua tags.length uc) tags) (htl : tags.length ≤ 9223372036854775807) (h0 : 0 ≤ m) (h255 : m < 256) (hf : shortB l = false) :
    Calls Tryd.prog 3 #[(.slice va l.length vc), (.slice pa parts.length pc), .agg #[.int .i64 xt, .string ⟨xa.toArray⟩, (.slice ua tags.length uc), .int .i64 asOf, .int .u8 m]] w fun e w' => e = .returned (.bool true) ∧ Below w.heap.size w w' := by
  have hb0 := (Below.refl w.heap.size w).alloc (Nat.le_refl _) (.cells #[.int .i64 xt, .string ⟨xa.toArray⟩, (.slice ua tags.length uc), .int .i64 asOf, .int .u8 m] 28)
  have HB0 := Lib.hid hb0
  have HQ0 : Hid (QBox (w.alloc (.cells #[.int .i64 xt, .string ⟨xa.toArray⟩, (.slice ua tags.length uc), .int .i64 asOf, .int .u8 m] 28)) w.heap.size xt xa (.slice ua tags.length uc) asOf m) := Lib.hid (heap_alloc_new w _)
  have HV := Lib.hid hv
  have HU := Lib.hid hux
  have HRA : Hid (∀ w', Below w.heap.size w w' → Ready w') := Lib.hid fun w' hb => hr.below hb
  have HP := Lib.hid hp
  have HPP := Lib.hid hpp
  clear hb0 hv hux hp hpp
  have HF := Lib.hid hf
  clear hf
  go_enter Tryd.func3, Tryd.ntmps3
  go_wp2_with fail
  refine (awake38_any _ (HRA.out _ HB0.out)).mono ?_
  rintro e w1 ⟨rfl, hb1⟩
  have HB1 := Lib.hid (HB0.out.trans (hb1.mono HB0.out.size))
  have HQ1 := Lib.hid (HQ0.out.older hb1)
  obtain ⟨⟨d0, d1, d2, d3, d4⟩, hzq⟩ := HQ1.out.facts
  clear hb1
  go_wp2_with (first | (go_at_call 7; refine (short38_any (.slice va l.length vc) l _ (HV.out.below HB1.out) hl).mono ?_; rw [HF.out]; rintro e w2 ⟨rfl, rfl⟩) | (go_at_call 6; refine (awake38_any _ (HRA.out _ HB1.out)).mono ?_; rintro e w4 ⟨rfl, hb4⟩))
  go_ret
  exact ⟨rfl, HB1.out.trans (hb4.mono HB1.out.size)⟩
theorem walk_many (va : Option Addr) (vc : Nat) (l : List Pg) (pa : Option Addr) (pc : Nat) (parts : List Part) (xt : Int) (xa : Bs) (tags : List Bs) (ua : Option Addr) (uc : Nat) (asOf m : Int) (w : World) (hr : Ready w) (hv : RowsV pcells 3 w (.slice va l.length vc) l) (hl : l.length ≤ 9223372036854775807) (hp : RowsV partC 2 w (.slice pa parts.length pc) parts) (hpl : parts.length ≤ 9223372036854775807) (hpp : ∀ a ∈ parts, a.src < 256 ∧ a.many < 256) (hux : StrsV w (.slice ua tags.length uc) tags) (htl : tags.length ≤ 9223372036854775807) (h0 : 0 ≤ m) (h255 : m < 256) (hf : shortB l = true) (hm : 40 < parts.length) :
    Calls Tryd.prog 3 #[(.slice va l.length vc), (.slice pa parts.length pc), .agg #[.int .i64 xt, .string ⟨xa.toArray⟩, (.slice ua tags.length uc), .int .i64 asOf, .int .u8 m]] w fun e w' => e = .returned (.bool true) ∧ Below w.heap.size w w' := by
  have hb0 := (Below.refl w.heap.size w).alloc (Nat.le_refl _) (.cells #[.int .i64 xt, .string ⟨xa.toArray⟩, (.slice ua tags.length uc), .int .i64 asOf, .int .u8 m] 28)
  have HB0 := Lib.hid hb0
  have HQ0 : Hid (QBox (w.alloc (.cells #[.int .i64 xt, .string ⟨xa.toArray⟩, (.slice ua tags.length uc), .int .i64 asOf, .int .u8 m] 28)) w.heap.size xt xa (.slice ua tags.length uc) asOf m) := Lib.hid (heap_alloc_new w _)
  have HV := Lib.hid hv
  have HU := Lib.hid hux
  have HRA : Hid (∀ w', Below w.heap.size w w' → Ready w') := Lib.hid fun w' hb => hr.below hb
  have HP := Lib.hid hp
  have HPP := Lib.hid hpp
  clear hb0 hv hux hp hpp
  have HF := Lib.hid hf
  clear hf
  go_enter Tryd.func3, Tryd.ntmps3
  go_wp2_with fail
  refine (awake38_any _ (HRA.out _ HB0.out)).mono ?_
  rintro e w1 ⟨rfl, hb1⟩
  have HB1 := Lib.hid (HB0.out.trans (hb1.mono HB0.out.size))
  have HQ1 := Lib.hid (HQ0.out.older hb1)
  obtain ⟨⟨d0, d1, d2, d3, d4⟩, hzq⟩ := HQ1.out.facts
  clear hb1
  go_wp2_with (first | (go_at_call 7; refine (short38_any (.slice va l.length vc) l _ (HV.out.below HB1.out) hl).mono ?_; rw [HF.out]; rintro e w2 ⟨rfl, rfl⟩) | (go_at_call 6; refine (awake38_any _ (HRA.out _ HB1.out)).mono ?_; rintro e w4 ⟨rfl, hb4⟩))
  go_ret
  exact ⟨rfl, HB1.out.trans (hb4.mono HB1.out.size)⟩
theorem walk_huge (va : Option Addr) (vc : Nat) (l : List Pg) (pa : Option Addr) (pc : Nat) (parts : List Part) (xt : Int) (xa : Bs) (tags : List Bs) (ua : Option Addr) (uc : Nat) (asOf m : Int) (w : World) (hr : Ready w) (hv : RowsV pcells 3 w (.slice va l.length vc) l) (hl : l.length ≤ 9223372036854775807) (hp : RowsV partC 2 w (.slice pa parts.length pc) parts) (hpl : parts.length ≤ 9223372036854775807) (hpp : ∀ a ∈ parts, a.src < 256 ∧ a.many < 256) (hux : StrsV w (.slice ua tags.length uc) tags) (htl : tags.length ≤ 9223372036854775807) (h0 : 0 ≤ m) (h255 : m < 256) (hf : shortB l = true) (hm : parts.length ≤ 40) (ht : tinyB ⟨xt, xa, tags⟩ = false) :
    Calls Tryd.prog 3 #[(.slice va l.length vc), (.slice pa parts.length pc), .agg #[.int .i64 xt, .string ⟨xa.toArray⟩, (.slice ua tags.length uc), .int .i64 asOf, .int .u8 m]] w fun e w' => e = .returned (.bool true) ∧ Below w.heap.size w w' := by
  have hb0 := (Below.refl w.heap.size w).alloc (Nat.le_refl _) (.cells #[.int .i64 xt, .string ⟨xa.toArray⟩, (.slice ua tags.length uc), .int .i64 asOf, .int .u8 m] 28)
  have HB0 := Lib.hid hb0
  have HQ0 : Hid (QBox (w.alloc (.cells #[.int .i64 xt, .string ⟨xa.toArray⟩, (.slice ua tags.length uc), .int .i64 asOf, .int .u8 m] 28)) w.heap.size xt xa (.slice ua tags.length uc) asOf m) := Lib.hid (heap_alloc_new w _)
  have HV := Lib.hid hv
  have HU := Lib.hid hux
  have HRA : Hid (∀ w', Below w.heap.size w w' → Ready w') := Lib.hid fun w' hb => hr.below hb
  have HP := Lib.hid hp
  have HPP := Lib.hid hpp
  clear hb0 hv hux hp hpp
  have HF := Lib.hid hf
  have HT := Lib.hid ht
  clear hf ht
  have hm2 : ¬ (40 : Int) < (parts.length : Int) := by omega
  go_enter Tryd.func3, Tryd.ntmps3
  go_wp2_with fail
  refine (awake38_any _ (HRA.out _ HB0.out)).mono ?_
  rintro e w1 ⟨rfl, hb1⟩
  have HB1 := Lib.hid (HB0.out.trans (hb1.mono HB0.out.size))
  have HQ1 := Lib.hid (HQ0.out.older hb1)
  obtain ⟨⟨d0, d1, d2, d3, d4⟩, hzq⟩ := HQ1.out.facts
  clear hb1
  go_wp2_with (first | (go_at_call 7; refine (short38_any (.slice va l.length vc) l _ (HV.out.below HB1.out) hl).mono ?_; rw [HF.out]; rintro e w2 ⟨rfl, rfl⟩) | (go_at_call 8; refine (tiny38_any xt xa tags ua uc _ htl).mono ?_; rw [HT.out]; rintro e w3 ⟨rfl, hb3⟩; have HB3 := Lib.hid (HB1.out.trans (hb3.mono HB1.out.size)); have HQ3 := Lib.hid (HQ1.out.older hb3); clear hb3 d0 d1 d2 d3 d4; obtain ⟨⟨d0, d1, d2, d3, d4⟩, hz3⟩ := HQ3.out.facts) | (go_at_call 6; refine (awake38_any _ (HRA.out _ HB3.out)).mono ?_; rintro e w4 ⟨rfl, hb4⟩))
  go_ret
  exact ⟨rfl, HB3.out.trans (hb4.mono HB3.out.size)⟩
theorem walk_ok (va : Option Addr) (vc : Nat) (l : List Pg) (pa : Option Addr) (pc : Nat) (parts : List Part) (xt : Int) (xa : Bs) (tags : List Bs) (ua : Option Addr) (uc : Nat) (asOf m : Int) (w : World) (hr : Ready w) (hv : RowsV pcells 3 w (.slice va l.length vc) l) (hl : l.length ≤ 9223372036854775807) (hp : RowsV partC 2 w (.slice pa parts.length pc) parts) (hpl : parts.length ≤ 9223372036854775807) (hpp : ∀ a ∈ parts, a.src < 256 ∧ a.many < 256) (hux : StrsV w (.slice ua tags.length uc) tags) (htl : tags.length ≤ 9223372036854775807) (h0 : 0 ≤ m) (h255 : m < 256) (hf : shortB l = true) (hm : parts.length ≤ 40) (ht : tinyB ⟨xt, xa, tags⟩ = true) :
    Calls Tryd.prog 3 #[(.slice va l.length vc), (.slice pa parts.length pc), .agg #[.int .i64 xt, .string ⟨xa.toArray⟩, (.slice ua tags.length uc), .int .i64 asOf, .int .u8 m]] w fun e w' => e = .returned (.bool true) ∧ Below w.heap.size w w' := by
  have hb0 := (Below.refl w.heap.size w).alloc (Nat.le_refl _) (.cells #[.int .i64 xt, .string ⟨xa.toArray⟩, (.slice ua tags.length uc), .int .i64 asOf, .int .u8 m] 28)
  have HB0 := Lib.hid hb0
  have HQ0 : Hid (QBox (w.alloc (.cells #[.int .i64 xt, .string ⟨xa.toArray⟩, (.slice ua tags.length uc), .int .i64 asOf, .int .u8 m] 28)) w.heap.size xt xa (.slice ua tags.length uc) asOf m) := Lib.hid (heap_alloc_new w _)
  have HV := Lib.hid hv
  have HU := Lib.hid hux
  have HRA : Hid (∀ w', Below w.heap.size w w' → Ready w') := Lib.hid fun w' hb => hr.below hb
  have HP := Lib.hid hp
  have HPP := Lib.hid hpp
  clear hb0 hv hux hp hpp
  have hls := (shortB_true hf).2
  have HSZ := Lib.hid (logL_sub (l := l) (P := fun p => p.value.length ≤ 134217728) fun p hp => Nat.le_trans ((shortB_true hf).1 p hp) (by decide))
  have HSL := Lib.hid (fun (p : Pg) (hp : p ∈ l) => Nat.le_trans ((shortB_true hf).1 p hp) (show 1200 ≤ 134217728 by decide))
  have hll := logL_len l
  have HF := Lib.hid hf
  have HT := Lib.hid ht
  have htt : tags.length ≤ 40 ∧ xa.length ≤ 1200 := by unfold tinyB at ht; simpa using ht
  have hxl : xa.length ≤ 134217728 := by omega
  have htl4 : tags.length ≤ 40 := htt.1
  have hm2 : ¬ (40 : Int) < (parts.length : Int) := by omega
  have HRY := Lib.hid hr
  obtain ⟨k, hk⟩ : ∃ k : Nat, 1 + m % 24 = (k : Int) := ⟨(1 + m % 24).toNat, by omega⟩
  have hk1 : 1 ≤ k := by omega
  have hk2 : k ≤ 24 := by omega
  have HK := Lib.hid hk
  clear hk
  clear hf ht htt
  go_enter Tryd.func3, Tryd.ntmps3
  go_wp2_with fail
  refine (awake38_any _ (HRA.out _ HB0.out)).mono ?_
  rintro e w1 ⟨rfl, hb1⟩
  have HB1 := Lib.hid (HB0.out.trans (hb1.mono HB0.out.size))
  have HQ1 := Lib.hid (HQ0.out.older hb1)
  obtain ⟨⟨d0, d1, d2, d3, d4⟩, hzq⟩ := HQ1.out.facts
  clear hb1
  go_wp2_with (first | (go_at_call 7; refine (short38_any (.slice va l.length vc) l _ (HV.out.below HB1.out) hl).mono ?_; rw [HF.out]; rintro e w2 ⟨rfl, rfl⟩) | (go_at_call 8; refine (tiny38_any xt xa tags ua uc _ htl).mono ?_; rw [HT.out]; rintro e w3 ⟨rfl, hb3⟩; have HB3 := Lib.hid (HB1.out.trans (hb3.mono HB1.out.size)); have HQ3 := Lib.hid (HQ1.out.older hb3); clear hb3 d0 d1 d2 d3 d4; obtain ⟨⟨d0, d1, d2, d3, d4⟩, hz3⟩ := HQ3.out.facts) | (go_at_call 9; refine (log38_any _ l _ (HV.out.below HB3.out) (HRA.out _ HB3.out) HSL.out (by omega)).mono ?_; rintro e w4 ⟨lv, rfl, hown, hb4⟩; obtain ⟨la, lc, rfl, hlc⟩ := hown.form; have HL4 := Lib.hid (rows_own hown); have HOL := Lib.hid (fun q hq => (hown.lt q hq).2); have HB4 := Lib.hid (HB3.out.trans (hb4.mono HB3.out.size)); have HQ4 := Lib.hid (HQ3.out.older hb4); clear hown hb4 d0 d1 d2 d3 d4; obtain ⟨⟨d0, d1, d2, d3, d4⟩, hz4⟩ := HQ4.out.facts) | (go_at_call 11; refine (window38_any m _ h0 h255).mono ?_; rw [HK.out]; rintro e w' ⟨rfl, rfl⟩))
  obtain ⟨all, hall⟩ : ∃ all, logL l = all := ⟨_, rfl⟩
  rw [hall] at HL4 hll HSZ hlc HOL ⊢
  have HAL := Lib.hid hall
  clear hall
  refine (gateNew_ok k _ (by omega) (by omega)).mono ?_
  rintro e w6 ⟨rfl, rfl⟩
  have HR := Lib.hid (gRun_new w4 k hk1 (by omega))
  have HU5 := Lib.hid (HU.out.below (HB4.out.trans (HR.out.bel.mono HB4.out.size)))
  have HRY4 := Lib.hid (HRA.out _ HB4.out)
  have HP4 := Lib.hid (HP.out.below HB4.out)
  clear d0 d1 d2 d3 d4 hz4
  obtain ⟨⟨d0, d1, d2, d3, d4⟩, hz4⟩ := (HQ4.out.older HR.out.bel).facts
  go_wp2_with (go_at_call 12; refine (item36_own xt xa _ tags _ HU5.out (by omega)).mono ?_; rintro e w5 ⟨nv, rfl, hnv, hb5⟩; obtain ⟨na, nc, rfl, _⟩ := hnv.form; have HE5 := Lib.hid (gRest_new (xt := xt) (xa := xa) HR.out hb5 hnv); clear hb5 hnv)
  go_loopg [11] parts.length (fun q iv wr => ∃ (j : Nat) (v : Value) (g : GateM), j ≤ parts.length ∧ iv = .int .i64 j ∧ Hid (parts.length ≤ q + j) ∧ GateM.OfL all g g.aside ∧ GRest w4 wr (w4.heap.size + 1) w4.heap.size v (.slice na tags.length nc) g w5.heap.size xt xa tags)
  case atStart => exact ⟨0, _, GateM.start k, Nat.zero_le _, rfl, Lib.hid (by omega), GateM.start_of all k, HE5.out⟩
  case round =>
    obtain ⟨j, v, g, hj, rfl, HQ11, hof, s⟩ := hrel
    obtain ⟨n11, hn11⟩ : ∃ n11, gk = n11 := ⟨_, rfl⟩
    have HN11 := Lib.hid hn11
    clear hn11
    have HS1 := Lib.hid s
    have HOF := Lib.hid hof
    clear s hof
    by_cases hlt : j < parts.length
    · by_cases hz : 0 < all.length
      · obtain ⟨b0, o, c, e, hc, hbz, hcell⟩ := HP4.out.at hlt
        cases e
        have HPj := Lib.hid (HPP.out parts[j] (List.getElem_mem hlt))
        generalize parts[j] = y at hcell HPj
        have q0 := (HS1.out.run.bel.cell (p := ⟨b0, _, none⟩) hbz).trans (hcell 0 _ rfl)
        have q1 := (HS1.out.run.bel.cell (p := ⟨b0, _, none⟩) hbz).trans (hcell 1 _ rfl)
        rw [Nat.add_zero] at q0
        rw [← Nat.add_assoc] at q1
        clear hcell
        obtain ⟨ys, ym⟩ := y
        have hyy := HPj.out
        simp only at hyy
        obtain ⟨hys, hym⟩ := hyy
        have hzi : (0 : Int) < (all.length : Int) := by omega
        by_cases h15 : ym % 16 = 15
        · have h15b : ((ym : Int) % 16 == 15) = true := by rw [beq_iff_eq]; omega
          have hm := Nat.mod_lt ys (show 0 < all.length + 1 by omega)
          obtain ⟨n, hn⟩ : ∃ n, ys % (all.length + 1) = n := ⟨_, rfl⟩
          rw [hn] at hm
          have HN : Hid ((ys : Int) % ((all.length : Int) + 1) = (n : Int)) := Lib.hid (by rw [← hn]; rfl)
          clear hn h15
          go_wp2_with fail
          rw [HN.out]
          refine (gateJump w4.heap.size (w4.heap.size + 1) w4.heap.size v g n _ HS1.out.run.gate HS1.out.run.ok HS1.out.run.bel.size).mono ?_
          rintro e w6 ⟨v2, rfl, hg2, hs2⟩
          have HOF2 := Lib.hid (GateM.jump_of HOF.out (n := (n : Int)) (by omega) (by omega))
          have HS2 := Lib.hid (HS1.out.goes (HS1.out.run.goes hg2 hs2 (GateM.ok_jump HS1.out.run.ok n)) hs2)
          obtain ⟨g2, hgg⟩ : ∃ g2, g.jump n = g2 := ⟨_, rfl⟩
          rw [hgg] at HOF2 HS2 hg2 ⊢
          clear hg2 hs2 hgg
          have hle2 := HOF2.out.le
          have hlo2 := HS2.out.run.ok.lo
          have hln2 := HS2.out.run.ok.len
          obtain ⟨ap, hap⟩ : ∃ ap : Nat, g2.applied = (ap : Int) := ⟨g2.applied.toNat, by omega⟩
          have hapl : ap ≤ all.length := by omega
          have HAP := Lib.hid hap
          clear hap hle2 hlo2 hln2
          have hgt : ¬ (all.length : Int) < (ap : Int) := by omega
          have hgtn : ¬ all.length < ap := by omega
          have hgtd : decide (all.length < ap) = false := decide_eq_false hgtn
          go_wp2_with (go_at_call 15; refine (gateApplied w4.heap.size _ _ _ _ _ _ HS2.out.run.gate).mono ?_; rw [HAP.out]; rintro e w' ⟨rfl, rfl⟩)
          go_loopg [12, 13] (ap + 1) (fun q av kv0 wr => ∃ a : Nat, av = .int .i64 a ∧ a ≤ ap + 1 ∧ Hid (ap + 1 ≤ q + a) ∧ GRest w4 wr (w4.heap.size + 1) w4.heap.size v2 (.slice na tags.length nc) g2 w5.heap.size xt xa tags)
          case atStart => exact ⟨0, rfl, by omega, Lib.hid (by omega), HS2.out⟩
          case round =>
            obtain ⟨a, rfl, ha, HQ12, s⟩ := hrel
            obtain ⟨n12, hn12⟩ : ∃ n12, gk = n12 := ⟨_, rfl⟩
            have HN12 := Lib.hid hn12
            clear hn12
            have HS3 := Lib.hid s
            clear s
            by_cases hla : a ≤ ap
            · obtain ⟨⟨x0, x1, x2⟩, _, hx3⟩ := HS3.out.box.facts
              by_cases hc : g2.acceptC ⟨xt, xa, tags⟩ (a : Int) = 0
              · have HC := Lib.hid (codeV_ok hc)
                have HSAFE := Lib.hid (fun (kk : Nat) (p : Pg) h1 h2 h3 => GateM.accept_safe HOF2.out HS2.out.run.ok hc (k := kk) (p := p) h1 h2 h3)
                clear hc
                go_wp2_with (first | (go_at_call 15; refine (gateApplied w4.heap.size _ _ _ _ _ _ HS3.out.run.gate).mono ?_; rw [HAP.out]; rintro e w' ⟨rfl, rfl⟩) | (go_at_call 16; refine (gateAccept w4.heap.size (w4.heap.size + 1) w4.heap.size v2 g2 xt xa tags (.slice na tags.length nc) _ _ HS3.out.run.gate HS3.out.run.ok (HRY4.out.below HS3.out.run.bel) hxl (strsV_own HS3.out.str) (by omega)).mono ?_; rw [HC.out]; rintro e w7 ⟨rfl, hb7⟩; have HS4 := Lib.hid (HS3.out.older hb7); clear hb7))
                go_loopg [13] ap (fun q kv wr => ∃ kk : Nat, kv = .int .i64 kk ∧ a ≤ kk ∧ kk ≤ ap ∧ Hid (ap ≤ q + kk) ∧ GRest w4 wr (w4.heap.size + 1) w4.heap.size v2 (.slice na tags.length nc) g2 w5.heap.size xt xa tags)
                case atStart => exact ⟨a, rfl, Nat.le_refl _, hla, Lib.hid (by omega), HS4.out⟩
                case round =>
                  obtain ⟨kk, rfl, hk3, hk4, HQ13, s⟩ := hrel
                  have HS5 := Lib.hid s
                  clear s x0 x1 x2 hx3
                  by_cases hlk : kk < ap
                  · have hkl : kk < all.length := by omega
                    obtain ⟨b1, o1, c1, e1, hc1, hbz1, hcell1⟩ := HL4.out.at hkl
                    cases e1
                    have hms := HSAFE.out kk all[kk] (by omega) (by rw [HAP.out]; omega) (List.getElem?_eq_getElem hkl)
                    have hyv := HSZ.out all[kk] (List.getElem_mem hkl)
                    generalize all[kk] = y at hcell1 hms hyv
                    obtain ⟨yk, yt, yv⟩ := y
                    have HC0 := Lib.hid (show w4.cell? ⟨b1, o1 + kk * 3, none⟩ = some (.int .i64 yk) from hcell1 0 _ rfl)
                    have HC1 := Lib.hid (show w4.cell? ⟨b1, o1 + kk * 3 + 1, none⟩ = some (.int .i64 yt) from hcell1 1 _ rfl)
                    have HC2 := Lib.hid (show w4.cell? ⟨b1, o1 + kk * 3 + 2, none⟩ = some (.string ⟨yv.toArray⟩) from hcell1 2 _ rfl)
                    have p0 := (HS5.out.run.bel.cell (p := ⟨b1, _, none⟩) hbz1).trans HC0.out
                    have p1 := (HS5.out.run.bel.cell (p := ⟨b1, _, none⟩) hbz1).trans HC1.out
                    have p2 := (HS5.out.run.bel.cell (p := ⟨b1, _, none⟩) hbz1).trans HC2.out
                    clear hcell1
                    have HM := Lib.hid hms
                    clear hms
                    simp only at hyv
                    obtain ⟨⟨x0, x1, x2⟩, _, hx3⟩ := HS5.out.box.facts
                    go_wp2_with (go_at_call 15; refine (gateApplied w4.heap.size _ _ _ _ _ _ HS5.out.run.gate).mono ?_; rw [HAP.out]; rintro e w' ⟨rfl, rfl⟩)
                    go_region_held3 (fun w' => w'.cell? ⟨b1, o1 + kk * 3, none⟩ = some (.int .i64 yk) ∧ w'.cell? ⟨b1, o1 + kk * 3 + 1, none⟩ = some (.int .i64 yt) ∧ w'.cell? ⟨b1, o1 + kk * 3 + 2, none⟩ = some (.string ⟨yv.toArray⟩) ∧ w'.cell? ⟨w5.heap.size, 0, none⟩ = some (.int .i64 xt) ∧ w'.cell? ⟨w5.heap.size, 1, none⟩ = some (.string ⟨xa.toArray⟩) ∧ w'.cell? ⟨w5.heap.size, 2, none⟩ = some (.slice na tags.length nc)) (first | go_keep | exact ⟨p0, p1, p2, x0, x1, x2⟩)
                      ((go_at_call 17; refine (match_any ⟨yk, yt, yv⟩ ⟨xt, xa, tags⟩ (.slice na tags.length nc) _ (HRY4.out.below HS5.out.run.bel.drew) hyv hxl (strsV_own HS5.out.str.drew) (by omega)).mono ?_; rw [HM.out]; rintro e w8 ⟨rfl, hb8⟩; have HS6 := Lib.hid ((HS5.out.older (Below.refl _ _).drew).older hb8); clear hb8; have p0 := (HS6.out.run.bel.cell (p := ⟨b1, _, none⟩) hbz1).trans HC0.out; have p1 := (HS6.out.run.bel.cell (p := ⟨b1, _, none⟩) hbz1).trans HC1.out; have p2 := (HS6.out.run.bel.cell (p := ⟨b1, _, none⟩) hbz1).trans HC2.out; obtain ⟨⟨x0, x1, x2⟩, _, hx8⟩ := HS6.out.box.facts))
                    all_goals
                      go_wp2_with fail
                      go_roundg (gk - 1)
                      case rel => exact ⟨kk + 1, by go_num, by omega, by omega, Lib.hid (by have := HQ13.out; omega), HS6.out⟩
                      case measure => have := HQ13.out; omega
                  · go_wp2_with (go_at_call 15; refine (gateApplied w4.heap.size _ _ _ _ _ _ HS5.out.run.gate).mono ?_; rw [HAP.out]; rintro e w' ⟨rfl, rfl⟩)
                    go_roundg (n12 - 1)
                    case rel => exact ⟨a + 1, by go_num, by omega, Lib.hid (by have := HQ12.out; have := HN12.out; omega), HS5.out⟩
                    case measure => have := HQ12.out; have := HN12.out; omega
              · obtain ⟨c, hcc⟩ : ∃ c, g2.acceptC ⟨xt, xa, tags⟩ (a : Int) = c := ⟨_, rfl⟩
                rw [hcc] at hc
                have HC := Lib.hid (codeV_err hcc hc)
                clear hcc hc
                go_wp2_with (first | (go_at_call 15; refine (gateApplied w4.heap.size _ _ _ _ _ _ HS3.out.run.gate).mono ?_; rw [HAP.out]; rintro e w' ⟨rfl, rfl⟩) | (go_at_call 16; refine (gateAccept w4.heap.size (w4.heap.size + 1) w4.heap.size v2 g2 xt xa tags (.slice na tags.length nc) _ _ HS3.out.run.gate HS3.out.run.ok (HRY4.out.below HS3.out.run.bel) hxl (strsV_own HS3.out.str) (by omega)).mono ?_; rw [HC.out]; rintro e w7 ⟨rfl, hb7⟩; have HS4 := Lib.hid (HS3.out.older hb7); clear hb7))
                go_roundg (n12 - 1)
                case rel => exact ⟨a + 1, by go_num, by omega, Lib.hid (by have := HQ12.out; have := HN12.out; omega), HS4.out⟩
                case measure => have := HQ12.out; have := HN12.out; omega
            · go_wp2_with (go_at_call 15; refine (gateApplied w4.heap.size _ _ _ _ _ _ HS3.out.run.gate).mono ?_; rw [HAP.out]; rintro e w' ⟨rfl, rfl⟩)
              go_roundg (n11 - 1)
              case rel => exact ⟨j + 1, v2, g2, by omega, by go_num, Lib.hid (by have := HQ11.out; have := HN11.out; omega), HOF2.out, HS3.out⟩
              case measure => have := HQ11.out; have := HN11.out; omega
        · have h15b : ((ym : Int) % 16 == 15) = false := by rw [beq_eq_false_iff_ne]; omega
          have HAPP := Lib.hid (apart_old (u := (.slice la all.length lc)) HS1.out.run (fun q hq => HOL.out q hq))
          clear h15
          go_wp2_with fail
          refine (pass38_any w4 _ (w4.heap.size + 1) w4.heap.size v (.slice la all.length lc) g all ⟨ys, ym⟩ HS1.out.run HRY4.out (HL4.out.below HS1.out.run.bel) HAPP.out HSZ.out hz (by omega) HPj.out).mono ?_
          rintro e w6 ⟨v2, rfl, hg2, hs2⟩
          have HOF2 := Lib.hid (pass_of HOF.out HS1.out.run.ok HSZ.out hz ⟨ys, ym⟩).1
          have HS2 := Lib.hid (HS1.out.goes hg2 hs2)
          obtain ⟨g2, hgg⟩ : ∃ g2, g.pass all ⟨ys, ym⟩ = g2 := ⟨_, rfl⟩
          rw [hgg] at HOF2 HS2 hg2
          clear hg2 hs2 hgg
          have hle2 := HOF2.out.le
          have hlo2 := HS2.out.run.ok.lo
          have hln2 := HS2.out.run.ok.len
          obtain ⟨ap, hap⟩ : ∃ ap : Nat, g2.applied = (ap : Int) := ⟨g2.applied.toNat, by omega⟩
          have hapl : ap ≤ all.length := by omega
          have HAP := Lib.hid hap
          clear hap hle2 hlo2 hln2
          have hgt : ¬ (all.length : Int) < (ap : Int) := by omega
          have hgtn : ¬ all.length < ap := by omega
          have hgtd : decide (all.length < ap) = false := decide_eq_false hgtn
          go_wp2_with (go_at_call 15; refine (gateApplied w4.heap.size _ _ _ _ _ _ HS2.out.run.gate).mono ?_; rw [HAP.out]; rintro e w' ⟨rfl, rfl⟩)
          go_loopg [12, 13] (ap + 1) (fun q av kv0 wr => ∃ a : Nat, av = .int .i64 a ∧ a ≤ ap + 1 ∧ Hid (ap + 1 ≤ q + a) ∧ GRest w4 wr (w4.heap.size + 1) w4.heap.size v2 (.slice na tags.length nc) g2 w5.heap.size xt xa tags)
          case atStart => exact ⟨0, rfl, by omega, Lib.hid (by omega), HS2.out⟩
          case round =>
            obtain ⟨a, rfl, ha, HQ12, s⟩ := hrel
            obtain ⟨n12, hn12⟩ : ∃ n12, gk = n12 := ⟨_, rfl⟩
            have HN12 := Lib.hid hn12
            clear hn12
            have HS3 := Lib.hid s
            clear s
            by_cases hla : a ≤ ap
            · obtain ⟨⟨x0, x1, x2⟩, _, hx3⟩ := HS3.out.box.facts
              by_cases hc : g2.acceptC ⟨xt, xa, tags⟩ (a : Int) = 0
              · have HC := Lib.hid (codeV_ok hc)
                have HSAFE := Lib.hid (fun (kk : Nat) (p : Pg) h1 h2 h3 => GateM.accept_safe HOF2.out HS2.out.run.ok hc (k := kk) (p := p) h1 h2 h3)
                clear hc
                go_wp2_with (first | (go_at_call 15; refine (gateApplied w4.heap.size _ _ _ _ _ _ HS3.out.run.gate).mono ?_; rw [HAP.out]; rintro e w' ⟨rfl, rfl⟩) | (go_at_call 16; refine (gateAccept w4.heap.size (w4.heap.size + 1) w4.heap.size v2 g2 xt xa tags (.slice na tags.length nc) _ _ HS3.out.run.gate HS3.out.run.ok (HRY4.out.below HS3.out.run.bel) hxl (strsV_own HS3.out.str) (by omega)).mono ?_; rw [HC.out]; rintro e w7 ⟨rfl, hb7⟩; have HS4 := Lib.hid (HS3.out.older hb7); clear hb7))
                go_loopg [13] ap (fun q kv wr => ∃ kk : Nat, kv = .int .i64 kk ∧ a ≤ kk ∧ kk ≤ ap ∧ Hid (ap ≤ q + kk) ∧ GRest w4 wr (w4.heap.size + 1) w4.heap.size v2 (.slice na tags.length nc) g2 w5.heap.size xt xa tags)
                case atStart => exact ⟨a, rfl, Nat.le_refl _, hla, Lib.hid (by omega), HS4.out⟩
                case round =>
                  obtain ⟨kk, rfl, hk3, hk4, HQ13, s⟩ := hrel
                  have HS5 := Lib.hid s
                  clear s x0 x1 x2 hx3
                  by_cases hlk : kk < ap
                  · have hkl : kk < all.length := by omega
                    obtain ⟨b1, o1, c1, e1, hc1, hbz1, hcell1⟩ := HL4.out.at hkl
                    cases e1
                    have hms := HSAFE.out kk all[kk] (by omega) (by rw [HAP.out]; omega) (List.getElem?_eq_getElem hkl)
                    have hyv := HSZ.out all[kk] (List.getElem_mem hkl)
                    generalize all[kk] = y at hcell1 hms hyv
                    obtain ⟨yk, yt, yv⟩ := y
                    have HC0 := Lib.hid (show w4.cell? ⟨b1, o1 + kk * 3, none⟩ = some (.int .i64 yk) from hcell1 0 _ rfl)
                    have HC1 := Lib.hid (show w4.cell? ⟨b1, o1 + kk * 3 + 1, none⟩ = some (.int .i64 yt) from hcell1 1 _ rfl)
                    have HC2 := Lib.hid (show w4.cell? ⟨b1, o1 + kk * 3 + 2, none⟩ = some (.string ⟨yv.toArray⟩) from hcell1 2 _ rfl)
                    have p0 := (HS5.out.run.bel.cell (p := ⟨b1, _, none⟩) hbz1).trans HC0.out
                    have p1 := (HS5.out.run.bel.cell (p := ⟨b1, _, none⟩) hbz1).trans HC1.out
                    have p2 := (HS5.out.run.bel.cell (p := ⟨b1, _, none⟩) hbz1).trans HC2.out
                    clear hcell1
                    have HM := Lib.hid hms
                    clear hms
                    simp only at hyv
                    obtain ⟨⟨x0, x1, x2⟩, _, hx3⟩ := HS5.out.box.facts
                    go_wp2_with (go_at_call 15; refine (gateApplied w4.heap.size _ _ _ _ _ _ HS5.out.run.gate).mono ?_; rw [HAP.out]; rintro e w' ⟨rfl, rfl⟩)
                    go_region_held3 (fun w' => w'.cell? ⟨b1, o1 + kk * 3, none⟩ = some (.int .i64 yk) ∧ w'.cell? ⟨b1, o1 + kk * 3 + 1, none⟩ = some (.int .i64 yt) ∧ w'.cell? ⟨b1, o1 + kk * 3 + 2, none⟩ = some (.string ⟨yv.toArray⟩) ∧ w'.cell? ⟨w5.heap.size, 0, none⟩ = some (.int .i64 xt) ∧ w'.cell? ⟨w5.heap.size, 1, none⟩ = some (.string ⟨xa.toArray⟩) ∧ w'.cell? ⟨w5.heap.size, 2, none⟩ = some (.slice na tags.length nc)) (first | go_keep | exact ⟨p0, p1, p2, x0, x1, x2⟩)
                      ((go_at_call 17; refine (match_any ⟨yk, yt, yv⟩ ⟨xt, xa, tags⟩ (.slice na tags.length nc) _ (HRY4.out.below HS5.out.run.bel.drew) hyv hxl (strsV_own HS5.out.str.drew) (by omega)).mono ?_; rw [HM.out]; rintro e w8 ⟨rfl, hb8⟩; have HS6 := Lib.hid ((HS5.out.older (Below.refl _ _).drew).older hb8); clear hb8; have p0 := (HS6.out.run.bel.cell (p := ⟨b1, _, none⟩) hbz1).trans HC0.out; have p1 := (HS6.out.run.bel.cell (p := ⟨b1, _, none⟩) hbz1).trans HC1.out; have p2 := (HS6.out.run.bel.cell (p := ⟨b1, _, none⟩) hbz1).trans HC2.out; obtain ⟨⟨x0, x1, x2⟩, _, hx8⟩ := HS6.out.box.facts))
                    all_goals
                      go_wp2_with fail
                      go_roundg (gk - 1)
                      case rel => exact ⟨kk + 1, by go_num, by omega, by omega, Lib.hid (by have := HQ13.out; omega), HS6.out⟩
                      case measure => have := HQ13.out; omega
                  · go_wp2_with (go_at_call 15; refine (gateApplied w4.heap.size _ _ _ _ _ _ HS5.out.run.gate).mono ?_; rw [HAP.out]; rintro e w' ⟨rfl, rfl⟩)
                    go_roundg (n12 - 1)
                    case rel => exact ⟨a + 1, by go_num, by omega, Lib.hid (by have := HQ12.out; have := HN12.out; omega), HS5.out⟩
                    case measure => have := HQ12.out; have := HN12.out; omega
              · obtain ⟨c, hcc⟩ : ∃ c, g2.acceptC ⟨xt, xa, tags⟩ (a : Int) = c := ⟨_, rfl⟩
                rw [hcc] at hc
                have HC := Lib.hid (codeV_err hcc hc)
                clear hcc hc
                go_wp2_with (first | (go_at_call 15; refine (gateApplied w4.heap.size _ _ _ _ _ _ HS3.out.run.gate).mono ?_; rw [HAP.out]; rintro e w' ⟨rfl, rfl⟩) | (go_at_call 16; refine (gateAccept w4.heap.size (w4.heap.size + 1) w4.heap.size v2 g2 xt xa tags (.slice na tags.length nc) _ _ HS3.out.run.gate HS3.out.run.ok (HRY4.out.below HS3.out.run.bel) hxl (strsV_own HS3.out.str) (by omega)).mono ?_; rw [HC.out]; rintro e w7 ⟨rfl, hb7⟩; have HS4 := Lib.hid (HS3.out.older hb7); clear hb7))
                go_roundg (n12 - 1)
                case rel => exact ⟨a + 1, by go_num, by omega, Lib.hid (by have := HQ12.out; have := HN12.out; omega), HS4.out⟩
                case measure => have := HQ12.out; have := HN12.out; omega
            · go_wp2_with (go_at_call 15; refine (gateApplied w4.heap.size _ _ _ _ _ _ HS3.out.run.gate).mono ?_; rw [HAP.out]; rintro e w' ⟨rfl, rfl⟩)
              go_roundg (n11 - 1)
              case rel => exact ⟨j + 1, v2, g2, by omega, by go_num, Lib.hid (by have := HQ11.out; have := HN11.out; omega), HOF2.out, HS3.out⟩
              case measure => have := HQ11.out; have := HN11.out; omega
      · have hzi : ¬ (0 : Int) < (all.length : Int) := by omega
        go_wp2
        go_ret
        exact ⟨rfl, HB4.out.trans (HS1.out.run.bel.mono HB4.out.size)⟩
    · go_wp2
      go_ret
      exact ⟨rfl, HB4.out.trans (HS1.out.run.bel.mono HB4.out.size)⟩
theorem walk (l : List Pg) (v0 : Value) (parts : List Part) (v1 : Value) (xt : Int) (xa : Bs) (tags : List Bs) (u : Value) (asOf m : Int) (w : World) (hr : Ready w) (hv : RowsV pcells 3 w v0 l) (hl : l.length ≤ 9223372036854775807) (hp : RowsV partC 2 w v1 parts) (hpl : parts.length ≤ 9223372036854775807) (hpp : ∀ a ∈ parts, a.src < 256 ∧ a.many < 256) (hux : StrsV w u tags) (htl : tags.length ≤ 9223372036854775807) (h0 : 0 ≤ m) (h255 : m < 256) :
    Calls Tryd.prog 3 #[v0, v1, .agg #[.int .i64 xt, .string ⟨xa.toArray⟩, u, .int .i64 asOf, .int .u8 m]] w fun e w' => e = .returned (.bool true) ∧ Below w.heap.size w w' := by
  obtain ⟨va, vc, rfl, _⟩ := hv.form
  obtain ⟨pa, pc, rfl, _⟩ := hp.form
  obtain ⟨ua, uc, rfl⟩ := hux.form
  cases hf : shortB l with
  | false => exact walk_long va vc l pa pc parts xt xa tags ua uc asOf m w hr hv hl hp hpl hpp hux htl h0 h255 hf
  | true =>
    by_cases hm : parts.length ≤ 40
    · cases ht : tinyB ⟨xt, xa, tags⟩ with
      | false => exact walk_huge va vc l pa pc parts xt xa tags ua uc asOf m w hr hv hl hp hpl hpp hux htl h0 h255 hf hm ht
      | true => exact walk_ok va vc l pa pc parts xt xa tags ua uc asOf m w hr hv hl hp hpl hpp hux htl h0 h255 hf hm ht
    · exact walk_many va vc l pa pc parts xt xa tags ua uc asOf m w hr hv hl hp hpl hpp hux htl h0 h255 hf (by omega)

/-- What the walk gives, for every argument. -/
theorem contract (H : Type) (enc : TypeId × Value → H) (W : World) (base : Nat) (args : Array Value) (ds gs : List (DataW H)) (before : List MemPlace)
    (hval : ∀ (j : Nat) t v, Tryd.f3.params[j]? = some t → args[j]? = some v → Value.okWide Tryd.prog W .any base t v)
    (hW : DataW.Whole enc Tryd.prog Tryd.f3.params.toList Rows.gateSafeSpec.vars false W args.toList ds gs before) (hsz : (DataW.weightsEach Tryd.prog Tryd.f3.params.toList (ds ++ gs)).all (· ≤ reachBytes) = true) (hr : Ready W) :
    Calls Tryd.prog 3 args W fun e W' => ∃ v, e = .returned v ∧ Rows.gateSafeSpec.post enc Tryd.prog Tryd.f3 false true false false W args v W' := by
  have hW' := hW
  have hlt := fun p hp => hW.lt p hp
  obtain ⟨p, q, hA0, hV, rfl, hfz, hnd⟩ := hW
  have hA : DataW.TrodAll enc Tryd.prog W 0 (fun _ => true) true Tryd.f3.params.toList args.toList ds p := hA0
  have hA1 := hA
  obtain ⟨rfl, rfl⟩ := trodVars_none hV
  rw [Tryd.params3] at hA hval
  obtain ⟨v0, vs0, d0, ds0, p0, q0, hargs, rfl, rfl, h0, r0⟩ := trodAll_cons hA
  obtain ⟨v1, vs1, d1, ds1, p1, q1, rfl, rfl, rfl, h1, r1⟩ := trodAll_cons r0
  obtain ⟨v2, vs2, d2, ds2, p2, q2, rfl, rfl, rfl, h2, r2⟩ := trodAll_cons r1
  obtain ⟨rfl, rfl, rfl⟩ := trodAll_nil r2
  obtain rfl : args = #[v0, v1, v2] := by cases args; simp_all
  have fin : ∀ W', Below W.heap.size W W' → Rows.gateSafeSpec.post enc Tryd.prog Tryd.f3 false true false false W #[v0, v1, v2] (.bool true) W' := fun W' hb => by
    simp only [List.append_nil] at hA1 hW' hlt
    exact ⟨_, _, _, [], _, [], hW', trodAll_cons_mk (shut_bool Tryd.underlying4 _) trodAll_mk0, Fr.trodAll_below (by kernel_rfl) _ (by kernel_rfl) hA1 hb hlt, rfl, hb.frame _, fun h => by cases h⟩
  clear hW' hA0 hA1 hlt
  rw [Tryd.params3, List.append_nil] at hsz
  obtain ⟨ua0, ul0, uc0, rfl⟩ := okWide_slice Tryd.underlying22 (hval 0 22 v0 rfl rfl)
  obtain ⟨fu0, hf0⟩ := h0
  obtain ⟨xs0, hx0, hl0⟩ := Op.pgs_trod hf0
  obtain ⟨ua1, ul1, uc1, rfl⟩ := okWide_slice Tryd.underlying23 (hval 1 23 v1 rfl rfl)
  obtain ⟨fu1, hf1⟩ := h1
  obtain ⟨xs1, hx1, hl1, hp1⟩ := Op.parts_trod hf1
  obtain ⟨xt, xa, tags, ux, asOf, mq, rfl, hux, htl, hq0, hq1⟩ := Op.open_q38 (hval 2 28 v2 rfl rfl) h2
  refine (walk xs0 (.slice ua0 ul0 uc0) xs1 (.slice ua1 ul1 uc1) xt xa tags ux asOf mq W hr hx0 hl0 hx1 hl1 hp1 hux htl hq0 hq1).mono fun e W' ⟨he, hb⟩ => ?_
  subst he
  exact ⟨_, rfl, fin W' hb⟩

theorem laid_met (os : Os) : laidMet Tryd.prog Rows.gateSafeRow.laid ((Fr.laidWorld os).forCall (fun _ _ => 0) ⟨#[], #[.slice none 0 0, .slice none 0 0, .agg #[.int .i64 0, .string ⟨#[]⟩, .slice none 0 0, .int .i64 0, .int .u8 0]], []⟩).memory :=
  laidMet_of_run' 8 (by kernel_rfl) (by kernel_rfl)
theorem reads (os : Os) {H : Type} (enc : TypeId × Value → H) : ∃ places, DataW.whole enc Tryd.prog ((Fr.laidWorld os).forCall (fun _ _ => 0) ⟨#[], #[.slice none 0 0, .slice none 0 0, .agg #[.int .i64 0, .string ⟨#[]⟩, .slice none 0 0, .int .i64 0, .int .u8 0]], []⟩).memory Tryd.f3.params.toList Rows.gateSafeSpec.vars false (#[.slice none 0 0, .slice none 0 0, .agg #[.int .i64 0, .string ⟨#[]⟩, .slice none 0 0, .int .i64 0, .int .u8 0]] : Array Value).toList 8 = some ([.nil, .nil, .agg [.agg [.lit (.int .i64 0), .lit (.string []), .nil], .lit (.int .i64 0), .lit (.int .u8 0)]], [], places) :=
  ⟨[], by kernel_rfl⟩

theorem lifted (os : Os) (started : os.Started) (H : Type) (enc : TypeId × Value → H) (F : Stop.Interp) :
    ReturnsInHanded {} Tryd.checked os 3 .any ((OpenSpec.ofChange Rows.gateSafeSpec).preRow enc Tryd.prog Tryd.f3 Rows.gateSafeRow.domain false Rows.gateSafeRow.laid) (((OpenSpec.ofChange Rows.gateSafeSpec).at F).post enc Tryd.prog Tryd.f3 false true false false) := by
  obtain ⟨places, hx⟩ := reads os enc
  refine returnsInHanded_of_row (C := Tryd.checked) (s := OpenSpec.ofChange Rows.gateSafeSpec) Fr.own started (by kernel_rfl) Tryd.func3
    (witness_row_at (enc := enc) (C := Tryd.checked) false (Fr.laidWorld os) #[.slice none 0 0, .slice none 0 0, .agg #[.int .i64 0, .string ⟨#[]⟩, .slice none 0 0, .int .i64 0, .int .u8 0]] rfl (by kernel_rfl) (by kernel_rfl) (by kernel_rfl)
      (OpenSpec.preRow_of_cond 8 hx (by kernel_rfl) (fun k hk => by cases hk) (by kernel_rfl) (laid_met os))) ?_
  intro W base args ds gs before hval hW _ hcond hsz _ hsh _
  exact contract H enc W base args ds gs before hval hW (by have h9 : (DataW.weightsEach Tryd.prog (Tryd.f3.params.toList ++ []) (ds ++ gs)).all (· ≤ reachBytes) = true := hsz; rw [List.append_nil] at h9; exact h9) (Fr.ready hsh)

theorem k_0 : Rows.gateSafeRow.wf (OpenSpec.ofChange (OpenSpec.ofChange Rows.gateSafeSpec).bare) = true := by kernel_rfl
theorem k_1 : laidOutB Tryd.prog = true := Fr.sf_laidOut
theorem k_2 : mapsRowed Tryd.prog = true := Fr.sf_mapsRowed
theorem k_3 : Tryd.f3.params.all (Tryd.prog.readableRec ·) = true := by kernel_rfl
theorem k_4 : namedTie Tryd.prog Rows.gateSafeRow.named (OpenSpec.ofChange Rows.gateSafeSpec).bare.vars = true := by kernel_rfl
theorem k_5 : (Rows.gateSafeRow.stops == []) = true := by kernel_rfl
theorem k_6 : (Tryd.prog.stops == []) = true := Fr.sf_stops
theorem k_7 : (Rows.gateSafeRow.knobs == []) = true := by kernel_rfl
theorem k_8 : (Tryd.prog.stopKnobs == []) = true := Fr.sf_stopKnobs
theorem k_9 : (Rows.gateSafeRow.inPlace == Tryd.prog.inPlace 3) = true := by kernel_rfl
theorem k_10 : (Rows.gateSafeRow.unfollowed == Tryd.prog.unfollowed 3) = true := by kernel_rfl
theorem k_11 : (Rows.gateSafeRow.recurses == Tryd.prog.recurses 3) = true := by kernel_rfl
theorem k_12 : (Rows.gateSafeRow.named == Tryd.prog.varsNamed 3) = true := by kernel_rfl
theorem k_13 : (Rows.gateSafeRow.maps == (Tryd.f3.params.toList ++ (OpenSpec.ofChange Rows.gateSafeSpec).bare.plain.varTypes Tryd.prog).any (Tryd.prog.mapsRec ·)) = true := by kernel_rfl
theorem k_14 : (Rows.gateSafeRow.ifaces == (Tryd.f3.params.toList ++ (OpenSpec.ofChange Rows.gateSafeSpec).bare.plain.varTypes Tryd.prog).any (Tryd.prog.ifacesRec ·)) = true := by kernel_rfl
theorem k_15 : (Rows.gateSafeRow.mapsOut == Tryd.prog.mapsAmong Tryd.f3.resultTypes.toList) = true := by kernel_rfl
theorem k_16 : (Rows.gateSafeRow.loops == (Tryd.f3.params.toList ++ (OpenSpec.ofChange Rows.gateSafeSpec).bare.plain.varTypes Tryd.prog).any (Tryd.prog.loopsFrom ·)) = true := by kernel_rfl
theorem k_17 : (Rows.gateSafeRow.wideKeys == (Tryd.f3.params.toList ++ (OpenSpec.ofChange Rows.gateSafeSpec).bare.plain.varTypes Tryd.prog ++ Tryd.f3.resultTypes.toList).any (Tryd.prog.wideKeysFrom ·)) = true := by kernel_rfl
theorem k_18 : (OpenSpec.ofChange Rows.gateSafeSpec).bare.vars.all (Tryd.prog.varReadable ·) = true := by kernel_rfl
theorem k_19 : Tryd.f3.resultTypes.all (fun t => Tryd.prog.readableRec t && decide (t < Tryd.prog.types.size)) = true := by kernel_rfl
theorem k_20 : (Rows.gateSafeRow.ifacesOut == Tryd.f3.resultTypes.toList.any (Tryd.prog.ifacesRec ·)) = true := by kernel_rfl
theorem k_21 : (Rows.gateSafeRow.loopsOut == Tryd.f3.resultTypes.toList.any (Tryd.prog.loopsFrom ·)) = true := by kernel_rfl
theorem k_22 : (Rows.gateSafeRow.plainKeys == Tryd.prog.plainKeys) = true := Fr.sf_plainKeys
theorem k_23 : Rows.gateSafeRow.shortTexts.isNone = true := by kernel_rfl
theorem k_24 : Tryd.prog.stopsHeard = true := Fr.sf_heard
theorem k_25 : Tryd.prog.mayEnter = true := Fr.sf_mayEnter
theorem k_26 : (Rows.gateSafeRow.lifted == Tryd.prog.liftsFinal) = true := Fr.sf_lifted
theorem k_27 : (Tryd.prog.make == some Rows.gateSafeRow.make) = true := Fr.sf_make
theorem k_28 : (Rows.gateSafeRow.kinds == (if Rows.gateSafeRow.domain.isEmpty then [] else Tryd.f3.params.toList.map fun t => match Tryd.prog.underlying t with | some (.int k) => some k | _ => none)) = true := by kernel_rfl
theorem k_29 : (Rows.gateSafeRow.pinned == Rows.gateSafeRow.pinnedBy) = true := by kernel_rfl
theorem k_30 : (Rows.gateSafeRow.veiled == (Tryd.f3.params.toList ++ (OpenSpec.ofChange Rows.gateSafeSpec).bare.plain.varTypes Tryd.prog ++ Tryd.f3.resultTypes.toList).any (Tryd.prog.veiledRec ·)) = true := by kernel_rfl
theorem k_31 : Rows.gateSafeRow.veiledFits Tryd.prog Tryd.f3.params.toList (Tryd.f3.params.toList ++ (OpenSpec.ofChange Rows.gateSafeSpec).bare.plain.varTypes Tryd.prog ++ Tryd.f3.resultTypes.toList) = true := by kernel_rfl
theorem closed : joinedFacts Tryd.prog 3 Tryd.f3 (OpenSpec.ofChange Rows.gateSafeSpec).bare Rows.gateSafeRow = true := Op.andT (Op.andT (Op.andT (Op.andT (Op.andT (Op.andT (Op.andT (Op.andT (Op.andT (Op.andT (Op.andT (Op.andT (Op.andT (Op.andT (Op.andT (Op.andT (Op.andT (Op.andT (Op.andT (Op.andT (Op.andT (Op.andT (Op.andT (Op.andT (Op.andT (Op.andT (Op.andT (Op.andT (Op.andT (Op.andT (Op.andT (k_0) k_1) k_2) k_3) k_4) k_5) k_6) k_7) k_8) k_9) k_10) k_11) k_12) k_13) k_14) k_15) k_16) k_17) k_18) k_19) k_20) k_21) k_22) k_23) k_24) k_25) k_26) k_27) k_28) k_29) k_30) k_31

theorem said : Rows.GateSafeSaid :=
  OpenClaim.holds_of_cond 3 Tryd.f3 rfl rfl rfl rfl rfl rfl rfl ⟨rfl, rfl, rfl, rfl, rfl⟩ rfl rfl rfl rfl rfl (by kernel_rfl) Tryd.func3 closed
    (of_decide_eq_true (by kernel_rfl)) (by unfold Func.isWrapper; first | (rw [if_pos (by decide +kernel)]; kernel_rfl) | (rw [if_neg (by decide +kernel)]; exact ⟨rfl, rfl⟩))
    (fun os started H enc _ F => by rw [OpenClaim.pre_eq_preRow]; exact lifted os started H enc F)

theorem plain (b : Bool) (hb : b = Tryd.pinned.checked.prog.looks []) (f : FuncId) (fn : Func) (hf : Tryd.pinned.checked.prog.funcNamed "quayside/quaysidelaw38.GateSafe" = some f) (hfn : Tryd.pinned.checked.prog.funcs[f]? = some fn) :
    b = Tryd.pinned.checked.prog.looks [] ∧ ∀ (j : Nat) t, fn.params[j]? = some t → Tryd.pinned.checked.prog.wantsStandIn t = false := by
  obtain rfl : f = 3 := Option.some.inj ((show Tryd.prog.funcNamed "quayside/quaysidelaw38.GateSafe" = some 3 by kernel_rfl).symm.trans hf) |>.symm
  obtain rfl : fn = Tryd.f3 := (Option.some.inj (Tryd.func3.symm.trans hfn)).symm
  refine ⟨hb, fun j t ht => ?_⟩
  rw [Tryd.params3] at ht
  have hm : t ∈ [22, 23, 28] := by simpa using Array.mem_of_getElem? ht
  have hall : ([22, 23, 28].all fun u => !Tryd.prog.wantsStandIn u) = true := by kernel_rfl
  exact (show Tryd.prog.wantsStandIn t = false by simpa using List.all_eq_true.1 hall t hm)

theorem proved : Rows.GateSafeCardSaid :=
  Claim7.holds_tied_plain_at .later [] _ _ _ _ said (fun _ h => by cases h) (by kernel_rfl) (fun _ h => by cases h) gateSafe_row_tie rfl ⟨rfl, rfl⟩ (by kernel_rfl) rfl (plain _ (by kernel_rfl)) (by kernel_rfl)
#print axioms proved
end Go.Proofs.YtnppicekfjdefaaDoor.lawGateSafe
