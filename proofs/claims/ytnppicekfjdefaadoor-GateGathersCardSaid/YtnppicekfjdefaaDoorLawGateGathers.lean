/- PROVED: GateGathers returns true for every input and leaves its arguments as they were. No condition beyond the statement's own (the listed variables read as the program's text lays them, which the card ties). -/
import Derived.Test.YtnppicekfjdefaaDoorFrame
import Derived.Test.YtnppicekfjdefaaDoorClosed
import Derived.Test.YtnppicekfjdefaaDoorGLawE
import Derived.Test.YtnppicekfjdefaaDoorOpenQ
namespace Go.Proofs.YtnppicekfjdefaaDoor.lawGateGathers
open Go.ChangeShapes Go.WideShapes Go.ChangeAt Go.RowKit Pl Ad A1
open Go.ChangeMaps (open_string shut_string)
attribute [local go_sem] ba_get conv_one conv_one_drewN ba_append ba_extract
set_option maxRecDepth 100000
set_option maxHeartbeats 4000000
set_option linter.unusedVariables false

theorem walk_long (va : Option Addr) (vc : Nat) (l : List Pg) (pa : Option Addr) (pc : Nat) (parts : List Part) (xt : Int) (xa : Bs) (tags : List Bs) (ua : Option Addr) (uc : Nat) (asOf m : Int) (w : World) (hr : Ready w) (hv : RowsV pcells 3 w (.slice va l.length vc) l) (hl : l.length ≤ 9223372036854775807) (hp : RowsV partC 2 w (.slice pa parts.length pc) parts) (hpl : parts.length ≤ 9223372036854775807) (hpp : ∀ a ∈ parts, a.src < 256 ∧ a.many < 256) (hux : StrsV w (.slice ua tags.length uc) tags) (htl : tags.length ≤ 9223372036854775807) (h0 : 0 ≤ m) (h255 : m < 256) (hf : shortB l = false) :
    Calls Tryd.prog 5 #[(.slice va l.length vc), (.slice pa parts.length pc), .agg #[.int .i64 xt, .string ⟨xa.toArray⟩, (.slice ua tags.length uc), .int .i64 asOf, .int .u8 m]] w fun e w' => e = .returned (.bool true) ∧ Below w.heap.size w w' := by
  have hb0 := (Below.refl w.heap.size w).alloc (Nat.le_refl _) (.cells #[.int .i64 xt, .string ⟨xa.toArray⟩, (.slice ua tags.length uc), .int .i64 asOf, .int .u8 m] 28)
  have HB0 := Lib.hid hb0
  have HQ0 : Hid (QBox (w.alloc (.cells #[.int .i64 xt, .string ⟨xa.toArray⟩, (.slice ua tags.length uc), .int .i64 asOf, .int .u8 m] 28)) w.heap.size xt xa (.slice ua tags.length uc) asOf m) := Lib.hid (heap_alloc_new w _)
  have HV := Lib.hid hv
  have HU := Lib.hid hux
  have HRA : Hid (∀ w', Below w.heap.size w w' → Ready w') := Lib.hid fun w' hb => hr.below hb
  have HP := Lib.hid hp
  have HPP := Lib.hid hpp
  clear hb0 hv hux hp hpp
  have HF := Lib.hid hf
  clear hf
  go_enter Tryd.func5, Tryd.ntmps5
  go_wp2_with fail
  refine (awake38_any _ (HRA.out _ HB0.out)).mono ?_
  rintro e w1 ⟨rfl, hb1⟩
  have HB1 := Lib.hid (HB0.out.trans (hb1.mono HB0.out.size))
  have HQ1 := Lib.hid (HQ0.out.older hb1)
  obtain ⟨⟨d0, d1, d2, d3, d4⟩, hzq⟩ := HQ1.out.facts
  clear hb1
  go_wp2_with (first | (go_at_call 7; refine (short38_any (.slice va l.length vc) l _ (HV.out.below HB1.out) hl).mono ?_; rw [HF.out]; rintro e w2 ⟨rfl, rfl⟩) | (go_at_call 6; refine (awake38_any _ (HRA.out _ HB1.out)).mono ?_; rintro e w4 ⟨rfl, hb4⟩))
  go_ret
  exact ⟨rfl, HB1.out.trans (hb4.mono HB1.out.size)⟩
theorem walk_many (va : Option Addr) (vc : Nat) (l : List Pg) (pa : Option Addr) (pc : Nat) (parts : List Part) (xt : Int) (xa : Bs) (tags : List Bs) (ua : Option Addr) (uc : Nat) (asOf m : Int) (w : World) (hr : Ready w) (hv : RowsV pcells 3 w (.slice va l.length vc) l) (hl : l.length ≤ 9223372036854775807) (hp : RowsV partC 2 w (.slice pa parts.length pc) parts) (hpl : parts.length ≤ 9223372036854775807) (hpp : ∀ a ∈ parts, a.src < 256 ∧ a.many < 256) (hux : StrsV w (.slice ua tags.length uc) tags) (htl : tags.length ≤ 9223372036854775807) (h0 : 0 ≤ m) (h255 : m < 256) (hf : shortB l = true) (hm : 40 < parts.length) :
    Calls Tryd.prog 5 #[(.slice va l.length vc), (.slice pa parts.length pc), .agg #[.int .i64 xt, .string ⟨xa.toArray⟩, (.slice ua tags.length uc), .int .i64 asOf, .int .u8 m]] w fun e w' => e = .returned (.bool true) ∧ Below w.heap.size w w' := by
  have hb0 := (Below.refl w.heap.size w).alloc (Nat.le_refl _) (.cells #[.int .i64 xt, .string ⟨xa.toArray⟩, (.slice ua tags.length uc), .int .i64 asOf, .int .u8 m] 28)
  have HB0 := Lib.hid hb0
  have HQ0 : Hid (QBox (w.alloc (.cells #[.int .i64 xt, .string ⟨xa.toArray⟩, (.slice ua tags.length uc), .int .i64 asOf, .int .u8 m] 28)) w.heap.size xt xa (.slice ua tags.length uc) asOf m) := Lib.hid (heap_alloc_new w _)
  have HV := Lib.hid hv
  have HU := Lib.hid hux
  have HRA : Hid (∀ w', Below w.heap.size w w' → Ready w') := Lib.hid fun w' hb => hr.below hb
  have HP := Lib.hid hp
  have HPP := Lib.hid hpp
  clear hb0 hv hux hp hpp
  have HF := Lib.hid hf
  clear hf
  go_enter Tryd.func5, Tryd.ntmps5
  go_wp2_with fail
  refine (awake38_any _ (HRA.out _ HB0.out)).mono ?_
  rintro e w1 ⟨rfl, hb1⟩
  have HB1 := Lib.hid (HB0.out.trans (hb1.mono HB0.out.size))
  have HQ1 := Lib.hid (HQ0.out.older hb1)
  obtain ⟨⟨d0, d1, d2, d3, d4⟩, hzq⟩ := HQ1.out.facts
  clear hb1
  go_wp2_with (first | (go_at_call 7; refine (short38_any (.slice va l.length vc) l _ (HV.out.below HB1.out) hl).mono ?_; rw [HF.out]; rintro e w2 ⟨rfl, rfl⟩) | (go_at_call 6; refine (awake38_any _ (HRA.out _ HB1.out)).mono ?_; rintro e w4 ⟨rfl, hb4⟩))
  go_ret
  exact ⟨rfl, HB1.out.trans (hb4.mono HB1.out.size)⟩
theorem walk_huge (va : Option Addr) (vc : Nat) (l : List Pg) (pa : Option Addr) (pc : Nat) (parts : List Part) (xt : Int) (xa : Bs) (tags : List Bs) (ua : Option Addr) (uc : Nat) (asOf m : Int) (w : World) (hr : Ready w) (hv : RowsV pcells 3 w (.slice va l.length vc) l) (hl : l.length ≤ 9223372036854775807) (hp : RowsV partC 2 w (.slice pa parts.length pc) parts) (hpl : parts.length ≤ 9223372036854775807) (hpp : ∀ a ∈ parts, a.src < 256 ∧ a.many < 256) (hux : StrsV w (.slice ua tags.length uc) tags) (htl : tags.length ≤ 9223372036854775807) (h0 : 0 ≤ m) (h255 : m < 256) (hf : shortB l = true) (hm : parts.length ≤ 40) (ht : tinyB ⟨xt, xa, tags⟩ = false) :
    Calls Tryd.prog 5 #[(.slice va l.length vc), (.slice pa parts.length pc), .agg #[.int .i64 xt, .string ⟨xa.toArray⟩, (.slice ua tags.length uc), .int .i64 asOf, .int .u8 m]] w fun e w' => e = .returned (.bool true) ∧ Below w.heap.size w w' := by
  have hb0 := (Below.refl w.heap.size w).alloc (Nat.le_refl _) (.cells #[.int .i64 xt, .string ⟨xa.toArray⟩, (.slice ua tags.length uc), .int .i64 asOf, .int .u8 m] 28)
  have HB0 := Lib.hid hb0
  have HQ0 : Hid (QBox (w.alloc (.cells #[.int .i64 xt, .string ⟨xa.toArray⟩, (.slice ua tags.length uc), .int .i64 asOf, .int .u8 m] 28)) w.heap.size xt xa (.slice ua tags.length uc) asOf m) := Lib.hid (heap_alloc_new w _)
  have HV := Lib.hid hv
  have HU := Lib.hid hux
  have HRA : Hid (∀ w', Below w.heap.size w w' → Ready w') := Lib.hid fun w' hb => hr.below hb
  have HP := Lib.hid hp
  have HPP := Lib.hid hpp
  clear hb0 hv hux hp hpp
  have HF := Lib.hid hf
  have HT := Lib.hid ht
  clear hf ht
  have hm2 : ¬ (40 : Int) < (parts.length : Int) := by omega
  go_enter Tryd.func5, Tryd.ntmps5
  go_wp2_with fail
  refine (awake38_any _ (HRA.out _ HB0.out)).mono ?_
  rintro e w1 ⟨rfl, hb1⟩
  have HB1 := Lib.hid (HB0.out.trans (hb1.mono HB0.out.size))
  have HQ1 := Lib.hid (HQ0.out.older hb1)
  obtain ⟨⟨d0, d1, d2, d3, d4⟩, hzq⟩ := HQ1.out.facts
  clear hb1
  go_wp2_with (first | (go_at_call 7; refine (short38_any (.slice va l.length vc) l _ (HV.out.below HB1.out) hl).mono ?_; rw [HF.out]; rintro e w2 ⟨rfl, rfl⟩) | (go_at_call 8; refine (tiny38_any xt xa tags ua uc _ htl).mono ?_; rw [HT.out]; rintro e w3 ⟨rfl, hb3⟩; have HB3 := Lib.hid (HB1.out.trans (hb3.mono HB1.out.size)); have HQ3 := Lib.hid (HQ1.out.older hb3); clear hb3 d0 d1 d2 d3 d4; obtain ⟨⟨d0, d1, d2, d3, d4⟩, hz3⟩ := HQ3.out.facts) | (go_at_call 6; refine (awake38_any _ (HRA.out _ HB3.out)).mono ?_; rintro e w4 ⟨rfl, hb4⟩))
  go_ret
  exact ⟨rfl, HB3.out.trans (hb4.mono HB3.out.size)⟩
theorem walk_ok (va : Option Addr) (vc : Nat) (l : List Pg) (pa : Option Addr) (pc : Nat) (parts : List Part) (xt : Int) (xa : Bs) (tags : List Bs) (ua : Option Addr) (uc : Nat) (asOf m : Int) (w : World) (hr : Ready w) (hv : RowsV pcells 3 w (.slice va l.length vc) l) (hl : l.length ≤ 9223372036854775807) (hp : RowsV partC 2 w (.slice pa parts.length pc) parts) (hpl : parts.length ≤ 9223372036854775807) (hpp : ∀ a ∈ parts, a.src < 256 ∧ a.many < 256) (hux : StrsV w (.slice ua tags.length uc) tags) (htl : tags.length ≤ 9223372036854775807) (h0 : 0 ≤ m) (h255 : m < 256) (hf : shortB l = true) (hm : parts.length ≤ 40) (ht : tinyB ⟨xt, xa, tags⟩ = true) :
    Calls Tryd.prog 5 #[(.slice va l.length vc), (.slice pa parts.length pc), .agg #[.int .i64 xt, .string ⟨xa.toArray⟩, (.slice ua tags.length uc), .int .i64 asOf, .int .u8 m]] w fun e w' => e = .returned (.bool true) ∧ Below w.heap.size w w' := by
  have hb0 := (Below.refl w.heap.size w).alloc (Nat.le_refl _) (.cells #[.int .i64 xt, .string ⟨xa.toArray⟩, (.slice ua tags.length uc), .int .i64 asOf, .int .u8 m] 28)
  have HB0 := Lib.hid hb0
  have HQ0 : Hid (QBox (w.alloc (.cells #[.int .i64 xt, .string ⟨xa.toArray⟩, (.slice ua tags.length uc), .int .i64 asOf, .int .u8 m] 28)) w.heap.size xt xa (.slice ua tags.length uc) asOf m) := Lib.hid (heap_alloc_new w _)
  have HV := Lib.hid hv
  have HU := Lib.hid hux
  have HRA : Hid (∀ w', Below w.heap.size w w' → Ready w') := Lib.hid fun w' hb => hr.below hb
  have HP := Lib.hid hp
  have HPP := Lib.hid hpp
  clear hb0 hv hux hp hpp
  have hls := (shortB_true hf).2
  have HSZ := Lib.hid (logL_sub (l := l) (P := fun p => p.value.length ≤ 134217728) fun p hp => Nat.le_trans ((shortB_true hf).1 p hp) (by decide))
  have HSL := Lib.hid (fun (p : Pg) (hp : p ∈ l) => Nat.le_trans ((shortB_true hf).1 p hp) (show 1200 ≤ 134217728 by decide))
  have hll := logL_len l
  have HF := Lib.hid hf
  have HT := Lib.hid ht
  have htt : tags.length ≤ 40 ∧ xa.length ≤ 1200 := by unfold tinyB at ht; simpa using ht
  have hxl : xa.length ≤ 134217728 := by omega
  have htl4 : tags.length ≤ 40 := htt.1
  have hm2 : ¬ (40 : Int) < (parts.length : Int) := by omega
  have HRY := Lib.hid hr
  have HGD := Lib.hid (fun (p : Pg) (hp : p ∈ logL l) => And.intro (HSZ.out p hp) (logL_good p hp))
  clear hf ht htt
  go_enter Tryd.func5, Tryd.ntmps5
  go_wp2_with fail
  refine (awake38_any _ (HRA.out _ HB0.out)).mono ?_
  rintro e w1 ⟨rfl, hb1⟩
  have HB1 := Lib.hid (HB0.out.trans (hb1.mono HB0.out.size))
  have HQ1 := Lib.hid (HQ0.out.older hb1)
  obtain ⟨⟨d0, d1, d2, d3, d4⟩, hzq⟩ := HQ1.out.facts
  clear hb1
  go_wp2_with (first | (go_at_call 7; refine (short38_any (.slice va l.length vc) l _ (HV.out.below HB1.out) hl).mono ?_; rw [HF.out]; rintro e w2 ⟨rfl, rfl⟩) | (go_at_call 8; refine (tiny38_any xt xa tags ua uc _ htl).mono ?_; rw [HT.out]; rintro e w3 ⟨rfl, hb3⟩; have HB3 := Lib.hid (HB1.out.trans (hb3.mono HB1.out.size)); have HQ3 := Lib.hid (HQ1.out.older hb3); clear hb3 d0 d1 d2 d3 d4; obtain ⟨⟨d0, d1, d2, d3, d4⟩, hz3⟩ := HQ3.out.facts) | (go_at_call 9; refine (log38_any _ l _ (HV.out.below HB3.out) (HRA.out _ HB3.out) HSL.out (by omega)).mono ?_; rintro e w4 ⟨lv, rfl, hown, hb4⟩; obtain ⟨la, lc, rfl, hlc⟩ := hown.form; have HL4 := Lib.hid (rows_own hown); have HOL := Lib.hid (fun q hq => (hown.lt q hq).2); have HB4 := Lib.hid (HB3.out.trans (hb4.mono HB3.out.size)); have HQ4 := Lib.hid (HQ3.out.older hb4); clear hown hb4 d0 d1 d2 d3 d4; obtain ⟨⟨d0, d1, d2, d3, d4⟩, hz4⟩ := HQ4.out.facts) | (go_at_call 10; refine (gateNew_ok ((1000 : Nat) : Int) _ (by decide) (by decide)).mono ?_; rintro e w5 ⟨rfl, rfl⟩) | (go_at_call 22; refine (plogNew_ok ((1000 : Nat) : Int) _ (by decide) (by decide)).mono ?_; rintro e w6 ⟨rfl, rfl⟩) | (at_make; refine wpList_make_tab rfl _ _ rfl ((logL l).length + 1) _ rfl rfl (by omega) (by omega) ?_))
  have HB5 := Lib.hid (both_new (n := 1000) w4 (List.replicate ((logL l).length + 1) false) (by decide) (by decide))
  rw [show (List.map Value.bool (List.replicate ((logL l).length + 1) false)).toArray = Array.replicate ((logL l).length + 1) (Value.bool false) by simp] at HB5
  have hnl := logL_len l
  obtain ⟨all, hall⟩ : ∃ all, logL l = all := ⟨_, rfl⟩
  rw [hall] at HL4 hll HSZ hlc HB5 HGD hnl HOL ⊢
  have HAL := Lib.hid hall
  clear hall
  have HU4 := Lib.hid (HU.out.below HB4.out)
  have HRY4 := Lib.hid (HRA.out _ HB4.out)
  have HP4 := Lib.hid (HP.out.below HB4.out)
  have hl1 : all.length < 1000 := by omega
  have HST := Lib.hid (GateM.start_room (all := all) (n := 1000) hl1 (by decide))
  clear d0 d1 d2 d3 d4 hz4
  go_loopg [13, 14, 15] parts.length (fun q iv s14 s15 wr => ∃ (j : Nat) (v : Value) (g : GateM) (bs : List Bool), j ≤ parts.length ∧ iv = .int .i64 j ∧ Hid (parts.length ≤ q + j) ∧ GateM.Room all g ∧ ThS all.length (fun k => GateM.In g g.aside ((k : Int) + 1)) bs ∧ Both w4 wr (w4.heap.size + 1) w4.heap.size v g (w4.heap.size + 1 + 1) (.slice none 0 0) (.start 1000) (w4.heap.size + 1 + 1 + 1) bs)
  case atStart => exact ⟨0, _, GateM.start 1000, _, Nat.zero_le _, rfl, Lib.hid (by omega), HST.out.1, ths_start all.length (fun k hk => HST.out.2 _ (by omega)), HB5.out⟩
  case round =>
    obtain ⟨j, v, g, bs, hj, rfl, HQ11, hroom, hths, s⟩ := hrel
    obtain ⟨n11, hn11⟩ : ∃ n11, gk = n11 := ⟨_, rfl⟩
    have HN11 := Lib.hid hn11
    have HS1 := Lib.hid s
    have HRM := Lib.hid hroom
    have HTH := Lib.hid hths
    clear hn11 s hroom hths
    by_cases hlt : j < parts.length
    · by_cases hz : 0 < all.length
      · have hzi : (0 : Int) < (all.length : Int) := by omega
        obtain ⟨b0, o, c, e, hc, hbz, hcell⟩ := HP4.out.at hlt
        cases e
        have HPj := Lib.hid (HPP.out parts[j] (List.getElem_mem hlt))
        generalize parts[j] = y at hcell HPj
        obtain ⟨ys, ym⟩ := y
        have hyy := HPj.out
        simp only at hyy
        obtain ⟨hys, hym⟩ := hyy
        have HQ0 := Lib.hid (show w4.cell? ⟨b0, o + j * 2, none⟩ = some (.int .u8 ys) from hcell 0 _ rfl)
        have HQ1 := Lib.hid (show w4.cell? ⟨b0, o + j * 2 + 1, none⟩ = some (.int .u8 ym) from hcell 1 _ rfl)
        clear hcell
        have q0 := (HS1.out.run.bel.cell (p := ⟨b0, _, none⟩) hbz).trans HQ0.out
        have q1 := (HS1.out.run.bel.cell (p := ⟨b0, _, none⟩) hbz).trans HQ1.out
        have hml := Nat.mod_lt ys hz
        obtain ⟨lo, hlo⟩ : ∃ lo, ys % all.length = lo := ⟨_, rfl⟩
        obtain ⟨hi, hhi⟩ : ∃ hi, min all.length (lo + 1 + ym % 8) = hi := ⟨_, rfl⟩
        have e1 : (Part.mk ys ym).lo all.length = lo := hlo
        have e2 : (Part.mk ys ym).hi all.length = hi := by unfold Part.hi; simp only; rw [hlo]; exact hhi
        rw [hlo] at hml
        have hlh1 : lo < hi := by omega
        have hlh2 : hi ≤ all.length := by omega
        have HM : Hid ((ys : Int) % (all.length : Int) = (lo : Int)) := Lib.hid (by rw [← hlo]; rfl)
        have HI : Hid (min (all.length : Int) ((lo : Int) + 1 + (ym : Int) % 8) = (hi : Int)) := Lib.hid (by omega)
        have hpr := pass_room HRM.out HGD.out hz (by omega) ⟨ys, ym⟩
        rw [e1, e2] at hpr
        have HPR := Lib.hid hpr
        clear hlo hhi e1 e2 hpr
        go_wp2_with fail
        refine (pass38_any w4 _ (w4.heap.size + 1) w4.heap.size v (.slice la all.length lc) g all ⟨ys, ym⟩ HS1.out.run HRY4.out (HL4.out.below HS1.out.run.bel) (apart_old (u := (.slice la all.length lc)) HS1.out.run (fun q hq => HOL.out q hq)) HSZ.out hz (by omega) HPj.out).mono ?_
        rintro e w6 ⟨v2, rfl, hg2, hs2⟩
        obtain ⟨g2, hgg⟩ : ∃ g2, g.pass all ⟨ys, ym⟩ = g2 := ⟨_, rfl⟩
        rw [hgg] at hg2 HPR
        have HS2 := Lib.hid (HS1.out.gate hg2 hs2)
        clear hg2 hs2 hgg q0 q1
        have q0 := (HS2.out.run.bel.cell (p := ⟨b0, _, none⟩) hbz).trans HQ0.out
        have q1 := (HS2.out.run.bel.cell (p := ⟨b0, _, none⟩) hbz).trans HQ1.out
        go_upto_region 14 with fail
        rw [HM.out]
        go_wp2_with fail
        go_loopg [15] all.length (fun q kv wr => ∃ (kk : Nat) (bs : List Bool), kv = .int .i64 kk ∧ lo ≤ kk ∧ kk ≤ hi ∧ Hid (hi ≤ q + kk) ∧ ThS all.length (fun k => GateM.In g g.aside ((k : Int) + 1) ∨ (lo ≤ k ∧ k < kk)) bs ∧ Both w4 wr (w4.heap.size + 1) w4.heap.size v2 g2 (w4.heap.size + 1 + 1) (.slice none 0 0) (.start 1000) (w4.heap.size + 1 + 1 + 1) bs)
        case atStart => exact ⟨lo, bs, rfl, Nat.le_refl _, by omega, Lib.hid (by omega), HTH.out.iff (fun k hk => by constructor <;> (intro h; first | exact .inl h | (rcases h with h | h; exact h; omega))), HS2.out⟩
        case round =>
          obtain ⟨kk, bs2, rfl, hk1, hk2, HQ12, hth2, s⟩ := hrel
          have HS3 := Lib.hid s
          have HT3 := Lib.hid hth2
          clear s hth2 q0 q1
          have q1 := (HS3.out.run.bel.cell (p := ⟨b0, _, none⟩) hbz).trans HQ1.out
          by_cases hlk : kk < hi
          · have hka : kk < all.length := by omega
            obtain ⟨bb, hbb, _, _⟩ := HT3.out.get (k := kk) (by omega)
            have t0 := HS3.out.tab.cell hbb
            have t1 := HS3.out.tab.frozen kk
            have HT4 := Lib.hid ((HT3.out.set hka).iff (Q := fun k => GateM.In g g.aside ((k : Int) + 1) ∨ (lo ≤ k ∧ k < kk + 1)) (fun k hk => by
              constructor
              · rintro ((h | h) | h)
                · exact .inl h
                · exact .inr (by omega)
                · exact .inr (by omega)
              · rintro (h | h)
                · exact .inl (.inl h)
                · by_cases e : k = kk
                  · exact .inr e
                  · exact .inl (.inr (by omega))))
            clear hbb
            go_upto_if 107 with fail
            rw [HI.out]
            go_wp2_with fail
            go_roundg (gk - 1)
            case rel => exact ⟨kk + 1, _, by go_num, by omega, by omega, Lib.hid (by have := HQ12.out; omega), HT4.out, HS3.out.setT kk true⟩
            case measure => have := HQ12.out; omega
          · have hke : kk = hi := by omega
            have HT4 := Lib.hid (HT3.out.iff (Q := fun k => GateM.In g2 g2.aside ((k : Int) + 1)) (fun k hk => by
              rw [HPR.out.2]
              constructor
              · rintro (h | h)
                · exact .inl h
                · exact .inr (by omega)
              · rintro (h | h)
                · exact .inl h
                · exact .inr (by omega)))
            go_upto_if 107 with fail
            rw [HI.out]
            clear hke
            go_wp2_with fail
            go_roundg (n11 - 1)
            case rel => exact ⟨j + 1, v2, g2, bs2, by omega, by go_num, Lib.hid (by have := HQ11.out; have := HN11.out; omega), HPR.out.1, HT4.out, HS3.out⟩
            case measure => have := HQ11.out; have := HN11.out; omega
      · have hzi : ¬ (0 : Int) < (all.length : Int) := by omega
        have hzn : all.length = 0 := by omega
        go_wp2_with fail
        go_loopg [16] all.length (fun q nv wr => ∃ m : Nat, nv = .int .i64 m ∧ m ≤ all.length ∧ Hid (all.length ≤ q + m) ∧ Hid (∀ k, k < m → GateM.In g g.aside ((k : Int) + 1)) ∧ Both w4 wr (w4.heap.size + 1) w4.heap.size v g (w4.heap.size + 1 + 1) (.slice none 0 0) (.start 1000) (w4.heap.size + 1 + 1 + 1) bs)
        case atStart => exact ⟨0, rfl, Nat.zero_le _, Lib.hid (by omega), Lib.hid (fun k hk => by omega), HS1.out⟩
        case round =>
          obtain ⟨m, rfl, hm1, HQ13, HIN, s⟩ := hrel
          have HS3 := Lib.hid s
          clear s
          obtain ⟨bb, hbb, hbt, hbf⟩ := HTH.out.get (k := m) hm1
          have t0 := HS3.out.tab.cell hbb
          cases bb with
          | true =>
            have hbt2 := hbt rfl
            have hmlt := hbt2.1
            have HIN2 := Lib.hid hbt2.2
            clear hbb hbt hbf hbt2
            go_wp2_with fail
            go_roundg (gk - 1)
            case rel => exact ⟨m + 1, by go_num, by omega, Lib.hid (by have := HQ13.out; omega), Lib.hid (fun k hk => by
              rcases Nat.lt_succ_iff_lt_or_eq.1 hk with h | rfl
              · exact HIN.out k h
              · exact HIN2.out), HS3.out⟩
            case measure => have := HQ13.out; omega
          | false =>
            have HAP := Lib.hid (first_missing HRM.out hm1 HIN.out (hbf rfl))
            have HFL := Lib.hid HRM.out.floor
            clear hbb hbt hbf
            go_wp2_with fail
            go_loopg [17, 18, 19] m (fun q iv s18 s19 wr => ∃ (ii : Nat) (u : Value) (L : LogM), iv = .int .i64 ii ∧ ii ≤ m ∧ Hid (m ≤ q + ii) ∧ TookL all ii L ∧ Both w4 wr (w4.heap.size + 1) w4.heap.size v g (w4.heap.size + 1 + 1) u L (w4.heap.size + 1 + 1 + 1) bs)
            case atStart => exact ⟨0, _, .start 1000, rfl, Nat.zero_le _, Lib.hid (by omega), took_start all, HS3.out⟩
            case round =>
              obtain ⟨ii, u, L, rfl, hi1, HQ14, htk, s⟩ := hrel
              have HS4 := Lib.hid s
              have hLl := htk.len (by omega)
              by_cases hli : ii < m
              · have hia : ii < all.length := by omega
                obtain ⟨b1, o1, c1, e1, hc1, hbz1, hcell1⟩ := HL4.out.at hia
                cases e1
                have hck := (HGD.out all[ii] (List.getElem_mem hia)).2
                have hyv := HSZ.out all[ii] (List.getElem_mem hia)
                have HTP := Lib.hid (htk.push hia (by omega))
                generalize all[ii] = y at hcell1 hck hyv HTP
                obtain ⟨yk, yt, yv⟩ := y
                have HCK := Lib.hid hck
                have p0 := (HS4.out.run.bel.cell (p := ⟨b1, _, none⟩) hbz1).trans (show w4.cell? ⟨b1, o1 + ii * 3, none⟩ = some (.int .i64 yk) from hcell1 0 _ rfl)
                have p1 := (HS4.out.run.bel.cell (p := ⟨b1, _, none⟩) hbz1).trans (show w4.cell? ⟨b1, o1 + ii * 3 + 1, none⟩ = some (.int .i64 yt) from hcell1 1 _ rfl)
                have p2 := (HS4.out.run.bel.cell (p := ⟨b1, _, none⟩) hbz1).trans (show w4.cell? ⟨b1, o1 + ii * 3 + 2, none⟩ = some (.string ⟨yv.toArray⟩) from hcell1 2 _ rfl)
                clear hcell1 hck s htk
                go_wp2_with fail
                refine (run_append w4 _ (w4.heap.size + 1 + 1) u L ⟨yk, yt, yv⟩ HS4.out.log HRY4.out HCK.out hyv (by omega)).mono ?_
                rintro e w7 ⟨u7, rfl, hr7, hg7⟩
                have HS5 := Lib.hid (HS4.out.logs hr7 hg7)
                clear hr7 hg7
                go_wp2_with fail
                go_roundg (gk - 1)
                case rel => exact ⟨ii + 1, u7, _, by go_num, by omega, Lib.hid (by have := HQ14.out; omega), HTP.out, HS5.out⟩
                case measure => have := HQ14.out; omega
              · have HTK := Lib.hid (show TookL all m L by rwa [show ii = m by omega] at htk)
                have HU7 := Lib.hid (HU4.out.below HS4.out.run.bel)
                obtain ⟨⟨d0, d1, d2, d3, d4⟩, hz4⟩ := (HQ4.out.older HS4.out.run.bel).facts
                clear s htk
                go_wp2_with (first | (go_at_call 15; refine (gateApplied w4.heap.size _ _ _ _ _ _ HS4.out.run.gate).mono ?_; rw [HAP.out]; rintro e w' ⟨rfl, rfl⟩) | (go_at_call 21; refine (gateFloor w4.heap.size _ _ _ _ _ _ HS4.out.run.gate).mono ?_; rw [HFL.out]; rintro e w' ⟨rfl, rfl⟩) | (go_at_call 12; refine (item36_any xt xa _ tags _ HU7.out (by omega)).mono ?_; rintro e w8 ⟨nv, rfl, hnv, hb5⟩; obtain ⟨na, nc, rfl⟩ := hnv.form; have HS5 := Lib.hid (HS4.out.older hb5); have HN5 := Lib.hid hnv; clear hb5 hnv))
                have al8 := (Below.refl w8.heap.size w8).alloc (Nat.le_refl _) (.cells #[.int .i64 xt, .string ⟨xa.toArray⟩, .slice na tags.length nc] 40)
                have HX8 := Lib.hid (BothX.mk (HS5.out.older al8) (HN5.out.below al8) (box3_new w8 40 (.int .i64 xt) (.string ⟨xa.toArray⟩) (.slice na tags.length nc)))
                clear al8 d0 d1 d2 d3 d4
                go_loopg [21, 22, 23, 24, 25] (m + 1) (fun q av s22 s23 s24 s25 wr => ∃ a : Nat, av = .int .i64 a ∧ a ≤ m + 1 ∧ Hid (m + 1 ≤ q + a) ∧ BothX w4 wr (w4.heap.size + 1) w4.heap.size v g (w4.heap.size + 1 + 1) u L (w4.heap.size + 1 + 1 + 1) bs w8.heap.size xt xa (.slice na tags.length nc) tags)
                case atStart => exact ⟨0, rfl, by omega, Lib.hid (by omega), HX8.out⟩
                case round =>
                  obtain ⟨a, rfl, ha, HQ15, s⟩ := hrel
                  have HS6 := Lib.hid s
                  clear s
                  by_cases hla : a ≤ m
                  · have hge := gather_end HRM.out HAP.out HTK.out ⟨xt, xa, tags⟩ hla
                    have HSC := Lib.hid (codeV_ok hge.1)
                    have hor := hge.2
                    clear hge
                    obtain ⟨cn, hcn⟩ : ∃ cn, L.covN ⟨xt, xa, tags⟩ (a : Int) = cn := ⟨_, rfl⟩
                    have HCN := Lib.hid hcn
                    clear hcn
                    obtain ⟨⟨x0, x1, x2⟩, _, hx6⟩ := HS6.out.box.facts
                    rcases hor with ⟨hb, hac⟩ | ⟨hb, hac⟩
                    · have HCB := Lib.hid hb
                      have HAC := Lib.hid hac
                      clear hb hac
                      go_wp2_with (first | (go_at_call 24; refine (covered_any w4.heap.size (w4.heap.size + 1 + 1) u L xt xa tags (.slice na tags.length nc) _ _ HS6.out.both.log.log HS6.out.both.log.ok (by omega) (HRY4.out.below HS6.out.both.run.bel) hxl HS6.out.str (by omega)).mono ?_; rw [HCN.out, HCB.out, HSC.out]; rintro e w9 ⟨rfl, hb9⟩; have HS7 := Lib.hid (HS6.out.older hb9); clear hb9; obtain ⟨⟨x0, x1, x2⟩, _, hx7⟩ := HS7.out.box.facts) | (go_at_call 16; refine (gateAccept w4.heap.size (w4.heap.size + 1) w4.heap.size v g xt xa tags (.slice na tags.length nc) _ _ HS7.out.both.run.gate HS7.out.both.run.ok (HRY4.out.below HS7.out.both.run.bel) hxl HS7.out.str (by omega)).mono ?_; rw [HAC.out]; rintro e w10 ⟨rfl, hb10⟩; have HS8 := Lib.hid (HS7.out.older hb10); clear hb10) | (go_at_call 20; refine (is_codeV 18 18 _ (by decide)).mono ?_; rw [show decide ((18 : Int) = 18) = true by decide]; rintro e w' ⟨rfl, rfl⟩))
                      go_roundg (gk - 1)
                      case rel => exact ⟨a + 1, by go_num, by omega, Lib.hid (by have := HQ15.out; omega), HS8.out⟩
                      case measure => have := HQ15.out; omega
                    · have HCB := Lib.hid hb
                      have HAC := Lib.hid (codeV_ok hac)
                      clear hb hac
                      go_wp2_with (first | (go_at_call 24; refine (covered_any w4.heap.size (w4.heap.size + 1 + 1) u L xt xa tags (.slice na tags.length nc) _ _ HS6.out.both.log.log HS6.out.both.log.ok (by omega) (HRY4.out.below HS6.out.both.run.bel) hxl HS6.out.str (by omega)).mono ?_; rw [HCN.out, HCB.out, HSC.out]; rintro e w9 ⟨rfl, hb9⟩; have HS7 := Lib.hid (HS6.out.older hb9); clear hb9; obtain ⟨⟨x0, x1, x2⟩, _, hx7⟩ := HS7.out.box.facts) | (go_at_call 16; refine (gateAccept w4.heap.size (w4.heap.size + 1) w4.heap.size v g xt xa tags (.slice na tags.length nc) _ _ HS7.out.both.run.gate HS7.out.both.run.ok (HRY4.out.below HS7.out.both.run.bel) hxl HS7.out.str (by omega)).mono ?_; rw [HAC.out]; rintro e w10 ⟨rfl, hb10⟩; have HS8 := Lib.hid (HS7.out.older hb10); clear hb10) | (go_at_call 20; refine (is_codeV 0 18 _ (by decide)).mono ?_; rw [show decide ((0 : Int) = 18) = false by decide]; rintro e w' ⟨rfl, rfl⟩))
                      go_roundg (gk - 1)
                      case rel => exact ⟨a + 1, by go_num, by omega, Lib.hid (by have := HQ15.out; omega), HS8.out⟩
                      case measure => have := HQ15.out; omega
                  · go_wp2_with fail
                    go_ret
                    exact ⟨rfl, HB4.out.trans (HS6.out.both.run.bel.mono HB4.out.size)⟩
    · go_wp2_with fail
      go_loopg [16] all.length (fun q nv wr => ∃ m : Nat, nv = .int .i64 m ∧ m ≤ all.length ∧ Hid (all.length ≤ q + m) ∧ Hid (∀ k, k < m → GateM.In g g.aside ((k : Int) + 1)) ∧ Both w4 wr (w4.heap.size + 1) w4.heap.size v g (w4.heap.size + 1 + 1) (.slice none 0 0) (.start 1000) (w4.heap.size + 1 + 1 + 1) bs)
      case atStart => exact ⟨0, rfl, Nat.zero_le _, Lib.hid (by omega), Lib.hid (fun k hk => by omega), HS1.out⟩
      case round =>
        obtain ⟨m, rfl, hm1, HQ13, HIN, s⟩ := hrel
        have HS3 := Lib.hid s
        clear s
        obtain ⟨bb, hbb, hbt, hbf⟩ := HTH.out.get (k := m) hm1
        have t0 := HS3.out.tab.cell hbb
        cases bb with
        | true =>
          have hbt2 := hbt rfl
          have hmlt := hbt2.1
          have HIN2 := Lib.hid hbt2.2
          clear hbb hbt hbf hbt2
          go_wp2_with fail
          go_roundg (gk - 1)
          case rel => exact ⟨m + 1, by go_num, by omega, Lib.hid (by have := HQ13.out; omega), Lib.hid (fun k hk => by
            rcases Nat.lt_succ_iff_lt_or_eq.1 hk with h | rfl
            · exact HIN.out k h
            · exact HIN2.out), HS3.out⟩
          case measure => have := HQ13.out; omega
        | false =>
          have HAP := Lib.hid (first_missing HRM.out hm1 HIN.out (hbf rfl))
          have HFL := Lib.hid HRM.out.floor
          clear hbb hbt hbf
          go_wp2_with fail
          go_loopg [17, 18, 19] m (fun q iv s18 s19 wr => ∃ (ii : Nat) (u : Value) (L : LogM), iv = .int .i64 ii ∧ ii ≤ m ∧ Hid (m ≤ q + ii) ∧ TookL all ii L ∧ Both w4 wr (w4.heap.size + 1) w4.heap.size v g (w4.heap.size + 1 + 1) u L (w4.heap.size + 1 + 1 + 1) bs)
          case atStart => exact ⟨0, _, .start 1000, rfl, Nat.zero_le _, Lib.hid (by omega), took_start all, HS3.out⟩
          case round =>
            obtain ⟨ii, u, L, rfl, hi1, HQ14, htk, s⟩ := hrel
            have HS4 := Lib.hid s
            have hLl := htk.len (by omega)
            by_cases hli : ii < m
            · have hia : ii < all.length := by omega
              obtain ⟨b1, o1, c1, e1, hc1, hbz1, hcell1⟩ := HL4.out.at hia
              cases e1
              have hck := (HGD.out all[ii] (List.getElem_mem hia)).2
              have hyv := HSZ.out all[ii] (List.getElem_mem hia)
              have HTP := Lib.hid (htk.push hia (by omega))
              generalize all[ii] = y at hcell1 hck hyv HTP
              obtain ⟨yk, yt, yv⟩ := y
              have HCK := Lib.hid hck
              have p0 := (HS4.out.run.bel.cell (p := ⟨b1, _, none⟩) hbz1).trans (show w4.cell? ⟨b1, o1 + ii * 3, none⟩ = some (.int .i64 yk) from hcell1 0 _ rfl)
              have p1 := (HS4.out.run.bel.cell (p := ⟨b1, _, none⟩) hbz1).trans (show w4.cell? ⟨b1, o1 + ii * 3 + 1, none⟩ = some (.int .i64 yt) from hcell1 1 _ rfl)
              have p2 := (HS4.out.run.bel.cell (p := ⟨b1, _, none⟩) hbz1).trans (show w4.cell? ⟨b1, o1 + ii * 3 + 2, none⟩ = some (.string ⟨yv.toArray⟩) from hcell1 2 _ rfl)
              clear hcell1 hck s htk
              go_wp2_with fail
              refine (run_append w4 _ (w4.heap.size + 1 + 1) u L ⟨yk, yt, yv⟩ HS4.out.log HRY4.out HCK.out hyv (by omega)).mono ?_
              rintro e w7 ⟨u7, rfl, hr7, hg7⟩
              have HS5 := Lib.hid (HS4.out.logs hr7 hg7)
              clear hr7 hg7
              go_wp2_with fail
              go_roundg (gk - 1)
              case rel => exact ⟨ii + 1, u7, _, by go_num, by omega, Lib.hid (by have := HQ14.out; omega), HTP.out, HS5.out⟩
              case measure => have := HQ14.out; omega
            · have HTK := Lib.hid (show TookL all m L by rwa [show ii = m by omega] at htk)
              have HU7 := Lib.hid (HU4.out.below HS4.out.run.bel)
              obtain ⟨⟨d0, d1, d2, d3, d4⟩, hz4⟩ := (HQ4.out.older HS4.out.run.bel).facts
              clear s htk
              go_wp2_with (first | (go_at_call 15; refine (gateApplied w4.heap.size _ _ _ _ _ _ HS4.out.run.gate).mono ?_; rw [HAP.out]; rintro e w' ⟨rfl, rfl⟩) | (go_at_call 21; refine (gateFloor w4.heap.size _ _ _ _ _ _ HS4.out.run.gate).mono ?_; rw [HFL.out]; rintro e w' ⟨rfl, rfl⟩) | (go_at_call 12; refine (item36_any xt xa _ tags _ HU7.out (by omega)).mono ?_; rintro e w8 ⟨nv, rfl, hnv, hb5⟩; obtain ⟨na, nc, rfl⟩ := hnv.form; have HS5 := Lib.hid (HS4.out.older hb5); have HN5 := Lib.hid hnv; clear hb5 hnv))
              have al8 := (Below.refl w8.heap.size w8).alloc (Nat.le_refl _) (.cells #[.int .i64 xt, .string ⟨xa.toArray⟩, .slice na tags.length nc] 40)
              have HX8 := Lib.hid (BothX.mk (HS5.out.older al8) (HN5.out.below al8) (box3_new w8 40 (.int .i64 xt) (.string ⟨xa.toArray⟩) (.slice na tags.length nc)))
              clear al8 d0 d1 d2 d3 d4
              go_loopg [21, 22, 23, 24, 25] (m + 1) (fun q av s22 s23 s24 s25 wr => ∃ a : Nat, av = .int .i64 a ∧ a ≤ m + 1 ∧ Hid (m + 1 ≤ q + a) ∧ BothX w4 wr (w4.heap.size + 1) w4.heap.size v g (w4.heap.size + 1 + 1) u L (w4.heap.size + 1 + 1 + 1) bs w8.heap.size xt xa (.slice na tags.length nc) tags)
              case atStart => exact ⟨0, rfl, by omega, Lib.hid (by omega), HX8.out⟩
              case round =>
                obtain ⟨a, rfl, ha, HQ15, s⟩ := hrel
                have HS6 := Lib.hid s
                clear s
                by_cases hla : a ≤ m
                · have hge := gather_end HRM.out HAP.out HTK.out ⟨xt, xa, tags⟩ hla
                  have HSC := Lib.hid (codeV_ok hge.1)
                  have hor := hge.2
                  clear hge
                  obtain ⟨cn, hcn⟩ : ∃ cn, L.covN ⟨xt, xa, tags⟩ (a : Int) = cn := ⟨_, rfl⟩
                  have HCN := Lib.hid hcn
                  clear hcn
                  obtain ⟨⟨x0, x1, x2⟩, _, hx6⟩ := HS6.out.box.facts
                  rcases hor with ⟨hb, hac⟩ | ⟨hb, hac⟩
                  · have HCB := Lib.hid hb
                    have HAC := Lib.hid hac
                    clear hb hac
                    go_wp2_with (first | (go_at_call 24; refine (covered_any w4.heap.size (w4.heap.size + 1 + 1) u L xt xa tags (.slice na tags.length nc) _ _ HS6.out.both.log.log HS6.out.both.log.ok (by omega) (HRY4.out.below HS6.out.both.run.bel) hxl HS6.out.str (by omega)).mono ?_; rw [HCN.out, HCB.out, HSC.out]; rintro e w9 ⟨rfl, hb9⟩; have HS7 := Lib.hid (HS6.out.older hb9); clear hb9; obtain ⟨⟨x0, x1, x2⟩, _, hx7⟩ := HS7.out.box.facts) | (go_at_call 16; refine (gateAccept w4.heap.size (w4.heap.size + 1) w4.heap.size v g xt xa tags (.slice na tags.length nc) _ _ HS7.out.both.run.gate HS7.out.both.run.ok (HRY4.out.below HS7.out.both.run.bel) hxl HS7.out.str (by omega)).mono ?_; rw [HAC.out]; rintro e w10 ⟨rfl, hb10⟩; have HS8 := Lib.hid (HS7.out.older hb10); clear hb10) | (go_at_call 20; refine (is_codeV 18 18 _ (by decide)).mono ?_; rw [show decide ((18 : Int) = 18) = true by decide]; rintro e w' ⟨rfl, rfl⟩))
                    go_roundg (gk - 1)
                    case rel => exact ⟨a + 1, by go_num, by omega, Lib.hid (by have := HQ15.out; omega), HS8.out⟩
                    case measure => have := HQ15.out; omega
                  · have HCB := Lib.hid hb
                    have HAC := Lib.hid (codeV_ok hac)
                    clear hb hac
                    go_wp2_with (first | (go_at_call 24; refine (covered_any w4.heap.size (w4.heap.size + 1 + 1) u L xt xa tags (.slice na tags.length nc) _ _ HS6.out.both.log.log HS6.out.both.log.ok (by omega) (HRY4.out.below HS6.out.both.run.bel) hxl HS6.out.str (by omega)).mono ?_; rw [HCN.out, HCB.out, HSC.out]; rintro e w9 ⟨rfl, hb9⟩; have HS7 := Lib.hid (HS6.out.older hb9); clear hb9; obtain ⟨⟨x0, x1, x2⟩, _, hx7⟩ := HS7.out.box.facts) | (go_at_call 16; refine (gateAccept w4.heap.size (w4.heap.size + 1) w4.heap.size v g xt xa tags (.slice na tags.length nc) _ _ HS7.out.both.run.gate HS7.out.both.run.ok (HRY4.out.below HS7.out.both.run.bel) hxl HS7.out.str (by omega)).mono ?_; rw [HAC.out]; rintro e w10 ⟨rfl, hb10⟩; have HS8 := Lib.hid (HS7.out.older hb10); clear hb10) | (go_at_call 20; refine (is_codeV 0 18 _ (by decide)).mono ?_; rw [show decide ((0 : Int) = 18) = false by decide]; rintro e w' ⟨rfl, rfl⟩))
                    go_roundg (gk - 1)
                    case rel => exact ⟨a + 1, by go_num, by omega, Lib.hid (by have := HQ15.out; omega), HS8.out⟩
                    case measure => have := HQ15.out; omega
                · go_wp2_with fail
                  go_ret
                  exact ⟨rfl, HB4.out.trans (HS6.out.both.run.bel.mono HB4.out.size)⟩
theorem walk (l : List Pg) (v0 : Value) (parts : List Part) (v1 : Value) (xt : Int) (xa : Bs) (tags : List Bs) (u : Value) (asOf m : Int) (w : World) (hr : Ready w) (hv : RowsV pcells 3 w v0 l) (hl : l.length ≤ 9223372036854775807) (hp : RowsV partC 2 w v1 parts) (hpl : parts.length ≤ 9223372036854775807) (hpp : ∀ a ∈ parts, a.src < 256 ∧ a.many < 256) (hux : StrsV w u tags) (htl : tags.length ≤ 9223372036854775807) (h0 : 0 ≤ m) (h255 : m < 256) :
    Calls Tryd.prog 5 #[v0, v1, .agg #[.int .i64 xt, .string ⟨xa.toArray⟩, u, .int .i64 asOf, .int .u8 m]] w fun e w' => e = .returned (.bool true) ∧ Below w.heap.size w w' := by
  obtain ⟨va, vc, rfl, _⟩ := hv.form
  obtain ⟨pa, pc, rfl, _⟩ := hp.form
  obtain ⟨ua, uc, rfl⟩ := hux.form
  cases hf : shortB l with
  | false => exact walk_long va vc l pa pc parts xt xa tags ua uc asOf m w hr hv hl hp hpl hpp hux htl h0 h255 hf
  | true =>
    by_cases hm : parts.length ≤ 40
    · cases ht : tinyB ⟨xt, xa, tags⟩ with
      | false => exact walk_huge va vc l pa pc parts xt xa tags ua uc asOf m w hr hv hl hp hpl hpp hux htl h0 h255 hf hm ht
      | true => exact walk_ok va vc l pa pc parts xt xa tags ua uc asOf m w hr hv hl hp hpl hpp hux htl h0 h255 hf hm ht
    · exact walk_many va vc l pa pc parts xt xa tags ua uc asOf m w hr hv hl hp hpl hpp hux htl h0 h255 hf (by omega)

/-- What the walk gives, for every argument. -/
theorem contract (H : Type) (enc : TypeId × Value → H) (W : World) (base : Nat) (args : Array Value) (ds gs : List (DataW H)) (before : List MemPlace)
    (hval : ∀ (j : Nat) t v, Tryd.f5.params[j]? = some t → args[j]? = some v → Value.okWide Tryd.prog W .any base t v)
    (hW : DataW.Whole enc Tryd.prog Tryd.f5.params.toList Rows.gateGathersSpec.vars false W args.toList ds gs before) (hsz : (DataW.weightsEach Tryd.prog Tryd.f5.params.toList (ds ++ gs)).all (· ≤ reachBytes) = true) (hr : Ready W) :
    Calls Tryd.prog 5 args W fun e W' => ∃ v, e = .returned v ∧ Rows.gateGathersSpec.post enc Tryd.prog Tryd.f5 false true false false W args v W' := by
  have hW' := hW
  have hlt := fun p hp => hW.lt p hp
  obtain ⟨p, q, hA0, hV, rfl, hfz, hnd⟩ := hW
  have hA : DataW.TrodAll enc Tryd.prog W 0 (fun _ => true) true Tryd.f5.params.toList args.toList ds p := hA0
  have hA1 := hA
  obtain ⟨rfl, rfl⟩ := trodVars_none hV
  rw [Tryd.params5] at hA hval
  obtain ⟨v0, vs0, d0, ds0, p0, q0, hargs, rfl, rfl, h0, r0⟩ := trodAll_cons hA
  obtain ⟨v1, vs1, d1, ds1, p1, q1, rfl, rfl, rfl, h1, r1⟩ := trodAll_cons r0
  obtain ⟨v2, vs2, d2, ds2, p2, q2, rfl, rfl, rfl, h2, r2⟩ := trodAll_cons r1
  obtain ⟨rfl, rfl, rfl⟩ := trodAll_nil r2
  obtain rfl : args = #[v0, v1, v2] := by cases args; simp_all
  have fin : ∀ W', Below W.heap.size W W' → Rows.gateGathersSpec.post enc Tryd.prog Tryd.f5 false true false false W #[v0, v1, v2] (.bool true) W' := fun W' hb => by
    simp only [List.append_nil] at hA1 hW' hlt
    exact ⟨_, _, _, [], _, [], hW', trodAll_cons_mk (shut_bool Tryd.underlying4 _) trodAll_mk0, Fr.trodAll_below (by kernel_rfl) _ (by kernel_rfl) hA1 hb hlt, rfl, hb.frame _, fun h => by cases h⟩
  clear hW' hA0 hA1 hlt
  rw [Tryd.params5, List.append_nil] at hsz
  obtain ⟨ua0, ul0, uc0, rfl⟩ := okWide_slice Tryd.underlying22 (hval 0 22 v0 rfl rfl)
  obtain ⟨fu0, hf0⟩ := h0
  obtain ⟨xs0, hx0, hl0⟩ := Op.pgs_trod hf0
  obtain ⟨ua1, ul1, uc1, rfl⟩ := okWide_slice Tryd.underlying23 (hval 1 23 v1 rfl rfl)
  obtain ⟨fu1, hf1⟩ := h1
  obtain ⟨xs1, hx1, hl1, hp1⟩ := Op.parts_trod hf1
  obtain ⟨xt, xa, tags, ux, asOf, mq, rfl, hux, htl, hq0, hq1⟩ := Op.open_q38 (hval 2 28 v2 rfl rfl) h2
  refine (walk xs0 (.slice ua0 ul0 uc0) xs1 (.slice ua1 ul1 uc1) xt xa tags ux asOf mq W hr hx0 hl0 hx1 hl1 hp1 hux htl hq0 hq1).mono fun e W' ⟨he, hb⟩ => ?_
  subst he
  exact ⟨_, rfl, fin W' hb⟩

theorem laid_met (os : Os) : laidMet Tryd.prog Rows.gateGathersRow.laid ((Fr.laidWorld os).forCall (fun _ _ => 0) ⟨#[], #[.slice none 0 0, .slice none 0 0, .agg #[.int .i64 0, .string ⟨#[]⟩, .slice none 0 0, .int .i64 0, .int .u8 0]], []⟩).memory :=
  laidMet_of_run' 8 (by kernel_rfl) (by kernel_rfl)
theorem reads (os : Os) {H : Type} (enc : TypeId × Value → H) : ∃ places, DataW.whole enc Tryd.prog ((Fr.laidWorld os).forCall (fun _ _ => 0) ⟨#[], #[.slice none 0 0, .slice none 0 0, .agg #[.int .i64 0, .string ⟨#[]⟩, .slice none 0 0, .int .i64 0, .int .u8 0]], []⟩).memory Tryd.f5.params.toList Rows.gateGathersSpec.vars false (#[.slice none 0 0, .slice none 0 0, .agg #[.int .i64 0, .string ⟨#[]⟩, .slice none 0 0, .int .i64 0, .int .u8 0]] : Array Value).toList 8 = some ([.nil, .nil, .agg [.agg [.lit (.int .i64 0), .lit (.string []), .nil], .lit (.int .i64 0), .lit (.int .u8 0)]], [], places) :=
  ⟨[], by kernel_rfl⟩

theorem lifted (os : Os) (started : os.Started) (H : Type) (enc : TypeId × Value → H) (F : Stop.Interp) :
    ReturnsInHanded {} Tryd.checked os 5 .any ((OpenSpec.ofChange Rows.gateGathersSpec).preRow enc Tryd.prog Tryd.f5 Rows.gateGathersRow.domain false Rows.gateGathersRow.laid) (((OpenSpec.ofChange Rows.gateGathersSpec).at F).post enc Tryd.prog Tryd.f5 false true false false) := by
  obtain ⟨places, hx⟩ := reads os enc
  refine returnsInHanded_of_row (C := Tryd.checked) (s := OpenSpec.ofChange Rows.gateGathersSpec) Fr.own started (by kernel_rfl) Tryd.func5
    (witness_row_at (enc := enc) (C := Tryd.checked) false (Fr.laidWorld os) #[.slice none 0 0, .slice none 0 0, .agg #[.int .i64 0, .string ⟨#[]⟩, .slice none 0 0, .int .i64 0, .int .u8 0]] rfl (by kernel_rfl) (by kernel_rfl) (by kernel_rfl)
      (OpenSpec.preRow_of_cond 8 hx (by kernel_rfl) (fun k hk => by cases hk) (by kernel_rfl) (laid_met os))) ?_
  intro W base args ds gs before hval hW _ hcond hsz _ hsh _
  exact contract H enc W base args ds gs before hval hW (by have h9 : (DataW.weightsEach Tryd.prog (Tryd.f5.params.toList ++ []) (ds ++ gs)).all (· ≤ reachBytes) = true := hsz; rw [List.append_nil] at h9; exact h9) (Fr.ready hsh)

theorem k_0 : Rows.gateGathersRow.wf (OpenSpec.ofChange (OpenSpec.ofChange Rows.gateGathersSpec).bare) = true := by kernel_rfl
theorem k_1 : laidOutB Tryd.prog = true := Fr.sf_laidOut
theorem k_2 : mapsRowed Tryd.prog = true := Fr.sf_mapsRowed
theorem k_3 : Tryd.f5.params.all (Tryd.prog.readableRec ·) = true := by kernel_rfl
theorem k_4 : namedTie Tryd.prog Rows.gateGathersRow.named (OpenSpec.ofChange Rows.gateGathersSpec).bare.vars = true := by kernel_rfl
theorem k_5 : (Rows.gateGathersRow.stops == []) = true := by kernel_rfl
theorem k_6 : (Tryd.prog.stops == []) = true := Fr.sf_stops
theorem k_7 : (Rows.gateGathersRow.knobs == []) = true := by kernel_rfl
theorem k_8 : (Tryd.prog.stopKnobs == []) = true := Fr.sf_stopKnobs
theorem k_9 : (Rows.gateGathersRow.inPlace == Tryd.prog.inPlace 5) = true := by kernel_rfl
theorem k_10 : (Rows.gateGathersRow.unfollowed == Tryd.prog.unfollowed 5) = true := by kernel_rfl
theorem k_11 : (Rows.gateGathersRow.recurses == Tryd.prog.recurses 5) = true := by kernel_rfl
theorem k_12 : (Rows.gateGathersRow.named == Tryd.prog.varsNamed 5) = true := by kernel_rfl
theorem k_13 : (Rows.gateGathersRow.maps == (Tryd.f5.params.toList ++ (OpenSpec.ofChange Rows.gateGathersSpec).bare.plain.varTypes Tryd.prog).any (Tryd.prog.mapsRec ·)) = true := by kernel_rfl
theorem k_14 : (Rows.gateGathersRow.ifaces == (Tryd.f5.params.toList ++ (OpenSpec.ofChange Rows.gateGathersSpec).bare.plain.varTypes Tryd.prog).any (Tryd.prog.ifacesRec ·)) = true := by kernel_rfl
theorem k_15 : (Rows.gateGathersRow.mapsOut == Tryd.prog.mapsAmong Tryd.f5.resultTypes.toList) = true := by kernel_rfl
theorem k_16 : (Rows.gateGathersRow.loops == (Tryd.f5.params.toList ++ (OpenSpec.ofChange Rows.gateGathersSpec).bare.plain.varTypes Tryd.prog).any (Tryd.prog.loopsFrom ·)) = true := by kernel_rfl
theorem k_17 : (Rows.gateGathersRow.wideKeys == (Tryd.f5.params.toList ++ (OpenSpec.ofChange Rows.gateGathersSpec).bare.plain.varTypes Tryd.prog ++ Tryd.f5.resultTypes.toList).any (Tryd.prog.wideKeysFrom ·)) = true := by kernel_rfl
theorem k_18 : (OpenSpec.ofChange Rows.gateGathersSpec).bare.vars.all (Tryd.prog.varReadable ·) = true := by kernel_rfl
theorem k_19 : Tryd.f5.resultTypes.all (fun t => Tryd.prog.readableRec t && decide (t < Tryd.prog.types.size)) = true := by kernel_rfl
theorem k_20 : (Rows.gateGathersRow.ifacesOut == Tryd.f5.resultTypes.toList.any (Tryd.prog.ifacesRec ·)) = true := by kernel_rfl
theorem k_21 : (Rows.gateGathersRow.loopsOut == Tryd.f5.resultTypes.toList.any (Tryd.prog.loopsFrom ·)) = true := by kernel_rfl
theorem k_22 : (Rows.gateGathersRow.plainKeys == Tryd.prog.plainKeys) = true := Fr.sf_plainKeys
theorem k_23 : Rows.gateGathersRow.shortTexts.isNone = true := by kernel_rfl
theorem k_24 : Tryd.prog.stopsHeard = true := Fr.sf_heard
theorem k_25 : Tryd.prog.mayEnter = true := Fr.sf_mayEnter
theorem k_26 : (Rows.gateGathersRow.lifted == Tryd.prog.liftsFinal) = true := Fr.sf_lifted
theorem k_27 : (Tryd.prog.make == some Rows.gateGathersRow.make) = true := Fr.sf_make
theorem k_28 : (Rows.gateGathersRow.kinds == (if Rows.gateGathersRow.domain.isEmpty then [] else Tryd.f5.params.toList.map fun t => match Tryd.prog.underlying t with | some (.int k) => some k | _ => none)) = true := by kernel_rfl
theorem k_29 : (Rows.gateGathersRow.pinned == Rows.gateGathersRow.pinnedBy) = true := by kernel_rfl
theorem k_30 : (Rows.gateGathersRow.veiled == (Tryd.f5.params.toList ++ (OpenSpec.ofChange Rows.gateGathersSpec).bare.plain.varTypes Tryd.prog ++ Tryd.f5.resultTypes.toList).any (Tryd.prog.veiledRec ·)) = true := by kernel_rfl
theorem k_31 : Rows.gateGathersRow.veiledFits Tryd.prog Tryd.f5.params.toList (Tryd.f5.params.toList ++ (OpenSpec.ofChange Rows.gateGathersSpec).bare.plain.varTypes Tryd.prog ++ Tryd.f5.resultTypes.toList) = true := by kernel_rfl
theorem closed : joinedFacts Tryd.prog 5 Tryd.f5 (OpenSpec.ofChange Rows.gateGathersSpec).bare Rows.gateGathersRow = true := Op.andT (Op.andT (Op.andT (Op.andT (Op.andT (Op.andT (Op.andT (Op.andT (Op.andT (Op.andT (Op.andT (Op.andT (Op.andT (Op.andT (Op.andT (Op.andT (Op.andT (Op.andT (Op.andT (Op.andT (Op.andT (Op.andT (Op.andT (Op.andT (Op.andT (Op.andT (Op.andT (Op.andT (Op.andT (Op.andT (Op.andT (k_0) k_1) k_2) k_3) k_4) k_5) k_6) k_7) k_8) k_9) k_10) k_11) k_12) k_13) k_14) k_15) k_16) k_17) k_18) k_19) k_20) k_21) k_22) k_23) k_24) k_25) k_26) k_27) k_28) k_29) k_30) k_31

theorem said : Rows.GateGathersSaid :=
  OpenClaim.holds_of_cond 5 Tryd.f5 rfl rfl rfl rfl rfl rfl rfl ⟨rfl, rfl, rfl, rfl, rfl⟩ rfl rfl rfl rfl rfl (by kernel_rfl) Tryd.func5 closed
    (of_decide_eq_true (by kernel_rfl)) (by unfold Func.isWrapper; first | (rw [if_pos (by decide +kernel)]; kernel_rfl) | (rw [if_neg (by decide +kernel)]; exact ⟨rfl, rfl⟩))
    (fun os started H enc _ F => by rw [OpenClaim.pre_eq_preRow]; exact lifted os started H enc F)

theorem plain (b : Bool) (hb : b = Tryd.pinned.checked.prog.looks []) (f : FuncId) (fn : Func) (hf : Tryd.pinned.checked.prog.funcNamed "quayside/quaysidelaw38.GateGathers" = some f) (hfn : Tryd.pinned.checked.prog.funcs[f]? = some fn) :
    b = Tryd.pinned.checked.prog.looks [] ∧ ∀ (j : Nat) t, fn.params[j]? = some t → Tryd.pinned.checked.prog.wantsStandIn t = false := by
  obtain rfl : f = 5 := Option.some.inj ((show Tryd.prog.funcNamed "quayside/quaysidelaw38.GateGathers" = some 5 by kernel_rfl).symm.trans hf) |>.symm
  obtain rfl : fn = Tryd.f5 := (Option.some.inj (Tryd.func5.symm.trans hfn)).symm
  refine ⟨hb, fun j t ht => ?_⟩
  rw [Tryd.params5] at ht
  have hm : t ∈ [22, 23, 28] := by simpa using Array.mem_of_getElem? ht
  have hall : ([22, 23, 28].all fun u => !Tryd.prog.wantsStandIn u) = true := by kernel_rfl
  exact (show Tryd.prog.wantsStandIn t = false by simpa using List.all_eq_true.1 hall t hm)

theorem proved : Rows.GateGathersCardSaid :=
  Claim7.holds_tied_plain_at .later [] _ _ _ _ said (fun _ h => by cases h) (by kernel_rfl) (fun _ h => by cases h) gateGathers_row_tie rfl ⟨rfl, rfl⟩ (by kernel_rfl) rfl (plain _ (by kernel_rfl)) (by kernel_rfl)
#print axioms proved
end Go.Proofs.YtnppicekfjdefaaDoor.lawGateGathers
