/- PROVED: PurgelogCopies returns true for every input and leaves its arguments as they were. No condition beyond the statement's own (the listed variables read as the program's text lays them, which the card ties). -/
import Derived.Test.YtijjggbiljkalaaDoorFrame
import Derived.Test.YtijjggbiljkalaaDoorClosed
import Derived.Test.YtijjggbiljkalaaDoorPlogI
import Derived.Test.YtijjggbiljkalaaDoorActs
namespace Go.Proofs.YtijjggbiljkalaaDoor.lawPurgelogCopies
open Go.ChangeShapes Go.WideShapes Go.ChangeAt Go.RowKit Pl Ad A1
open Go.ChangeMaps (open_string shut_string)
attribute [local go_sem] ba_get conv_one conv_one_drewN ba_append ba_extract
set_option maxRecDepth 100000
set_option maxHeartbeats 4000000
set_option linter.unusedVariables false


theorem LogAt.other {w w' : World} {B B' R R' : Nat} {v v' V : Value} {L L' : LogM} (h : LogAt w B R' V L) (hl : LogAt w B' R v L') (h1 : R' ≠ R) (h2 : ∀ q, V.ownBlock = some q → ¬ v.ownBlock = some q) (hg : Goes w w' R v v') : LogAt w' B R' V L :=
  ⟨h.hR, (hg.touch.block R' h.box.facts.2.2 (fun hs => by
      rcases hs with hs | hs
      · exact h1 hs
      · exact own_neT h.box hl.own (by decide) R' hs rfl)).trans h.box,
    h.own.touch hg.touch fun q hq hs => by
      rcases hs with hs | hs
      · exact own_neT hl.box h.own (by decide) q hq hs
      · exact h2 q hq hs⟩
theorem box3_at {n : Nat} (w : World) (T : Nat) (a b c : Value) (h : n = w.heap.size) : Box3 (w.alloc (.cells #[a, b, c] T)).drew n T a b c := by subst h; exact box3_new w T a b c
/-- Two logs that go their own ways, and the argument's variable. -/
structure Bag (w wx : World) (R R2 : Nat) (v V : Value) (L L2 : LogM) : Prop where
  one : Run w wx R v L
  two : Run w wx R2 V L2
  ne : R2 ≠ R
  own : ∀ q, V.ownBlock = some q → ¬ v.ownBlock = some q
theorem Bag.older {w wx w' : World} {R R2 : Nat} {v V : Value} {L L2 : LogM} (h : Bag w wx R R2 v V L L2) (hb : Below wx.heap.size wx w') : Bag w w' R R2 v V L L2 := ⟨h.one.older hb, h.two.older hb, h.ne, h.own⟩
theorem bag_copy {w wx w' : World} {R R2 : Nat} {v V : Value} {L : LogM} (h : Run w wx R v L) (hc : LogAt w' wx.heap.size R2 V L) (hb : Below wx.heap.size wx w') : Bag w w' R R2 v V L L := by
  have h1 := h.log.box.facts.2.2
  have h2 := hc.hR
  exact ⟨h.older hb, ⟨h.bel.trans (hb.mono h.bel.size), ⟨Nat.le_trans h.bel.size hc.hR, hc.box, hc.own.mono fun q hq => Nat.le_trans h.bel.size (hc.own.lt q hq).1⟩, h.ok⟩, by omega, fun q hq hv => by have := (hc.own.lt q hq).1; have := (h.log.own.lt q hv).2; omega⟩
theorem Bag.symm {w wx : World} {R R2 : Nat} {v V : Value} {L L2 : LogM} (h : Bag w wx R R2 v V L L2) : Bag w wx R2 R V v L2 L := ⟨h.two, h.one, fun e => h.ne e.symm, fun q hq hv => h.own q hv hq⟩
theorem Bag.goes {w wx w' : World} {R R2 : Nat} {v v' V : Value} {L L' L2 : LogM} (h : Bag w wx R R2 v V L L2) (hr : Run w w' R v' L') (hg : Goes wx w' R v v') : Bag w w' R R2 v' V L' L2 :=
  ⟨hr, ⟨hr.bel, LogAt.other h.two.log h.one.log h.ne h.own hg, h.two.ok⟩, h.ne, fun q hq hv => by
    rcases hg.lies q hv with h1 | h1
    · exact h.own q hq h1
    · have := (h.two.log.own.lt q hq).2; omega⟩
/-- The reference's log in a variable. -/
structure RefBox (w wx : World) (g : Nat) (u : Value) (L : LogM) : Prop where
  ref : RefOwn wx w.heap.size u L
  box : Box3 wx g 51 u (.int .i64 L.dropped) (.int .i64 L.win)
theorem RefBox.older {w wx w' : World} {g : Nat} {u : Value} {L : LogM} (h : RefBox w wx g u L) (hb : Below wx.heap.size wx w') : RefBox w w' g u L := ⟨h.ref.older hb, h.box.older hb⟩
theorem RefBox.goes {w wx w' : World} {g R B : Nat} {u v v' : Value} {L L' : LogM} (h : RefBox w wx g u L) (hl : LogAt wx B R v L') (hg : Goes wx w' R v v') : RefBox w w' g u L :=
  ⟨h.ref.goes hl hg, h.box.goes hg (box_ne h.box hl.box (by decide)) (fun e => own_neT h.box hl.own (by decide) g e rfl)⟩
theorem RefBox.new {w wx : World} {u : Value} {L : LogM} (h : RefOwn wx w.heap.size u L) : RefBox w (wx.alloc (.cells #[u, .int .i64 L.dropped, .int .i64 L.win] 51)) wx.heap.size u L := ⟨h.older ((Below.refl _ _).alloc (Nat.le_refl _) _), box3_new _ _ _ _ _⟩
theorem arg_goes {wx w' : World} {g R B : Nat} {z0 z1 z2 v v' : Value} {L' : LogM} (h : Box3 wx g 56 z0 z1 z2) (hl : LogAt wx B R v L') (hg : Goes wx w' R v v') : Box3 w' g 56 z0 z1 z2 :=
  h.goes hg (box_ne h hl.box (by decide)) (fun e => own_neT h hl.own (by decide) g e rfl)
/-- Behind the first acts. -/
structure First (w wx : World) (R g : Nat) (v u : Value) (L : LogM) (z0 z1 z2 : Value) : Prop where
  run : Run w wx R v L
  ref : RefBox w wx g u L
  arg : Box3 wx w.heap.size 56 z0 z1 z2
theorem first_new {w w3 : World} {R : Nat} {v u z0 z1 z2 : Value} {L : LogM} (hr : Run w w3 R v L) (hu : RefOwn w3 w.heap.size u L) (ha : Box3 w3 w.heap.size 56 z0 z1 z2) :
    First w (w3.alloc (.cells #[u, .int .i64 L.dropped, .int .i64 L.win] 51)) R w3.heap.size v u L z0 z1 z2 := ⟨hr.older ((Below.refl _ _).alloc (Nat.le_refl _) _), RefBox.new hu, ha.alloc _⟩
theorem first_store {w w3 : World} {R g : Nat} {v u z0 z1 z2 a b c : Value} {L : LogM} (hr : Run w w3 R v L) (hu : RefOwn w3 w.heap.size u L) (ha : Box3 w3 w.heap.size 56 z0 z1 z2) (hb : Box3 w3 g 51 a b c) (hg : w.heap.size ≤ g) :
    First w (((w3.setCell ⟨g, 0, none⟩ u).setCell ⟨g, 1, none⟩ (.int .i64 L.dropped)).setCell ⟨g, 2, none⟩ (.int .i64 L.win)) R g v u L z0 z1 z2 := by
  have ht := touch_set3 w3 g u (.int .i64 L.dropped) (.int .i64 L.win)
  exact ⟨⟨((hr.bel.setCell (p := ⟨g, 0, none⟩) hg _).setCell (p := ⟨g, 1, none⟩) hg _).setCell (p := ⟨g, 2, none⟩) hg _, hr.log.touch hb (by decide) (by decide) ht, hr.ok⟩,
    ⟨OwnWin.touch hu ht (fun q hq hs => own_neT hb hu (by decide) q hq hs), box3_set hb _ _ _⟩, box3_touch ha ht (box_ne ha hb (by decide))⟩

theorem walk_b0 (m : Int) (p0 p1 p2 : Option Addr) (q0 q1 q2 : Nat) (a0 a1 a2 : List LAct) (w : World) (hr : Ready w) (hv0 : RowsV actC 5 w (.slice p0 a0.length q0) a0) (hv1 : RowsV actC 5 w (.slice p1 a1.length q1) a1) (hv2 : RowsV actC 5 w (.slice p2 a2.length q2) a2) (hl0 : a0.length ≤ 9223372036854775807) (hl1 : a1.length ≤ 9223372036854775807) (hl2 : a2.length ≤ 9223372036854775807) (hf0 : fitsA a0 = false) :
    Calls Tryd.prog 6 #[.int .u8 m, .agg #[(.slice p0 a0.length q0), (.slice p1 a1.length q1), (.slice p2 a2.length q2)]] w fun e w' => e = .returned (.bool true) ∧ Below w.heap.size w w' := by
  have HX := Lib.hid (box3_new w 56 (.slice p0 a0.length q0) (.slice p1 a1.length q1) (.slice p2 a2.length q2))
  have HB0 := Lib.hid ((Below.refl w.heap.size w).alloc (Nat.le_refl _) (.cells #[(.slice p0 a0.length q0), (.slice p1 a1.length q1), (.slice p2 a2.length q2)] 56))
  have HV0 := Lib.hid hv0
  have HV1 := Lib.hid hv1
  have HV2 := Lib.hid hv2
  have HRY := Lib.hid hr
  have HF0 := Lib.hid hf0
  clear hf0
  clear hv0 hv1 hv2
  go_enter Tryd.func6, Tryd.ntmps6
  go_wp2_with fail
  refine (awake37_any _ (HRY.out.below HB0.out)).mono ?_
  rintro e w1 ⟨rfl, hb1⟩
  have HX1 := Lib.hid (HX.out.older hb1)
  have HB1 := Lib.hid (HB0.out.trans (hb1.mono HB0.out.size))
  obtain ⟨⟨d0, d1, d2⟩, _, hz1⟩ := HX1.out.facts
  clear hb1
  go_wp2_with (first | (go_at_call 19; with_reducible refine (fits37_any (.slice p0 a0.length q0) a0 _ (HV0.out.below HB1.out) hl0).mono ?_; rw [HF0.out]; rintro e w2 ⟨rfl, rfl⟩) | (go_at_call 14; refine (awake37_any _ (HRY.out.below HB1.out)).mono ?_; rintro e w3 ⟨rfl, hb3⟩))
  go_ret
  exact ⟨rfl, HB1.out.trans (hb3.mono HB1.out.size)⟩
theorem walk_b1 (m : Int) (p0 p1 p2 : Option Addr) (q0 q1 q2 : Nat) (a0 a1 a2 : List LAct) (w : World) (hr : Ready w) (hv0 : RowsV actC 5 w (.slice p0 a0.length q0) a0) (hv1 : RowsV actC 5 w (.slice p1 a1.length q1) a1) (hv2 : RowsV actC 5 w (.slice p2 a2.length q2) a2) (hl0 : a0.length ≤ 9223372036854775807) (hl1 : a1.length ≤ 9223372036854775807) (hl2 : a2.length ≤ 9223372036854775807) (hf0 : fitsA a0 = true) (hf1 : fitsA a1 = false) :
    Calls Tryd.prog 6 #[.int .u8 m, .agg #[(.slice p0 a0.length q0), (.slice p1 a1.length q1), (.slice p2 a2.length q2)]] w fun e w' => e = .returned (.bool true) ∧ Below w.heap.size w w' := by
  have HX := Lib.hid (box3_new w 56 (.slice p0 a0.length q0) (.slice p1 a1.length q1) (.slice p2 a2.length q2))
  have HB0 := Lib.hid ((Below.refl w.heap.size w).alloc (Nat.le_refl _) (.cells #[(.slice p0 a0.length q0), (.slice p1 a1.length q1), (.slice p2 a2.length q2)] 56))
  have HV0 := Lib.hid hv0
  have HV1 := Lib.hid hv1
  have HV2 := Lib.hid hv2
  have HRY := Lib.hid hr
  have HF0 := Lib.hid hf0
  clear hf0
  have HF1 := Lib.hid hf1
  clear hf1
  clear hv0 hv1 hv2
  go_enter Tryd.func6, Tryd.ntmps6
  go_wp2_with fail
  refine (awake37_any _ (HRY.out.below HB0.out)).mono ?_
  rintro e w1 ⟨rfl, hb1⟩
  have HX1 := Lib.hid (HX.out.older hb1)
  have HB1 := Lib.hid (HB0.out.trans (hb1.mono HB0.out.size))
  obtain ⟨⟨d0, d1, d2⟩, _, hz1⟩ := HX1.out.facts
  clear hb1
  go_wp2_with (first | (go_at_call 19; with_reducible refine (fits37_any (.slice p0 a0.length q0) a0 _ (HV0.out.below HB1.out) hl0).mono ?_; rw [HF0.out]; rintro e w2 ⟨rfl, rfl⟩) | (go_at_call 19; with_reducible refine (fits37_any (.slice p1 a1.length q1) a1 _ (HV1.out.below HB1.out) hl1).mono ?_; rw [HF1.out]; rintro e w2 ⟨rfl, rfl⟩) | (go_at_call 14; refine (awake37_any _ (HRY.out.below HB1.out)).mono ?_; rintro e w3 ⟨rfl, hb3⟩))
  go_ret
  exact ⟨rfl, HB1.out.trans (hb3.mono HB1.out.size)⟩
theorem walk_b2 (m : Int) (p0 p1 p2 : Option Addr) (q0 q1 q2 : Nat) (a0 a1 a2 : List LAct) (w : World) (hr : Ready w) (hv0 : RowsV actC 5 w (.slice p0 a0.length q0) a0) (hv1 : RowsV actC 5 w (.slice p1 a1.length q1) a1) (hv2 : RowsV actC 5 w (.slice p2 a2.length q2) a2) (hl0 : a0.length ≤ 9223372036854775807) (hl1 : a1.length ≤ 9223372036854775807) (hl2 : a2.length ≤ 9223372036854775807) (hf0 : fitsA a0 = true) (hf1 : fitsA a1 = true) (hf2 : fitsA a2 = false) :
    Calls Tryd.prog 6 #[.int .u8 m, .agg #[(.slice p0 a0.length q0), (.slice p1 a1.length q1), (.slice p2 a2.length q2)]] w fun e w' => e = .returned (.bool true) ∧ Below w.heap.size w w' := by
  have HX := Lib.hid (box3_new w 56 (.slice p0 a0.length q0) (.slice p1 a1.length q1) (.slice p2 a2.length q2))
  have HB0 := Lib.hid ((Below.refl w.heap.size w).alloc (Nat.le_refl _) (.cells #[(.slice p0 a0.length q0), (.slice p1 a1.length q1), (.slice p2 a2.length q2)] 56))
  have HV0 := Lib.hid hv0
  have HV1 := Lib.hid hv1
  have HV2 := Lib.hid hv2
  have HRY := Lib.hid hr
  have HF0 := Lib.hid hf0
  clear hf0
  have HF1 := Lib.hid hf1
  clear hf1
  have HF2 := Lib.hid hf2
  clear hf2
  clear hv0 hv1 hv2
  go_enter Tryd.func6, Tryd.ntmps6
  go_wp2_with fail
  refine (awake37_any _ (HRY.out.below HB0.out)).mono ?_
  rintro e w1 ⟨rfl, hb1⟩
  have HX1 := Lib.hid (HX.out.older hb1)
  have HB1 := Lib.hid (HB0.out.trans (hb1.mono HB0.out.size))
  obtain ⟨⟨d0, d1, d2⟩, _, hz1⟩ := HX1.out.facts
  clear hb1
  go_wp2_with (first | (go_at_call 19; with_reducible refine (fits37_any (.slice p0 a0.length q0) a0 _ (HV0.out.below HB1.out) hl0).mono ?_; rw [HF0.out]; rintro e w2 ⟨rfl, rfl⟩) | (go_at_call 19; with_reducible refine (fits37_any (.slice p1 a1.length q1) a1 _ (HV1.out.below HB1.out) hl1).mono ?_; rw [HF1.out]; rintro e w2 ⟨rfl, rfl⟩) | (go_at_call 19; with_reducible refine (fits37_any (.slice p2 a2.length q2) a2 _ (HV2.out.below HB1.out) hl2).mono ?_; rw [HF2.out]; rintro e w2 ⟨rfl, rfl⟩) | (go_at_call 14; refine (awake37_any _ (HRY.out.below HB1.out)).mono ?_; rintro e w3 ⟨rfl, hb3⟩))
  go_ret
  exact ⟨rfl, HB1.out.trans (hb3.mono HB1.out.size)⟩
theorem walk_ok (m : Int) (p0 p1 p2 : Option Addr) (q0 q1 q2 : Nat) (a0 a1 a2 : List LAct) (w : World) (hr : Ready w) (hv0 : RowsV actC 5 w (.slice p0 a0.length q0) a0) (hv1 : RowsV actC 5 w (.slice p1 a1.length q1) a1) (hv2 : RowsV actC 5 w (.slice p2 a2.length q2) a2) (hl0 : a0.length ≤ 9223372036854775807) (hl1 : a1.length ≤ 9223372036854775807) (hl2 : a2.length ≤ 9223372036854775807) (h0 : 0 ≤ m) (h255 : m < 256) (hf0 : fitsA a0 = true) (hf1 : fitsA a1 = true) (hf2 : fitsA a2 = true) :
    Calls Tryd.prog 6 #[.int .u8 m, .agg #[(.slice p0 a0.length q0), (.slice p1 a1.length q1), (.slice p2 a2.length q2)]] w fun e w' => e = .returned (.bool true) ∧ Below w.heap.size w w' := by
  have HX := Lib.hid (box3_new w 56 (.slice p0 a0.length q0) (.slice p1 a1.length q1) (.slice p2 a2.length q2))
  have HB0 := Lib.hid ((Below.refl w.heap.size w).alloc (Nat.le_refl _) (.cells #[(.slice p0 a0.length q0), (.slice p1 a1.length q1), (.slice p2 a2.length q2)] 56))
  have HV0 := Lib.hid hv0
  have HV1 := Lib.hid hv1
  have HV2 := Lib.hid hv2
  have HRY := Lib.hid hr
  have HF0 := Lib.hid hf0
  have hn0 := (fitsA_true hf0).2
  have HA0 := Lib.hid (fitsA_true hf0).1
  clear hf0
  have HF1 := Lib.hid hf1
  have hn1 := (fitsA_true hf1).2
  have HA1 := Lib.hid (fitsA_true hf1).1
  clear hf1
  have HF2 := Lib.hid hf2
  have hn2 := (fitsA_true hf2).2
  have HA2 := Lib.hid (fitsA_true hf2).1
  clear hf2
  obtain ⟨k, hk⟩ : ∃ k : Nat, 1 + m % 24 = (k : Int) := ⟨(1 + m % 24).toNat, by omega⟩
  have hk1 : 1 ≤ k := by omega
  have hk2 : k ≤ 24 := by omega
  have HK := Lib.hid hk
  obtain ⟨L1, hL1⟩ : ∃ L1, (LogM.start k).play a0 = L1 := ⟨_, rfl⟩
  have hlen1 := play_len (LogM.start k) a0 a0.length
  rw [List.take_of_length_le (Nat.le_refl _), show (LogM.start k).all.length = 0 from rfl, hL1] at hlen1
  have HL1 := Lib.hid hL1
  obtain ⟨LA, hLA⟩ : ∃ LA, L1.play a1 = LA := ⟨_, rfl⟩
  have hlenA := play_len L1 a1 a1.length
  rw [List.take_of_length_le (Nat.le_refl _), hLA] at hlenA
  have HLA := Lib.hid hLA
  obtain ⟨LB, hLB⟩ : ∃ LB, L1.play a2 = LB := ⟨_, rfl⟩
  have hlenB := play_len L1 a2 a2.length
  rw [List.take_of_length_le (Nat.le_refl _), hLB] at hlenB
  have HLB := Lib.hid hLB
  clear hk hL1 hLA hLB
  clear hv0 hv1 hv2
  go_enter Tryd.func6, Tryd.ntmps6
  go_wp2_with fail
  refine (awake37_any _ (HRY.out.below HB0.out)).mono ?_
  rintro e w1 ⟨rfl, hb1⟩
  have HX1 := Lib.hid (HX.out.older hb1)
  have HB1 := Lib.hid (HB0.out.trans (hb1.mono HB0.out.size))
  obtain ⟨⟨d0, d1, d2⟩, _, hz1⟩ := HX1.out.facts
  clear hb1
  go_wp2_with (first | (go_at_call 19; with_reducible refine (fits37_any (.slice p0 a0.length q0) a0 _ (HV0.out.below HB1.out) hl0).mono ?_; rw [HF0.out]; rintro e w2 ⟨rfl, rfl⟩) | (go_at_call 19; with_reducible refine (fits37_any (.slice p1 a1.length q1) a1 _ (HV1.out.below HB1.out) hl1).mono ?_; rw [HF1.out]; rintro e w2 ⟨rfl, rfl⟩) | (go_at_call 19; with_reducible refine (fits37_any (.slice p2 a2.length q2) a2 _ (HV2.out.below HB1.out) hl2).mono ?_; rw [HF2.out]; rintro e w2 ⟨rfl, rfl⟩) | (go_at_call 20; refine (window37_any m _ h0 h255).mono ?_; rw [HK.out]; rintro e w2 ⟨rfl, rfl⟩))
  refine (plogNew_ok k _ (by omega) (by omega)).mono ?_
  rintro e w2 ⟨rfl, rfl⟩
  have HR := Lib.hid (show Run w _ w1.heap.size (.slice none 0 0) (.start k) from ⟨HB1.out.alloc HB1.out.size _, logAt_new w1 k w.heap.size HB1.out.size, LogM.ok_start hk1 (by omega)⟩)
  have HX2 := Lib.hid (HX1.out.alloc (.cells #[.int .i64 k, .int .i64 1, .slice none 0 0] 100))
  go_wp2_with fail
  go_cut [7, 8] (fun s7 s8 wx => ∃ (g : Nat) (v1 : Value) (a : Option Addr) (c : Nat), s7 = ptrV g ∧ s8 = .bool true ∧ First w wx w1.heap.size g v1 (.slice a L1.all.length c) L1 (.slice p0 a0.length q0) (.slice p1 a1.length q1) (.slice p2 a2.length q2))
  case first =>
    go_region_held3 (fun w' => w'.cell? ⟨w.heap.size, 0, none⟩ = some (.slice p0 a0.length q0)) (first | go_keep | exact x0 | exact cell_set3 x0 (by omega) _ _ _)
      ((first | (go_at_call 20; refine (window37_any m _ h0 h255).mono ?_; rw [HK.out]; rintro e w2 ⟨rfl, rfl⟩) | (go_at_call 26; refine (play_any w _ w1.heap.size (.slice none 0 0) (.slice p0 a0.length q0) (.slice none 0 0) (LogM.start k) a0 ((HR.out.older ((Below.refl _ _).alloc (Nat.le_refl _) _)).older (Below.refl _ _).drew) (OwnWin.nil _ _ _ _) HRY.out HV0.out HA0.out (by show 0 + a0.length ≤ 1000000; omega)).mono ?_; rw [HL1.out]; rintro e w3 ⟨v3, u3, rfl, hr3, hu3, hg3⟩; obtain ⟨ua, uc, rfl, _⟩ := OwnWin.form hu3; have hA3 : Box3 w3 w.heap.size 56 (.slice p0 a0.length q0) (.slice p1 a1.length q1) (.slice p2 a2.length q2) := Box3.goes (HX2.out.alloc _).drew hg3 (by omega) (by simp [Value.ownBlock]); obtain ⟨⟨x0, x1, x2⟩, _, _⟩ := hA3.facts; have hX3 : Box3 w3 (w1.heap.size + 1) 51 (.slice none 0 0) (.int .i64 0) (.int .i64 0) := Box3.goes (box3_at _ 51 (.slice none 0 0) (.int .i64 0) (.int .i64 0) (by simp)) hg3 (by omega) (by simp [Value.ownBlock]); obtain ⟨⟨i0, i1, i2⟩, ⟨l0, l1, l2⟩, hz4⟩ := hX3.facts) | (go_at_call 26; refine (play_any w _ w1.heap.size (.slice none 0 0) (.slice p0 a0.length q0) (.slice none 0 0) (LogM.start k) a0 (HR.out.older (Below.refl _ _).drew) (OwnWin.nil _ _ _ _) HRY.out HV0.out HA0.out (by show 0 + a0.length ≤ 1000000; omega)).mono ?_; rw [HL1.out]; rintro e w3 ⟨v3, u3, rfl, hr3, hu3, hg3⟩; obtain ⟨ua, uc, rfl, _⟩ := OwnWin.form hu3; have hA3 : Box3 w3 w.heap.size 56 (.slice p0 a0.length q0) (.slice p1 a1.length q1) (.slice p2 a2.length q2) := Box3.goes HX2.out.drew hg3 (by omega) (by simp [Value.ownBlock]); obtain ⟨⟨x0, x1, x2⟩, _, _⟩ := hA3.facts)))
    all_goals
      go_wp2
      go_meet
      first
        | exact ⟨_, v3, ua, uc, rfl, rfl, first_new hr3 hu3 hA3⟩
        | exact ⟨_, v3, ua, uc, rfl, rfl, first_store hr3 hu3 hA3 hX3 (by omega)⟩
  case rest =>
    obtain ⟨g, v1, ua, uc, rfl, rfl, s⟩ := hcut
    have HS1 := Lib.hid s
    clear s
    go_wp2_with fail
    refine (plogCopy_any w.heap.size _ v1 L1 _ HS1.out.run.log (by omega)).mono ?_
    rintro e w4 ⟨R2, V2, rfl, hc4, hb4⟩
    have HBag := Lib.hid (bag_copy HS1.out.run hc4 hb4)
    have HRB := Lib.hid (HS1.out.ref.older hb4)
    have HAR := Lib.hid (HS1.out.arg.older hb4)
    obtain ⟨⟨c0, c1, c2⟩, _⟩ := HRB.out.box.facts
    obtain ⟨⟨d0, d1, d2⟩, _⟩ := HAR.out.facts
    clear hc4 hb4
    go_wp2_with fail
    refine (play_any w _ w1.heap.size v1 (.slice p1 a1.length q1) (.slice ua L1.all.length uc) L1 a1 HBag.out.one HRB.out.ref HRY.out HV1.out HA1.out (by omega)).mono ?_
    rw [HLA.out]
    rintro e w5 ⟨v5, u5, rfl, hr5, hu5, hg5⟩
    obtain ⟨xa, xc, rfl, _⟩ := OwnWin.form hu5
    have hb5 := (Below.refl w5.heap.size w5).alloc (Nat.le_refl _) (.cells #[.slice xa LA.all.length xc, .int .i64 LA.dropped, .int .i64 LA.win] 51)
    have HBag5 := Lib.hid ((HBag.out.goes hr5 hg5).older hb5)
    have HRB5 := Lib.hid ((HRB.out.goes HBag.out.one.log hg5).older hb5)
    have HRA5 := Lib.hid (RefBox.new hu5)
    have HAR5 := Lib.hid ((arg_goes HAR.out HBag.out.one.log hg5).older hb5)
    obtain ⟨⟨c0, c1, c2⟩, _⟩ := HRB5.out.box.facts
    obtain ⟨⟨d0, d1, d2⟩, _⟩ := HAR5.out.facts
    clear hr5 hu5 hg5 hb5
    go_wp2_with fail
    refine (play_any w _ R2 V2 (.slice p2 a2.length q2) (.slice ua L1.all.length uc) L1 a2 HBag5.out.two HRB5.out.ref HRY.out HV2.out HA2.out (by omega)).mono ?_
    rw [HLB.out]
    rintro e w6 ⟨v6, u6, rfl, hr6, hu6, hg6⟩
    obtain ⟨ya, yc, rfl, _⟩ := OwnWin.form hu6
    have hb6 := (Below.refl w6.heap.size w6).alloc (Nat.le_refl _) (.cells #[.slice ya LB.all.length yc, .int .i64 LB.dropped, .int .i64 LB.win] 51)
    have HBag6 := Lib.hid (((HBag5.out.symm.goes hr6 hg6).symm).older hb6)
    have HRA6 := Lib.hid ((HRA5.out.goes HBag5.out.two.log hg6).older hb6)
    have HRB6 := Lib.hid (RefBox.new hu6)
    obtain ⟨⟨c0, c1, c2⟩, _⟩ := HRA6.out.box.facts
    clear hr6 hu6 hg6 hb6
    go_wp2_with fail
    refine (is_any _ w.heap.size w.heap.size w1.heap.size v5 _ LA 0 HBag6.out.one.log HRA6.out.ref HBag6.out.one.ok (by omega)).mono ?_
    rintro e w7 ⟨rfl, hb7⟩
    have HBag7 := Lib.hid (HBag6.out.older hb7)
    have HRB7 := Lib.hid (HRB6.out.older hb7)
    obtain ⟨⟨c0, c1, c2⟩, _⟩ := HRB7.out.box.facts
    clear hb7
    go_wp2_with fail
    refine (is_any _ w.heap.size w.heap.size R2 v6 _ LB 0 HBag7.out.two.log HRB7.out.ref HBag7.out.two.ok (by omega)).mono ?_
    rintro e w8 ⟨rfl, hb8⟩
    have HE := Lib.hid (HBag7.out.older hb8)
    clear hb8
    go_wp2_with fail
    go_ret
    exact ⟨rfl, HE.out.one.bel⟩
theorem walk (m : Int) (v0 v1 v2 : Value) (a0 a1 a2 : List LAct) (w : World) (hr : Ready w) (hm : 0 ≤ m ∧ m < 256) (hv0 : RowsV actC 5 w v0 a0) (hv1 : RowsV actC 5 w v1 a1) (hv2 : RowsV actC 5 w v2 a2) (hl0 : a0.length ≤ 9223372036854775807) (hl1 : a1.length ≤ 9223372036854775807) (hl2 : a2.length ≤ 9223372036854775807) :
    Calls Tryd.prog 6 #[.int .u8 m, .agg #[v0, v1, v2]] w fun e w' => e = .returned (.bool true) ∧ Below w.heap.size w w' := by
  obtain ⟨p0, q0, rfl, _⟩ := hv0.form
  obtain ⟨p1, q1, rfl, _⟩ := hv1.form
  obtain ⟨p2, q2, rfl, _⟩ := hv2.form
  cases hf0 : fitsA a0 with
  | false => exact walk_b0 m p0 p1 p2 q0 q1 q2 a0 a1 a2 w hr hv0 hv1 hv2 hl0 hl1 hl2 hf0
  | true =>
    cases hf1 : fitsA a1 with
    | false => exact walk_b1 m p0 p1 p2 q0 q1 q2 a0 a1 a2 w hr hv0 hv1 hv2 hl0 hl1 hl2 hf0 hf1
    | true =>
      cases hf2 : fitsA a2 with
      | false => exact walk_b2 m p0 p1 p2 q0 q1 q2 a0 a1 a2 w hr hv0 hv1 hv2 hl0 hl1 hl2 hf0 hf1 hf2
      | true => exact walk_ok m p0 p1 p2 q0 q1 q2 a0 a1 a2 w hr hv0 hv1 hv2 hl0 hl1 hl2 hm.1 hm.2 hf0 hf1 hf2

/-- What the walk gives, for every argument. -/
theorem contract (H : Type) (enc : TypeId × Value → H) (W : World) (base : Nat) (args : Array Value) (ds gs : List (DataW H)) (before : List MemPlace)
    (hval : ∀ (j : Nat) t v, Tryd.f6.params[j]? = some t → args[j]? = some v → Value.okWide Tryd.prog W .any base t v)
    (hW : DataW.Whole enc Tryd.prog Tryd.f6.params.toList Rows.purgelogCopiesSpec.vars false W args.toList ds gs before) (hsz : (DataW.weightsEach Tryd.prog Tryd.f6.params.toList (ds ++ gs)).all (· ≤ reachBytes) = true) (hr : Ready W) :
    Calls Tryd.prog 6 args W fun e W' => ∃ v, e = .returned v ∧ Rows.purgelogCopiesSpec.post enc Tryd.prog Tryd.f6 false true false false W args v W' := by
  have hW' := hW
  have hlt := fun p hp => hW.lt p hp
  obtain ⟨p, q, hA0, hV, rfl, hfz, hnd⟩ := hW
  have hA : DataW.TrodAll enc Tryd.prog W 0 (fun _ => true) true Tryd.f6.params.toList args.toList ds p := hA0
  have hA1 := hA
  obtain ⟨rfl, rfl⟩ := trodVars_none hV
  rw [Tryd.params6] at hA hval
  obtain ⟨v0, vs0, d0, ds0, p0, q0, hargs, rfl, rfl, h0, r0⟩ := trodAll_cons hA
  obtain ⟨v1, vs1, d1, ds1, p1, q1, rfl, rfl, rfl, h1, r1⟩ := trodAll_cons r0
  obtain ⟨rfl, rfl, rfl⟩ := trodAll_nil r1
  obtain rfl : args = #[v0, v1] := by cases args; simp_all
  have fin : ∀ W', Below W.heap.size W W' → Rows.purgelogCopiesSpec.post enc Tryd.prog Tryd.f6 false true false false W #[v0, v1] (.bool true) W' := fun W' hb => by
    simp only [List.append_nil] at hA1 hW' hlt
    exact ⟨_, _, _, [], _, [], hW', trodAll_cons_mk (shut_bool Tryd.underlying4 _) trodAll_mk0, Fr.trodAll_below (by kernel_rfl) _ (by kernel_rfl) hA1 hb hlt, rfl, hb.frame _, fun h => by cases h⟩
  clear hW' hA0 hA1 hlt
  rw [Tryd.params6, List.append_nil] at hsz
  obtain ⟨n0, rfl, rfl, rfl, wf0⟩ := open_int Tryd.underlying5 (hval 0 5 v0 rfl rfl) h0
  have m0 := Op.u8_range wf0
  obtain ⟨vv0, vv1, vv2, xs0, xs1, xs2, rfl, hx0, hx1, hx2⟩ := Op.open_acts3 (hval 1 56 v1 rfl rfl) h1
  refine (walk n0 vv0 vv1 vv2 xs0 xs1 xs2 W hr m0 hx0.1 hx1.1 hx2.1 hx0.2 hx1.2 hx2.2).mono fun e W' ⟨he, hb⟩ => ?_
  subst he
  exact ⟨_, rfl, fin W' hb⟩

theorem laid_met (os : Os) : laidMet Tryd.prog Rows.purgelogCopiesRow.laid ((Fr.laidWorld os).forCall (fun _ _ => 0) ⟨#[], #[.int .u8 0, .agg #[.slice none 0 0, .slice none 0 0, .slice none 0 0]], []⟩).memory :=
  laidMet_of_run' 8 (by kernel_rfl) (by kernel_rfl)
theorem reads (os : Os) {H : Type} (enc : TypeId × Value → H) : ∃ places, DataW.whole enc Tryd.prog ((Fr.laidWorld os).forCall (fun _ _ => 0) ⟨#[], #[.int .u8 0, .agg #[.slice none 0 0, .slice none 0 0, .slice none 0 0]], []⟩).memory Tryd.f6.params.toList Rows.purgelogCopiesSpec.vars false (#[.int .u8 0, .agg #[.slice none 0 0, .slice none 0 0, .slice none 0 0]] : Array Value).toList 8 = some ([.lit (.int .u8 0), .agg [.nil, .nil, .nil]], [], places) :=
  ⟨[], by kernel_rfl⟩

theorem lifted (os : Os) (started : os.Started) (H : Type) (enc : TypeId × Value → H) (F : Stop.Interp) :
    ReturnsInHanded {} Tryd.checked os 6 .any ((OpenSpec.ofChange Rows.purgelogCopiesSpec).preRow enc Tryd.prog Tryd.f6 Rows.purgelogCopiesRow.domain false Rows.purgelogCopiesRow.laid) (((OpenSpec.ofChange Rows.purgelogCopiesSpec).at F).post enc Tryd.prog Tryd.f6 false true false false) := by
  obtain ⟨places, hx⟩ := reads os enc
  refine returnsInHanded_of_row (C := Tryd.checked) (s := OpenSpec.ofChange Rows.purgelogCopiesSpec) Fr.own started (by kernel_rfl) Tryd.func6
    (witness_row_at (enc := enc) (C := Tryd.checked) false (Fr.laidWorld os) #[.int .u8 0, .agg #[.slice none 0 0, .slice none 0 0, .slice none 0 0]] rfl (by kernel_rfl) (by kernel_rfl) (by kernel_rfl)
      (OpenSpec.preRow_of_cond 8 hx (by kernel_rfl) (fun k hk => by cases hk) (by kernel_rfl) (laid_met os))) ?_
  intro W base args ds gs before hval hW _ hcond hsz _ hsh _
  exact contract H enc W base args ds gs before hval hW (by have h9 : (DataW.weightsEach Tryd.prog (Tryd.f6.params.toList ++ []) (ds ++ gs)).all (· ≤ reachBytes) = true := hsz; rw [List.append_nil] at h9; exact h9) (Fr.ready hsh)

theorem k_0 : Rows.purgelogCopiesRow.wf (OpenSpec.ofChange (OpenSpec.ofChange Rows.purgelogCopiesSpec).bare) = true := by kernel_rfl
theorem k_1 : laidOutB Tryd.prog = true := Fr.sf_laidOut
theorem k_2 : mapsRowed Tryd.prog = true := Fr.sf_mapsRowed
theorem k_3 : Tryd.f6.params.all (Tryd.prog.readableRec ·) = true := by kernel_rfl
theorem k_4 : namedTie Tryd.prog Rows.purgelogCopiesRow.named (OpenSpec.ofChange Rows.purgelogCopiesSpec).bare.vars = true := by kernel_rfl
theorem k_5 : (Rows.purgelogCopiesRow.stops == []) = true := by kernel_rfl
theorem k_6 : (Tryd.prog.stops == []) = true := Fr.sf_stops
theorem k_7 : (Rows.purgelogCopiesRow.knobs == []) = true := by kernel_rfl
theorem k_8 : (Tryd.prog.stopKnobs == []) = true := Fr.sf_stopKnobs
theorem k_9 : (Rows.purgelogCopiesRow.inPlace == Tryd.prog.inPlace 6) = true := by kernel_rfl
theorem k_10 : (Rows.purgelogCopiesRow.unfollowed == Tryd.prog.unfollowed 6) = true := by kernel_rfl
theorem k_11 : (Rows.purgelogCopiesRow.recurses == Tryd.prog.recurses 6) = true := by kernel_rfl
theorem k_12 : (Rows.purgelogCopiesRow.named == Tryd.prog.varsNamed 6) = true := by kernel_rfl
theorem k_13 : (Rows.purgelogCopiesRow.maps == (Tryd.f6.params.toList ++ (OpenSpec.ofChange Rows.purgelogCopiesSpec).bare.plain.varTypes Tryd.prog).any (Tryd.prog.mapsRec ·)) = true := by kernel_rfl
theorem k_14 : (Rows.purgelogCopiesRow.ifaces == (Tryd.f6.params.toList ++ (OpenSpec.ofChange Rows.purgelogCopiesSpec).bare.plain.varTypes Tryd.prog).any (Tryd.prog.ifacesRec ·)) = true := by kernel_rfl
theorem k_15 : (Rows.purgelogCopiesRow.mapsOut == Tryd.prog.mapsAmong Tryd.f6.resultTypes.toList) = true := by kernel_rfl
theorem k_16 : (Rows.purgelogCopiesRow.loops == (Tryd.f6.params.toList ++ (OpenSpec.ofChange Rows.purgelogCopiesSpec).bare.plain.varTypes Tryd.prog).any (Tryd.prog.loopsFrom ·)) = true := by kernel_rfl
theorem k_17 : (Rows.purgelogCopiesRow.wideKeys == (Tryd.f6.params.toList ++ (OpenSpec.ofChange Rows.purgelogCopiesSpec).bare.plain.varTypes Tryd.prog ++ Tryd.f6.resultTypes.toList).any (Tryd.prog.wideKeysFrom ·)) = true := by kernel_rfl
theorem k_18 : (OpenSpec.ofChange Rows.purgelogCopiesSpec).bare.vars.all (Tryd.prog.varReadable ·) = true := by kernel_rfl
theorem k_19 : Tryd.f6.resultTypes.all (fun t => Tryd.prog.readableRec t && decide (t < Tryd.prog.types.size)) = true := by kernel_rfl
theorem k_20 : (Rows.purgelogCopiesRow.ifacesOut == Tryd.f6.resultTypes.toList.any (Tryd.prog.ifacesRec ·)) = true := by kernel_rfl
theorem k_21 : (Rows.purgelogCopiesRow.loopsOut == Tryd.f6.resultTypes.toList.any (Tryd.prog.loopsFrom ·)) = true := by kernel_rfl
theorem k_22 : (Rows.purgelogCopiesRow.plainKeys == Tryd.prog.plainKeys) = true := Fr.sf_plainKeys
theorem k_23 : Rows.purgelogCopiesRow.shortTexts.isNone = true := by kernel_rfl
theorem k_24 : Tryd.prog.stopsHeard = true := Fr.sf_heard
theorem k_25 : Tryd.prog.mayEnter = true := Fr.sf_mayEnter
theorem k_26 : (Rows.purgelogCopiesRow.lifted == Tryd.prog.liftsFinal) = true := Fr.sf_lifted
theorem k_27 : (Tryd.prog.make == some Rows.purgelogCopiesRow.make) = true := Fr.sf_make
theorem k_28 : (Rows.purgelogCopiesRow.kinds == (if Rows.purgelogCopiesRow.domain.isEmpty then [] else Tryd.f6.params.toList.map fun t => match Tryd.prog.underlying t with | some (.int k) => some k | _ => none)) = true := by kernel_rfl
theorem k_29 : (Rows.purgelogCopiesRow.pinned == Rows.purgelogCopiesRow.pinnedBy) = true := by kernel_rfl
theorem k_30 : (Rows.purgelogCopiesRow.veiled == (Tryd.f6.params.toList ++ (OpenSpec.ofChange Rows.purgelogCopiesSpec).bare.plain.varTypes Tryd.prog ++ Tryd.f6.resultTypes.toList).any (Tryd.prog.veiledRec ·)) = true := by kernel_rfl
theorem k_31 : Rows.purgelogCopiesRow.veiledFits Tryd.prog Tryd.f6.params.toList (Tryd.f6.params.toList ++ (OpenSpec.ofChange Rows.purgelogCopiesSpec).bare.plain.varTypes Tryd.prog ++ Tryd.f6.resultTypes.toList) = true := by kernel_rfl
theorem closed : joinedFacts Tryd.prog 6 Tryd.f6 (OpenSpec.ofChange Rows.purgelogCopiesSpec).bare Rows.purgelogCopiesRow = true := Op.andT (Op.andT (Op.andT (Op.andT (Op.andT (Op.andT (Op.andT (Op.andT (Op.andT (Op.andT (Op.andT (Op.andT (Op.andT (Op.andT (Op.andT (Op.andT (Op.andT (Op.andT (Op.andT (Op.andT (Op.andT (Op.andT (Op.andT (Op.andT (Op.andT (Op.andT (Op.andT (Op.andT (Op.andT (Op.andT (Op.andT (k_0) k_1) k_2) k_3) k_4) k_5) k_6) k_7) k_8) k_9) k_10) k_11) k_12) k_13) k_14) k_15) k_16) k_17) k_18) k_19) k_20) k_21) k_22) k_23) k_24) k_25) k_26) k_27) k_28) k_29) k_30) k_31

theorem said : Rows.PurgelogCopiesSaid :=
  OpenClaim.holds_of_cond 6 Tryd.f6 rfl rfl rfl rfl rfl rfl rfl ⟨rfl, rfl, rfl, rfl, rfl⟩ rfl rfl rfl rfl rfl (by kernel_rfl) Tryd.func6 closed
    (of_decide_eq_true (by kernel_rfl)) (by unfold Func.isWrapper; first | (rw [if_pos (by decide +kernel)]; kernel_rfl) | (rw [if_neg (by decide +kernel)]; exact ⟨rfl, rfl⟩))
    (fun os started H enc _ F => by rw [OpenClaim.pre_eq_preRow]; exact lifted os started H enc F)

theorem plain (b : Bool) (hb : b = Tryd.pinned.checked.prog.looks []) (f : FuncId) (fn : Func) (hf : Tryd.pinned.checked.prog.funcNamed "quayside/quaysidelaw37.PurgelogCopies" = some f) (hfn : Tryd.pinned.checked.prog.funcs[f]? = some fn) :
    b = Tryd.pinned.checked.prog.looks [] ∧ ∀ (j : Nat) t, fn.params[j]? = some t → Tryd.pinned.checked.prog.wantsStandIn t = false := by
  obtain rfl : f = 6 := Option.some.inj ((show Tryd.prog.funcNamed "quayside/quaysidelaw37.PurgelogCopies" = some 6 by kernel_rfl).symm.trans hf) |>.symm
  obtain rfl : fn = Tryd.f6 := (Option.some.inj (Tryd.func6.symm.trans hfn)).symm
  refine ⟨hb, fun j t ht => ?_⟩
  rw [Tryd.params6] at ht
  have hm : t ∈ [5, 56] := by simpa using Array.mem_of_getElem? ht
  have hall : ([5, 56].all fun u => !Tryd.prog.wantsStandIn u) = true := by kernel_rfl
  exact (show Tryd.prog.wantsStandIn t = false by simpa using List.all_eq_true.1 hall t hm)

theorem proved : Rows.PurgelogCopiesCardSaid :=
  Claim7.holds_tied_plain_at .later [] _ _ _ _ said (fun _ h => by cases h) (by kernel_rfl) (fun _ h => by cases h) purgelogCopies_row_tie rfl ⟨rfl, rfl⟩ (by kernel_rfl) rfl (plain _ (by kernel_rfl)) (by kernel_rfl)
#print axioms proved
end Go.Proofs.YtijjggbiljkalaaDoor.lawPurgelogCopies
